/-
  From a law's walk to its row: what a law that only makes memory of its own leaves behind; what the listed sentinels give.
-/
import Derived.WalkKit
import Derived.Test.YtdeabmijoaepcaaBase
import Derived.Test.YtdeabmijoaepcaaSent
import Derived.ProofKit
import Derived.OpenShut
import Derived.Deep.DeepHandedRow
import Derived.Lib.LaidTab
import Derived.LaidLaws
import Derived.Stop.LaidErr
import Derived.SevenTiedAt
import Derived.Carry
namespace Go.Stk
open Go.ChangeShapes Go.WideShapes Go.ChangeAt Go.RowKit

section
variable {H : Type} {enc : TypeId × Value → H} {P : Program}
theorem trodAll_later (hlo : laidOutB P = true) {W W' : World} (hb : Below W.heap.size W W') :
    ∀ (ts : List TypeId) (vs : List Value) (ds : List (DataW H)) (ps : List MemPlace), (∀ t ∈ ts, P.readableRec t = true ∧ t < P.types.size) → (∀ x ∈ ps, x.block < W.heap.size) →
      DataW.TrodAll enc P W 0 (fun _ => true) true ts vs ds ps → DataW.TrodAll enc P W' 0 (fun b => decide (b < W.heap.size)) true ts vs ds ps
  | [], vs, ds, ps, _, _, h => by
    obtain ⟨rfl, rfl, rfl⟩ := trodAll_nil h
    exact trodAll_mk0
  | t :: ts, vs, ds, ps, ht, hlt, h => by
    obtain ⟨v, vs', d, ds', p, q, rfl, rfl, rfl, h0, h1⟩ := trodAll_cons h
    refine trodAll_cons_mk ?_ (trodAll_later hlo hb ts vs' ds' q (fun t' h' => ht t' (List.mem_cons_of_mem _ h')) (fun x hx => hlt x (List.mem_append_right _ hx)) h1)
    exact Below.trod hlo (ht t (List.mem_cons_self ..)).1 (ht t (List.mem_cons_self ..)).2 h0 hb (fun x hx => hlt x (List.mem_append_left _ hx))

/-- What a law's row asks behind the call: true; each argument reads as it did; nothing that lay there has turned. -/
theorem post_law {fn : Func} {s : ChangeSpec} {W W' : World} {args : Array Value} {ds gs : List (DataW H)} {before : List MemPlace} {tb : TypeId} (hlo : laidOutB P = true)
    (hres : fn.resultTypes = #[tb]) (hb : P.underlying tb = some .bool) (hvars : s.vars = [])
    (hreads : ∀ t ∈ fn.params.toList, P.readableRec t = true ∧ t < P.types.size)
    (hW : DataW.Whole enc P fn.params.toList s.vars false W args.toList ds gs before)
    (hfn : s.fn H (ds ++ gs) = { results := [.lit (.bool true)], args := ds })
    (hbl : Below W.heap.size W W') : s.post enc P fn false true false false W args (.bool true) W' := by
  have hW' := hW
  obtain ⟨p, q, hA, hV, rfl, hfz, hnd⟩ := hW
  rw [hvars] at hV
  obtain ⟨rfl, rfl⟩ := trodVars_none hV
  have hlt : ∀ x ∈ p, x.block < W.heap.size := fun x hx => hW'.lt x (by simpa using hx)
  refine ⟨ds, [], p ++ [], [], p, [], hW', ?_, ?_, ?_, hbl.frame _, fun h => by cases h⟩
  · rw [hfn, hres]
    exact trodAll_mk1 (shut_bool hb true)
  · rw [hfn]
    exact trodAll_later hlo hbl _ _ _ _ hreads hlt hA
  · rw [hfn, hvars]
    rfl
end

/-! ### Listed sentinels -/
def errD (text : List UInt8) : DataW Unit := .iface "*errors.errorString" (.ptr (.agg [.lit (.string text)]))

theorem sent_list {P : Program} {W : World} {ti tp te ts : TypeId} {ms : Array (String × TypeId)} {f : Field}
    (hi : P.underlying ti = some (.interface ms)) (hrow : ∀ u, P.typeName? 3 u = some "*errors.errorString" → u = tp)
    (hp : P.underlying tp = some (.pointer te)) (he : P.underlying te = some (.struct #[f])) (hft : f.type = ts) (hfo : f.offset = 0) (hs : P.underlying ts = some .string) (hc : P.cellsOf te = 1) (hcs : P.cellsOf ts = 1) :
    ∀ (l : List (String × Nat × List UInt8)) (ps : List MemPlace), DataW.LaidVars P W (l.map fun x => (x.1, errD x.2.2)) ps → ps.Nodup →
      (∀ b off, MemPlace.cell b off ∈ ps → (∃ c t, W.heap[b]? = some (.cells c t (0, 0))) ∧ ∀ u v, W.cell? ⟨b, off, none⟩ = some (.iface u v) → Value.okWide P W .any 0 u v) →
      (∀ x ∈ l, P.globalNamed x.1 = some x.2.1 ∧ (P.globals[x.2.1]?).map (·.type) = some ti) →
      ∃ as : List Addr, Sent W tp (l.map fun x => x.2.1) as ∧ ∀ a ∈ as, MemPlace.cell a.block a.off ∈ ps ∧ a.spot = none
  | [], _, _, _, _, _ => ⟨[], ⟨rfl, by simp, by simp, by simp, by simp⟩, by simp⟩
  | (n, g, text) :: l, ps, h, hnd, hrows, hg => by
    obtain ⟨g', t', cs, f0, p0, q0, hg', ht', hv, hd, hrest, e⟩ := h
    have hg0 := hg _ (List.mem_cons_self ..)
    obtain rfl := Option.some.inj (hg0.1.symm.trans hg')
    obtain rfl := Option.some.inj (hg0.2.symm.trans ht')
    subst e
    obtain ⟨l0⟩ := cs
    have ok0 : ∀ u v, l0 = [.iface u v] → Value.okWide P W .any 0 u v := fun u v e => by
      subst e
      exact (hrows g 0 (by simp [MemPlace.row])).2 u v (by simpa using World.var?_cell hg' hv 0)
    obtain ⟨a, s, rfl, hca, hsa, hza, rfl⟩ := errorString_of_trod hi hrow hp he hft hfo hs hc hcs hd ok0
    obtain ⟨as, hS, hin⟩ := sent_list hi hrow hp he hft hfo hs hc hcs l q0 hrest (by
      rw [List.append_assoc] at hnd
      exact (List.nodup_append.1 ((List.nodup_append.1 hnd).2.1)).2.1) (fun b off hb => hrows b off (by simp [hb])) (fun x hx => hg x (List.mem_cons_of_mem _ hx))
    have hspot : a.spot = none := by
      cases hsp : a.spot with
      | none => rfl
      | some x => simp [World.cell?, hsp] at hca; split at hca <;> simp at hca
    refine ⟨a :: as, ⟨by simp [hS.len], ?_, ?_, ?_, ?_⟩, ?_⟩
    · refine List.nodup_cons.2 ⟨fun hm => ?_, hS.nodup⟩
      have h1 := (hin a hm).1
      rw [List.append_assoc] at hnd
      have h2 := (List.nodup_append.1 ((List.nodup_append.1 hnd).2.1)).2.2
      exact h2 (.cell a.block a.off) (by simp [MemPlace.row]) _ h1 rfl
    · intro i g2 a2 h1 h2
      cases i with
      | zero =>
        simp at h1 h2
        subst h1; subst h2
        simpa using World.var?_cell hg' hv 0
      | succ i => exact hS.var i g2 a2 (by simpa using h1) (by simpa using h2)
    · intro i a2 h2
      cases i with
      | zero => simp at h2; subst h2; exact ⟨s, hca⟩
      | succ i => exact hS.text i a2 (by simpa using h2)
    · intro i a2 h2
      cases i with
      | zero =>
        simp at h2; subst h2
        exact (hrows a.block a.off (by simp [MemPlace.row])).1
      | succ i => exact hS.row i a2 (by simpa using h2)
    · intro x hx
      rcases List.mem_cons.1 hx with rfl | hx
      · exact ⟨by simp [MemPlace.row], hspot⟩
      · exact ⟨by simp [(hin x hx).1], (hin x hx).2⟩

theorem wf64 {n : Int} (h : (Lit.int .i64 n).wf = true) : -9223372036854775808 ≤ n ∧ n ≤ 9223372036854775807 := by
  have h1 : IntKind.i64.min = -9223372036854775808 := rfl
  have h2 : IntKind.i64.max = 9223372036854775807 := rfl
  simp only [Lit.wf, Bool.and_eq_true, decide_eq_true_eq, h1, h2] at h
  exact h
/-- An argument that is a slice of ints. -/
theorem open_ri {H : Type} {enc : TypeId × Value → H} {P : Program} {W : World} {base : Nat} {t e : TypeId} {v : Value} {d : DataW H} {ps : List MemPlace} (ht : P.underlying t = some (.slice e)) (he : P.underlying e = some (.int .i64)) (hc : P.cellsOf e = 1)
    (hok : Value.okWide P W .any base t v) (h : DataW.Trod enc P W 0 (fun _ => true) true t v d ps) :
    ∃ A xs c, v = .slice A (xs : List Int).length c ∧ xs.length ≤ c ∧ RI W A xs ∧ (∀ n ∈ xs, -9223372036854775808 ≤ n ∧ n ≤ 9223372036854775807) ∧ (A = none → c = 0) := by
  obtain ⟨a0, len, cap, rfl⟩ := okWide_slice ht hok
  obtain ⟨fuel, hf⟩ := h
  rcases open_ints ht he hc hf with ⟨hcs, hx⟩ | ⟨a, len', cap', zs, hcs, _, hl, hm, hz, hx, hcell, hwz⟩
  · simp [Value.cells] at hcs
    obtain ⟨rfl, rfl, rfl⟩ := hcs
    exact ⟨none, [], 0, rfl, by simp, ⟨by simp [ints], fun h => by simp [ints] at h⟩, by simp, fun _ => rfl⟩
  · simp [Value.cells] at hcs
    obtain ⟨rfl, rfl, rfl⟩ := hcs
    simp only [if_true] at hz
    have hlen : (zs.take len).length = len := by simp; omega
    refine ⟨some a, zs.take len, cap, by rw [hlen], by omega, ⟨by simp only [ints_length]; omega, fun h => ?_⟩, fun n hn => wf64 (hwz n (List.mem_of_mem_take hn)), fun h => by cases h⟩
    simp only [ints_length, hlen] at h
    obtain ⟨b, off, rfl, hc'⟩ := ints_at hcell (by omega)
    refine ⟨b, off, rfl, fun j hj => ?_⟩
    simp only [ints_length, hlen] at hj
    rw [hc' j (by omega)]
    simp [ints, show j < zs.length by omega]
end Go.Stk
