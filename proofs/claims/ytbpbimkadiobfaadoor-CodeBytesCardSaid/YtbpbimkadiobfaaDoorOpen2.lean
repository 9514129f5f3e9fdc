/-
  Arguments opened, with what the form's reach grants: a slice's bytes.
-/
import Derived.Test.YtbpbimkadiobfaaDoorOpen
import Derived.SizedLaws
namespace Go.Stk
open Go.ChangeShapes Go.WideShapes Go.RowKit

/-- Whatever reads at this type, within the reach, reads so. -/
structure OpnS (P : Program) (t : TypeId) (R : World → List Value → Prop) : Prop where
  get : ∀ {H : Type} {enc : TypeId × Value → H} {w : World} {base : Nat} {sp : Nat → Bool} {held : Bool} {fuel : Nat} {cs : List Value} {x : DataW H × List MemPlace}, DataW.trod enc P w base sp held fuel t cs = some x → (∀ n ∈ x.1.weights P t, n ≤ reachBytes) → R w cs
theorem Opn.s {P : Program} {t : TypeId} {R : World → List Value → Prop} (h : Opn P t R) : OpnS P t R := ⟨fun hx _ => h.get hx⟩
theorem OpnS.mono {P : Program} {t : TypeId} {R S : World → List Value → Prop} (h : OpnS P t R) (hs : ∀ w cs, R w cs → S w cs) : OpnS P t S := ⟨fun hx hw => hs _ _ (h.get hx hw)⟩
section
variable {P : Program} {t : TypeId}
theorem opns_struct {fs : Array Field} (ht : P.underlying t = some (.struct fs)) : OpnS P t fun w cs => cs.length = P.cellsOf t ∧ ∀ (i : Nat) (f : Field), fs[i]? = some f → ∀ R, OpnS P f.type R → R w ((cs.drop f.offset).take (P.cellsOf f.type)) := ⟨fun h hw => by
  obtain ⟨xs, n, _, rfl, hl, hxl, hf⟩ := DataW.trod_struct ht h
  refine ⟨hl, fun i f hi R hR => ?_⟩
  have h1 := hf i f hi
  have hi2 : i < xs.length := by rw [hxl]; exact (Array.getElem?_eq_some_iff.1 hi).1
  rw [List.getElem?_eq_getElem hi2] at h1
  refine hR.get h1 fun m hm => hw m ?_
  simp only [DataW.weights, ht]
  exact DataW.weights_mem_each (j := i) (t := f.type) (d := xs[i].1) (by simp [hi]) (by simp [hi2]) m hm⟩
theorem weightsAll_in {H : Type} {e : TypeId} : ∀ {l : List (DataW H)} {d : DataW H}, d ∈ l → ∀ m ∈ d.weights P e, m ∈ DataW.weightsAll P e l
  | [], _, h, _, _ => by simp at h
  | a :: r, d, h, m, hm => by
    rw [DataW.weightsAll, List.mem_append]
    rcases List.mem_cons.1 h with rfl | h
    · exact .inl hm
    · exact .inr (weightsAll_in h m hm)
theorem opns_slice {α : Type} {e : TypeId} (ht : P.underlying t = some (.slice e)) {k : Nat} (hc : P.cellsOf e = k) (hk : 0 < k) (f : α → List Value) (hf : ∀ a, (f a).length = k) (Q : World → α → Prop) (he : OpnS P e fun w cs => ∃ a, cs = f a ∧ Q w a) :
    OpnS P t fun w cs => ∃ A c, ∃ os : List α, cs = [.slice A os.length c] ∧ os.length ≤ c ∧ c ≤ maxLen ∧ (A = none → c = 0) ∧ Rs w A (os.flatMap f) ∧ os.length * P.bytesOf e ≤ reachBytes ∧ ∀ o ∈ os, Q w o := ⟨fun {H enc w base sp held fuel cs x} h hw => by
  rcases Go.Deep.open_slice ht h with ⟨h1, _⟩ | ⟨a, len, cap, m, n, D, Pl, h1, hb, hl, hm, hmm, hx, hi⟩
  · exact ⟨none, 0, [], h1, Nat.le_refl _, Nat.zero_le _, fun _ => rfl, fun h => by simp at h, by simp, fun o ho => by simp at ho⟩
  · have hle : len ≤ m := by rw [hmm]; split <;> omega
    rw [hx] at hw
    have hreach : len * P.bytesOf e ≤ reachBytes := by
      have := hw ((((List.range len).map D).length + ((List.range (m - len)).map fun j => D (len + j)).length) * P.bytesOf e) (by simp [DataW.weights, ht])
      refine Nat.le_trans (Nat.mul_le_mul_right _ ?_) this
      simp
    have hel : ∀ i, i < len → ∀ q ∈ (D i).weights P e, q ≤ reachBytes := fun i hil q hq => hw q (by
      simp only [DataW.weights, ht, List.mem_cons, List.mem_append]
      exact .inr (.inl (weightsAll_in (List.mem_map.2 ⟨i, List.mem_range.2 hil, rfl⟩) q hq)))
    obtain ⟨os, hos, hp⟩ := exists_list (α := α) (p := fun i o => Q w o ∧ ∀ (j : Nat) (v : Value), (f o)[j]? = some v → w.cell? (a.add (i * k + j)) = some v) len fun i hil => by
      obtain ⟨cs', hcs, ht'⟩ := hi i (by omega)
      obtain ⟨o, h2, h3⟩ := he.get ht' (hel i hil)
      refine ⟨o, h3, fun j v hv => ?_⟩
      obtain ⟨_, hcl, hat⟩ := World.cells?_some hcs
      have hj : j < P.cellsOf e := by rw [hc, ← hf o]; exact (List.getElem?_eq_some_iff.1 hv).1
      have h4 := hat j hj
      rw [Go.Deep.add_add, hc] at h4
      rw [h4, h2, hv]
    subst hos
    refine ⟨some a, cap, os, h1, hl, hm, fun h => (by cases h), fun hpos => ?_, hreach, fun o ho => ?_⟩
    · have hlen := flat_len hf os
      have h0 : 0 < os.length := by
        rcases Nat.eq_zero_or_pos os.length with h0 | h0
        · rw [hlen, h0, Nat.zero_mul] at hpos; omega
        · exact h0
      obtain ⟨b, off, spot⟩ := a
      have hspot : spot = none := by
        obtain ⟨o, ho⟩ : ∃ o, os[0]? = some o := ⟨_, List.getElem?_eq_getElem h0⟩
        obtain ⟨v, hv⟩ : ∃ v, (f o)[0]? = some v := ⟨_, List.getElem?_eq_getElem (by rw [hf]; exact hk)⟩
        simpa [Addr.add] using World.cell?_spot ((hp 0 o ho).2 0 v hv)
      subst hspot
      refine ⟨b, off, rfl, fun j hj => ?_⟩
      have hjl : j < os.length * k := by rw [← hlen]; exact hj
      have hq : j / k < os.length := Nat.div_lt_of_lt_mul (by rw [Nat.mul_comm]; exact hjl)
      have hr : j % k < k := Nat.mod_lt _ hk
      have hjq : j = j / k * k + j % k := by have := Nat.div_add_mod j k; rw [Nat.mul_comm] at this; omega
      obtain ⟨o, ho⟩ : ∃ o, os[j / k]? = some o := ⟨_, List.getElem?_eq_getElem hq⟩
      have h2 := flat_get hf os (j / k) (j % k) hr
      rw [← hjq, ho] at h2
      simp only [Option.bind_some] at h2
      rw [List.getElem?_eq_getElem hj] at h2
      have h3 := (hp _ o ho).2 (j % k) _ h2.symm
      rw [← hjq] at h3
      rw [← Go.WideShapes.add_plain]
      exact h3
    · obtain ⟨i, hi2⟩ := List.getElem?_of_mem ho
      exact (hp i o hi2).1⟩
end
/-- An argument. -/
theorem OpnS.arg {P : Program} {t : TypeId} {R : World → List Value → Prop} (h : OpnS P t R) {H : Type} {enc : TypeId × Value → H} {W : World} {base : Nat} {sp : Nat → Bool} {v : Value} {d : DataW H} {ps : List MemPlace} (hd : DataW.Trod enc P W base sp true t v d ps) (hw : ∀ n ∈ d.weights P t, n ≤ reachBytes) : R W v.cells.toList := by
  obtain ⟨fuel, hf⟩ := hd
  exact h.get hf hw
theorem weights_of {H : Type} {P : Program} {ts : List TypeId} {ds : List (DataW H)} (h : (DataW.weightsEach P ts ds).all (· ≤ reachBytes) = true) {j : Nat} {t : TypeId} {d : DataW H} (ht : ts[j]? = some t) (hd : ds[j]? = some d) : ∀ n ∈ d.weights P t, n ≤ reachBytes := fun n hn => by
  have := List.all_eq_true.1 h n (DataW.weights_mem_each ht hd n hn)
  simpa using this
theorem flat_ints (l : List Int) : l.flatMap (fun n => [Value.int .i64 n]) = ints l := by
  induction l with
  | nil => rfl
  | cons x r ih => simp [List.flatMap_cons, ih, ints]
end Go.Stk
