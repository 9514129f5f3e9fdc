/-
  Arguments opened to the data that they hold: numbers, structs, slices of either, nested at will.
-/
import Derived.Test.YtdeabmijoaepcaaBase
import Derived.Test.YtdeabmijoaepcaaFlat
import Derived.Deep.Slices
import Derived.ChangeArms
import Derived.OpenShut
import Derived.Lib.SmallJoins
namespace Go.Stk
open Go.ChangeShapes Go.WideShapes Go.RowKit

/-- The slice at A reads as these cells; no bound. -/
def Rs (w : World) (A : Option Addr) (cs : List Value) : Prop := 0 < cs.length → ∃ b off, A = some ⟨b, off, none⟩ ∧ ∀ j (h : j < cs.length), w.cell? ⟨b, off + j, none⟩ = some cs[j]
theorem Rs.later {w w1 : World} {A : Option Addr} {cs : List Value} (h : Rs w A cs) (hb : Below w.heap.size w w1) : Rs w1 A cs := fun hn => by
  obtain ⟨b, off, e, hc⟩ := h hn
  exact ⟨b, off, e, fun j hj => cell_later hb (hc j hj)⟩
theorem Rs.rd {w : World} {A : Option Addr} {cs : List Value} (h : Rs w A cs) (hl : cs.length ≤ maxLen) : Rd w A cs := ⟨hl, h⟩
theorem Rd.rs {w : World} {A : Option Addr} {cs : List Value} (h : Rd w A cs) : Rs w A cs := h.2
/-- Cells of an element. -/
theorem Rs.elem {α : Type} {w : World} {A : Option Addr} {f : α → List Value} {k : Nat} (hf : ∀ a, (f a).length = k) {os : List α} (h : Rs w A (os.flatMap f)) {i : Nat} {o : α} (ho : os[i]? = some o) (hk : 0 < k) :
    ∃ b off, A = some ⟨b, off, none⟩ ∧ ∀ (j : Nat) (v : Value), (f o)[j]? = some v → w.cell? ⟨b, off + i * k + j, none⟩ = some v := by
  have hl := flat_len hf os
  have hi := (List.getElem?_eq_some_iff.1 ho).1
  have hpos : i * k + k ≤ os.length * k := by
    have : (i + 1) * k ≤ os.length * k := Nat.mul_le_mul_right k hi
    rw [Nat.add_mul] at this; omega
  obtain ⟨b, off, e, hc⟩ := h (by rw [hl]; omega)
  refine ⟨b, off, e, fun j v hv => ?_⟩
  have hj : j < k := by rw [← hf o]; exact (List.getElem?_eq_some_iff.1 hv).1
  have h2 := flat_get hf os i j hj
  rw [ho] at h2
  simp only [Option.bind_some] at h2
  rw [hv] at h2
  obtain ⟨h3, h4⟩ := List.getElem?_eq_some_iff.1 h2
  rw [show off + i * k + j = off + (i * k + j) by omega, hc _ h3, h4]

/-- Whatever reads at this type reads so. -/
structure Opn (P : Program) (t : TypeId) (R : World → List Value → Prop) : Prop where
  get : ∀ {H : Type} {enc : TypeId × Value → H} {w : World} {base : Nat} {sp : Nat → Bool} {held : Bool} {fuel : Nat} {cs : List Value} {x : DataW H × List MemPlace}, DataW.trod enc P w base sp held fuel t cs = some x → R w cs
theorem Opn.mono {P : Program} {t : TypeId} {R S : World → List Value → Prop} (h : Opn P t R) (hs : ∀ w cs, R w cs → S w cs) : Opn P t S := ⟨fun hx => hs _ _ (h.get hx)⟩
section
variable {P : Program} {t : TypeId}
theorem opn_int {k : IntKind} (ht : P.underlying t = some (.int k)) : Opn P t fun _ cs => ∃ n, cs = [.int k n] ∧ (Lit.int k n).wf = true := ⟨fun h => by
  obtain ⟨n, h1, _, h3⟩ := DataW.trod_int ht h
  exact ⟨n, h1, h3⟩⟩
theorem opn_i64 (ht : P.underlying t = some (.int .i64)) : Opn P t fun _ cs => ∃ n : Int, cs = [.int .i64 n] ∧ -9223372036854775808 ≤ n ∧ n ≤ 9223372036854775807 := (opn_int ht).mono fun _ _ ⟨n, h1, h2⟩ => ⟨n, h1, by
  have h3 : IntKind.i64.min = -9223372036854775808 := rfl
  have h4 : IntKind.i64.max = 9223372036854775807 := rfl
  simp only [Lit.wf, Bool.and_eq_true, decide_eq_true_eq, h3, h4] at h2
  exact h2⟩
theorem opn_u64 (ht : P.underlying t = some (.int .u64)) : Opn P t fun _ cs => ∃ n : Int, cs = [.int .u64 n] ∧ 0 ≤ n ∧ n ≤ 18446744073709551615 := (opn_int ht).mono fun _ _ ⟨n, h1, h2⟩ => ⟨n, h1, by
  have h3 : IntKind.u64.min = 0 := rfl
  have h4 : IntKind.u64.max = 18446744073709551615 := rfl
  simp only [Lit.wf, Bool.and_eq_true, decide_eq_true_eq, h3, h4] at h2
  exact h2⟩
theorem opn_u8 (ht : P.underlying t = some (.int .u8)) : Opn P t fun _ cs => ∃ n : Int, cs = [.int .u8 n] ∧ 0 ≤ n ∧ n ≤ 255 := (opn_int ht).mono fun _ _ ⟨n, h1, h2⟩ => ⟨n, h1, by
  have h3 : IntKind.u8.min = 0 := rfl
  have h4 : IntKind.u8.max = 255 := rfl
  simp only [Lit.wf, Bool.and_eq_true, decide_eq_true_eq, h3, h4] at h2
  exact h2⟩
theorem opn_struct {fs : Array Field} (ht : P.underlying t = some (.struct fs)) : Opn P t fun w cs => cs.length = P.cellsOf t ∧ ∀ (i : Nat) (f : Field), fs[i]? = some f → ∀ R, Opn P f.type R → R w ((cs.drop f.offset).take (P.cellsOf f.type)) := ⟨fun h => by
  obtain ⟨xs, n, _, _, hl, hxl, hf⟩ := DataW.trod_struct ht h
  refine ⟨hl, fun i f hi R hR => ?_⟩
  have h1 := hf i f hi
  have hi2 : i < xs.length := by rw [hxl]; exact (Array.getElem?_eq_some_iff.1 hi).1
  rw [List.getElem?_eq_getElem hi2] at h1
  exact hR.get h1⟩
theorem exists_list {α : Type} {p : Nat → α → Prop} : ∀ n, (∀ i, i < n → ∃ a, p i a) → ∃ l : List α, l.length = n ∧ ∀ i a, l[i]? = some a → p i a
  | 0, _ => ⟨[], rfl, fun i a h => by simp at h⟩
  | n + 1, h => by
    obtain ⟨l, hl, hp⟩ := exists_list n fun i hi => h i (Nat.lt_succ_of_lt hi)
    obtain ⟨a, ha⟩ := h n (Nat.lt_succ_self n)
    refine ⟨l ++ [a], by simp [hl], fun i b hb => ?_⟩
    by_cases hi : i < n
    · rw [List.getElem?_append_left (by omega)] at hb
      exact hp i b hb
    · have hlt := (List.getElem?_eq_some_iff.1 hb).1
      simp [hl] at hlt
      obtain rfl : i = n := by omega
      rw [List.getElem?_append_right (by omega), hl] at hb
      simp at hb
      exact hb ▸ ha
theorem opn_slice {α : Type} {e : TypeId} (ht : P.underlying t = some (.slice e)) {k : Nat} (hc : P.cellsOf e = k) (hk : 0 < k) (f : α → List Value) (hf : ∀ a, (f a).length = k) (Q : World → α → Prop) (he : Opn P e fun w cs => ∃ a, cs = f a ∧ Q w a) :
    Opn P t fun w cs => ∃ A c, ∃ os : List α, cs = [.slice A os.length c] ∧ os.length ≤ c ∧ c ≤ maxLen ∧ (A = none → c = 0) ∧ Rs w A (os.flatMap f) ∧ ∀ o ∈ os, Q w o := ⟨fun {H enc w base sp held fuel cs x} h => by
  rcases Go.Deep.open_slice ht h with ⟨h1, _⟩ | ⟨a, len, cap, m, n, D, Pl, h1, hb, hl, hm, hmm, _, hi⟩
  · exact ⟨none, 0, [], h1, Nat.le_refl _, Nat.zero_le _, fun _ => rfl, fun h => by simp at h, fun o ho => by simp at ho⟩
  · have hle : len ≤ m := by rw [hmm]; split <;> omega
    obtain ⟨os, hos, hp⟩ := exists_list (α := α) (p := fun i o => Q w o ∧ ∀ (j : Nat) (v : Value), (f o)[j]? = some v → w.cell? (a.add (i * k + j)) = some v) len fun i hil => by
      obtain ⟨cs', hcs, ht'⟩ := hi i (by omega)
      obtain ⟨o, h2, h3⟩ := he.get ht'
      refine ⟨o, h3, fun j v hv => ?_⟩
      obtain ⟨_, hcl, hat⟩ := World.cells?_some hcs
      have hj : j < P.cellsOf e := by rw [hc, ← hf o]; exact (List.getElem?_eq_some_iff.1 hv).1
      have h4 := hat j hj
      rw [Go.Deep.add_add, hc] at h4
      rw [h4, h2, hv]
    subst hos
    refine ⟨some a, cap, os, h1, hl, hm, fun h => (by cases h), fun hpos => ?_, fun o ho => ?_⟩
    · have hlen := flat_len hf os
      have h0 : 0 < os.length := by
        rcases Nat.eq_zero_or_pos os.length with h0 | h0
        · rw [hlen, h0, Nat.zero_mul] at hpos; omega
        · exact h0
      obtain ⟨b, off, spot⟩ := a
      have hspot : spot = none := by
        obtain ⟨o, ho⟩ : ∃ o, os[0]? = some o := ⟨_, List.getElem?_eq_getElem h0⟩
        obtain ⟨v, hv⟩ : ∃ v, (f o)[0]? = some v := ⟨_, List.getElem?_eq_getElem (by rw [hf]; exact hk)⟩
        simpa [Addr.add] using World.cell?_spot ((hp 0 o ho).2 0 v hv)
      subst hspot
      refine ⟨b, off, rfl, fun j hj => ?_⟩
      have hjl : j < os.length * k := by rw [← hlen]; exact hj
      have hq : j / k < os.length := Nat.div_lt_of_lt_mul (by rw [Nat.mul_comm]; exact hjl)
      have hr : j % k < k := Nat.mod_lt _ hk
      have hjq : j = j / k * k + j % k := by have := Nat.div_add_mod j k; rw [Nat.mul_comm] at this; omega
      obtain ⟨o, ho⟩ : ∃ o, os[j / k]? = some o := ⟨_, List.getElem?_eq_getElem hq⟩
      have h2 := flat_get hf os (j / k) (j % k) hr
      rw [← hjq, ho] at h2
      simp only [Option.bind_some] at h2
      rw [List.getElem?_eq_getElem hj] at h2
      have h3 := (hp _ o ho).2 (j % k) _ h2.symm
      rw [← hjq] at h3
      rw [← Go.WideShapes.add_plain]
      exact h3
    · obtain ⟨i, hi2⟩ := List.getElem?_of_mem ho
      exact (hp i o hi2).1⟩
end
/-- An argument. -/
theorem Opn.arg {P : Program} {t : TypeId} {R : World → List Value → Prop} (h : Opn P t R) {H : Type} {enc : TypeId × Value → H} {W : World} {base : Nat} {sp : Nat → Bool} {v : Value} {d : DataW H} {ps : List MemPlace} (hd : DataW.Trod enc P W base sp true t v d ps) : R W v.cells.toList := by
  obtain ⟨fuel, hf⟩ := hd
  exact h.get hf
end Go.Stk
