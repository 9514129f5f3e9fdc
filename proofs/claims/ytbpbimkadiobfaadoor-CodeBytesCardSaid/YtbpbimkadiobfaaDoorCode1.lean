/-
  Operators' names and numbers.
-/
import Derived.Test.YtbpbimkadiobfaaDoorProg
import Derived.Test.YtbpbimkadiobfaaDoorHeap
import Derived.Test.YtbpbimkadiobfaaDoorFlat
namespace Go.Proofs.YtbpbimkadiobfaaDoor
open Go.RowKit Go.Stk

theorem s_eq (s : ByteArray) (l : List UInt8) : s = ⟨l.toArray⟩ ↔ s.toList = l := by
  rw [ByteArray.toList_eq]
  constructor
  · rintro rfl
    rfl
  · intro h
    rw [← h]
def strs (l : List ByteArray) : List Value := l.map Value.string
/-- The place of a string in a list; -1: it isn't there. -/
def idxS (l : List ByteArray) (s : ByteArray) : Int := match l.findIdx? (fun x => decide (x = s)) with | some i => (i : Int) | none => -1
theorem strs_at {w : World} {A : Option Addr} {l : List ByteArray} (h : Rd w A (strs l)) (k : Nat) (x : ByteArray) (hk : l[k]? = some x) : ∃ b off, A = some ⟨b, off, none⟩ ∧ w.cell? ⟨b, off + k, none⟩ = some (.string x) := by
  have hl := (List.getElem?_eq_some_iff.1 hk).1
  obtain ⟨b, off, e, hc⟩ := h.2 (by simp [strs]; omega)
  refine ⟨b, off, e, ?_⟩
  rw [hc k (by simp [strs]; exact hl)]
  simp [strs, (List.getElem?_eq_some_iff.1 hk).2]
theorem idx_found {l : List ByteArray} {s : ByteArray} {k : Nat} (hk : l[k]? = some s) (hno : ∀ j x, j < k → l[j]? = some x → x ≠ s) : idxS l s = (k : Int) := by
  have h : l.findIdx? (fun x => decide (x = s)) = some k := by
    rw [List.findIdx?_eq_some_iff_getElem]
    obtain ⟨h1, h2⟩ := List.getElem?_eq_some_iff.1 hk
    refine ⟨h1, by simp [h2], fun j hj => ?_⟩
    have := hno j _ hj (List.getElem?_eq_getElem (by omega))
    simpa using this
  unfold idxS
  rw [h]
theorem idx_none {l : List ByteArray} {s : ByteArray} (hno : ∀ j x, j < l.length → l[j]? = some x → x ≠ s) : idxS l s = -1 := by
  have h : l.findIdx? (fun x => decide (x = s)) = none := by
    rw [List.findIdx?_eq_none_iff]
    intro x hx
    obtain ⟨j, hj⟩ := List.getElem?_of_mem hx
    have := hno j x (List.getElem?_eq_some_iff.1 hj).1 hj
    simpa using this
  unfold idxS
  rw [h]
theorem index_any (l : List ByteArray) (s : ByteArray) (A : Option Addr) (c : Nat) (w : World) (h : Rd w A (strs l)) : Calls Tryd.prog 31 #[.slice A l.length c, .string s] w (Ret w (.int .i64 (idxS l s))) := by
  have hl : l.length ≤ 9223372036854775807 := by have := h.1; simp [strs, maxLen] at this; omega
  have HX := Lib.hid h
  clear h
  go_enter Tryd.func31, Tryd.ntmps31
  go_wp2_with fail
  go_loop [8] (fun iv => ∃ k : Nat, k ≤ l.length ∧ iv = .int .i64 k ∧ Hid (∀ j x, j < k → l[j]? = some x → x ≠ s)) (fun iv => l.length - (intOf iv).toNat)
  case atStart => exact ⟨0, Nat.zero_le _, rfl, fun j x hj => by omega⟩
  case round =>
    obtain ⟨k, hk, rfl, hP⟩ := hrel
    by_cases hlt : k < l.length
    · obtain ⟨x, hx⟩ : ∃ x, l[k]? = some x := ⟨_, List.getElem?_eq_getElem hlt⟩
      obtain ⟨b1, o1, rfl, c1⟩ := strs_at HX.out k x hx
      by_cases hs : x = s
      · subst hs
        have HF := Lib.hid (idx_found hx hP.out)
        clear hx hP
        go_wp2_with fail
        go_ret
        exact ⟨by rw [HF.out]; rfl, Below.refl _ _⟩
      · have hs2 : ¬ s = x := fun e => hs e.symm
        have hs3 : ¬ s.toList = x.toList := fun e => hs2 ((s_eq s x.toList).2 e |>.trans ((s_eq x x.toList).2 rfl).symm)
        have d1 : (s.toList == x.toList) = false := beq_eq_false_iff_ne.2 hs3
        have HN : Hid (∀ j y, j < k + 1 → l[j]? = some y → y ≠ s) := fun j y hj hy => by
          by_cases hjk : j = k
          · subst hjk
            rw [hx] at hy
            exact Option.some.inj hy ▸ hs
          · exact hP.out j y (by omega) hy
        clear hx hP
        go_wp2_with fail
        go_round
        case rel => exact ⟨k + 1, by omega, by go_num, HN⟩
        case measure => simp [intOf]; omega
    · have HF := Lib.hid (idx_none (l := l) (s := s) fun j x hj hx => hP.out j x (by omega) hx)
      clear hP
      go_wp2_with fail
      go_ret
      exact ⟨by rw [HF.out]; rfl, Below.refl _ _⟩
def unaryL : List ByteArray := [⟨#[]⟩, ⟨#[45]⟩, ⟨#[33]⟩, ⟨#[105, 110, 116]⟩, ⟨#[102, 108, 111, 97, 116]⟩]
def binaryL : List ByteArray := [⟨#[]⟩, ⟨#[43]⟩, ⟨#[45]⟩, ⟨#[42]⟩, ⟨#[47]⟩, ⟨#[37]⟩, ⟨#[61, 61]⟩, ⟨#[33, 61]⟩, ⟨#[60]⟩, ⟨#[60, 61]⟩, ⟨#[62]⟩, ⟨#[62, 61]⟩]
def unR (l : List UInt8) : Int := if l = [45] then 1 else if l = [33] then 2 else if l = [105, 110, 116] then 3 else if l = [102, 108, 111, 97, 116] then 4 else 0
def binR (l : List UInt8) : Int := if l = [43] then 1 else if l = [45] then 2 else if l = [42] then 3 else if l = [47] then 4 else if l = [37] then 5 else if l = [61, 61] then 6 else if l = [33, 61] then 7 else if l = [60] then 8 else if l = [60, 61] then 9 else if l = [62] then 10 else if l = [62, 61] then 11 else 0
theorem unR_idx (s : ByteArray) : max (idxS unaryL s) 0 = unR s.toList := by
  by_cases h0 : s.toList = []
  · rw [(s_eq s []).2 h0]
    rw [show idxS unaryL (⟨[].toArray⟩ : ByteArray) = 0 by decide, ByteArray.toList_eq]
    decide
  by_cases h1 : s.toList = [45]
  · rw [(s_eq s [45]).2 h1]
    rw [show idxS unaryL (⟨[45].toArray⟩ : ByteArray) = 1 by decide, ByteArray.toList_eq]
    decide
  by_cases h2 : s.toList = [33]
  · rw [(s_eq s [33]).2 h2]
    rw [show idxS unaryL (⟨[33].toArray⟩ : ByteArray) = 2 by decide, ByteArray.toList_eq]
    decide
  by_cases h3 : s.toList = [105, 110, 116]
  · rw [(s_eq s [105, 110, 116]).2 h3]
    rw [show idxS unaryL (⟨[105, 110, 116].toArray⟩ : ByteArray) = 3 by decide, ByteArray.toList_eq]
    decide
  by_cases h4 : s.toList = [102, 108, 111, 97, 116]
  · rw [(s_eq s [102, 108, 111, 97, 116]).2 h4]
    rw [show idxS unaryL (⟨[102, 108, 111, 97, 116].toArray⟩ : ByteArray) = 4 by decide, ByteArray.toList_eq]
    decide
  have hno : idxS unaryL s = -1 := idx_none fun j x hj hx => by
    have hm := List.mem_of_getElem? hx
    simp only [unaryL, List.mem_cons, List.not_mem_nil, or_false] at hm
    rcases hm with rfl | rfl | rfl | rfl | rfl
    · exact fun e => h0 ((s_eq s []).1 e.symm)
    · exact fun e => h1 ((s_eq s [45]).1 e.symm)
    · exact fun e => h2 ((s_eq s [33]).1 e.symm)
    · exact fun e => h3 ((s_eq s [105, 110, 116]).1 e.symm)
    · exact fun e => h4 ((s_eq s [102, 108, 111, 97, 116]).1 e.symm)
  rw [hno]
  unfold unR
  rw [if_neg h1, if_neg h2, if_neg h3, if_neg h4]
  rfl
theorem binR_idx (s : ByteArray) : max (idxS binaryL s) 0 = binR s.toList := by
  by_cases h0 : s.toList = []
  · rw [(s_eq s []).2 h0]
    rw [show idxS binaryL (⟨[].toArray⟩ : ByteArray) = 0 by decide, ByteArray.toList_eq]
    decide
  by_cases h1 : s.toList = [43]
  · rw [(s_eq s [43]).2 h1]
    rw [show idxS binaryL (⟨[43].toArray⟩ : ByteArray) = 1 by decide, ByteArray.toList_eq]
    decide
  by_cases h2 : s.toList = [45]
  · rw [(s_eq s [45]).2 h2]
    rw [show idxS binaryL (⟨[45].toArray⟩ : ByteArray) = 2 by decide, ByteArray.toList_eq]
    decide
  by_cases h3 : s.toList = [42]
  · rw [(s_eq s [42]).2 h3]
    rw [show idxS binaryL (⟨[42].toArray⟩ : ByteArray) = 3 by decide, ByteArray.toList_eq]
    decide
  by_cases h4 : s.toList = [47]
  · rw [(s_eq s [47]).2 h4]
    rw [show idxS binaryL (⟨[47].toArray⟩ : ByteArray) = 4 by decide, ByteArray.toList_eq]
    decide
  by_cases h5 : s.toList = [37]
  · rw [(s_eq s [37]).2 h5]
    rw [show idxS binaryL (⟨[37].toArray⟩ : ByteArray) = 5 by decide, ByteArray.toList_eq]
    decide
  by_cases h6 : s.toList = [61, 61]
  · rw [(s_eq s [61, 61]).2 h6]
    rw [show idxS binaryL (⟨[61, 61].toArray⟩ : ByteArray) = 6 by decide, ByteArray.toList_eq]
    decide
  by_cases h7 : s.toList = [33, 61]
  · rw [(s_eq s [33, 61]).2 h7]
    rw [show idxS binaryL (⟨[33, 61].toArray⟩ : ByteArray) = 7 by decide, ByteArray.toList_eq]
    decide
  by_cases h8 : s.toList = [60]
  · rw [(s_eq s [60]).2 h8]
    rw [show idxS binaryL (⟨[60].toArray⟩ : ByteArray) = 8 by decide, ByteArray.toList_eq]
    decide
  by_cases h9 : s.toList = [60, 61]
  · rw [(s_eq s [60, 61]).2 h9]
    rw [show idxS binaryL (⟨[60, 61].toArray⟩ : ByteArray) = 9 by decide, ByteArray.toList_eq]
    decide
  by_cases h10 : s.toList = [62]
  · rw [(s_eq s [62]).2 h10]
    rw [show idxS binaryL (⟨[62].toArray⟩ : ByteArray) = 10 by decide, ByteArray.toList_eq]
    decide
  by_cases h11 : s.toList = [62, 61]
  · rw [(s_eq s [62, 61]).2 h11]
    rw [show idxS binaryL (⟨[62, 61].toArray⟩ : ByteArray) = 11 by decide, ByteArray.toList_eq]
    decide
  have hno : idxS binaryL s = -1 := idx_none fun j x hj hx => by
    have hm := List.mem_of_getElem? hx
    simp only [binaryL, List.mem_cons, List.not_mem_nil, or_false] at hm
    rcases hm with rfl | rfl | rfl | rfl | rfl | rfl | rfl | rfl | rfl | rfl | rfl | rfl
    · exact fun e => h0 ((s_eq s []).1 e.symm)
    · exact fun e => h1 ((s_eq s [43]).1 e.symm)
    · exact fun e => h2 ((s_eq s [45]).1 e.symm)
    · exact fun e => h3 ((s_eq s [42]).1 e.symm)
    · exact fun e => h4 ((s_eq s [47]).1 e.symm)
    · exact fun e => h5 ((s_eq s [37]).1 e.symm)
    · exact fun e => h6 ((s_eq s [61, 61]).1 e.symm)
    · exact fun e => h7 ((s_eq s [33, 61]).1 e.symm)
    · exact fun e => h8 ((s_eq s [60]).1 e.symm)
    · exact fun e => h9 ((s_eq s [60, 61]).1 e.symm)
    · exact fun e => h10 ((s_eq s [62]).1 e.symm)
    · exact fun e => h11 ((s_eq s [62, 61]).1 e.symm)
  rw [hno]
  unfold binR
  rw [if_neg h1, if_neg h2, if_neg h3, if_neg h4, if_neg h5, if_neg h6, if_neg h7, if_neg h8, if_neg h9, if_neg h10, if_neg h11]
  rfl
/-- A list of strings just made. -/
def NewStrs (w : World) (l : List ByteArray) (e : Ending) (w' : World) : Prop := ∃ g, e = .returned (.slice (some ⟨g, 0, none⟩) l.length l.length) ∧ Rd w' (some ⟨g, 0, none⟩) (strs l) ∧ w.heap.size ≤ g ∧ Below w.heap.size w w'
theorem rd_blk0 {w : World} {b : Nat} {cs : List Value} {T : TypeId} (h : w.heap[b]? = some (.cells cs.toArray T (0, 0))) (hl : cs.length ≤ maxLen) : Rd w (some ⟨b, 0, none⟩) cs :=
  ⟨hl, fun _ => ⟨b, 0, rfl, fun j hj => by rw [blk_cell h]; simp [hj]⟩⟩
theorem unaries_any (w : World) : Calls Tryd.prog 32 #[] w (NewStrs w unaryL) := by
  go_enter Tryd.func32, Tryd.ntmps32
  go_wp2_with fail
  go_ret
  exact ⟨w.heap.size, rfl, rd_blk0 (T := 9) (blk_new w _) (by simp [strs, unaryL, maxLen]), Nat.le_refl _, below_alloc (Below.refl _ _) _⟩
theorem binaries_any (w : World) : Calls Tryd.prog 33 #[] w (NewStrs w binaryL) := by
  go_enter Tryd.func33, Tryd.ntmps33
  go_wp2_with fail
  go_ret
  exact ⟨w.heap.size, rfl, rd_blk0 (T := 9) (blk_new w _) (by simp [strs, binaryL, maxLen]), Nat.le_refl _, below_alloc (Below.refl _ _) _⟩
theorem unary_num (s : ByteArray) (w : World) : Calls Tryd.prog 11 #[.string s] w (Ret w (.int .i64 (unR s.toList))) := by
  have hmx : ∀ ats ty, Builtin.max_ ats ty #[.int .i64 (idxS unaryL s), .int .i64 0] = pure (.int .i64 (unR s.toList)) := fun ats ty => by
    rw [max_two, max2_int, unR_idx]
    rfl
  go_enter Tryd.func11, Tryd.ntmps11
  go_wp2_with fail
  refine (unaries_any w).mono ?_
  rintro e w1 ⟨g, rfl, hrd, hg, hb⟩
  have HRD := Lib.hid hrd
  have HB := Lib.hid hb
  clear hrd hb
  go_wp2_with fail
  refine (index_any unaryL s _ _ _ HRD.out).mono ?_
  rintro e w2 ⟨rfl, hb2⟩
  have HB2 := Lib.hid (below_next HB.out hb2)
  clear hb2
  go_wp2_with fail
  go_ret
  exact ⟨rfl, HB2.out⟩
theorem binary_num (s : ByteArray) (w : World) : Calls Tryd.prog 13 #[.string s] w (Ret w (.int .i64 (binR s.toList))) := by
  have hmx : ∀ ats ty, Builtin.max_ ats ty #[.int .i64 (idxS binaryL s), .int .i64 0] = pure (.int .i64 (binR s.toList)) := fun ats ty => by
    rw [max_two, max2_int, binR_idx]
    rfl
  go_enter Tryd.func13, Tryd.ntmps13
  go_wp2_with fail
  refine (binaries_any w).mono ?_
  rintro e w1 ⟨g, rfl, hrd, hg, hb⟩
  have HRD := Lib.hid hrd
  have HB := Lib.hid hb
  clear hrd hb
  go_wp2_with fail
  refine (index_any binaryL s _ _ _ HRD.out).mono ?_
  rintro e w2 ⟨rfl, hb2⟩
  have HB2 := Lib.hid (below_next HB.out hb2)
  clear hb2
  go_wp2_with fail
  go_ret
  exact ⟨rfl, HB2.out⟩
theorem unary_ref (s : ByteArray) (w : World) : Calls Tryd.prog 12 #[.string s] w (Ret w (.int .i64 (unR s.toList))) := by
  by_cases h1 : s.toList = [45]
  · rw [show unR s.toList = 1 by rw [h1]; decide]
    go_enter Tryd.func12, Tryd.ntmps12
    go_wp2_with fail
    go_ret
    exact ⟨rfl, Below.refl _ _⟩
  have k1 : (s.toList == [45]) = false := beq_eq_false_iff_ne.2 h1
  by_cases h2 : s.toList = [33]
  · rw [show unR s.toList = 2 by rw [h2]; decide]
    go_enter Tryd.func12, Tryd.ntmps12
    go_wp2_with fail
    go_ret
    exact ⟨rfl, Below.refl _ _⟩
  have k2 : (s.toList == [33]) = false := beq_eq_false_iff_ne.2 h2
  by_cases h3 : s.toList = [105, 110, 116]
  · rw [show unR s.toList = 3 by rw [h3]; decide]
    go_enter Tryd.func12, Tryd.ntmps12
    go_wp2_with fail
    go_ret
    exact ⟨rfl, Below.refl _ _⟩
  have k3 : (s.toList == [105, 110, 116]) = false := beq_eq_false_iff_ne.2 h3
  by_cases h4 : s.toList = [102, 108, 111, 97, 116]
  · rw [show unR s.toList = 4 by rw [h4]; decide]
    go_enter Tryd.func12, Tryd.ntmps12
    go_wp2_with fail
    go_ret
    exact ⟨rfl, Below.refl _ _⟩
  have k4 : (s.toList == [102, 108, 111, 97, 116]) = false := beq_eq_false_iff_ne.2 h4
  rw [show unR s.toList = 0 by unfold unR; rw [if_neg h1, if_neg h2, if_neg h3, if_neg h4]]
  clear h1 h2 h3 h4
  go_enter Tryd.func12, Tryd.ntmps12
  go_wp2_with fail
  go_ret
  exact ⟨rfl, Below.refl _ _⟩
theorem binary_ref (s : ByteArray) (w : World) : Calls Tryd.prog 14 #[.string s] w (Ret w (.int .i64 (binR s.toList))) := by
  by_cases h1 : s.toList = [43]
  · rw [show binR s.toList = 1 by rw [h1]; decide]
    go_enter Tryd.func14, Tryd.ntmps14
    go_wp2_with fail
    go_ret
    exact ⟨rfl, Below.refl _ _⟩
  have k1 : (s.toList == [43]) = false := beq_eq_false_iff_ne.2 h1
  by_cases h2 : s.toList = [45]
  · rw [show binR s.toList = 2 by rw [h2]; decide]
    go_enter Tryd.func14, Tryd.ntmps14
    go_wp2_with fail
    go_ret
    exact ⟨rfl, Below.refl _ _⟩
  have k2 : (s.toList == [45]) = false := beq_eq_false_iff_ne.2 h2
  by_cases h3 : s.toList = [42]
  · rw [show binR s.toList = 3 by rw [h3]; decide]
    go_enter Tryd.func14, Tryd.ntmps14
    go_wp2_with fail
    go_ret
    exact ⟨rfl, Below.refl _ _⟩
  have k3 : (s.toList == [42]) = false := beq_eq_false_iff_ne.2 h3
  by_cases h4 : s.toList = [47]
  · rw [show binR s.toList = 4 by rw [h4]; decide]
    go_enter Tryd.func14, Tryd.ntmps14
    go_wp2_with fail
    go_ret
    exact ⟨rfl, Below.refl _ _⟩
  have k4 : (s.toList == [47]) = false := beq_eq_false_iff_ne.2 h4
  by_cases h5 : s.toList = [37]
  · rw [show binR s.toList = 5 by rw [h5]; decide]
    go_enter Tryd.func14, Tryd.ntmps14
    go_wp2_with fail
    go_ret
    exact ⟨rfl, Below.refl _ _⟩
  have k5 : (s.toList == [37]) = false := beq_eq_false_iff_ne.2 h5
  by_cases h6 : s.toList = [61, 61]
  · rw [show binR s.toList = 6 by rw [h6]; decide]
    go_enter Tryd.func14, Tryd.ntmps14
    go_wp2_with fail
    go_ret
    exact ⟨rfl, Below.refl _ _⟩
  have k6 : (s.toList == [61, 61]) = false := beq_eq_false_iff_ne.2 h6
  by_cases h7 : s.toList = [33, 61]
  · rw [show binR s.toList = 7 by rw [h7]; decide]
    go_enter Tryd.func14, Tryd.ntmps14
    go_wp2_with fail
    go_ret
    exact ⟨rfl, Below.refl _ _⟩
  have k7 : (s.toList == [33, 61]) = false := beq_eq_false_iff_ne.2 h7
  by_cases h8 : s.toList = [60]
  · rw [show binR s.toList = 8 by rw [h8]; decide]
    go_enter Tryd.func14, Tryd.ntmps14
    go_wp2_with fail
    go_ret
    exact ⟨rfl, Below.refl _ _⟩
  have k8 : (s.toList == [60]) = false := beq_eq_false_iff_ne.2 h8
  by_cases h9 : s.toList = [60, 61]
  · rw [show binR s.toList = 9 by rw [h9]; decide]
    go_enter Tryd.func14, Tryd.ntmps14
    go_wp2_with fail
    go_ret
    exact ⟨rfl, Below.refl _ _⟩
  have k9 : (s.toList == [60, 61]) = false := beq_eq_false_iff_ne.2 h9
  by_cases h10 : s.toList = [62]
  · rw [show binR s.toList = 10 by rw [h10]; decide]
    go_enter Tryd.func14, Tryd.ntmps14
    go_wp2_with fail
    go_ret
    exact ⟨rfl, Below.refl _ _⟩
  have k10 : (s.toList == [62]) = false := beq_eq_false_iff_ne.2 h10
  by_cases h11 : s.toList = [62, 61]
  · rw [show binR s.toList = 11 by rw [h11]; decide]
    go_enter Tryd.func14, Tryd.ntmps14
    go_wp2_with fail
    go_ret
    exact ⟨rfl, Below.refl _ _⟩
  have k11 : (s.toList == [62, 61]) = false := beq_eq_false_iff_ne.2 h11
  rw [show binR s.toList = 0 by unfold binR; rw [if_neg h1, if_neg h2, if_neg h3, if_neg h4, if_neg h5, if_neg h6, if_neg h7, if_neg h8, if_neg h9, if_neg h10, if_neg h11]]
  clear h1 h2 h3 h4 h5 h6 h7 h8 h9 h10 h11
  go_enter Tryd.func14, Tryd.ntmps14
  go_wp2_with fail
  go_ret
  exact ⟨rfl, Below.refl _ _⟩
end Go.Proofs.YtbpbimkadiobfaaDoor
