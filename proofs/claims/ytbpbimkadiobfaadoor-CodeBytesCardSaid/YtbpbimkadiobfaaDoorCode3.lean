/-
  Lists asked by a function.
-/
import Derived.Test.YtbpbimkadiobfaaDoorCode2
namespace Go.Proofs.YtbpbimkadiobfaaDoor
open Go.RowKit Go.Stk

/-- The first place where it holds; -1: there is none. -/
def idxP {α : Type} (l : List α) (p : α → Bool) : Int := match l.findIdx? p with | some i => (i : Int) | none => -1
theorem idxP_found {α : Type} {l : List α} {p : α → Bool} {k : Nat} {x : α} (hk : l[k]? = some x) (hp : p x = true) (hno : ∀ j y, j < k → l[j]? = some y → p y = false) : idxP l p = (k : Int) := by
  have h : l.findIdx? p = some k := by
    rw [List.findIdx?_eq_some_iff_getElem]
    obtain ⟨h1, h2⟩ := List.getElem?_eq_some_iff.1 hk
    refine ⟨h1, by rw [h2]; exact hp, fun j hj => ?_⟩
    have := hno j _ hj (List.getElem?_eq_getElem (by omega))
    simp [this]
  unfold idxP
  rw [h]
theorem idxP_none {α : Type} {l : List α} {p : α → Bool} (hno : ∀ (j : Nat) (y : α), l[j]? = some y → p y = false) : idxP l p = -1 := by
  have h : l.findIdx? p = none := by
    rw [List.findIdx?_eq_none_iff]
    intro x hx
    obtain ⟨j, hj⟩ := List.getElem?_of_mem hx
    exact hno j x hj
  unfold idxP
  rw [h]
theorem idxP_any {α : Type} (l : List α) (p : α → Bool) : decide (0 ≤ idxP l p) = l.any p := by
  unfold idxP
  cases h : l.findIdx? p with
  | none =>
    have := List.findIdx?_eq_none_iff.1 h
    simp only
    rw [show l.any p = false by rw [List.any_eq_false]; intro x hx; simp [this x hx]]
    rfl
  | some k =>
    obtain ⟨h1, h2, _⟩ := List.findIdx?_eq_some_iff_getElem.1 h
    simp only
    rw [show l.any p = true by rw [List.any_eq_true]; exact ⟨_, List.getElem_mem h1, h2⟩]
    simp
theorem rs_ri {w : World} {A : Option Addr} {xs : List Int} (h : Rs w A (ints xs)) (k : Nat) (x : Int) (hk : xs[k]? = some x) : ∃ b off, A = some ⟨b, off, none⟩ ∧ w.cell? ⟨b, off + k, none⟩ = some (.int .i64 x) := by
  have hl := (List.getElem?_eq_some_iff.1 hk).1
  obtain ⟨b, off, e, hc⟩ := h (by simp; omega)
  refine ⟨b, off, e, ?_⟩
  rw [hc k (by simpa using hl)]
  simp [ints, (List.getElem?_eq_some_iff.1 hk).2]
/-- An instruction. -/
structure Ins where
  op : Int
  a : Int
  b : Int
  bits : Int
  at_ : Int
  deriving DecidableEq
def Ins.cells (x : Ins) : List Value := [.int .i64 x.op, .int .i64 x.a, .int .i64 x.b, .int .u64 x.bits, .int .i64 x.at_]
def Ins.agg (x : Ins) : Value := .agg #[.int .i64 x.op, .int .i64 x.a, .int .i64 x.b, .int .u64 x.bits, .int .i64 x.at_]
def icells (l : List Ins) : List Value := l.flatMap Ins.cells
theorem ins_at {w : World} {A : Option Addr} {l : List Ins} (h : Rs w A (icells l)) (k : Nat) (x : Ins) (hk : l[k]? = some x) : ∃ b off, A = some ⟨b, off, none⟩ ∧ w.cell? ⟨b, off + k * 5, none⟩ = some (.int .i64 x.op) ∧ w.cell? ⟨b, off + k * 5 + 1, none⟩ = some (.int .i64 x.a) ∧ w.cell? ⟨b, off + k * 5 + 2, none⟩ = some (.int .i64 x.b) ∧ w.cell? ⟨b, off + k * 5 + 3, none⟩ = some (.int .u64 x.bits) ∧ w.cell? ⟨b, off + k * 5 + 4, none⟩ = some (.int .i64 x.at_) := by
  obtain ⟨b, off, e, hc⟩ := Rs.elem (f := Ins.cells) (k := 5) (fun _ => rfl) h hk (by omega)
  exact ⟨b, off, e, hc 0 _ rfl, hc 1 _ rfl, hc 2 _ rfl, hc 3 _ rfl, hc 4 _ rfl⟩
set_option maxRecDepth 100000 in
theorem indexInt_any (l : List Int) (g : FuncId) (caps : Array Value) (p : Int → Bool) (A : Option Addr) (c : Nat) (w : World) (hl : l.length ≤ 9223372036854775807) (h : Rs w A (ints l)) (eg : ∀ (xs : Array Value) (W : World), (callFunc g xs).run Tryd.prog W = .ok (.enter g xs) W)
    (hg : ∀ n W, Below w.heap.size w W → Calls Tryd.prog g (#[.int .i64 n] ++ caps) W (Ret W (.bool (p n)))) :
    Calls Tryd.prog 63 #[.slice A l.length c, .func (.func g) #[] caps] w (Ret w (.int .i64 (idxP l p))) := by
  have HX := Lib.hid h
  have HG := Lib.hid hg
  clear h hg
  go_enter Tryd.func63, Tryd.ntmps63
  go_wp2_with fail
  go_loopw [8] (fun iv wr => ∃ k : Nat, k ≤ l.length ∧ iv = .int .i64 k ∧ Hid (∀ j x, j < k → l[j]? = some x → p x = false) ∧ Hid (Below w.heap.size w wr)) (fun iv _ => l.length - (intOf iv).toNat)
  case atStart => exact ⟨0, Nat.zero_le _, rfl, fun j x hj => by omega, Below.refl _ _⟩
  case round =>
    obtain ⟨k, hk, rfl, hP, hB⟩ := hrel
    by_cases hlt : k < l.length
    · obtain ⟨x, hx⟩ : ∃ x, l[k]? = some x := ⟨_, List.getElem?_eq_getElem hlt⟩
      obtain ⟨b1, o1, rfl, c1⟩ := rs_ri (HX.out.later hB.out) k x hx
      by_cases hp : p x = true
      · have HF := Lib.hid (idxP_found hx hp hP.out)
        have HQ := Lib.hid hp
        clear hx hp hP
        go_wp2_with fail
        refine (HG.out x wr hB.out).mono ?_
        rintro e w1 ⟨rfl, hb1⟩
        rw [HQ.out]
        have HB := Lib.hid (below_next hB.out hb1)
        clear hb1
        go_wp2_with fail
        go_ret
        exact ⟨by rw [HF.out]; rfl, HB.out⟩
      · have HQ : Hid (p x = false) := by show _ = _; simpa using hp
        have HN : Hid (∀ j y, j < k + 1 → l[j]? = some y → p y = false) := fun j y hj hy => by
          by_cases hjk : j = k
          · subst hjk
            rw [hx] at hy
            exact Option.some.inj hy ▸ HQ.out
          · exact hP.out j y (by omega) hy
        clear hx hp hP
        go_wp2_with fail
        refine (HG.out x wr hB.out).mono ?_
        rintro e w1 ⟨rfl, hb1⟩
        rw [HQ.out]
        have HB := Lib.hid (below_next hB.out hb1)
        clear hb1
        go_wp2_with fail
        go_roundw
        case rel => exact ⟨k + 1, by omega, by go_num, HN, HB⟩
        case measure => simp [intOf]; omega
    · have HF := Lib.hid (idxP_none (l := l) (p := p) fun j x hx => hP.out j x (by have := (List.getElem?_eq_some_iff.1 hx).1; omega) hx)
      clear hP
      go_wp2_with fail
      go_ret
      exact ⟨by rw [HF.out]; rfl, hB.out⟩
set_option maxRecDepth 100000 in
theorem indexIns_any (l : List Ins) (g : FuncId) (caps : Array Value) (p : Ins → Bool) (A : Option Addr) (c : Nat) (w : World) (hl : l.length ≤ 9223372036854775807) (h : Rs w A (icells l)) (eg : ∀ (xs : Array Value) (W : World), (callFunc g xs).run Tryd.prog W = .ok (.enter g xs) W)
    (hg : ∀ n W, Below w.heap.size w W → Calls Tryd.prog g (#[n.agg] ++ caps) W (Ret W (.bool (p n)))) :
    Calls Tryd.prog 53 #[.slice A l.length c, .func (.func g) #[] caps] w (Ret w (.int .i64 (idxP l p))) := by
  have HX := Lib.hid h
  have HG := Lib.hid hg
  clear h hg
  go_enter Tryd.func53, Tryd.ntmps53
  go_wp2_with fail
  go_loopw [8] (fun iv wr => ∃ k : Nat, k ≤ l.length ∧ iv = .int .i64 k ∧ Hid (∀ j x, j < k → l[j]? = some x → p x = false) ∧ Hid (Below w.heap.size w wr)) (fun iv _ => l.length - (intOf iv).toNat)
  case atStart => exact ⟨0, Nat.zero_le _, rfl, fun j x hj => by omega, Below.refl _ _⟩
  case round =>
    obtain ⟨k, hk, rfl, hP, hB⟩ := hrel
    by_cases hlt : k < l.length
    · obtain ⟨x, hx⟩ : ∃ x, l[k]? = some x := ⟨_, List.getElem?_eq_getElem hlt⟩
      obtain ⟨b1, o1, rfl, c1, c2, c3, c4, c5⟩ := ins_at (HX.out.later hB.out) k x hx
      by_cases hp : p x = true
      · have HF := Lib.hid (idxP_found hx hp hP.out)
        have HQ := Lib.hid hp
        clear hx hp hP
        go_wp2_with fail
        refine (HG.out x wr hB.out).mono ?_
        rintro e w1 ⟨rfl, hb1⟩
        rw [HQ.out]
        have HB := Lib.hid (below_next hB.out hb1)
        clear hb1
        go_wp2_with fail
        go_ret
        exact ⟨by rw [HF.out]; rfl, HB.out⟩
      · have HQ : Hid (p x = false) := by show _ = _; simpa using hp
        have HN : Hid (∀ j y, j < k + 1 → l[j]? = some y → p y = false) := fun j y hj hy => by
          by_cases hjk : j = k
          · subst hjk
            rw [hx] at hy
            exact Option.some.inj hy ▸ HQ.out
          · exact hP.out j y (by omega) hy
        clear hx hp hP
        go_wp2_with fail
        refine (HG.out x wr hB.out).mono ?_
        rintro e w1 ⟨rfl, hb1⟩
        rw [HQ.out]
        have HB := Lib.hid (below_next hB.out hb1)
        clear hb1
        go_wp2_with fail
        go_roundw
        case rel => exact ⟨k + 1, by omega, by go_num, HN, HB⟩
        case measure => simp [intOf]; omega
    · have HF := Lib.hid (idxP_none (l := l) (p := p) fun j x hx => hP.out j x (by have := (List.getElem?_eq_some_iff.1 hx).1; omega) hx)
      clear hP
      go_wp2_with fail
      go_ret
      exact ⟨by rw [HF.out]; rfl, hB.out⟩
theorem containsInt_any (l : List Int) (g : FuncId) (caps : Array Value) (p : Int → Bool) (A : Option Addr) (c : Nat) (w : World) (hl : l.length ≤ 9223372036854775807) (h : Rs w A (ints l)) (eg : ∀ (xs : Array Value) (W : World), (callFunc g xs).run Tryd.prog W = .ok (.enter g xs) W)
    (hg : ∀ n W, Below w.heap.size w W → Calls Tryd.prog g (#[.int .i64 n] ++ caps) W (Ret W (.bool (p n)))) :
    Calls Tryd.prog 60 #[.slice A l.length c, .func (.func g) #[] caps] w (Ret w (.bool (l.any p))) := by
  have HC := Lib.hid (indexInt_any l g caps p A c w hl h eg hg)
  have E := Lib.hid (idxP_any l p)
  clear h eg hg
  go_enter Tryd.func60, Tryd.ntmps60
  go_wp2_with fail
  refine HC.out.mono ?_
  rintro e w1 ⟨rfl, hb1⟩
  have HB := Lib.hid hb1
  clear hb1
  obtain ⟨z, hz⟩ : ∃ z, decide (0 ≤ idxP l p) = z := ⟨_, rfl⟩
  have E2 : Hid (l.any p = z) := E.out.symm.trans hz
  clear E
  cases z
  · go_wp2_with fail
    go_ret
    exact ⟨by rw [E2.out]; rfl, HB.out⟩
  · go_wp2_with fail
    go_ret
    exact ⟨by rw [E2.out]; rfl, HB.out⟩
theorem containsIns_any (l : List Ins) (g : FuncId) (caps : Array Value) (p : Ins → Bool) (A : Option Addr) (c : Nat) (w : World) (hl : l.length ≤ 9223372036854775807) (h : Rs w A (icells l)) (eg : ∀ (xs : Array Value) (W : World), (callFunc g xs).run Tryd.prog W = .ok (.enter g xs) W)
    (hg : ∀ n W, Below w.heap.size w W → Calls Tryd.prog g (#[n.agg] ++ caps) W (Ret W (.bool (p n)))) :
    Calls Tryd.prog 28 #[.slice A l.length c, .func (.func g) #[] caps] w (Ret w (.bool (l.any p))) := by
  have HC := Lib.hid (indexIns_any l g caps p A c w hl h eg hg)
  have E := Lib.hid (idxP_any l p)
  clear h eg hg
  go_enter Tryd.func28, Tryd.ntmps28
  go_wp2_with fail
  refine HC.out.mono ?_
  rintro e w1 ⟨rfl, hb1⟩
  have HB := Lib.hid hb1
  clear hb1
  obtain ⟨z, hz⟩ : ∃ z, decide (0 ≤ idxP l p) = z := ⟨_, rfl⟩
  have E2 : Hid (l.any p = z) := E.out.symm.trans hz
  clear E
  cases z
  · go_wp2_with fail
    go_ret
    exact ⟨by rw [E2.out]; rfl, HB.out⟩
  · go_wp2_with fail
    go_ret
    exact ⟨by rw [E2.out]; rfl, HB.out⟩
end Go.Proofs.YtbpbimkadiobfaaDoor
