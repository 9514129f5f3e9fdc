/-
  What a call does, in plain words: it keeps to its own arena.
-/
import Derived.Test.YtpjphmpebegidaaDoorPool18
namespace Go.Proofs.YtpjphmpebegidaaDoor
open Go.RowKit Go.Stk

structure Op4 where
  k : Int
  a : Int
  t : Int
  v : Int
def Op4.cells (o : Op4) : List Value := [.int .i64 o.k, .int .i64 o.a, .int .i64 o.t, .int .i64 o.v]
/-- One call on an arena. -/
def doR (a : Ar) (ws : List Int) (o : Op4) : (Int × Nat) × Ar × List Int :=
  if o.k = 1 then ((allocR a o.v).1, (allocR a o.v).2, ws)
  else if o.k = 2 then ((0, (freeR a ws o.t).1), (freeR a ws o.t).2)
  else if o.k = 3 then (getR a ws o.t, a, ws)
  else if o.k = 4 then ((0, (setR a ws o.t o.v).1), a, (setR a ws o.t o.v).2)
  else if o.k = 5 then ((0, 0), ⟨a.off, a.n, List.replicate a.n 0, List.replicate a.n false⟩, rng ws (a.off * 16) (a.off * 16 + a.n * 16) 0)
  else ((0, 0), a, ws)

/-- An arena in form. -/
structure ArOk (a : Ar) : Prop where
  lr : a.runs.length = a.n
  lt : a.taken.length = a.n
  ok : RunsOk a
structure SameAr (a b : Ar) : Prop where
  off : b.off = a.off
  n : b.n = a.n
theorem SameAr.refl (a : Ar) : SameAr a a := ⟨rfl, rfl⟩
/-- Beyond the arena nothing turns. -/
def Beyond (a : Ar) (ws ws' : List Int) : Prop := ws'.length = ws.length ∧ ∀ x, (x < a.off * 16 ∨ a.off * 16 + a.n * 16 ≤ x) → ws'[x]? = ws[x]?
theorem Beyond.refl (a : Ar) (ws : List Int) : Beyond a ws ws := ⟨rfl, fun _ _ => rfl⟩

theorem runsOk_set {a : Ar} (h : RunsOk a) (k : Nat) (r : Int) (t : List Bool) (h0 : 0 ≤ r) (h1 : (k : Int) + r ≤ (a.n : Int)) : RunsOk { a with runs := a.runs.set k r, taken := t } := by
  intro j x hj
  simp only at hj
  rw [List.getElem?_set] at hj
  by_cases hk : k = j
  · rw [if_pos hk] at hj
    split at hj
    · simp only [Option.some.injEq] at hj
      subst hj hk
      exact ⟨h0, h1⟩
    · cases hj
  · rw [if_neg hk] at hj
    exact h j x hj
theorem alloc_plain {a : Ar} (h : ArOk a) (v : Int) : ArOk (allocR a v).2 ∧ SameAr a (allocR a v).2 := by
  unfold allocR
  by_cases h1 : v < 1
  · rw [if_pos h1]; exact ⟨h, SameAr.refl _⟩
  · rw [if_neg h1]
    cases hf : firstF a.taken (needOf v) with
    | none => exact ⟨h, SameAr.refl _⟩
    | some f =>
      have hb := (firstF_some hf).1.1
      rw [h.lt] at hb
      refine ⟨⟨by simpa using h.lr, ?_, runsOk_set h.ok _ _ _ (by omega) (by omega)⟩, ⟨rfl, rfl⟩⟩
      show (rng a.taken f (f + needOf v) true).length = a.n
      rw [rng_len _ _ _ _ (by omega) (by rw [h.lt]; omega), h.lt]
theorem free_plain {a : Ar} (h : ArOk a) (ws : List Int) (hw : a.off * 16 + a.n * 16 ≤ ws.length) (t : Int) : ArOk (freeR a ws t).2.1 ∧ SameAr a (freeR a ws t).2.1 ∧ Beyond a ws (freeR a ws t).2.2 := by
  unfold freeR
  cases hr : runR a t with
  | none => exact ⟨h, SameAr.refl _, Beyond.refl _ _⟩
  | some q =>
    obtain ⟨k, m⟩ := q
    obtain ⟨h1, h2, h3⟩ := runR_some hr
    have h4 := (h.ok _ _ h2).2
    refine ⟨⟨by simpa using h.lr, ?_, runsOk_set h.ok _ _ _ (by omega) (by omega)⟩, ⟨rfl, rfl⟩, ?_, fun x hx => ?_⟩
    · show (rng a.taken k (k + m) false).length = a.n
      rw [rng_len _ _ _ _ (by omega) (by rw [h.lt]; omega), h.lt]
    · show (rng ws _ _ 0).length = _
      rw [rng_len _ _ _ _ (by omega) (by omega)]
    · show (rng ws _ _ 0)[x]? = _
      rw [rng_get _ _ _ _ (by omega) (by omega), if_neg (by omega)]
theorem wordR_in {a : Ar} (h : ArOk a) {t : Int} {p : Nat} (hr : wordR a t = some p) : a.off * 16 ≤ p ∧ p < a.off * 16 + a.n * 16 := by
  unfold wordR at hr
  by_cases h1 : t < 0
  · rw [if_pos h1] at hr; cases hr
  · rw [if_neg h1] at hr
    by_cases h2 : a.taken[(t / 16).toNat]? = some true
    · rw [if_pos h2] at hr
      simp only [Option.some.injEq] at hr
      have h3 := (List.getElem?_eq_some_iff.1 h2).1
      rw [h.lt] at h3
      omega
    · rw [if_neg h2] at hr; cases hr
theorem set_plain {a : Ar} (h : ArOk a) (ws : List Int) (t v : Int) : Beyond a ws (setR a ws t v).2 := by
  unfold setR
  cases hr : wordR a t with
  | none => exact Beyond.refl _ _
  | some p =>
    have h1 := wordR_in h hr
    exact ⟨by simp, fun x hx => by show (ws.set p v)[x]? = _; rw [List.getElem?_set_ne (by omega)]⟩
/-- The arena stays in form; nothing beyond it turns. -/
theorem do_plain {a : Ar} (h : ArOk a) (ws : List Int) (hw : a.off * 16 + a.n * 16 ≤ ws.length) (o : Op4) : ArOk (doR a ws o).2.1 ∧ SameAr a (doR a ws o).2.1 ∧ Beyond a ws (doR a ws o).2.2 := by
  unfold doR
  split
  · exact ⟨(alloc_plain h _).1, (alloc_plain h _).2, Beyond.refl _ _⟩
  split
  · exact free_plain h ws hw _
  split
  · exact ⟨h, SameAr.refl _, Beyond.refl _ _⟩
  split
  · exact ⟨h, SameAr.refl _, set_plain h ws _ _⟩
  split
  · refine ⟨⟨by simp, by simp, fun k r hk => ?_⟩, ⟨rfl, rfl⟩, ?_, fun x hx => ?_⟩
    · simp only at hk
      rw [List.getElem?_replicate] at hk
      split at hk
      · simp only [Option.some.injEq] at hk; subst hk; show 0 ≤ (0 : Int) ∧ (k : Int) + 0 ≤ (a.n : Int); omega
      · cases hk
    · show (rng ws _ _ 0).length = _
      rw [rng_len _ _ _ _ (by omega) (by omega)]
    · show (rng ws _ _ 0)[x]? = _
      rw [rng_get _ _ _ _ (by omega) (by omega), if_neg (by omega)]
  · exact ⟨h, SameAr.refl _, Beyond.refl _ _⟩
/-- The words of an arena are the same in two pools. -/
def Seg (a : Ar) (ws ws' : List Int) : Prop := ∀ x, a.off * 16 ≤ x → x < a.off * 16 + a.n * 16 → ws[x]? = ws'[x]?
theorem do_seg {a : Ar} (h : ArOk a) (ws ws' : List Int) (hw : a.off * 16 + a.n * 16 ≤ ws.length) (hw' : a.off * 16 + a.n * 16 ≤ ws'.length) (hs : Seg a ws ws') (o : Op4) :
    (doR a ws' o).1 = (doR a ws o).1 ∧ (doR a ws' o).2.1 = (doR a ws o).2.1 ∧ Seg a (doR a ws o).2.2 (doR a ws' o).2.2 := by
  unfold doR
  split
  · exact ⟨rfl, rfl, hs⟩
  split
  · unfold freeR
    cases hr : runR a o.t with
    | none => exact ⟨rfl, rfl, hs⟩
    | some q =>
      obtain ⟨k, m⟩ := q
      obtain ⟨h1, h2, h3⟩ := runR_some hr
      have h4 := (h.ok _ _ h2).2
      refine ⟨rfl, rfl, fun x hx1 hx2 => ?_⟩
      show (rng ws _ _ 0)[x]? = (rng ws' _ _ 0)[x]?
      rw [rng_get _ _ _ _ (by omega) (by omega), rng_get _ _ _ _ (by omega) (by omega), hs x hx1 hx2]
  split
  · unfold getR
    cases hr : wordR a o.t with
    | none => exact ⟨rfl, rfl, hs⟩
    | some p =>
      have h1 := wordR_in h hr
      refine ⟨?_, rfl, hs⟩
      simp only [List.getD_eq_getElem?_getD]
      rw [hs p h1.1 h1.2]
  split
  · unfold setR
    cases hr : wordR a o.t with
    | none => exact ⟨rfl, rfl, hs⟩
    | some p =>
      have h1 := wordR_in h hr
      refine ⟨rfl, rfl, fun x hx1 hx2 => ?_⟩
      show (ws.set p o.v)[x]? = (ws'.set p o.v)[x]?
      rw [List.getElem?_set, List.getElem?_set]
      by_cases hpx : p = x
      · rw [if_pos hpx, if_pos hpx, if_pos (by omega), if_pos (by omega)]
      · rw [if_neg hpx, if_neg hpx, hs x hx1 hx2]
  split
  · refine ⟨rfl, rfl, fun x hx1 hx2 => ?_⟩
    show (rng ws _ _ 0)[x]? = (rng ws' _ _ 0)[x]?
    rw [rng_get _ _ _ _ (by omega) (by omega), rng_get _ _ _ _ (by omega) (by omega), hs x hx1 hx2]
  · exact ⟨rfl, rfl, hs⟩
/-- Arenas of a new pool lie apart. -/
theorem newArs_ge : ∀ (off : Nat) (ys : List Nat) (i : Nat) (a : Ar), (newArs off ys)[i]? = some a → a.off = off + (ys.take i).sum ∧ ys[i]? = some a.n
  | off, [], i, a, h => by simp [newArs] at h
  | off, y :: ys, 0, a, h => by
    simp only [newArs, List.getElem?_cons_zero, Option.some.injEq] at h
    subst h
    exact ⟨by simp [newAr], by simp [newAr]⟩
  | off, y :: ys, i + 1, a, h => by
    simp only [newArs, List.getElem?_cons_succ] at h
    obtain ⟨h1, h2⟩ := newArs_ge (off + y) ys i a h
    refine ⟨?_, by simpa using h2⟩
    rw [h1]
    simp [List.take_succ_cons]; omega
theorem take_sum_le (ys : List Nat) (i j : Nat) (hij : i < j) (y : Nat) (hi : ys[i]? = some y) : (ys.take i).sum + y ≤ (ys.take j).sum := by
  have h1 : (ys.take (i + 1)).sum = (ys.take i).sum + y := by rw [List.take_add_one, hi]; simp
  have h2 : ys.take j = ys.take (i + 1) ++ (ys.drop (i + 1)).take (j - (i + 1)) := by
    rw [← List.take_append_drop (i + 1) (ys.take j), List.take_take, Nat.min_eq_left (by omega), List.drop_take]
  rw [h2, List.sum_append]; omega
end Go.Proofs.YtpjphmpebegidaaDoor
