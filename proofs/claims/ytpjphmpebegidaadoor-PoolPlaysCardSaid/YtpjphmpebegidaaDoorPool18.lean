/-
  Each call on an arena, of all arguments: what it answers, what becomes of the arena and the words.
-/
import Derived.Test.YtpjphmpebegidaaDoorPool7
import Derived.Test.YtpjphmpebegidaaDoorPool8
namespace Go.Proofs.YtpjphmpebegidaaDoor
open Go.RowKit Go.Stk

def fitB (t : List Bool) (need f : Nat) : Bool := decide (f + need ≤ t.length) && (List.range need).all fun d => t[f + d]? == some false
theorem fit_iff (t : List Bool) (need f : Nat) : Fits t need f ↔ fitB t need f = true := by
  simp only [fitB, Fits, Bool.and_eq_true, decide_eq_true_eq, List.all_eq_true, List.mem_range, beq_iff_eq]
  constructor
  · rintro ⟨h1, h2⟩
    exact ⟨h1, fun d hd => h2 (f + d) (by omega) (by omega)⟩
  · rintro ⟨h1, h2⟩
    refine ⟨h1, fun x hx hx2 => ?_⟩
    have := h2 (x - f) (by omega)
    rwa [show f + (x - f) = x by omega] at this
/-- The first place that fits. -/
def firstF (t : List Bool) (need : Nat) : Option Nat := (List.range (t.length + 1)).find? (fitB t need)
theorem firstF_some {t : List Bool} {need f : Nat} (h : firstF t need = some f) : Fits t need f ∧ ∀ g, g < f → ¬ Fits t need g := by
  unfold firstF at h
  rw [List.find?_range_eq_some] at h
  refine ⟨(fit_iff _ _ _).2 h.1, fun g hg hf => ?_⟩
  have h1 := h.2.2 g hg
  rw [(fit_iff _ _ _).1 hf] at h1
  cases h1
theorem firstF_none {t : List Bool} {need : Nat} (h : firstF t need = none) (f : Nat) : ¬ Fits t need f := by
  unfold firstF at h
  rw [List.find?_range_eq_none] at h
  intro hf
  have h1 := h f (by have := hf.1; omega)
  rw [(fit_iff _ _ _).1 hf] at h1
  cases h1

/-- Runs keep within the arena. -/
def RunsOk (a : Ar) : Prop := ∀ (k : Nat) (r : Int), a.runs[k]? = some r → 0 ≤ r ∧ (k : Int) + r ≤ (a.n : Int)
def needOf (v : Int) : Nat := ((v - 1) / 16 + 1).toNat
def allocR (a : Ar) (v : Int) : (Int × Nat) × Ar :=
  if v < 1 then ((0, 1), a) else
    match firstF a.taken (needOf v) with
    | none => ((0, 14), a)
    | some f => ((((f * 16 : Nat) : Int), 0), { a with runs := a.runs.set f (needOf v : Int), taken := rng a.taken f (f + needOf v) true })
/-- The run of an address: its page, how many pages. -/
def runR (a : Ar) (at_ : Int) : Option (Nat × Nat) :=
  if at_ < 0 ∨ at_ % 16 ≠ 0 then none else
    match a.runs[(at_ / 16).toNat]? with
    | none => none
    | some r => if r ≤ 0 then none else some ((at_ / 16).toNat, r.toNat)
def freeR (a : Ar) (ws : List Int) (at_ : Int) : Nat × Ar × List Int :=
  match runR a at_ with
  | none => (8, a, ws)
  | some (k, m) => (0, { a with runs := a.runs.set k 0, taken := rng a.taken k (k + m) false }, rng ws (a.off * 16 + k * 16) (a.off * 16 + k * 16 + m * 16) 0)
/-- The word of an address: its place in the pool. -/
def wordR (a : Ar) (at_ : Int) : Option Nat :=
  if at_ < 0 then none else if a.taken[(at_ / 16).toNat]? = some true then some (a.off * 16 + at_.toNat) else none
def getR (a : Ar) (ws : List Int) (at_ : Int) : Int × Nat :=
  match wordR a at_ with
  | none => (0, 1)
  | some p => (ws.getD p 0, 0)
def setR (a : Ar) (ws : List Int) (at_ v : Int) : Nat × List Int :=
  match wordR a at_ with
  | none => (1, ws)
  | some p => (0, ws.set p v)
def sizeR (a : Ar) (at_ : Int) : Int :=
  match runR a at_ with
  | none => 0
  | some (_, m) => (m : Int) * 16
/-- An error by its number. -/
def ev (er en ea : Addr) (c : Nat) : Value := if c = 0 then .nilIface else if c = 1 then errV er else if c = 8 then errV en else errV ea

theorem set_same {α : Type _} {l : List α} {i : Nat} {x : α} (h : l[i]? = some x) : l.set i x = l := by
  apply List.ext_getElem?
  intro j
  rw [List.getElem?_set]
  by_cases hj : i = j
  · subst hj
    rw [if_pos rfl, if_pos (List.getElem?_eq_some_iff.1 h).1, h]
  · rw [if_neg hj]
section
variable {w : World} {L : PLay} {S : PS} (h : PRep w L S)
variable {i : Nat} {a : Ar} {l : AL} (ha : S.ars[i]? = some a) (hl : L.als[i]? = some l)
include h ha
theorem PRep.stay {v : Value} {e : Ending} {w' : World} (hr : Ret w v e w') : RetP w L { S with ars := S.ars.set i a } v e w' :=
  ⟨hr.1, by rw [set_same ha]; exact h.later hr.2, (Kept.ofBelow hr.2 []).mono (by simp)⟩
include hl
theorem alloc_all (v : Int) (h64 : v ≤ 9223372036854775807) (er en ea : Addr) (hE : Errs w er en ea) : Calls Tryd.prog 11 #[.pointer (some ⟨l.ab, 0, none⟩), .int .i64 v] w
    (RetP w L { S with ars := S.ars.set i (allocR a v).2 } (.tuple #[.int .i64 (allocR a v).1.1, ev er en ea (allocR a v).1.2])) := by
  by_cases h1 : v < 1
  · have e : allocR a v = ((0, 1), a) := by simp [allocR, h1]
    rw [e]
    exact (alloc_neg (l := l) v er en ea hE h1).mono fun _ _ hr => h.stay ha hr
  · have hn : (v - 1) / 16 + 1 = (needOf v : Int) := by unfold needOf; omega
    cases hf : firstF a.taken (needOf v) with
    | none =>
      have e : allocR a v = ((0, 14), a) := by simp [allocR, h1, hf]
      rw [e]
      exact (alloc_none h ha hl v (needOf v) er en ea hE (by omega) h64 hn (firstF_none hf)).mono fun _ _ hr => h.stay ha hr
    | some f =>
      have e : allocR a v = ((((f * 16 : Nat) : Int), 0), { a with runs := a.runs.set f (needOf v : Int), taken := rng a.taken f (f + needOf v) true }) := by simp [allocR, h1, hf]
      rw [e]
      exact alloc_ok h ha hl v (needOf v) f (by omega) h64 hn (firstF_some hf).1 (firstF_some hf).2
omit hl h ha in
theorem runR_some {at_ : Int} {k m : Nat} (hr : runR a at_ = some (k, m)) : at_ = 16 * (k : Int) ∧ a.runs[k]? = some (m : Int) ∧ 0 < m := by
  unfold runR at hr
  by_cases h1 : at_ < 0 ∨ at_ % 16 ≠ 0
  · rw [if_pos h1] at hr; cases hr
  · rw [if_neg h1] at hr
    cases hg : a.runs[(at_ / 16).toNat]? with
    | none => rw [hg] at hr; cases hr
    | some r =>
      rw [hg] at hr
      simp only at hr
      by_cases h2 : r ≤ 0
      · rw [if_pos h2] at hr; cases hr
      · rw [if_neg h2] at hr
        simp only [Option.some.injEq, Prod.mk.injEq] at hr
        obtain ⟨rfl, rfl⟩ := hr
        exact ⟨by omega, by rw [hg]; congr 1; omega, by omega⟩
omit hl in
theorem runR_none {at_ : Int} (hok : RunsOk a) (hr : runR a at_ = none) : NoRun at_ a.n ∨ ∃ k : Nat, at_ = 16 * (k : Int) ∧ k < a.n ∧ a.runs[k]? = some 0 := by
  obtain ⟨hrep, _⟩ := h.ar i a (L.als[i]'(by rw [h.alen]; exact (List.getElem?_eq_some_iff.1 ha).1)) ha (List.getElem?_eq_getElem _)
  unfold runR at hr
  by_cases h1 : at_ < 0 ∨ at_ % 16 ≠ 0
  · exact .inl (by unfold NoRun; omega)
  · rw [if_neg h1] at hr
    cases hg : a.runs[(at_ / 16).toNat]? with
    | none =>
      have := List.getElem?_eq_none_iff.1 hg
      rw [hrep.lr] at this
      exact .inl (by unfold NoRun; omega)
    | some r =>
      rw [hg] at hr
      simp only at hr
      by_cases h2 : r ≤ 0
      · have h3 := hok _ _ hg
        have h4 := (List.getElem?_eq_some_iff.1 hg).1
        rw [hrep.lr] at h4
        exact .inr ⟨(at_ / 16).toNat, by omega, h4, by rw [hg]; congr 1; omega⟩
      · rw [if_neg h2] at hr; cases hr
theorem free_all (hok : RunsOk a) (at_ : Int) (h64 : at_ ≤ 9223372036854775807) (er en ea : Addr) (hE : Errs w er en ea) : Calls Tryd.prog 15 #[.pointer (some ⟨l.ab, 0, none⟩), .int .i64 at_] w
    (RetP w L { S with ars := S.ars.set i (freeR a S.words at_).2.1, words := (freeR a S.words at_).2.2 } (ev er en ea (freeR a S.words at_).1)) := by
  cases hr : runR a at_ with
  | none =>
    have e : freeR a S.words at_ = (8, a, S.words) := by simp [freeR, hr]
    rw [e]
    exact (free_none h ha hl at_ er en ea hE (by
      rcases runR_none h ha hok hr with h1 | ⟨k, h1, _, h2⟩
      · exact .inl h1
      · exact .inr ⟨k, h1, h2⟩) h64).mono fun _ _ hq => h.stay ha hq
  | some q =>
    obtain ⟨k, m⟩ := q
    obtain ⟨h1, h2, h3⟩ := runR_some hr
    have e : freeR a S.words at_ = (0, { a with runs := a.runs.set k 0, taken := rng a.taken k (k + m) false }, rng S.words (a.off * 16 + k * 16) (a.off * 16 + k * 16 + m * 16) 0) := by simp [freeR, hr]
    rw [e]
    have := (hok _ _ h2).2
    exact free_ok h ha hl k m at_ h1 h2 h3 (by omega)
omit hl in
theorem wordR_some {at_ : Int} {p : Nat} (hr : wordR a at_ = some p) : 0 ≤ at_ ∧ a.taken[(at_ / 16).toNat]? = some true ∧ p = a.off * 16 + (at_ / 16).toNat * 16 + (at_ % 16).toNat ∧ p < S.words.length := by
  obtain ⟨hrep, ho⟩ := h.ar i a (L.als[i]'(by rw [h.alen]; exact (List.getElem?_eq_some_iff.1 ha).1)) ha (List.getElem?_eq_getElem _)
  unfold wordR at hr
  by_cases h1 : at_ < 0
  · rw [if_pos h1] at hr; cases hr
  · rw [if_neg h1] at hr
    by_cases h2 : a.taken[(at_ / 16).toNat]? = some true
    · rw [if_pos h2] at hr
      simp only [Option.some.injEq] at hr
      have h3 := (List.getElem?_eq_some_iff.1 h2).1
      rw [hrep.lt] at h3
      have := h.lw
      exact ⟨by omega, h2, by omega, by omega⟩
    · rw [if_neg h2] at hr; cases hr
omit hl in
theorem wordR_none {at_ : Int} (hr : wordR a at_ = none) : NoWord at_ a := by
  obtain ⟨hrep, ho⟩ := h.ar i a (L.als[i]'(by rw [h.alen]; exact (List.getElem?_eq_some_iff.1 ha).1)) ha (List.getElem?_eq_getElem _)
  unfold wordR at hr
  by_cases h1 : at_ < 0
  · exact .inl h1
  · rw [if_neg h1] at hr
    by_cases h2 : a.taken[(at_ / 16).toNat]? = some true
    · rw [if_pos h2] at hr; cases hr
    · by_cases h3 : (at_ / 16).toNat < a.taken.length
      · refine .inr (.inr ⟨(at_ / 16).toNat, by omega, ?_⟩)
        rw [List.getElem?_eq_getElem h3] at h2 ⊢
        cases hb : a.taken[(at_ / 16).toNat]
        · rfl
        · rw [hb] at h2; exact absurd rfl h2
      · rw [hrep.lt] at h3
        exact .inr (.inl (by omega))
theorem get_all (at_ : Int) (h64 : at_ ≤ 9223372036854775807) (er en ea : Addr) (hE : Errs w er en ea) : Calls Tryd.prog 16 #[.pointer (some ⟨l.ab, 0, none⟩), .int .i64 at_] w
    (Ret w (.tuple #[.int .i64 (getR a S.words at_).1, ev er en ea (getR a S.words at_).2])) := by
  cases hr : wordR a at_ with
  | none =>
    have e : getR a S.words at_ = (0, 1) := by simp [getR, hr]
    rw [e]
    exact get_out h ha hl at_ er en ea hE (wordR_none h ha hr) h64
  | some p =>
    obtain ⟨h0, h1, h2, h3⟩ := wordR_some h ha hr
    have e : getR a S.words at_ = (S.words.getD p 0, 0) := by simp [getR, hr]
    rw [e]
    exact get_in h ha hl (at_ / 16).toNat (at_ % 16).toNat _ (by omega) at_ (by omega) h1 (by rw [← h2, List.getD_eq_getElem?_getD, List.getElem?_eq_getElem h3]; rfl)
theorem set_all (at_ v : Int) (h64 : at_ ≤ 9223372036854775807) (er en ea : Addr) (hE : Errs w er en ea) : Calls Tryd.prog 14 #[.pointer (some ⟨l.ab, 0, none⟩), .int .i64 at_, .int .i64 v] w
    (RetP w L { S with ars := S.ars.set i a, words := (setR a S.words at_ v).2 } (ev er en ea (setR a S.words at_ v).1)) := by
  cases hr : wordR a at_ with
  | none =>
    have e : setR a S.words at_ v = (1, S.words) := by simp [setR, hr]
    rw [e]
    exact (set_out h ha hl at_ v er en ea hE (wordR_none h ha hr) h64).mono fun _ _ hq => h.stay ha hq
  | some p =>
    obtain ⟨h0, h1, h2, h3⟩ := wordR_some h ha hr
    have e : setR a S.words at_ v = (0, S.words.set p v) := by simp [setR, hr]
    rw [e, set_same ha, h2]
    exact set_in h ha hl (at_ / 16).toNat (at_ % 16).toNat v (by omega) at_ (by omega) h1
theorem size_all (hok : RunsOk a) (at_ : Int) (h64 : at_ ≤ 9223372036854775807) : Calls Tryd.prog 12 #[.pointer (some ⟨l.ab, 0, none⟩), .int .i64 at_] w (Ret w (.int .i64 (sizeR a at_))) := by
  cases hr : runR a at_ with
  | none =>
    have e : sizeR a at_ = 0 := by simp [sizeR, hr]
    rw [e]
    rcases runR_none h ha hok hr with h1 | ⟨k, h1, h3, h2⟩
    · exact size_out h ha hl at_ h1 h64
    · exact size_in h ha hl k 0 at_ h1 h2 (by omega) (by omega)
  | some q =>
    obtain ⟨k, m⟩ := q
    obtain ⟨h1, h2, h3⟩ := runR_some hr
    have e : sizeR a at_ = (m : Int) * 16 := by simp [sizeR, hr]
    rw [e]
    have h4 := (hok _ _ h2).2
    obtain ⟨_, ho⟩ := h.ar i a l ha hl
    have := h.hnp
    exact size_in h ha hl k m at_ h1 h2 (by omega) (by omega)
end
end Go.Proofs.YtpjphmpebegidaaDoor
