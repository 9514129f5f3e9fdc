/-
  What bytes are a code's: in plain words.
-/
import Derived.Test.YtbpbimkadiobfaaDoorGet1
namespace Go.Proofs.YtbpbimkadiobfaaDoor
open Go.RowKit Go.Stk

def many {α : Type} (f : List Int → Option (α × List Int)) : Nat → List Int → Option (List α × List Int)
  | 0, l => some ([], l)
  | n + 1, l => match f l with
    | none => none
    | some (x, l1) => match many f n l1 with
      | none => none
      | some (xs, l2) => some (x :: xs, l2)
section
variable {α : Type} {f : List Int → Option (α × List Int)}
theorem many_snoc : ∀ (k : Nat) {l l1 l2 : List Int} {xs : List α} {x : α}, many f k l = some (xs, l1) → f l1 = some (x, l2) → many f (k + 1) l = some (xs ++ [x], l2)
  | 0, l, l1, l2, xs, x, h, hf => by
    simp only [many, Option.some.injEq, Prod.mk.injEq] at h
    obtain ⟨rfl, rfl⟩ := h
    simp [many, hf]
  | k + 1, l, l1, l2, xs, x, h, hf => by
    rw [many] at h
    cases hl : f l with
    | none => rw [hl] at h; cases h
    | some p =>
      obtain ⟨y, l3⟩ := p
      rw [hl] at h
      simp only at h
      cases hm : many f k l3 with
      | none => rw [hm] at h; cases h
      | some q =>
        obtain ⟨ys, l4⟩ := q
        rw [hm] at h
        simp only [Option.some.injEq, Prod.mk.injEq] at h
        obtain ⟨rfl, rfl⟩ := h
        rw [many, hl]
        simp only
        rw [many_snoc k hm hf]
        rfl
theorem many_none : ∀ (k m : Nat) {l l1 : List Int} {xs : List α}, many f k l = some (xs, l1) → f l1 = none → k < m → many f m l = none
  | 0, 0, l, l1, xs, h, hf, hk => by omega
  | 0, m + 1, l, l1, xs, h, hf, hk => by
    simp only [many, Option.some.injEq, Prod.mk.injEq] at h
    obtain ⟨rfl, rfl⟩ := h
    simp [many, hf]
  | k + 1, 0, l, l1, xs, h, hf, hk => by omega
  | k + 1, m + 1, l, l1, xs, h, hf, hk => by
    rw [many] at h
    cases hl : f l with
    | none => rw [hl] at h; cases h
    | some p =>
      obtain ⟨y, l3⟩ := p
      rw [hl] at h
      simp only at h
      cases hm : many f k l3 with
      | none => rw [hm] at h; cases h
      | some q =>
        obtain ⟨ys, l4⟩ := q
        rw [hm] at h
        simp only [Option.some.injEq, Prod.mk.injEq] at h
        obtain ⟨rfl, rfl⟩ := h
        rw [many, hl]
        simp only
        rw [many_none k m hm hf (by omega)]
theorem many_len : ∀ (k : Nat) {l l1 : List Int} {xs : List α}, many f k l = some (xs, l1) → xs.length = k
  | 0, l, l1, xs, h => by
    simp only [many, Option.some.injEq, Prod.mk.injEq] at h
    rw [← h.1]; rfl
  | k + 1, l, l1, xs, h => by
    rw [many] at h
    cases hl : f l with
    | none => rw [hl] at h; cases h
    | some p =>
      obtain ⟨y, l3⟩ := p
      rw [hl] at h
      simp only at h
      cases hm : many f k l3 with
      | none => rw [hm] at h; cases h
      | some q =>
        obtain ⟨ys, l4⟩ := q
        rw [hm] at h
        simp only [Option.some.injEq, Prod.mk.injEq] at h
        obtain ⟨rfl, rfl⟩ := h
        simp [many_len k hm]
end
/-- A code without its memory. -/
structure Pc where
  places : List Int
  mux : Int
  ato : Int
  chans : List (Int × Int)
  funcs : List (Int × Int × List Int)
  start : Int
  body : List Ins
def Fn.pf (f : Fn) : Int × Int × List Int := (f.st, f.pa, f.locals)
def Co.pl (c : Co) : Pc := ⟨c.places, c.mux, c.ato, c.chans, c.funcs.map Fn.pf, c.start, c.body⟩
def rdInts (m : Nat) (l : List Int) : Option (List Int × List Int) := if l.length < 4 * m then none else some (deb4s m l, l.drop (4 * m))
def pCh (l : List Int) : Option ((Int × Int) × List Int) := if l.length < 8 then none else some ((deb (l.take 4), deb ((l.drop 4).take 4)), l.drop 8)
def pFn (l : List Int) : Option ((Int × Int × List Int) × List Int) :=
  if l.length < 12 then none else match rdInts (deb ((l.drop 8).take 4)).toNat (l.drop 12) with
    | none => none
    | some (ls, l1) => some ((deb (l.take 4), deb ((l.drop 4).take 4), ls), l1)
def pIns (l : List Int) : Option (Ins × List Int) :=
  if l.length < 25 then none else some (⟨deb (l.take 1), wrap64 (deb ((l.drop 1).take 8)), deb ((l.drop 9).take 4), deb ((l.drop 13).take 8), deb ((l.drop 21).take 4)⟩, l.drop 25)
/-- What is behind the head. -/
def parse1 (h l : List Int) : Option Pc :=
  match rdInts (h.getD 0 0).toNat l with
  | none => none
  | some (pl, l2) => match many pCh (h.getD 3 0).toNat l2 with
    | none => none
    | some (cs, l3) => match many pFn (h.getD 4 0).toNat l3 with
      | none => none
      | some (fs, l4) => match many pIns (h.getD 5 0).toNat l4 with
        | none => none
        | some (bo, l5) => if l5 = [] then some ⟨pl, h.getD 1 0, h.getD 2 0, cs, fs, h.getD 6 0, bo⟩ else none
/-- The code of bytes, whether in form or not. -/
def parse (l : List Int) : Option Pc :=
  match rdInts 7 l with
  | none => none
  | some (h, l1) => parse1 h l1
end Go.Proofs.YtbpbimkadiobfaaDoor
