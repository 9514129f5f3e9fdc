/-
  The walks of package value's operators: ints, floats, bools.
-/
import Derived.Test.YtdeabmijoaepcaaVal3
namespace Go.Proofs.Ytdeabmijoaepcaa
open Go.RowKit Go.Stk

def fltV (b : Nat) : Value := .agg #[.int .i64 2, .int .i64 0, .int .u64 b]
def intA (n : Int) : Value := .agg #[.int .i64 1, .int .i64 n, .int .u64 0]
def boolA (b : Bool) : Value := .agg #[.int .i64 3, .int .i64 (b2i b), .int .u64 0]
/-- A value, and no fault; no value, and a fault. -/
def okR (v : Value) : Value := .tuple #[v, .int .i64 0]
def badR (f : Int) : Value := .tuple #[.agg #[.int .i64 0, .int .i64 0, .int .u64 0], .int .i64 f]
/-- The bits of what an operation on floats gives. -/
def cameO : Option Nat → Nat
  | some r => cameB r
  | none => 9221120237041090561

def intsR (l : List UInt8) (x y : Int) : Value :=
  if l = [43] then okR (intA (wrap64 (x + y))) else if l = [45] then okR (intA (wrap64 (x - y))) else if l = [42] then okR (intA (wrap64 (x * y)))
  else if l = [47] then (if y = 0 then badR 1 else okR (intA (wrap64 (x.tdiv y)))) else if l = [37] then (if y = 0 then badR 1 else okR (intA (x.tmod y))) else badR (-1)
def floatsR (l : List UInt8) (x y : Nat) : Value :=
  if l = [43] then okR (fltV (cameO (FloatKind.f64.format.add x y))) else if l = [45] then okR (fltV (cameO (FloatKind.f64.format.sub x y))) else if l = [42] then okR (fltV (cameO (FloatKind.f64.format.mul x y)))
  else if l = [47] then okR (fltV (cameO (FloatKind.f64.format.div x y))) else badR (-1)
def boolsR (l : List UInt8) (x y : Bool) : Value :=
  if l = [38, 38] then okR (boolA (x && y)) else if l = [124, 124] then okR (boolA (x || y)) else if l = [61, 61] then okR (boolA (x == y)) else if l = [33, 61] then okR (boolA (x != y)) else badR (-1)

/-- Which NaN: one that the tape picks. -/
def nanPick (w : World) (x y : Nat) : Nat := Question.cut (.nanBits .f64 x y) (w.tape w.drawn (.nanBits .f64 x y))
theorem nan_of_rung (b : Nat) (h : 9218868437227405312 < b % 9223372036854775808) : FloatKind.f64.format.read b = .nan (b / 9223372036854775808 % 2 == 1) (b % 9223372036854775808 - 9218868437227405312) := by
  have h1 : FloatKind.f64.format.signWeight = 9223372036854775808 := by decide
  have h2 : FloatKind.f64.format.binade = 4503599627370496 := by decide
  have h3 : FloatKind.f64.format.infRung = 9218868437227405312 := by decide
  simp only [Ieee.Format.read, h1, h2, h3]
  rw [if_neg (by omega), if_neg (by omega), if_neg (by omega)]
theorem nanB_of_rung (b : Nat) (h : 9218868437227405312 < b % 9223372036854775808) : nanB b = true := by
  have h1 := nan_of_rung b h
  show (FloatKind.f64.format.order b b != some .eq) = true
  simp [Ieee.Format.order, h1, Ieee.Datum.order]
theorem nanB_pick (w : World) (x y : Nat) : nanB (nanPick w x y) = true := by
  refine nanB_of_rung _ ?_
  simp only [nanPick, Question.cut]
  generalize w.tape w.drawn _ = t
  have h1 := Nat.mod_lt t (show 0 < 2 by omega)
  have h2 := Nat.mod_lt (t / 2) (show 0 < 2 ^ 52 - 1 by omega)
  simp only [show (2 : Nat) ^ 63 = 9223372036854775808 from rfl, show (2 : Nat) ^ 52 - 1 = 4503599627370495 from rfl] at h2 ⊢
  rcases (by omega : t % 2 = 0 ∨ t % 2 = 1) with h | h <;> rw [h] <;> omega
theorem run_nan (op : BinOp) (t : TypeId) (x y : Nat) {P : Program} (h : (op = .add ∧ FloatKind.f64.format.add x y = none) ∨ (op = .sub ∧ FloatKind.f64.format.sub x y = none) ∨ (op = .mul ∧ FloatKind.f64.format.mul x y = none) ∨ (op = .quo ∧ FloatKind.f64.format.div x y = none)) (w : World) :
    (binOp op t (.float .f64 x) (.float .f64 y)).run P w = .ok (.float .f64 (nanPick w x y)) w.drew := by
  rcases h with ⟨rfl, h⟩ | ⟨rfl, h⟩ | ⟨rfl, h⟩ | ⟨rfl, h⟩
  all_goals (simp [binOp, Op.floatArith, h, choose, Sem.run, Question.forced, nanPick]; try rfl)
theorem run_some (op : BinOp) (t : TypeId) (x y r : Nat) {P : Program} (h : (op = .add ∧ FloatKind.f64.format.add x y = some r) ∨ (op = .sub ∧ FloatKind.f64.format.sub x y = some r) ∨ (op = .mul ∧ FloatKind.f64.format.mul x y = some r) ∨ (op = .quo ∧ FloatKind.f64.format.div x y = some r)) (w : World) :
    (binOp op t (.float .f64 x) (.float .f64 y)).run P w = .ok (.float .f64 r) w := by
  rcases h with ⟨rfl, h⟩ | ⟨rfl, h⟩ | ⟨rfl, h⟩ | ⟨rfl, h⟩
  all_goals simp [binOp, Op.floatArith, h]
theorem came_nan (b : Nat) (w : World) (h : nanB b = true) : Calls Try.prog 30 #[.float .f64 b] w (Ret w (.agg #[.int .i64 2, .int .i64 0, .int .u64 9221120237041090561])) := by
  have := came_any b w
  rwa [show ((cameB b : Nat) : Int) = 9221120237041090561 by simp [cameB, h]] at this

theorem ints_add (op : ByteArray) (x y : Int) (w : World) (h : op.toList = [43]) : Calls Try.prog 39 #[.string op, .int .i64 x, .int .i64 y] w (Ret w (okR (intA (wrap64 (x + y))))) := by
  go_enter Try.func39, Try.ntmps39
  go_wp2_with fail
  refine (valInt_any _ _).mono ?_
  rintro e w1 ⟨rfl, hb⟩
  obtain ⟨c0, c1, c2, f0, f1, f2, hz⟩ := res3 hb
  replace hb := below_next (below_alloc (Below.refl w.heap.size w) _) hb
  go_wp2
  exact bodyPost_ret (v := .tuple #[.agg #[.int .i64 1, .int .i64 (wrap64 (x + y)), .int .u64 0], .int .i64 0]) (by simp [results, Try.results39, go_sem, c0, c1, c2]) rfl ⟨rfl, by repeat (first | exact hb | exact Below.refl _ _ | refine below_set ?_ _ _ | refine below_alloc ?_ _)⟩
theorem ints_sub (op : ByteArray) (x y : Int) (w : World) (h : op.toList = [45]) : Calls Try.prog 39 #[.string op, .int .i64 x, .int .i64 y] w (Ret w (okR (intA (wrap64 (x - y))))) := by
  go_enter Try.func39, Try.ntmps39
  go_wp2_with fail
  refine (valInt_any _ _).mono ?_
  rintro e w1 ⟨rfl, hb⟩
  obtain ⟨c0, c1, c2, f0, f1, f2, hz⟩ := res3 hb
  replace hb := below_next (below_alloc (Below.refl w.heap.size w) _) hb
  go_wp2
  exact bodyPost_ret (v := .tuple #[.agg #[.int .i64 1, .int .i64 (wrap64 (x - y)), .int .u64 0], .int .i64 0]) (by simp [results, Try.results39, go_sem, c0, c1, c2]) rfl ⟨rfl, by repeat (first | exact hb | exact Below.refl _ _ | refine below_set ?_ _ _ | refine below_alloc ?_ _)⟩
theorem ints_mul (op : ByteArray) (x y : Int) (w : World) (h : op.toList = [42]) : Calls Try.prog 39 #[.string op, .int .i64 x, .int .i64 y] w (Ret w (okR (intA (wrap64 (x * y))))) := by
  go_enter Try.func39, Try.ntmps39
  go_wp2_with fail
  refine (valInt_any _ _).mono ?_
  rintro e w1 ⟨rfl, hb⟩
  obtain ⟨c0, c1, c2, f0, f1, f2, hz⟩ := res3 hb
  replace hb := below_next (below_alloc (Below.refl w.heap.size w) _) hb
  go_wp2
  exact bodyPost_ret (v := .tuple #[.agg #[.int .i64 1, .int .i64 (wrap64 (x * y)), .int .u64 0], .int .i64 0]) (by simp [results, Try.results39, go_sem, c0, c1, c2]) rfl ⟨rfl, by repeat (first | exact hb | exact Below.refl _ _ | refine below_set ?_ _ _ | refine below_alloc ?_ _)⟩
theorem ints_quo (op : ByteArray) (x y : Int) (w : World) (h : op.toList = [47]) (hy : (y == 0) = false) (hy2 : ¬ y = 0) : Calls Try.prog 39 #[.string op, .int .i64 x, .int .i64 y] w (Ret w (okR (intA (wrap64 (x.tdiv y))))) := by
  go_enter Try.func39, Try.ntmps39
  go_wp2_with fail
  refine (valInt_any _ _).mono ?_
  rintro e w1 ⟨rfl, hb⟩
  obtain ⟨c0, c1, c2, f0, f1, f2, hz⟩ := res3 hb
  replace hb := below_next (below_alloc (Below.refl w.heap.size w) _) hb
  go_wp2
  exact bodyPost_ret (v := .tuple #[.agg #[.int .i64 1, .int .i64 (wrap64 (x.tdiv y)), .int .u64 0], .int .i64 0]) (by simp [results, Try.results39, go_sem, c0, c1, c2]) rfl ⟨rfl, by repeat (first | exact hb | exact Below.refl _ _ | refine below_set ?_ _ _ | refine below_alloc ?_ _)⟩
theorem ints_rem (op : ByteArray) (x y : Int) (w : World) (h : op.toList = [37]) (hy : (y == 0) = false) (hy2 : ¬ y = 0) : Calls Try.prog 39 #[.string op, .int .i64 x, .int .i64 y] w (Ret w (okR (intA (x.tmod y)))) := by
  go_enter Try.func39, Try.ntmps39
  go_wp2_with fail
  refine (valInt_any _ _).mono ?_
  rintro e w1 ⟨rfl, hb⟩
  obtain ⟨c0, c1, c2, f0, f1, f2, hz⟩ := res3 hb
  replace hb := below_next (below_alloc (Below.refl w.heap.size w) _) hb
  go_wp2
  exact bodyPost_ret (v := .tuple #[.agg #[.int .i64 1, .int .i64 (x.tmod y), .int .u64 0], .int .i64 0]) (by simp [results, Try.results39, go_sem, c0, c1, c2]) rfl ⟨rfl, by repeat (first | exact hb | exact Below.refl _ _ | refine below_set ?_ _ _ | refine below_alloc ?_ _)⟩
theorem ints_quo0 (op : ByteArray) (x y : Int) (w : World) (h : op.toList = [47]) (hy : (y == 0) = true) : Calls Try.prog 39 #[.string op, .int .i64 x, .int .i64 y] w (Ret w (badR 1)) := by
  go_enter Try.func39, Try.ntmps39
  go_wp2_with fail
  exact bodyPost_ret (v := .tuple #[.agg #[.int .i64 0, .int .i64 0, .int .u64 0], .int .i64 1]) (by simp [results, Try.results39, go_sem]) rfl ⟨rfl, by repeat (first | exact hb | exact Below.refl _ _ | refine below_set ?_ _ _ | refine below_alloc ?_ _)⟩
theorem ints_rem0 (op : ByteArray) (x y : Int) (w : World) (h : op.toList = [37]) (hy : (y == 0) = true) : Calls Try.prog 39 #[.string op, .int .i64 x, .int .i64 y] w (Ret w (badR 1)) := by
  go_enter Try.func39, Try.ntmps39
  go_wp2_with fail
  exact bodyPost_ret (v := .tuple #[.agg #[.int .i64 0, .int .i64 0, .int .u64 0], .int .i64 1]) (by simp [results, Try.results39, go_sem]) rfl ⟨rfl, by repeat (first | exact hb | exact Below.refl _ _ | refine below_set ?_ _ _ | refine below_alloc ?_ _)⟩
theorem ints_other (op : ByteArray) (x y : Int) (w : World) (h0 : (op.toList == [43]) = false) (h1 : (op.toList == [45]) = false) (h2 : (op.toList == [42]) = false) (h3 : (op.toList == [47]) = false) (h4 : (op.toList == [37]) = false) : Calls Try.prog 39 #[.string op, .int .i64 x, .int .i64 y] w (Ret w (badR (-1))) := by
  go_enter Try.func39, Try.ntmps39
  go_wp2_with fail
  exact bodyPost_ret (v := .tuple #[.agg #[.int .i64 0, .int .i64 0, .int .u64 0], .int .i64 (-1)]) (by simp [results, Try.results39, go_sem]) rfl ⟨rfl, by repeat (first | exact hb | exact Below.refl _ _ | refine below_set ?_ _ _ | refine below_alloc ?_ _)⟩
theorem ints_any (op : ByteArray) (x y : Int) (w : World) : Calls Try.prog 39 #[.string op, .int .i64 x, .int .i64 y] w (Ret w (intsR op.toList x y)) := by
  unfold intsR
  by_cases h0 : op.toList = [43]
  · rw [if_pos h0]; exact ints_add op x y w h0
  rw [if_neg h0]
  by_cases h1 : op.toList = [45]
  · rw [if_pos h1]; exact ints_sub op x y w h1
  rw [if_neg h1]
  by_cases h2 : op.toList = [42]
  · rw [if_pos h2]; exact ints_mul op x y w h2
  rw [if_neg h2]
  by_cases h3 : op.toList = [47]
  · rw [if_pos h3]
    by_cases hy : y = 0
    · rw [if_pos hy]; exact ints_quo0 op x y w h3 (by simpa using hy)
    · rw [if_neg hy]; exact ints_quo op x y w h3 (by simpa using hy) hy
  rw [if_neg h3]
  by_cases h4 : op.toList = [37]
  · rw [if_pos h4]
    by_cases hy : y = 0
    · rw [if_pos hy]; exact ints_rem0 op x y w h4 (by simpa using hy)
    · rw [if_neg hy]; exact ints_rem op x y w h4 (by simpa using hy) hy
  rw [if_neg h4]
  exact ints_other op x y w (beq_eq_false_iff_ne.2 h0) (beq_eq_false_iff_ne.2 h1) (beq_eq_false_iff_ne.2 h2) (beq_eq_false_iff_ne.2 h3) (beq_eq_false_iff_ne.2 h4)

theorem floats_add (op : ByteArray) (x y : Nat) (w : World) (h : op.toList = [43]) : Calls Try.prog 41 #[.string op, .float .f64 x, .float .f64 y] w (Ret w (okR (fltV (cameO (FloatKind.f64.format.add x y))))) := by
  cases hr : FloatKind.f64.format.add x y with
  | some r =>
    have hrun := run_some (P := Try.prog) .add 34 x y r (Or.inl ⟨rfl, hr⟩)
    have E : Ret w (okR (fltV (cameO (some r)))) = Ret w (okR (fltV (cameB r))) := rfl
    rw [E]
    clear E hr
    go_enter Try.func41, Try.ntmps41
    go_wp2_with fail
    refine (came_any _ _).mono ?_
    rintro e w1 ⟨rfl, hb⟩
    obtain ⟨c0, c1, c2, f0, f1, f2, hz⟩ := res3 hb
    replace hb := below_next (below_alloc (Below.refl w.heap.size w) _) hb
    go_wp2
    exact bodyPost_ret (v := .tuple #[.agg #[.int .i64 2, .int .i64 0, .int .u64 (cameB r : Nat)], .int .i64 0]) (by simp [results, Try.results41, go_sem, c0, c1, c2]) rfl ⟨rfl, by repeat (first | exact hb | exact Below.refl _ _ | refine below_set ?_ _ _ | refine below_alloc ?_ _)⟩
  | none =>
    have hrun := run_nan (P := Try.prog) .add 34 x y (Or.inl ⟨rfl, hr⟩)
    clear hr
    go_enter Try.func41, Try.ntmps41
    go_wp2_with fail
    refine (came_nan _ _ (nanB_pick _ _ _)).mono ?_
    rintro e w1 ⟨rfl, hb⟩
    obtain ⟨c0, c1, c2, f0, f1, f2, hz⟩ := res3d hb.dropDraw
    replace hb := below_next (below_alloc (Below.refl w.heap.size w) _).drew hb
    go_wp2
    exact bodyPost_ret (v := .tuple #[.agg #[.int .i64 2, .int .i64 0, .int .u64 9221120237041090561], .int .i64 0]) (by simp [results, Try.results41, go_sem, c0, c1, c2]) rfl ⟨rfl, by repeat (first | exact hb | exact Below.refl _ _ | refine below_set ?_ _ _ | refine below_alloc ?_ _)⟩

theorem floats_sub (op : ByteArray) (x y : Nat) (w : World) (h : op.toList = [45]) : Calls Try.prog 41 #[.string op, .float .f64 x, .float .f64 y] w (Ret w (okR (fltV (cameO (FloatKind.f64.format.sub x y))))) := by
  cases hr : FloatKind.f64.format.sub x y with
  | some r =>
    have hrun := run_some (P := Try.prog) .sub 34 x y r (Or.inr (Or.inl ⟨rfl, hr⟩))
    have E : Ret w (okR (fltV (cameO (some r)))) = Ret w (okR (fltV (cameB r))) := rfl
    rw [E]
    clear E hr
    go_enter Try.func41, Try.ntmps41
    go_wp2_with fail
    refine (came_any _ _).mono ?_
    rintro e w1 ⟨rfl, hb⟩
    obtain ⟨c0, c1, c2, f0, f1, f2, hz⟩ := res3 hb
    replace hb := below_next (below_alloc (Below.refl w.heap.size w) _) hb
    go_wp2
    exact bodyPost_ret (v := .tuple #[.agg #[.int .i64 2, .int .i64 0, .int .u64 (cameB r : Nat)], .int .i64 0]) (by simp [results, Try.results41, go_sem, c0, c1, c2]) rfl ⟨rfl, by repeat (first | exact hb | exact Below.refl _ _ | refine below_set ?_ _ _ | refine below_alloc ?_ _)⟩
  | none =>
    have hrun := run_nan (P := Try.prog) .sub 34 x y (Or.inr (Or.inl ⟨rfl, hr⟩))
    clear hr
    go_enter Try.func41, Try.ntmps41
    go_wp2_with fail
    refine (came_nan _ _ (nanB_pick _ _ _)).mono ?_
    rintro e w1 ⟨rfl, hb⟩
    obtain ⟨c0, c1, c2, f0, f1, f2, hz⟩ := res3d hb.dropDraw
    replace hb := below_next (below_alloc (Below.refl w.heap.size w) _).drew hb
    go_wp2
    exact bodyPost_ret (v := .tuple #[.agg #[.int .i64 2, .int .i64 0, .int .u64 9221120237041090561], .int .i64 0]) (by simp [results, Try.results41, go_sem, c0, c1, c2]) rfl ⟨rfl, by repeat (first | exact hb | exact Below.refl _ _ | refine below_set ?_ _ _ | refine below_alloc ?_ _)⟩

theorem floats_mul (op : ByteArray) (x y : Nat) (w : World) (h : op.toList = [42]) : Calls Try.prog 41 #[.string op, .float .f64 x, .float .f64 y] w (Ret w (okR (fltV (cameO (FloatKind.f64.format.mul x y))))) := by
  cases hr : FloatKind.f64.format.mul x y with
  | some r =>
    have hrun := run_some (P := Try.prog) .mul 34 x y r (Or.inr (Or.inr (Or.inl ⟨rfl, hr⟩)))
    have E : Ret w (okR (fltV (cameO (some r)))) = Ret w (okR (fltV (cameB r))) := rfl
    rw [E]
    clear E hr
    go_enter Try.func41, Try.ntmps41
    go_wp2_with fail
    refine (came_any _ _).mono ?_
    rintro e w1 ⟨rfl, hb⟩
    obtain ⟨c0, c1, c2, f0, f1, f2, hz⟩ := res3 hb
    replace hb := below_next (below_alloc (Below.refl w.heap.size w) _) hb
    go_wp2
    exact bodyPost_ret (v := .tuple #[.agg #[.int .i64 2, .int .i64 0, .int .u64 (cameB r : Nat)], .int .i64 0]) (by simp [results, Try.results41, go_sem, c0, c1, c2]) rfl ⟨rfl, by repeat (first | exact hb | exact Below.refl _ _ | refine below_set ?_ _ _ | refine below_alloc ?_ _)⟩
  | none =>
    have hrun := run_nan (P := Try.prog) .mul 34 x y (Or.inr (Or.inr (Or.inl ⟨rfl, hr⟩)))
    clear hr
    go_enter Try.func41, Try.ntmps41
    go_wp2_with fail
    refine (came_nan _ _ (nanB_pick _ _ _)).mono ?_
    rintro e w1 ⟨rfl, hb⟩
    obtain ⟨c0, c1, c2, f0, f1, f2, hz⟩ := res3d hb.dropDraw
    replace hb := below_next (below_alloc (Below.refl w.heap.size w) _).drew hb
    go_wp2
    exact bodyPost_ret (v := .tuple #[.agg #[.int .i64 2, .int .i64 0, .int .u64 9221120237041090561], .int .i64 0]) (by simp [results, Try.results41, go_sem, c0, c1, c2]) rfl ⟨rfl, by repeat (first | exact hb | exact Below.refl _ _ | refine below_set ?_ _ _ | refine below_alloc ?_ _)⟩

theorem floats_div (op : ByteArray) (x y : Nat) (w : World) (h : op.toList = [47]) : Calls Try.prog 41 #[.string op, .float .f64 x, .float .f64 y] w (Ret w (okR (fltV (cameO (FloatKind.f64.format.div x y))))) := by
  cases hr : FloatKind.f64.format.div x y with
  | some r =>
    have hrun := run_some (P := Try.prog) .quo 34 x y r (Or.inr (Or.inr (Or.inr ⟨rfl, hr⟩)))
    have E : Ret w (okR (fltV (cameO (some r)))) = Ret w (okR (fltV (cameB r))) := rfl
    rw [E]
    clear E hr
    go_enter Try.func41, Try.ntmps41
    go_wp2_with fail
    refine (came_any _ _).mono ?_
    rintro e w1 ⟨rfl, hb⟩
    obtain ⟨c0, c1, c2, f0, f1, f2, hz⟩ := res3 hb
    replace hb := below_next (below_alloc (Below.refl w.heap.size w) _) hb
    go_wp2
    exact bodyPost_ret (v := .tuple #[.agg #[.int .i64 2, .int .i64 0, .int .u64 (cameB r : Nat)], .int .i64 0]) (by simp [results, Try.results41, go_sem, c0, c1, c2]) rfl ⟨rfl, by repeat (first | exact hb | exact Below.refl _ _ | refine below_set ?_ _ _ | refine below_alloc ?_ _)⟩
  | none =>
    have hrun := run_nan (P := Try.prog) .quo 34 x y (Or.inr (Or.inr (Or.inr ⟨rfl, hr⟩)))
    clear hr
    go_enter Try.func41, Try.ntmps41
    go_wp2_with fail
    refine (came_nan _ _ (nanB_pick _ _ _)).mono ?_
    rintro e w1 ⟨rfl, hb⟩
    obtain ⟨c0, c1, c2, f0, f1, f2, hz⟩ := res3d hb.dropDraw
    replace hb := below_next (below_alloc (Below.refl w.heap.size w) _).drew hb
    go_wp2
    exact bodyPost_ret (v := .tuple #[.agg #[.int .i64 2, .int .i64 0, .int .u64 9221120237041090561], .int .i64 0]) (by simp [results, Try.results41, go_sem, c0, c1, c2]) rfl ⟨rfl, by repeat (first | exact hb | exact Below.refl _ _ | refine below_set ?_ _ _ | refine below_alloc ?_ _)⟩

theorem floats_other (op : ByteArray) (x y : Nat) (w : World) (h0 : (op.toList == [43]) = false) (h1 : (op.toList == [45]) = false) (h2 : (op.toList == [42]) = false) (h3 : (op.toList == [47]) = false) : Calls Try.prog 41 #[.string op, .float .f64 x, .float .f64 y] w (Ret w (badR (-1))) := by
  go_enter Try.func41, Try.ntmps41
  go_wp2_with fail
  exact bodyPost_ret (v := .tuple #[.agg #[.int .i64 0, .int .i64 0, .int .u64 0], .int .i64 (-1)]) (by simp [results, Try.results41, go_sem]) rfl ⟨rfl, by repeat (first | exact hb | exact Below.refl _ _ | refine below_set ?_ _ _ | refine below_alloc ?_ _)⟩
theorem floats_any (op : ByteArray) (x y : Nat) (w : World) : Calls Try.prog 41 #[.string op, .float .f64 x, .float .f64 y] w (Ret w (floatsR op.toList x y)) := by
  unfold floatsR
  by_cases h0 : op.toList = [43]
  · rw [if_pos h0]; exact floats_add op x y w h0
  rw [if_neg h0]
  by_cases h1 : op.toList = [45]
  · rw [if_pos h1]; exact floats_sub op x y w h1
  rw [if_neg h1]
  by_cases h2 : op.toList = [42]
  · rw [if_pos h2]; exact floats_mul op x y w h2
  rw [if_neg h2]
  by_cases h3 : op.toList = [47]
  · rw [if_pos h3]; exact floats_div op x y w h3
  rw [if_neg h3]
  exact floats_other op x y w (beq_eq_false_iff_ne.2 h0) (beq_eq_false_iff_ne.2 h1) (beq_eq_false_iff_ne.2 h2) (beq_eq_false_iff_ne.2 h3)

theorem bools_and (op : ByteArray) (x y : Bool) (w : World) (h : op.toList = [38, 38]) : Calls Try.prog 42 #[.string op, .bool x, .bool y] w (Ret w (okR (boolA (x && y)))) := by
  cases x <;> cases y
  all_goals
    go_enter Try.func42, Try.ntmps42
    go_wp2_with fail
    refine (valBool_any _ _).mono ?_
    rintro e w1 ⟨rfl, hb⟩
    obtain ⟨c0, c1, c2, f0, f1, f2, hz⟩ := res3 hb
    replace hb := below_next (below_alloc (Below.refl w.heap.size w) _) hb
    go_wp2
  · exact bodyPost_ret (v := .tuple #[.agg #[.int .i64 3, .int .i64 (b2i (false && false)), .int .u64 0], .int .i64 0]) (by simp [results, Try.results42, go_sem, c0, c1, c2]) rfl ⟨rfl, by repeat (first | exact hb | exact Below.refl _ _ | refine below_set ?_ _ _ | refine below_alloc ?_ _)⟩
  · exact bodyPost_ret (v := .tuple #[.agg #[.int .i64 3, .int .i64 (b2i (false && true)), .int .u64 0], .int .i64 0]) (by simp [results, Try.results42, go_sem, c0, c1, c2]) rfl ⟨rfl, by repeat (first | exact hb | exact Below.refl _ _ | refine below_set ?_ _ _ | refine below_alloc ?_ _)⟩
  · exact bodyPost_ret (v := .tuple #[.agg #[.int .i64 3, .int .i64 (b2i (true && false)), .int .u64 0], .int .i64 0]) (by simp [results, Try.results42, go_sem, c0, c1, c2]) rfl ⟨rfl, by repeat (first | exact hb | exact Below.refl _ _ | refine below_set ?_ _ _ | refine below_alloc ?_ _)⟩
  · exact bodyPost_ret (v := .tuple #[.agg #[.int .i64 3, .int .i64 (b2i (true && true)), .int .u64 0], .int .i64 0]) (by simp [results, Try.results42, go_sem, c0, c1, c2]) rfl ⟨rfl, by repeat (first | exact hb | exact Below.refl _ _ | refine below_set ?_ _ _ | refine below_alloc ?_ _)⟩

theorem bools_or (op : ByteArray) (x y : Bool) (w : World) (h : op.toList = [124, 124]) : Calls Try.prog 42 #[.string op, .bool x, .bool y] w (Ret w (okR (boolA (x || y)))) := by
  cases x <;> cases y
  all_goals
    go_enter Try.func42, Try.ntmps42
    go_wp2_with fail
    refine (valBool_any _ _).mono ?_
    rintro e w1 ⟨rfl, hb⟩
    obtain ⟨c0, c1, c2, f0, f1, f2, hz⟩ := res3 hb
    replace hb := below_next (below_alloc (Below.refl w.heap.size w) _) hb
    go_wp2
  · exact bodyPost_ret (v := .tuple #[.agg #[.int .i64 3, .int .i64 (b2i (false || false)), .int .u64 0], .int .i64 0]) (by simp [results, Try.results42, go_sem, c0, c1, c2]) rfl ⟨rfl, by repeat (first | exact hb | exact Below.refl _ _ | refine below_set ?_ _ _ | refine below_alloc ?_ _)⟩
  · exact bodyPost_ret (v := .tuple #[.agg #[.int .i64 3, .int .i64 (b2i (false || true)), .int .u64 0], .int .i64 0]) (by simp [results, Try.results42, go_sem, c0, c1, c2]) rfl ⟨rfl, by repeat (first | exact hb | exact Below.refl _ _ | refine below_set ?_ _ _ | refine below_alloc ?_ _)⟩
  · exact bodyPost_ret (v := .tuple #[.agg #[.int .i64 3, .int .i64 (b2i (true || false)), .int .u64 0], .int .i64 0]) (by simp [results, Try.results42, go_sem, c0, c1, c2]) rfl ⟨rfl, by repeat (first | exact hb | exact Below.refl _ _ | refine below_set ?_ _ _ | refine below_alloc ?_ _)⟩
  · exact bodyPost_ret (v := .tuple #[.agg #[.int .i64 3, .int .i64 (b2i (true || true)), .int .u64 0], .int .i64 0]) (by simp [results, Try.results42, go_sem, c0, c1, c2]) rfl ⟨rfl, by repeat (first | exact hb | exact Below.refl _ _ | refine below_set ?_ _ _ | refine below_alloc ?_ _)⟩

theorem bools_eq (op : ByteArray) (x y : Bool) (w : World) (h : op.toList = [61, 61]) : Calls Try.prog 42 #[.string op, .bool x, .bool y] w (Ret w (okR (boolA (x == y)))) := by
  cases x <;> cases y
  all_goals
    go_enter Try.func42, Try.ntmps42
    go_wp2_with fail
    refine (valBool_any _ _).mono ?_
    rintro e w1 ⟨rfl, hb⟩
    obtain ⟨c0, c1, c2, f0, f1, f2, hz⟩ := res3 hb
    replace hb := below_next (below_alloc (Below.refl w.heap.size w) _) hb
    go_wp2
  · exact bodyPost_ret (v := .tuple #[.agg #[.int .i64 3, .int .i64 (b2i (false == false)), .int .u64 0], .int .i64 0]) (by simp [results, Try.results42, go_sem, c0, c1, c2]) rfl ⟨rfl, by repeat (first | exact hb | exact Below.refl _ _ | refine below_set ?_ _ _ | refine below_alloc ?_ _)⟩
  · exact bodyPost_ret (v := .tuple #[.agg #[.int .i64 3, .int .i64 (b2i (false == true)), .int .u64 0], .int .i64 0]) (by simp [results, Try.results42, go_sem, c0, c1, c2]) rfl ⟨rfl, by repeat (first | exact hb | exact Below.refl _ _ | refine below_set ?_ _ _ | refine below_alloc ?_ _)⟩
  · exact bodyPost_ret (v := .tuple #[.agg #[.int .i64 3, .int .i64 (b2i (true == false)), .int .u64 0], .int .i64 0]) (by simp [results, Try.results42, go_sem, c0, c1, c2]) rfl ⟨rfl, by repeat (first | exact hb | exact Below.refl _ _ | refine below_set ?_ _ _ | refine below_alloc ?_ _)⟩
  · exact bodyPost_ret (v := .tuple #[.agg #[.int .i64 3, .int .i64 (b2i (true == true)), .int .u64 0], .int .i64 0]) (by simp [results, Try.results42, go_sem, c0, c1, c2]) rfl ⟨rfl, by repeat (first | exact hb | exact Below.refl _ _ | refine below_set ?_ _ _ | refine below_alloc ?_ _)⟩

theorem bools_ne (op : ByteArray) (x y : Bool) (w : World) (h : op.toList = [33, 61]) : Calls Try.prog 42 #[.string op, .bool x, .bool y] w (Ret w (okR (boolA (x != y)))) := by
  cases x <;> cases y
  all_goals
    go_enter Try.func42, Try.ntmps42
    go_wp2_with fail
    refine (valBool_any _ _).mono ?_
    rintro e w1 ⟨rfl, hb⟩
    obtain ⟨c0, c1, c2, f0, f1, f2, hz⟩ := res3 hb
    replace hb := below_next (below_alloc (Below.refl w.heap.size w) _) hb
    go_wp2
  · exact bodyPost_ret (v := .tuple #[.agg #[.int .i64 3, .int .i64 (b2i (false != false)), .int .u64 0], .int .i64 0]) (by simp [results, Try.results42, go_sem, c0, c1, c2]) rfl ⟨rfl, by repeat (first | exact hb | exact Below.refl _ _ | refine below_set ?_ _ _ | refine below_alloc ?_ _)⟩
  · exact bodyPost_ret (v := .tuple #[.agg #[.int .i64 3, .int .i64 (b2i (false != true)), .int .u64 0], .int .i64 0]) (by simp [results, Try.results42, go_sem, c0, c1, c2]) rfl ⟨rfl, by repeat (first | exact hb | exact Below.refl _ _ | refine below_set ?_ _ _ | refine below_alloc ?_ _)⟩
  · exact bodyPost_ret (v := .tuple #[.agg #[.int .i64 3, .int .i64 (b2i (true != false)), .int .u64 0], .int .i64 0]) (by simp [results, Try.results42, go_sem, c0, c1, c2]) rfl ⟨rfl, by repeat (first | exact hb | exact Below.refl _ _ | refine below_set ?_ _ _ | refine below_alloc ?_ _)⟩
  · exact bodyPost_ret (v := .tuple #[.agg #[.int .i64 3, .int .i64 (b2i (true != true)), .int .u64 0], .int .i64 0]) (by simp [results, Try.results42, go_sem, c0, c1, c2]) rfl ⟨rfl, by repeat (first | exact hb | exact Below.refl _ _ | refine below_set ?_ _ _ | refine below_alloc ?_ _)⟩

theorem bools_other (op : ByteArray) (x y : Bool) (w : World) (h0 : (op.toList == [38, 38]) = false) (h1 : (op.toList == [124, 124]) = false) (h2 : (op.toList == [61, 61]) = false) (h3 : (op.toList == [33, 61]) = false) : Calls Try.prog 42 #[.string op, .bool x, .bool y] w (Ret w (badR (-1))) := by
  go_enter Try.func42, Try.ntmps42
  go_wp2_with fail
  exact bodyPost_ret (v := .tuple #[.agg #[.int .i64 0, .int .i64 0, .int .u64 0], .int .i64 (-1)]) (by simp [results, Try.results42, go_sem]) rfl ⟨rfl, by repeat (first | exact hb | exact Below.refl _ _ | refine below_set ?_ _ _ | refine below_alloc ?_ _)⟩
theorem bools_any (op : ByteArray) (x y : Bool) (w : World) : Calls Try.prog 42 #[.string op, .bool x, .bool y] w (Ret w (boolsR op.toList x y)) := by
  unfold boolsR
  by_cases h0 : op.toList = [38, 38]
  · rw [if_pos h0]; exact bools_and op x y w h0
  rw [if_neg h0]
  by_cases h1 : op.toList = [124, 124]
  · rw [if_pos h1]; exact bools_or op x y w h1
  rw [if_neg h1]
  by_cases h2 : op.toList = [61, 61]
  · rw [if_pos h2]; exact bools_eq op x y w h2
  rw [if_neg h2]
  by_cases h3 : op.toList = [33, 61]
  · rw [if_pos h3]; exact bools_ne op x y w h3
  rw [if_neg h3]
  exact bools_other op x y w (beq_eq_false_iff_ne.2 h0) (beq_eq_false_iff_ne.2 h1) (beq_eq_false_iff_ne.2 h2) (beq_eq_false_iff_ne.2 h3)
end Go.Proofs.Ytdeabmijoaepcaa
