/-
  The walks of the document's answers for values: the small functions.
-/
import Derived.Test.YtdeabmijoaepcaaMinus
namespace Go.Proofs.Ytdeabmijoaepcaa
open Go.RowKit Go.Stk

theorem refNumber_any (n : Int) (w : World) : Calls Try.prog 34 #[.int .i64 n] w (Ret w (.agg #[.int .i64 1, .int .i64 n, .int .u64 0])) := by
  go_enter Try.func34, Try.ntmps34
  go_wp2
  exact bodyPost_ret (v := .agg #[.int .i64 1, .int .i64 n, .int .u64 0]) (by simp [results, Try.results34, go_sem]) rfl ⟨rfl, (Below.refl _ _).alloc (Nat.le_refl _) _⟩
theorem refTruth_any (b : Bool) (w : World) : Calls Try.prog 36 #[.bool b] w (Ret w (.agg #[.int .i64 3, .int .i64 (b2i b), .int .u64 0])) := by
  cases b
  all_goals
    go_enter Try.func36, Try.ntmps36
    go_wp2
  · exact bodyPost_ret (v := .agg #[.int .i64 3, .int .i64 0, .int .u64 0]) (by simp [results, Try.results36, go_sem]) rfl ⟨rfl, (Below.refl _ _).alloc (Nat.le_refl _) _⟩
  · exact bodyPost_ret (v := .agg #[.int .i64 3, .int .i64 1, .int .u64 0]) (by simp [results, Try.results36, go_sem]) rfl ⟨rfl, (Below.refl _ _).alloc (Nat.le_refl _) _⟩
theorem refNaN_any (b : Nat) (w : World) : Calls Try.prog 21 #[.int .u64 b] w (fun e w' => e = .returned (.bool (nanB b)) ∧ w = w') := by
  go_enter Try.func21, Try.ntmps21
  go_wp2
  go_ret
  refine ⟨?_, rfl⟩
  rw [nanB_iff]
  have e : decide (18437736874454810624 < IntKind.u64.wrap ((b : Int) * 2)) = decide (9218868437227405312 < b % 9223372036854775808) := by
    rw [IntKind.wrap_u64]
    apply decide_eq_decide.2
    omega
  show Ending.returned (.bool (decide (18437736874454810624 < IntKind.u64.wrap ((b : Int) * 2)))) = _
  rw [e]
theorem refFloat_any (b : Nat) (w : World) : Calls Try.prog 35 #[.float .f64 b] w (Ret w (.agg #[.int .i64 2, .int .i64 0, .int .u64 (cameB b : Nat)])) := by
  cases hn : nanB b
  · have e : cameB b = b := by simp [cameB, hn]
    rw [e]
    have h1 := toBits_ext
    have h2 := run_toBits
    go_enter Try.func35, Try.ntmps35
    go_wp2_with fail
    have hj := refNaN_any b (w.alloc (.cells #[.int .i64 0, .int .i64 0, .int .u64 0] 24))
    rw [hn] at hj
    refine hj.mono ?_
    rintro e w' ⟨rfl, rfl⟩
    clear hj
    go_wp2
    exact bodyPost_ret (v := .agg #[.int .i64 2, .int .i64 0, .int .u64 b]) (by simp [results, Try.results35, go_sem]) rfl ⟨rfl, by repeat (first | exact Below.refl _ _ | refine below_set ?_ _ _ | refine below_alloc ?_ _)⟩
  · have e : ((cameB b : Nat) : Int) = 9221120237041090561 := by simp [cameB, hn]
    rw [e]
    clear e
    have h1 := toBits_ext
    have h2 := run_toBits
    go_enter Try.func35, Try.ntmps35
    go_wp2_with fail
    have hj := refNaN_any b (w.alloc (.cells #[.int .i64 0, .int .i64 0, .int .u64 0] 24))
    rw [hn] at hj
    refine hj.mono ?_
    rintro e w' ⟨rfl, rfl⟩
    clear hj
    go_wp2
    exact bodyPost_ret (v := .agg #[.int .i64 2, .int .i64 0, .int .u64 9221120237041090561]) (by simp [results, Try.results35, go_sem]) rfl ⟨rfl, by repeat (first | exact Below.refl _ _ | refine below_set ?_ _ _ | refine below_alloc ?_ _)⟩
theorem refForm_any (t n b : Int) (w : World) : Calls Try.prog 25 #[.agg #[.int .i64 t, .int .i64 n, .int .u64 b]] w (Ret w (.bool (Val.good ⟨t, n, b⟩))) := by
  have fin : ∀ (x : Bool) (W : World), Val.good ⟨t, n, b⟩ = x → Below w.heap.size w W → Ret w (.bool (Val.good ⟨t, n, b⟩)) (.returned (.bool x)) W := fun x W h hb => ⟨by rw [h], hb⟩
  have F := Lib.hid fin
  clear fin
  by_cases h1 : t = 1
  · subst h1
    cases hb : (b == 0)
    all_goals
      have E := Lib.hid hb
      go_enter Try.func25, Try.ntmps25
      go_wp2
      go_ret
      exact F.out _ _ (by have := E.out; simp_all [Val.good]) ((Below.refl _ _).alloc (Nat.le_refl _) _)
  · have k1 : (t == 1) = false := by simpa using h1
    by_cases h2 : t = 2
    · subst h2
      clear k1 h1
      cases hb : (n == 0)
      all_goals
        have E := Lib.hid hb
        go_enter Try.func25, Try.ntmps25
        go_wp2
        go_ret
        exact F.out _ _ (by have := E.out; simp_all [Val.good]) ((Below.refl _ _).alloc (Nat.le_refl _) _)
    · have k2 : (t == 2) = false := by simpa using h2
      by_cases h3 : t = 3
      · subst h3
        clear k1 k2 h1 h2
        cases hb : (b == 0)
        · have E := Lib.hid hb
          go_enter Try.func25, Try.ntmps25
          go_wp2
          go_ret
          exact F.out _ _ (by have := E.out; simp_all [Val.good]) ((Below.refl _ _).alloc (Nat.le_refl _) _)
        · have E := Lib.hid hb
          cases k0 : decide (0 ≤ n)
          · have E0 := Lib.hid k0
            go_enter Try.func25, Try.ntmps25
            go_wp2
            go_ret
            exact F.out _ _ (by have := E.out; have := E0.out; simp_all [Val.good]; omega) ((Below.refl _ _).alloc (Nat.le_refl _) _)
          · have E0 := Lib.hid k0
            cases k1 : decide (n ≤ 1)
            all_goals
              have E1 := Lib.hid k1
              go_enter Try.func25, Try.ntmps25
              go_wp2
              go_ret
              exact F.out _ _ (by have := E.out; have := E0.out; have := E1.out; simp_all [Val.good]; omega) ((Below.refl _ _).alloc (Nat.le_refl _) _)
      · have k3 : (t == 3) = false := by simpa using h3
        have e : Val.good ⟨t, n, b⟩ = false := by simp [Val.good, h1, h2, h3]
        have E := Lib.hid e
        clear e h1 h2 h3
        go_enter Try.func25, Try.ntmps25
        go_wp2
        go_ret
        exact F.out _ _ E.out ((Below.refl _ _).alloc (Nat.le_refl _) _)
end Go.Proofs.Ytdeabmijoaepcaa
