/-
  The walks of package value's small functions.
-/
import Derived.Test.YtdeabmijoaepcaaProg
import Derived.Test.YtdeabmijoaepcaaRet
namespace Go.Proofs.Ytdeabmijoaepcaa
open Go.RowKit Go.Stk

theorem valInt_any (n : Int) (w : World) : Calls Try.prog 17 #[.int .i64 n] w (Ret w (.agg #[.int .i64 1, .int .i64 n, .int .u64 0])) := by
  go_enter Try.func17, Try.ntmps17
  go_wp2
  exact bodyPost_ret (v := .agg #[.int .i64 1, .int .i64 n, .int .u64 0]) (by simp [results, Try.results17, go_sem]) rfl ⟨rfl, (Below.refl _ _).alloc (Nat.le_refl _) _⟩

theorem valZero_any (t : Int) (w : World) : Calls Try.prog 26 #[.int .i64 t] w (Ret w (zeroOf t).agg) := by
  by_cases h : t < 1
  · have e : (zeroOf t).agg = .agg #[.int .i64 0, .int .i64 0, .int .u64 0] := by simp [zeroOf, h, Val.agg]
    rw [e]
    clear e
    go_enter Try.func26, Try.ntmps26
    go_wp2
    exact bodyPost_ret (v := .agg #[.int .i64 0, .int .i64 0, .int .u64 0]) (by simp [results, Try.results26, go_sem]) rfl ⟨rfl, (Below.refl _ _).alloc (Nat.le_refl _) _⟩
  · by_cases h2 : 3 < t
    · have e : (zeroOf t).agg = .agg #[.int .i64 0, .int .i64 0, .int .u64 0] := by simp [zeroOf, h2, Val.agg]
      rw [e]
      clear e
      go_enter Try.func26, Try.ntmps26
      go_wp2
      exact bodyPost_ret (v := .agg #[.int .i64 0, .int .i64 0, .int .u64 0]) (by simp [results, Try.results26, go_sem]) rfl ⟨rfl, (Below.refl _ _).alloc (Nat.le_refl _) _⟩
    · have e : (zeroOf t).agg = .agg #[.int .i64 t, .int .i64 0, .int .u64 0] := by simp [zeroOf, h, h2, Val.agg]
      rw [e]
      clear e
      go_enter Try.func26, Try.ntmps26
      go_wp2
      exact bodyPost_ret (v := .agg #[.int .i64 t, .int .i64 0, .int .u64 0]) (by simp [results, Try.results26, go_sem]) rfl ⟨rfl, (Below.refl _ _).alloc (Nat.le_refl _) _⟩

theorem valGood_any (t n b : Int) (w : World) : Calls Try.prog 24 #[.agg #[.int .i64 t, .int .i64 n, .int .u64 b]] w (Ret w (.bool (Val.good ⟨t, n, b⟩))) := by
  have fin : ∀ (x : Bool) (W : World), Val.good ⟨t, n, b⟩ = x → Below w.heap.size w W → Ret w (.bool (Val.good ⟨t, n, b⟩)) (.returned (.bool x)) W := fun x W h hb => ⟨by rw [h], hb⟩
  have F := Lib.hid fin
  clear fin
  by_cases h1 : t = 1
  · subst h1
    go_enter Try.func24, Try.ntmps24
    go_wp2
    all_goals go_ret
    all_goals exact F.out _ _ (by simp_all [Val.good]) ((Below.refl _ _).alloc (Nat.le_refl _) _)
  · have k1 : (t == 1) = false := by simpa using h1
    by_cases h2 : t = 2
    · subst h2
      clear k1 h1
      go_enter Try.func24, Try.ntmps24
      go_wp2
      all_goals go_ret
      all_goals exact F.out _ _ (by simp_all [Val.good]) ((Below.refl _ _).alloc (Nat.le_refl _) _)
    · have k2 : (t == 2) = false := by simpa using h2
      by_cases h3 : t = 3
      · subst h3
        clear k1 k2 h1 h2
        by_cases hb : b = 0
        · subst hb
          by_cases hn : n = 0
          · subst hn
            go_enter Try.func24, Try.ntmps24
            go_wp2
            go_ret
            exact F.out _ _ (by simp [Val.good]) ((Below.refl _ _).alloc (Nat.le_refl _) _)
          · have kn : (n == 0) = false := by simpa using hn
            go_enter Try.func24, Try.ntmps24
            go_wp2
            go_ret
            exact F.out _ _ (by simp [Val.good, hn]) ((Below.refl _ _).alloc (Nat.le_refl _) _)
        · have kb : (b == 0) = false := by simpa using hb
          go_enter Try.func24, Try.ntmps24
          go_wp2
          go_ret
          exact F.out _ _ (by simp [Val.good, hb]) ((Below.refl _ _).alloc (Nat.le_refl _) _)
      · have k3 : (t == 3) = false := by simpa using h3
        have e : Val.good ⟨t, n, b⟩ = false := by simp [Val.good, h1, h2, h3]
        have E := Lib.hid e
        clear e h1 h2 h3
        go_enter Try.func24, Try.ntmps24
        go_wp2
        go_ret
        exact F.out _ _ E.out ((Below.refl _ _).alloc (Nat.le_refl _) _)
end Go.Proofs.Ytdeabmijoaepcaa
