/-
  ValueMakes: which values are in form, and that those that are made are; their fields.
-/
import Derived.Test.YtdeabmijoaepcaaAlive
import Derived.Test.YtdeabmijoaepcaaHeld
import Derived.Test.YtdeabmijoaepcaaVal10
import Derived.Deep.RegionHeld3
import Derived.Deep.RegionHeld
import Derived.Deep.CutBlock
import Derived.Deep.DeepCutAuto
namespace Go.Proofs.Ytdeabmijoaepcaa
open Go.RowKit Go.Stk

theorem mForm_any (t n b : Int) (w : World) : Calls Try.prog 25 #[.agg #[.int .i64 t, .int .i64 n, .int .u64 b]] w (Ret w (.bool (Val.good ⟨t, n, b⟩))) := by
  have fin : ∀ (x : Bool) (W : World), Val.good ⟨t, n, b⟩ = x → Below w.heap.size w W → Ret w (.bool (Val.good ⟨t, n, b⟩)) (.returned (.bool x)) W := fun x W h hb => ⟨by rw [h], hb⟩
  have F := Lib.hid fin
  clear fin
  by_cases h1 : t = 1
  · subst h1
    cases hb : (b == 0)
    all_goals
      have E := Lib.hid hb
      go_enter Try.func25, Try.ntmps25
      go_wp2
      go_ret
      exact F.out _ _ (by have := E.out; simp_all [Val.good]) ((Below.refl _ _).alloc (Nat.le_refl _) _)
  · have k1 : (t == 1) = false := by simpa using h1
    by_cases h2 : t = 2
    · subst h2
      clear k1 h1
      cases hb : (n == 0)
      all_goals
        have E := Lib.hid hb
        go_enter Try.func25, Try.ntmps25
        go_wp2
        go_ret
        exact F.out _ _ (by have := E.out; simp_all [Val.good]) ((Below.refl _ _).alloc (Nat.le_refl _) _)
    · have k2 : (t == 2) = false := by simpa using h2
      by_cases h3 : t = 3
      · subst h3
        clear k1 k2 h1 h2
        cases hb : (b == 0)
        · have E := Lib.hid hb
          go_enter Try.func25, Try.ntmps25
          go_wp2
          go_ret
          exact F.out _ _ (by have := E.out; simp_all [Val.good]) ((Below.refl _ _).alloc (Nat.le_refl _) _)
        · have E := Lib.hid hb
          cases k0 : decide (0 ≤ n)
          · have E0 := Lib.hid k0
            go_enter Try.func25, Try.ntmps25
            go_wp2
            go_ret
            exact F.out _ _ (by have := E.out; have := E0.out; simp_all [Val.good]; omega) ((Below.refl _ _).alloc (Nat.le_refl _) _)
          · have E0 := Lib.hid k0
            cases k1 : decide (n ≤ 1)
            all_goals
              have E1 := Lib.hid k1
              go_enter Try.func25, Try.ntmps25
              go_wp2
              go_ret
              exact F.out _ _ (by have := E.out; have := E0.out; have := E1.out; simp_all [Val.good]; omega) ((Below.refl _ _).alloc (Nat.le_refl _) _)
      · have k3 : (t == 3) = false := by simpa using h3
        have e : Val.good ⟨t, n, b⟩ = false := by simp [Val.good, h1, h2, h3]
        have E := Lib.hid e
        clear e h1 h2 h3
        go_enter Try.func25, Try.ntmps25
        go_wp2
        go_ret
        exact F.out _ _ E.out ((Below.refl _ _).alloc (Nat.le_refl _) _)
theorem valZero_is (n : Int) (z : Val) (hz : zeroOf n = z) (w : World) : Calls Try.prog 26 #[.int .i64 n] w (Ret w (.agg #[.int .i64 z.t, .int .i64 z.n, .int .u64 z.b])) := by
  rw [← hz]
  exact valZero_any n w
theorem eq_val (t n b t' n' b' : Int) (w : World) : (binOp .eql 24 (.agg #[.int .i64 t, .int .i64 n, .int .u64 b]) (.agg #[.int .i64 t', .int .i64 n', .int .u64 b'])).run Try.prog w = .ok (.bool (t == t' && n == n' && b == b')) w := by
  rw [run_eql_struct]
  obtain ⟨d, hd⟩ : ∃ d, 10000 = d + 2 := ⟨9998, rfl⟩
  rw [hd]
  clear hd
  unfold Op.equalIn
  go_simp
  by_cases h1 : t = t' <;> by_cases h2 : n = n' <;> by_cases h3 : b = b' <;> simp [h1, h2, h3]
def eqV (v u : Val) : Bool := v.t == u.t && v.n == u.n && v.b == u.b
theorem valSame_any (v u : Val) (w : World) : Calls Try.prog 27 #[.agg #[.int .i64 v.t, .int .i64 v.n, .int .u64 v.b], .agg #[.int .i64 u.t, .int .i64 u.n, .int .u64 u.b]] w (Ret w (.bool (eqV v u))) := by
  have fin : ∀ (x : Bool) (W : World), eqV v u = x → Below w.heap.size w W → Ret w (.bool (eqV v u)) (.returned (.bool x)) W := fun x W h hb => ⟨by rw [h], hb⟩
  have F := Lib.hid fin
  clear fin
  go_enter Try.func27, Try.ntmps27
  go_wp2_with fail
  all_goals
    go_ret
    exact F.out _ _ (by simp_all [eqV]) (below_alloc (below_alloc (Below.refl _ _) _) _)

theorem ku_new {w W : World} (v : Val) (T : TypeId) (hb : Below w.heap.size w W) : Ku W.heap.size v w (W.alloc (.cells #[.int .i64 v.t, .int .i64 v.n, .int .u64 v.b] T)) := by
  have h0 : (W.alloc (.cells #[.int .i64 v.t, .int .i64 v.n, .int .u64 v.b] T)).heap[W.heap.size]? = some (.cells #[.int .i64 v.t, .int .i64 v.n, .int .u64 v.b] T (0, 0)) := by
    show (W.heap.push _)[W.heap.size]? = _
    simp only [Array.getElem?_push]; rw [if_pos trivial]
  exact ⟨by simp only [World.cell?, h0]; rfl, by simp only [World.cell?, h0]; rfl, by simp only [World.cell?, h0]; rfl, by simp, below_alloc hb _⟩
theorem ku_at {w W : World} {B : Nat} (v : Val) (T : TypeId) (hb : Below w.heap.size w W) (h : W.heap.size = B) : Ku B v w (W.alloc (.cells #[.int .i64 v.t, .int .i64 v.n, .int .u64 v.b] T)) := by subst h; exact ku_new v T hb
theorem ku_zero {w W : World} (T : TypeId) (hb : Below w.heap.size w W) : Ku W.heap.size ⟨0, 0, 0⟩ w (W.alloc (.cells #[.int .i64 0, .int .i64 0, .int .u64 0] T)) := ku_new ⟨0, 0, 0⟩ T hb
theorem zero_in {n : Int} (h1 : 1 ≤ n) (h2 : n ≤ 3) : zeroOf n = ⟨n, 0, 0⟩ := by unfold zeroOf; rw [if_neg (by omega)]
theorem zero_lo {n : Int} (h1 : n < 1) : zeroOf n = ⟨0, 0, 0⟩ := by unfold zeroOf; rw [if_pos (by omega)]
theorem zero_hi {n : Int} (h1 : 3 < n) : zeroOf n = ⟨0, 0, 0⟩ := by unfold zeroOf; rw [if_pos (by omega)]
/-- What lies in memory ahead of the law's last line. -/
structure MkR (w W : World) (v u z : Val) (b3 b4 b8 : Nat) : Prop where
  kv : Ku b3 v w W
  ku : Ku b4 u w W
  kz : Ku b8 z w W
theorem MkR.later {w W W' : World} {v u z : Val} {b3 b4 b8 : Nat} (h : MkR w W v u z b3 b4 b8) (hb : Below W.heap.size W W') : MkR w W' v u z b3 b4 b8 := ⟨h.kv.later hb, h.ku.later hb, h.kz.later hb⟩
theorem MkR.drew {w W : World} {v u z : Val} {b3 b4 b8 : Nat} (h : MkR w W v u z b3 b4 b8) : MkR w W.drew v u z b3 b4 b8 := h.later (Below.refl _ _).drew
theorem MkR.cells {w W : World} {v u z : Val} {b3 b4 b8 : Nat} (h : MkR w W v u z b3 b4 b8) : Hid (MkR w W v u z b3 b4 b8) ∧ W.cell? ⟨b3, 0, none⟩ = some (.int .i64 v.t) ∧ W.cell? ⟨b3, 1, none⟩ = some (.int .i64 v.n) ∧ W.cell? ⟨b3, 2, none⟩ = some (.int .u64 v.b) ∧ W.cell? ⟨b4, 0, none⟩ = some (.int .i64 u.t) ∧ W.cell? ⟨b4, 1, none⟩ = some (.int .i64 u.n) ∧ W.cell? ⟨b4, 2, none⟩ = some (.int .u64 u.b) ∧ W.cell? ⟨b8, 0, none⟩ = some (.int .i64 z.t) ∧ W.cell? ⟨b8, 1, none⟩ = some (.int .i64 z.n) ∧ W.cell? ⟨b8, 2, none⟩ = some (.int .u64 z.b) :=
  ⟨Lib.hid h, h.kv.a0, h.kv.a1, h.kv.a2, h.ku.a0, h.ku.a1, h.ku.a2, h.kz.a0, h.kz.a1, h.kz.a2⟩
attribute [local go_sem ↓] eq_val
set_option maxRecDepth 20000 in
set_option maxHeartbeats 0 in
theorem makes_law (v u : Val) (n bits : Int) (w : World) : Calls Try.prog 11 #[.agg #[.int .i64 v.t, .int .i64 v.n, .int .u64 v.b, .int .i64 u.t, .int .i64 u.n, .int .u64 u.b, .int .i64 n, .int .u64 bits]] w (Ret w (.bool true)) := by
  have hsz : w.heap.size < w.heap.size + 1 := Nat.lt_succ_self _
  go_enter Try.func11, Try.ntmps11
  go_upto_region 1 with fail
  go_cut [3, 4, 5, 6] (fun s3 s4 s5 s6 wx => ∃ b3 b4, s3 = .pointer (some ⟨b3, 0, none⟩) ∧ s4 = .pointer (some ⟨b4, 0, none⟩) ∧ s5 = .int .i64 n ∧ s6 = .int .u64 bits ∧ Hid (Ku b3 v w wx ∧ Ku b4 u w wx))
  case rest =>
    obtain ⟨b3, b4, rfl, rfl, rfl, rfl, HK⟩ := hcut
    go_wp2_with fail
    refine (alive_any _).mono ?_
    rintro e w2 ⟨rfl, hb2⟩
    replace HK := Lib.hid (And.intro (HK.out.1.later hb2) (HK.out.2.later hb2))
    clear hb2
    have h1 := fromBits_ext
    have h2 := run_fromBits
    go_upto_region 6 with fail
    clear h1 h2
    go_cut [27] (fun s27 wx => s27 = .bool (decide (1 ≤ n ∧ n ≤ 3)) ∧ wx = w2.alloc (.cells #[.int .i64 0, .int .i64 0, .int .u64 0] 24))
    case rest =>
      obtain ⟨rfl, rfl⟩ := hcut
      go_upto_if 27 with fail
      go_cut [8] (fun s8 wx => ∃ b8 z, s8 = .pointer (some ⟨b8, 0, none⟩) ∧ Hid (MkR w wx v u z b3 b4 b8 ∧ zeroOf n = z))
      case rest =>
        obtain ⟨b8, z, rfl, HM⟩ := hcut
        have HZ := Lib.hid HM.out.2
        have hkw := HM.out.1.cells
        have hk2 := HM.out.1.drew.cells
        have HS := Lib.hid (valSame_any v u)
        unfold eqV at HS
        have HX1 := toBits_ext
        have HX2 := run_toBits
        go_upto_region 8 with fail
        clear HM HK
        by_cases e1 : v.t = 3
        · rw [e1] at HS
          have HT : Hid (∀ w, Calls Try.prog 20 #[.agg #[.int .i64 3, .int .i64 v.n, .int .u64 v.b]] w (Ret w (.bool (v.n == 1)))) := Lib.hid (fun w => by have := valTrue_any 3 v.n v.b w; simpa using this)
          go_region_held (fun w' => Hid (MkR w w' v u z b3 b4 b8) ∧ w'.cell? ⟨b3, 0, none⟩ = some (.int .i64 v.t) ∧ w'.cell? ⟨b3, 1, none⟩ = some (.int .i64 v.n) ∧ w'.cell? ⟨b3, 2, none⟩ = some (.int .u64 v.b) ∧ w'.cell? ⟨b4, 0, none⟩ = some (.int .i64 u.t) ∧ w'.cell? ⟨b4, 1, none⟩ = some (.int .i64 u.n) ∧ w'.cell? ⟨b4, 2, none⟩ = some (.int .u64 u.b) ∧ w'.cell? ⟨b8, 0, none⟩ = some (.int .i64 z.t) ∧ w'.cell? ⟨b8, 1, none⟩ = some (.int .i64 z.n) ∧ w'.cell? ⟨b8, 2, none⟩ = some (.int .u64 z.b)) (first | assumption | exact hk2) (first | (go_at_call 24; (refine (valGood_any 3 v.n v.b _).mono ?_); rintro e w' ⟨rfl, hbx⟩; have hkw := ((show (Hid (MkR w _ v u z b3 b4 b8) ∧ _) by assumption).1.out.later hbx).cells) | (go_at_call 25; (refine (mForm_any 3 v.n v.b _).mono ?_); rintro e w' ⟨rfl, hbx⟩; have hkw := ((show (Hid (MkR w _ v u z b3 b4 b8) ∧ _) by assumption).1.out.later hbx).cells) | (go_at_call 17; (refine (valInt_any n _).mono ?_); rintro e w' ⟨rfl, hbx⟩; have hkw := ((show (Hid (MkR w _ v u z b3 b4 b8) ∧ _) by assumption).1.out.later hbx).cells) | (go_at_call 26; (refine (valZero_is n z HZ.out _).mono ?_); rintro e w' ⟨rfl, hbx⟩; have hkw := ((show (Hid (MkR w _ v u z b3 b4 b8) ∧ _) by assumption).1.out.later hbx).cells) | (go_at_call 22; (refine (valBool_any _ _).mono ?_); rintro e w' ⟨rfl, hbx⟩; have hkw := ((show (Hid (MkR w _ v u z b3 b4 b8) ∧ _) by assumption).1.out.later hbx).cells) | (go_at_call 20; (refine (HT.out _).mono ?_); rintro e w' ⟨rfl, hbx⟩; have hkw := ((show (Hid (MkR w _ v u z b3 b4 b8) ∧ _) by assumption).1.out.later hbx).cells) | (go_at_call 27; (refine (HS.out _).mono ?_); rintro e w' ⟨rfl, hbx⟩; have hkw := ((show (Hid (MkR w _ v u z b3 b4 b8) ∧ _) by assumption).1.out.later hbx).cells) | (go_at_call 28; (refine (valFloat_any _ _).mono ?_); rintro e w' ⟨rfl, hbx⟩; have hkw := ((show (Hid (MkR w _ v u z b3 b4 b8) ∧ _) by assumption).1.out.later hbx).cells))
          all_goals
            go_wp2_with fail
            go_ret
            exact ⟨rfl, (show (Hid (MkR w _ v u z b3 b4 b8) ∧ _) by assumption).1.out.kv.bl⟩
        · have HT : Hid (∀ w, Calls Try.prog 20 #[.agg #[.int .i64 v.t, .int .i64 v.n, .int .u64 v.b]] w (Ret w (.bool false))) := Lib.hid (fun w => by have := valTrue_any v.t v.n v.b w; rwa [show (v.t == 3 && v.n == 1) = false by simp [e1]] at this)
          have d3 : (v.t == 3) = false := by simpa using e1
          refine wp_region_held_drew (S := (fun w' => Hid (MkR w w' v u z b3 b4 b8) ∧ w'.cell? ⟨b3, 0, none⟩ = some (.int .i64 v.t) ∧ w'.cell? ⟨b3, 1, none⟩ = some (.int .i64 v.n) ∧ w'.cell? ⟨b3, 2, none⟩ = some (.int .u64 v.b) ∧ w'.cell? ⟨b4, 0, none⟩ = some (.int .i64 u.t) ∧ w'.cell? ⟨b4, 1, none⟩ = some (.int .i64 u.n) ∧ w'.cell? ⟨b4, 2, none⟩ = some (.int .u64 u.b) ∧ w'.cell? ⟨b8, 0, none⟩ = some (.int .i64 z.t) ∧ w'.cell? ⟨b8, 1, none⟩ = some (.int .i64 z.n) ∧ w'.cell? ⟨b8, 2, none⟩ = some (.int .u64 z.b))) (by kernel_rfl) (by exact hk2) (fun hHeld => ?_)
          refine heldTake (i := 0) (v := ?_) rfl (by kernel_rfl) (by kernel_rfl) (by kernel_rfl) (fun _ _ _ h => h) (by kernel_rfl) ?_ (by assumption) ?_
          rotate_left
          · (intro w hSw; (try dsimp only at hSw); go_simp; try with_reducible rfl)
          (try simp only [Act.put, List.setIfInBounds_toArray, List.set_cons_zero, List.set_cons_succ])
          refine heldTake (i := 2) (v := ?_) rfl (by kernel_rfl) (by kernel_rfl) (by kernel_rfl) (fun _ _ _ h => h) (by kernel_rfl) ?_ (by assumption) ?_
          rotate_left
          · (intro w hSw; (try dsimp only at hSw); go_simp; try with_reducible rfl)
          (try simp only [Act.put, List.setIfInBounds_toArray, List.set_cons_zero, List.set_cons_succ])
          refine wpAnyH_ready (rs := [1]) (by kernel_rfl) (by simp) ?_
          refine AllReadyH.cons rfl (fun K hK => ?_) AllReadyH.nil
          go_simp
          refine (valGood_any v.t v.n v.b _).mono ?_
          rintro e w' ⟨rfl, hbx⟩
          have hkw := ((show (Hid (MkR w _ v u z b3 b4 b8) ∧ _) by assumption).1.out.later hbx).cells
          refine hK.out _ _ (hkw) (fun hHeld => ?_)
          clear hK K
          (try simp only [Act.put, List.setIfInBounds_toArray, List.set_cons_zero, List.set_cons_succ])
          refine wpAnyH_ready (rs := [3]) (by kernel_rfl) (by simp) ?_
          refine AllReadyH.cons rfl (fun K hK => ?_) AllReadyH.nil
          go_simp
          refine (mForm_any v.t v.n v.b _).mono ?_
          rintro e w' ⟨rfl, hbx⟩
          have hkw := ((show (Hid (MkR w _ v u z b3 b4 b8) ∧ _) by assumption).1.out.later hbx).cells
          refine hK.out _ _ (hkw) (fun hHeld => ?_)
          clear hK K
          (try simp only [Act.put, List.setIfInBounds_toArray, List.set_cons_zero, List.set_cons_succ])
          refine heldTake (i := 4) (v := ?_) rfl (by kernel_rfl) (by kernel_rfl) (by kernel_rfl) (fun _ _ _ h => h) (by kernel_rfl) ?_ (by assumption) ?_
          rotate_left
          · (intro w hSw; (try dsimp only at hSw); go_simp; try with_reducible rfl)
          (try simp only [Act.put, List.setIfInBounds_toArray, List.set_cons_zero, List.set_cons_succ])
          refine heldTake (i := 5) (v := ?_) rfl (by kernel_rfl) (by kernel_rfl) (by kernel_rfl) (fun _ _ _ h => h) (by kernel_rfl) ?_ (by assumption) ?_
          rotate_left
          · (intro w hSw; (try dsimp only at hSw); go_simp; try with_reducible rfl)
          (try simp only [Act.put, List.setIfInBounds_toArray, List.set_cons_zero, List.set_cons_succ])
          refine heldTake (i := 6) (v := ?_) rfl (by kernel_rfl) (by kernel_rfl) (by kernel_rfl) (fun _ _ _ h => h) (by kernel_rfl) ?_ (by assumption) ?_
          rotate_left
          · (intro w hSw; (try dsimp only at hSw); go_simp; try with_reducible rfl)
          (try simp only [Act.put, List.setIfInBounds_toArray, List.set_cons_zero, List.set_cons_succ])
          refine heldTake (i := 8) (v := ?_) rfl (by kernel_rfl) (by kernel_rfl) (by kernel_rfl) (fun _ _ _ h => h) (by kernel_rfl) ?_ (by assumption) ?_
          rotate_left
          · (intro w hSw; (try dsimp only at hSw); go_simp; try with_reducible rfl)
          (try simp only [Act.put, List.setIfInBounds_toArray, List.set_cons_zero, List.set_cons_succ])
          refine heldTake (i := 9) (v := ?_) rfl (by kernel_rfl) (by kernel_rfl) (by kernel_rfl) (fun _ _ _ h => h) (by kernel_rfl) ?_ (by assumption) ?_
          rotate_left
          · (intro w hSw; (try dsimp only at hSw); go_simp; try with_reducible rfl)
          (try simp only [Act.put, List.setIfInBounds_toArray, List.set_cons_zero, List.set_cons_succ])
          refine wpAnyH_ready (rs := [7]) (by kernel_rfl) (by simp) ?_
          refine AllReadyH.cons rfl (fun K hK => ?_) AllReadyH.nil
          go_simp
          refine (valInt_any n _).mono ?_
          rintro e w' ⟨rfl, hbx⟩
          have hkw := ((show (Hid (MkR w _ v u z b3 b4 b8) ∧ _) by assumption).1.out.later hbx).cells
          refine hK.out _ _ (hkw) (fun hHeld => ?_)
          clear hK K
          (try simp only [Act.put, List.setIfInBounds_toArray, List.set_cons_zero, List.set_cons_succ])
          refine heldTake (i := 10) (v := ?_) rfl (by kernel_rfl) (by kernel_rfl) (by kernel_rfl) (fun _ _ _ h => h) (by kernel_rfl) ?_ (by assumption) ?_
          rotate_left
          · (intro w hSw; (try dsimp only at hSw); go_simp; try with_reducible rfl)
          (try simp only [Act.put, List.setIfInBounds_toArray, List.set_cons_zero, List.set_cons_succ])
          refine heldTake (i := 11) (v := ?_) rfl (by kernel_rfl) (by kernel_rfl) (by kernel_rfl) (fun _ _ _ h => h) (by kernel_rfl) ?_ (by assumption) ?_
          rotate_left
          · (intro w hSw; (try dsimp only at hSw); go_simp; try with_reducible rfl)
          (try simp only [Act.put, List.setIfInBounds_toArray, List.set_cons_zero, List.set_cons_succ])
          refine heldTake (i := 12) (v := ?_) rfl (by kernel_rfl) (by kernel_rfl) (by kernel_rfl) (fun _ _ _ h => h) (by kernel_rfl) ?_ (by assumption) ?_
          rotate_left
          · (intro w hSw; (try dsimp only at hSw); go_simp; try with_reducible rfl)
          (try simp only [Act.put, List.setIfInBounds_toArray, List.set_cons_zero, List.set_cons_succ])
          refine heldTake (i := 13) (v := ?_) rfl (by kernel_rfl) (by kernel_rfl) (by kernel_rfl) (fun _ _ _ h => h) (by kernel_rfl) ?_ (by assumption) ?_
          rotate_left
          · (intro w hSw; (try dsimp only at hSw); go_simp; try with_reducible rfl)
          (try simp only [Act.put, List.setIfInBounds_toArray, List.set_cons_zero, List.set_cons_succ])
          refine heldTake (i := 15) (v := ?_) rfl (by kernel_rfl) (by kernel_rfl) (by kernel_rfl) (fun _ _ _ h => h) (by kernel_rfl) ?_ (by assumption) ?_
          rotate_left
          · (intro w hSw; (try dsimp only at hSw); go_simp; try with_reducible rfl)
          (try simp only [Act.put, List.setIfInBounds_toArray, List.set_cons_zero, List.set_cons_succ])
          refine wpAnyH_ready (rs := [14]) (by kernel_rfl) (by simp) ?_
          refine AllReadyH.cons rfl (fun K hK => ?_) AllReadyH.nil
          go_simp
          refine (valZero_is n z HZ.out _).mono ?_
          rintro e w' ⟨rfl, hbx⟩
          have hkw := ((show (Hid (MkR w _ v u z b3 b4 b8) ∧ _) by assumption).1.out.later hbx).cells
          refine hK.out _ _ (hkw) (fun hHeld => ?_)
          clear hK K
          (try simp only [Act.put, List.setIfInBounds_toArray, List.set_cons_zero, List.set_cons_succ])
          refine heldTake (i := 16) (v := ?_) rfl (by kernel_rfl) (by kernel_rfl) (by kernel_rfl) (fun _ _ _ h => h) (by kernel_rfl) ?_ (by assumption) ?_
          rotate_left
          · (intro w hSw; (try dsimp only at hSw); go_simp; try with_reducible rfl)
          (try simp only [Act.put, List.setIfInBounds_toArray, List.set_cons_zero, List.set_cons_succ])
          refine heldTake (i := 17) (v := ?_) rfl (by kernel_rfl) (by kernel_rfl) (by kernel_rfl) (fun _ _ _ h => h) (by kernel_rfl) ?_ (by assumption) ?_
          rotate_left
          · (intro w hSw; (try dsimp only at hSw); go_simp; try with_reducible rfl)
          (try simp only [Act.put, List.setIfInBounds_toArray, List.set_cons_zero, List.set_cons_succ])
          refine heldTake (i := 18) (v := ?_) rfl (by kernel_rfl) (by kernel_rfl) (by kernel_rfl) (fun _ _ _ h => h) (by kernel_rfl) ?_ (by assumption) ?_
          rotate_left
          · (intro w hSw; (try dsimp only at hSw); go_simp; try with_reducible rfl)
          (try simp only [Act.put, List.setIfInBounds_toArray, List.set_cons_zero, List.set_cons_succ])
          refine heldTake (i := 20) (v := ?_) rfl (by kernel_rfl) (by kernel_rfl) (by kernel_rfl) (fun _ _ _ h => h) (by kernel_rfl) ?_ (by assumption) ?_
          rotate_left
          · (intro w hSw; (try dsimp only at hSw); go_simp; try with_reducible rfl)
          (try simp only [Act.put, List.setIfInBounds_toArray, List.set_cons_zero, List.set_cons_succ])
          refine wpAnyH_ready (rs := [19]) (by kernel_rfl) (by simp) ?_
          refine AllReadyH.cons rfl (fun K hK => ?_) AllReadyH.nil
          go_simp
          refine (valBool_any _ _).mono ?_
          rintro e w' ⟨rfl, hbx⟩
          have hkw := ((show (Hid (MkR w _ v u z b3 b4 b8) ∧ _) by assumption).1.out.later hbx).cells
          refine hK.out _ _ (hkw) (fun hHeld => ?_)
          clear hK K
          (try simp only [Act.put, List.setIfInBounds_toArray, List.set_cons_zero, List.set_cons_succ])
          refine heldTake (i := 21) (v := ?_) rfl (by kernel_rfl) (by kernel_rfl) (by kernel_rfl) (fun _ _ _ h => h) (by kernel_rfl) ?_ (by assumption) ?_
          rotate_left
          · (intro w hSw; (try dsimp only at hSw); go_simp; try with_reducible rfl)
          (try simp only [Act.put, List.setIfInBounds_toArray, List.set_cons_zero, List.set_cons_succ])
          refine heldTake (i := 22) (v := ?_) rfl (by kernel_rfl) (by kernel_rfl) (by kernel_rfl) (fun _ _ _ h => h) (by kernel_rfl) ?_ (by assumption) ?_
          rotate_left
          · (intro w hSw; (try dsimp only at hSw); go_simp; try with_reducible rfl)
          (try simp only [Act.put, List.setIfInBounds_toArray, List.set_cons_zero, List.set_cons_succ])
          refine heldTake (i := 23) (v := ?_) rfl (by kernel_rfl) (by kernel_rfl) (by kernel_rfl) (fun _ _ _ h => h) (by kernel_rfl) ?_ (by assumption) ?_
          rotate_left
          · (intro w hSw; (try dsimp only at hSw); go_simp; try with_reducible rfl)
          (try simp only [Act.put, List.setIfInBounds_toArray, List.set_cons_zero, List.set_cons_succ])
          refine heldTake (i := 25) (v := ?_) rfl (by kernel_rfl) (by kernel_rfl) (by kernel_rfl) (fun _ _ _ h => h) (by kernel_rfl) ?_ (by assumption) ?_
          rotate_left
          · (intro w hSw; (try dsimp only at hSw); go_simp; try with_reducible rfl)
          (try simp only [Act.put, List.setIfInBounds_toArray, List.set_cons_zero, List.set_cons_succ])
          refine wpAnyH_ready (rs := [24]) (by kernel_rfl) (by simp) ?_
          refine AllReadyH.cons rfl (fun K hK => ?_) AllReadyH.nil
          go_simp
          refine (valBool_any _ _).mono ?_
          rintro e w' ⟨rfl, hbx⟩
          have hkw := ((show (Hid (MkR w _ v u z b3 b4 b8) ∧ _) by assumption).1.out.later hbx).cells
          refine hK.out _ _ (hkw) (fun hHeld => ?_)
          clear hK K
          (try simp only [Act.put, List.setIfInBounds_toArray, List.set_cons_zero, List.set_cons_succ])
          refine heldTake (i := 26) (v := ?_) rfl (by kernel_rfl) (by kernel_rfl) (by kernel_rfl) (fun _ _ _ h => h) (by kernel_rfl) ?_ (by assumption) ?_
          rotate_left
          · (intro w hSw; (try dsimp only at hSw); go_simp; try with_reducible rfl)
          (try simp only [Act.put, List.setIfInBounds_toArray, List.set_cons_zero, List.set_cons_succ])
          refine heldTake (i := 27) (v := ?_) rfl (by kernel_rfl) (by kernel_rfl) (by kernel_rfl) (fun _ _ _ h => h) (by kernel_rfl) ?_ (by assumption) ?_
          rotate_left
          · (intro w hSw; (try dsimp only at hSw); go_simp; try with_reducible rfl)
          (try simp only [Act.put, List.setIfInBounds_toArray, List.set_cons_zero, List.set_cons_succ])
          refine heldTake (i := 28) (v := ?_) rfl (by kernel_rfl) (by kernel_rfl) (by kernel_rfl) (fun _ _ _ h => h) (by kernel_rfl) ?_ (by assumption) ?_
          rotate_left
          · (intro w hSw; (try dsimp only at hSw); go_simp; try with_reducible rfl)
          (try simp only [Act.put, List.setIfInBounds_toArray, List.set_cons_zero, List.set_cons_succ])
          refine heldTake (i := 29) (v := ?_) rfl (by kernel_rfl) (by kernel_rfl) (by kernel_rfl) (fun _ _ _ h => h) (by kernel_rfl) ?_ (by assumption) ?_
          rotate_left
          · (intro w hSw; (try dsimp only at hSw); go_simp; try with_reducible rfl)
          (try simp only [Act.put, List.setIfInBounds_toArray, List.set_cons_zero, List.set_cons_succ])
          refine heldTake (i := 31) (v := ?_) rfl (by kernel_rfl) (by kernel_rfl) (by kernel_rfl) (fun _ _ _ h => h) (by kernel_rfl) ?_ (by assumption) ?_
          rotate_left
          · (intro w hSw; (try dsimp only at hSw); go_simp; try with_reducible rfl)
          (try simp only [Act.put, List.setIfInBounds_toArray, List.set_cons_zero, List.set_cons_succ])
          refine heldTake (i := 32) (v := ?_) rfl (by kernel_rfl) (by kernel_rfl) (by kernel_rfl) (fun _ _ _ h => h) (by kernel_rfl) ?_ (by assumption) ?_
          rotate_left
          · (intro w hSw; (try dsimp only at hSw); go_simp; try with_reducible rfl)
          (try simp only [Act.put, List.setIfInBounds_toArray, List.set_cons_zero, List.set_cons_succ])
          refine heldTake (i := 33) (v := .bool false) rfl (by kernel_rfl) (by kernel_rfl) (by kernel_rfl) (fun _ _ _ h => h) (by kernel_rfl) ?_ (by assumption) ?_
          · (intro w hSw; (try dsimp only at hSw); go_simp; try with_reducible rfl)
          (try simp only [Act.put, List.setIfInBounds_toArray, List.set_cons_zero, List.set_cons_succ])
          refine wpAnyH_ready (rs := [30]) (by kernel_rfl) (by simp) ?_
          refine AllReadyH.cons rfl (fun K hK => ?_) AllReadyH.nil
          go_simp
          refine (HT.out _).mono ?_
          rintro e w' ⟨rfl, hbx⟩
          have hkw := ((show (Hid (MkR w _ v u z b3 b4 b8) ∧ _) by assumption).1.out.later hbx).cells
          refine hK.out _ _ (hkw) (fun hHeld => ?_)
          clear hK K
          (try simp only [Act.put, List.setIfInBounds_toArray, List.set_cons_zero, List.set_cons_succ])
          refine heldTake (i := 34) (v := ?_) rfl (by kernel_rfl) (by kernel_rfl) (by kernel_rfl) (fun _ _ _ h => h) (by kernel_rfl) ?_ (by assumption) ?_
          rotate_left
          · (intro w hSw; (try dsimp only at hSw); go_simp; try with_reducible rfl)
          (try simp only [Act.put, List.setIfInBounds_toArray, List.set_cons_zero, List.set_cons_succ])
          refine heldSkips (by kernel_rfl) (fun d _ _ _ _ h => by cases d <;> exact h) [(35, some 65), (36, some 66), (37, some 67)] 21 _ _ _ _ (by rfl) (by kernel_rfl) (by assumption) ?_
          simp only [List.foldl_cons, List.foldl_nil, Act.put, List.setIfInBounds_toArray, List.set_cons_zero, List.set_cons_succ]
          refine heldTake (i := 38) (v := ?_) rfl (by kernel_rfl) (by kernel_rfl) (by kernel_rfl) (fun _ _ _ h => h) (by kernel_rfl) ?_ (by assumption) ?_
          rotate_left
          · (intro w hSw; (try dsimp only at hSw); go_simp; try with_reducible rfl)
          (try simp only [Act.put, List.setIfInBounds_toArray, List.set_cons_zero, List.set_cons_succ])
          refine heldTake (i := 39) (v := ?_) rfl (by kernel_rfl) (by kernel_rfl) (by kernel_rfl) (fun _ _ _ h => h) (by kernel_rfl) ?_ (by assumption) ?_
          rotate_left
          · (intro w hSw; (try dsimp only at hSw); go_simp; try with_reducible rfl)
          (try simp only [Act.put, List.setIfInBounds_toArray, List.set_cons_zero, List.set_cons_succ])
          refine heldTake (i := 40) (v := ?_) rfl (by kernel_rfl) (by kernel_rfl) (by kernel_rfl) (fun _ _ _ h => h) (by kernel_rfl) ?_ (by assumption) ?_
          rotate_left
          · (intro w hSw; (try dsimp only at hSw); go_simp; try with_reducible rfl)
          (try simp only [Act.put, List.setIfInBounds_toArray, List.set_cons_zero, List.set_cons_succ])
          refine heldTake (i := 41) (v := ?_) rfl (by kernel_rfl) (by kernel_rfl) (by kernel_rfl) (fun _ _ _ h => h) (by kernel_rfl) ?_ (by assumption) ?_
          rotate_left
          · (intro w hSw; (try dsimp only at hSw); go_simp; try with_reducible rfl)
          (try simp only [Act.put, List.setIfInBounds_toArray, List.set_cons_zero, List.set_cons_succ])
          refine heldTake (i := 42) (v := ?_) rfl (by kernel_rfl) (by kernel_rfl) (by kernel_rfl) (fun _ _ _ h => h) (by kernel_rfl) ?_ (by assumption) ?_
          rotate_left
          · (intro w hSw; (try dsimp only at hSw); go_simp; try with_reducible rfl)
          (try simp only [Act.put, List.setIfInBounds_toArray, List.set_cons_zero, List.set_cons_succ])
          refine heldTake (i := 43) (v := ?_) rfl (by kernel_rfl) (by kernel_rfl) (by kernel_rfl) (fun _ _ _ h => h) (by kernel_rfl) ?_ (by assumption) ?_
          rotate_left
          · (intro w hSw; (try dsimp only at hSw); go_simp; try with_reducible rfl)
          (try simp only [Act.put, List.setIfInBounds_toArray, List.set_cons_zero, List.set_cons_succ])
          refine heldTake (i := 45) (v := ?_) rfl (by kernel_rfl) (by kernel_rfl) (by kernel_rfl) (fun _ _ _ h => h) (by kernel_rfl) ?_ (by assumption) ?_
          rotate_left
          · (intro w hSw; (try dsimp only at hSw); go_simp; try with_reducible rfl)
          (try simp only [Act.put, List.setIfInBounds_toArray, List.set_cons_zero, List.set_cons_succ])
          refine heldTake (i := 46) (v := ?_) rfl (by kernel_rfl) (by kernel_rfl) (by kernel_rfl) (fun _ _ _ h => h) (by kernel_rfl) ?_ (by assumption) ?_
          rotate_left
          · (intro w hSw; (try dsimp only at hSw); go_simp; try with_reducible rfl)
          (try simp only [Act.put, List.setIfInBounds_toArray, List.set_cons_zero, List.set_cons_succ])
          refine heldTake (i := 47) (v := ?_) rfl (by kernel_rfl) (by kernel_rfl) (by kernel_rfl) (fun _ _ _ h => h) (by kernel_rfl) ?_ (by assumption) ?_
          rotate_left
          · (intro w hSw; (try dsimp only at hSw); go_simp; try with_reducible rfl)
          (try simp only [Act.put, List.setIfInBounds_toArray, List.set_cons_zero, List.set_cons_succ])
          refine wpAnyH_ready (rs := [44]) (by kernel_rfl) (by simp) ?_
          refine AllReadyH.cons rfl (fun K hK => ?_) AllReadyH.nil
          go_simp
          refine (HS.out _).mono ?_
          rintro e w' ⟨rfl, hbx⟩
          have hkw := ((show (Hid (MkR w _ v u z b3 b4 b8) ∧ _) by assumption).1.out.later hbx).cells
          refine hK.out _ _ (hkw) (fun hHeld => ?_)
          clear hK K
          (try simp only [Act.put, List.setIfInBounds_toArray, List.set_cons_zero, List.set_cons_succ])
          refine heldTake (i := 48) (v := ?_) rfl (by kernel_rfl) (by kernel_rfl) (by kernel_rfl) (fun _ _ _ h => h) (by kernel_rfl) ?_ (by assumption) ?_
          rotate_left
          · (intro w hSw; (try dsimp only at hSw); go_simp; try with_reducible rfl)
          (try simp only [Act.put, List.setIfInBounds_toArray, List.set_cons_zero, List.set_cons_succ])
          refine heldTake (i := 49) (v := ?_) rfl (by kernel_rfl) (by kernel_rfl) (by kernel_rfl) (fun _ _ _ h => h) (by kernel_rfl) ?_ (by assumption) ?_
          rotate_left
          · (intro w hSw; (try dsimp only at hSw); go_simp; try with_reducible rfl)
          (try simp only [Act.put, List.setIfInBounds_toArray, List.set_cons_zero, List.set_cons_succ])
          refine heldTake (i := 50) (v := ?_) rfl (by kernel_rfl) (by kernel_rfl) (by kernel_rfl) (fun _ _ _ h => h) (by kernel_rfl) ?_ (by assumption) ?_
          rotate_left
          · (intro w hSw; (try dsimp only at hSw); go_simp; try with_reducible rfl)
          (try simp only [Act.put, List.setIfInBounds_toArray, List.set_cons_zero, List.set_cons_succ])
          refine heldTake (i := 51) (v := ?_) rfl (by kernel_rfl) (by kernel_rfl) (by kernel_rfl) (fun _ _ _ h => h) (by kernel_rfl) ?_ (by assumption) ?_
          rotate_left
          · (intro w hSw; (try dsimp only at hSw); go_simp; try with_reducible rfl)
          (try simp only [Act.put, List.setIfInBounds_toArray, List.set_cons_zero, List.set_cons_succ])
          refine heldTake (i := 53) (v := ?_) rfl (by kernel_rfl) (by kernel_rfl) (by kernel_rfl) (fun _ _ _ h => h) (by kernel_rfl) ?_ (by assumption) ?_
          rotate_left
          · (intro w hSw; (try dsimp only at hSw); go_simp; try with_reducible rfl)
          (try simp only [Act.put, List.setIfInBounds_toArray, List.set_cons_zero, List.set_cons_succ])
          refine wpAnyH_ready (rs := [52]) (by kernel_rfl) (by simp) ?_
          refine AllReadyH.cons rfl (fun K hK => ?_) AllReadyH.nil
          go_simp
          refine (valFloat_any _ _).mono ?_
          rintro e w' ⟨rfl, hbx⟩
          have hkw := ((show (Hid (MkR w _ v u z b3 b4 b8) ∧ _) by assumption).1.out.later hbx).cells
          refine hK.out _ _ (hkw) (fun hHeld => ?_)
          clear hK K
          (try simp only [Act.put, List.setIfInBounds_toArray, List.set_cons_zero, List.set_cons_succ])
          refine wpAnyH_ready (rs := [54]) (by kernel_rfl) (by simp) ?_
          refine AllReadyH.cons rfl (fun K hK => ?_) AllReadyH.nil
          go_simp
          refine hK.out _ _ (by assumption) (fun hHeld => ?_)
          clear hK K
          (try simp only [Act.put, List.setIfInBounds_toArray, List.set_cons_zero, List.set_cons_succ])
          refine heldTake (i := 55) (v := ?_) rfl (by kernel_rfl) (by kernel_rfl) (by kernel_rfl) (fun _ _ _ h => h) (by kernel_rfl) ?_ (by assumption) ?_
          rotate_left
          · (intro w hSw; (try dsimp only at hSw); go_simp; try with_reducible rfl)
          (try simp only [Act.put, List.setIfInBounds_toArray, List.set_cons_zero, List.set_cons_succ])
          refine heldTake (i := 56) (v := ?_) rfl (by kernel_rfl) (by kernel_rfl) (by kernel_rfl) (fun _ _ _ h => h) (by kernel_rfl) ?_ (by assumption) ?_
          rotate_left
          · (intro w hSw; (try dsimp only at hSw); go_simp; try with_reducible rfl)
          (try simp only [Act.put, List.setIfInBounds_toArray, List.set_cons_zero, List.set_cons_succ])
          refine heldTake (i := 57) (v := ?_) rfl (by kernel_rfl) (by kernel_rfl) (by kernel_rfl) (fun _ _ _ h => h) (by kernel_rfl) ?_ (by assumption) ?_
          rotate_left
          · (intro w hSw; (try dsimp only at hSw); go_simp; try with_reducible rfl)
          (try simp only [Act.put, List.setIfInBounds_toArray, List.set_cons_zero, List.set_cons_succ])
          refine heldTake (i := 58) (v := ?_) rfl (by kernel_rfl) (by kernel_rfl) (by kernel_rfl) (fun _ _ _ h => h) (by kernel_rfl) ?_ (by assumption) ?_
          rotate_left
          · (intro w hSw; (try dsimp only at hSw); go_simp; try with_reducible rfl)
          (try simp only [Act.put, List.setIfInBounds_toArray, List.set_cons_zero, List.set_cons_succ])
          refine wpAnyH_done (by kernel_rfl) ?_ _
          go_wp2_with fail
          go_ret
          exact ⟨rfl, (show (Hid (MkR w _ v u z b3 b4 b8) ∧ _) by assumption).1.out.kv.bl⟩
      by_cases k : 1 ≤ n ∧ n ≤ 3
      · have kd : decide (1 ≤ n ∧ n ≤ 3) = true := by simpa using k
        rw [kd]
        have K0 := Lib.hid k
        clear k kd
        go_wp2_with fail
        go_meet
        refine ⟨_, ⟨n, 0, 0⟩, rfl, Lib.hid ⟨⟨?_, ?_, ?_⟩, zero_in K0.out.1 K0.out.2⟩⟩
        · exact HK.out.1.later (below_alloc (Below.refl _ _) _)
        · exact HK.out.2.later (below_alloc (Below.refl _ _) _)
        · exact ku_new ⟨n, 0, 0⟩ _ HK.out.1.bl
      · have kd : decide (1 ≤ n ∧ n ≤ 3) = false := by simpa using k
        have hz : zeroOf n = ⟨0, 0, 0⟩ := by unfold zeroOf; rw [if_pos (by omega)]
        rw [kd]
        have K0 := Lib.hid hz
        clear k kd hz
        go_wp2_with fail
        go_meet
        exact ⟨_, ⟨0, 0, 0⟩, rfl, Lib.hid ⟨⟨HK.out.1.later (below_alloc (Below.refl _ _) _), HK.out.2.later (below_alloc (Below.refl _ _) _), ku_zero _ HK.out.1.bl⟩, K0.out⟩⟩
    by_cases k : 1 ≤ n
    · by_cases k2 : n ≤ 3
      all_goals
        have K0 := Lib.hid (And.intro k k2)
        go_wp2_with fail
        go_meet
        exact ⟨by have := K0.out; simp; omega, rfl⟩
    · have K0 := Lib.hid k
      go_wp2_with fail
      go_meet
      exact ⟨by have := K0.out; simp; omega, rfl⟩
  go_region_held (fun W => W.cell? ⟨w.heap.size, 0, none⟩ = some (.int .i64 v.t) ∧ W.cell? ⟨w.heap.size, 1, none⟩ = some (.int .i64 v.n) ∧ W.cell? ⟨w.heap.size, 2, none⟩ = some (.int .u64 v.b) ∧ W.cell? ⟨w.heap.size, 3, none⟩ = some (.int .i64 u.t) ∧ W.cell? ⟨w.heap.size, 4, none⟩ = some (.int .i64 u.n) ∧ W.cell? ⟨w.heap.size, 5, none⟩ = some (.int .u64 u.b) ∧ W.cell? ⟨w.heap.size, 6, none⟩ = some (.int .i64 n) ∧ W.cell? ⟨w.heap.size, 7, none⟩ = some (.int .u64 bits)) (go_keep) (fail)
  all_goals
    go_wp2_with fail
    go_meet
    refine ⟨_, _, rfl, rfl, rfl, rfl, Lib.hid ⟨?_, ?_⟩⟩
    all_goals first
      | exact (ku_at _ _ (below_alloc (below_alloc (Below.refl _ _) _) _) (by simp)).drew
      | exact ((ku_at _ _ (below_alloc (Below.refl _ _) _) (by simp)).later (below_alloc (Below.refl _ _) _)).drew
end Go.Proofs.Ytdeabmijoaepcaa
