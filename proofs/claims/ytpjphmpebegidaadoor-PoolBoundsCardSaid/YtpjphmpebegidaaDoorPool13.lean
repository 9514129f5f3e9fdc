/-
  PoolBounds: a word outside of the runs is neither told nor set.
-/
import Derived.Test.YtpjphmpebegidaaDoorPool12
namespace Go.Proofs.YtpjphmpebegidaaDoor
open Go.RowKit Go.Stk
attribute [local go_sem ↓] Go.wp_at_zero Go.wp_at_succ

theorem top_i64 {n : Int} (h : (Lit.int .i64 n).wf = true) : n ≤ 9223372036854775807 := by
  have h1 : IntKind.i64.min ≤ n ∧ n ≤ 9223372036854775807 := by simpa [Lit.wf] using h
  exact h1.2
set_option maxRecDepth 100000 in
set_option maxHeartbeats 2000000 in
theorem bounds_law (x y v : Int) (hy : y ≤ 9223372036854775807) (w : World) (ads : List Addr) (hS : Sent w 94 errGs ads) (er en ea : Addr) (hE : Errs w er en ea) (h0 : ads[0]? = some er) (h13 : ads[13]? = some ea) : Calls Tryd.prog 5 #[.int .i64 x, .int .i64 y, .int .i64 v] w (Ret w (.bool true)) := by
  have HA := Lib.hid (alive_any w ads hS er en ea hE h13)
  have HE := Lib.hid hE
  have HS := Lib.hid hS
  obtain ⟨m, hm, em⟩ := mod_nat x 100 (by omega) (by omega)
  have em : wrap64 ((IntKind.u64.wrap x).tmod 100) = (m : Int) := em
  obtain ⟨p, hp⟩ : ∃ p, p = m / 16 + 1 := ⟨_, rfl⟩
  have hpl : p ≤ 7 := by omega
  have hp0 : 1 ≤ p := by omega
  have hp3 : ((1 : Int) + (m : Int) - 1) / 16 + 1 = (p : Int) := by omega
  have m100 : (m : Int) < 100 := by omega
  have HP3 := Lib.hid hp3
  clear hp3 hp hS hE
  go_enter Tryd.func5, Tryd.ntmps5
  go_wp2_with fail
  refine HA.out.mono ?_
  rintro e w1 ⟨rfl, hb1⟩
  have HE1 := Lib.hid (HE.out.later hb1)
  go_wp2_with fail
  refine (sole_ok 16 (by omega) (by omega) w1 er en ea HE1.out).mono ?_
  rintro e w2 ⟨a, rfl, h2⟩
  have A0 : Hid (AOb w1 w2 a ⟨0, 16, List.replicate 16 0, pre 0 16⟩ (List.replicate (16 * 16) 0)) := by rw [pre_zero]; exact h2
  have HL : Hid ((List.replicate (16 * 16) (0 : Int)).length = 256) := by show _ = _; simp
  generalize List.replicate (16 * 16) (0 : Int) = ws at A0 HL
  clear h2
  go_wp2_with fail
  refine (o_alloc_ok A0.out (1 + (m : Int)) p 0 (by omega) (by omega) HP3.out (pre_fits 0 p 16 (by omega)) (fun f hf => by omega)).mono ?_
  rintro e w3 ⟨rfl, h3⟩
  have A1 : Hid (AOb w1 w3 a ⟨0, 16, (List.replicate 16 0).set 0 (p : Int), pre p 16⟩ ws) := by
    have := pre_rng 0 p 16 (by omega)
    have e : pre p 16 = rng (pre 0 16) 0 (0 + p) true := by rw [this, Nat.zero_add]
    rw [e]
    exact h3
  clear h3 A0
  have r0 : Hid (((List.replicate 16 0).set 0 (p : Int))[0]? = some (p : Int)) := by
    show _ = _
    simp
  generalize (List.replicate 16 0).set 0 (p : Int) = runs at A1 r0
  have T : Hid (∀ x, (pre p 16)[x]? = if x < p then some true else if x < 16 then some false else none) := fun x => pre_get p 16 x (by omega)
  generalize pre p 16 = tk at A1 T
  have p7 : (p : Int) ≤ 7 := by omega
  by_cases hin : 0 ≤ y ∧ y < 16 * (p : Int)
  · have d1 : decide (0 ≤ y) = true := decide_eq_true hin.1
    have d2 : decide (y < (p : Int) * 16) = true := decide_eq_true (by omega)
    obtain ⟨k, hk⟩ : ∃ k : Nat, k = (y / 16).toNat := ⟨_, rfl⟩
    obtain ⟨j, hj⟩ : ∃ j : Nat, j = (y % 16).toNat := ⟨_, rfl⟩
    have hyk : y = 16 * (k : Int) + (j : Int) := by omega
    have hkp : k < p := by omega
    have hj16 : j < 16 := by omega
    have HYK := Lib.hid hyk
    clear hyk hk hj
    go_wp2_with fail
    refine (o_size_in A1.out 0 (p : Int) 0 (by omega) r0.out (by omega) (by omega)).mono ?_
    rintro e w5 ⟨rfl, h5⟩
    replace A1 := Lib.hid h5
    clear h5
    go_wp2_with fail
    refine (o_set_in A1.out k j v hj16 y HYK.out (by rw [T.out, if_pos hkp])).mono ?_
    rintro e w6 ⟨rfl, h6⟩
    have A2 : Hid (AOb w1 w6 a ⟨0, 16, runs, tk⟩ (ws.set (0 * 16 + k * 16 + j) v)) := h6
    clear h6
    go_wp2_with fail
    refine (o_get_in A2.out k j v hj16 y HYK.out (by rw [T.out, if_pos hkp]) (by rw [List.getElem?_set_self (by rw [HL.out]; show 0 * 16 + k * 16 + j < 256; omega)])).mono ?_
    rintro e w7 ⟨rfl, h7⟩
    have hb := below_next hb1 h7.bl
    clear h7 A2 A1
    go_wp2_with fail
    go_ret
    exact ⟨rfl, hb⟩
  · have HNW : Hid (NoWord y ⟨0, 16, runs, tk⟩) := by
      by_cases h1 : y < 0
      · exact .inl h1
      · by_cases h2 : 16 ≤ y / 16
        · exact .inr (.inl h2)
        · refine .inr (.inr ⟨(y / 16).toNat, by omega, ?_⟩)
          show tk[(y / 16).toNat]? = some false
          rw [T.out, if_neg (by omega), if_pos (by omega)]
    by_cases hy0 : 0 ≤ y
    · have d1 : decide (0 ≤ y) = true := decide_eq_true hy0
      have d2 : decide (y < (p : Int) * 16) = false := decide_eq_false (by omega)
      go_wp2_with fail
      refine (o_size_in A1.out 0 (p : Int) 0 (by omega) r0.out (by omega) (by omega)).mono ?_
      rintro e w5 ⟨rfl, h5⟩
      replace A1 := Lib.hid h5
      clear h5
      go_wp2_with fail
      refine (o_set_out A1.out y v er en ea HE1.out HNW.out hy).mono ?_
      rintro e w6 ⟨rfl, h6⟩
      replace A1 := Lib.hid h6
      clear h6
      unfold errV
      go_wp2_with fail
      refine (o_get_out A1.out y er en ea HE1.out HNW.out hy).mono ?_
      rintro e w7 ⟨rfl, h7⟩
      have hb := below_next hb1 h7.bl
      clear h7 A1
      unfold errV
      go_wp2_with fail
      refine (num_err w7 ads (HS.out.later hb) 0 er h0).mono ?_
      rintro e w8 ⟨rfl, hb8⟩
      replace hb := below_next hb hb8
      clear hb8
      go_wp2_with fail
      refine (num_err w8 ads (HS.out.later hb) 0 er h0).mono ?_
      rintro e w9 ⟨rfl, hb9⟩
      replace hb := below_next hb hb9
      clear hb9
      go_wp2_with fail
      go_ret
      exact ⟨rfl, hb⟩
    · have d1 : decide (0 ≤ y) = false := decide_eq_false hy0
      go_wp2_with fail
      refine (o_set_out A1.out y v er en ea HE1.out HNW.out hy).mono ?_
      rintro e w6 ⟨rfl, h6⟩
      replace A1 := Lib.hid h6
      clear h6
      unfold errV
      go_wp2_with fail
      refine (o_get_out A1.out y er en ea HE1.out HNW.out hy).mono ?_
      rintro e w7 ⟨rfl, h7⟩
      have hb := below_next hb1 h7.bl
      clear h7 A1
      unfold errV
      go_wp2_with fail
      refine (num_err w7 ads (HS.out.later hb) 0 er h0).mono ?_
      rintro e w8 ⟨rfl, hb8⟩
      replace hb := below_next hb hb8
      clear hb8
      go_wp2_with fail
      refine (num_err w8 ads (HS.out.later hb) 0 er h0).mono ?_
      rintro e w9 ⟨rfl, hb9⟩
      replace hb := below_next hb hb9
      clear hb9
      go_wp2_with fail
      go_ret
      exact ⟨rfl, hb⟩
end Go.Proofs.YtpjphmpebegidaaDoor
