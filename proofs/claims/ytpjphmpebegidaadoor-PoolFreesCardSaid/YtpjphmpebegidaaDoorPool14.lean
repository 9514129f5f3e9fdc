/-
  PoolFrees: what is freed is there no more; its words are 0 when they are allocated again.
-/
import Derived.Test.YtpjphmpebegidaaDoorPool12
namespace Go.Proofs.YtpjphmpebegidaaDoor
open Go.RowKit Go.Stk
attribute [local go_sem ↓] Go.wp_at_zero Go.wp_at_succ

theorem pre_back (p m : Nat) (h : p ≤ m) : rng (pre p m) 0 (0 + p) false = pre 0 m := by
  apply List.ext_getElem?
  intro x
  rw [rng_get _ _ _ _ (by omega) (by rw [pre_len _ _ h]; omega), pre_get _ _ _ h, pre_get _ _ _ (by omega)]
  by_cases h1 : x < p
  · rw [if_pos (by omega), if_neg (by omega), if_pos (by omega)]
  · rw [if_neg (by omega), if_neg h1, if_neg (Nat.not_lt_zero x)]
set_option maxRecDepth 100000 in
set_option maxHeartbeats 2000000 in
theorem frees_law (x y v : Int) (w : World) (ads : List Addr) (hS : Sent w 94 errGs ads) (er en ea : Addr) (hE : Errs w er en ea) (h7 : ads[7]? = some en) (h13 : ads[13]? = some ea) : Calls Tryd.prog 4 #[.int .i64 x, .int .i64 y, .int .i64 v] w (Ret w (.bool true)) := by
  have HA := Lib.hid (alive_any w ads hS er en ea hE h13)
  have HE := Lib.hid hE
  have HS := Lib.hid hS
  obtain ⟨m, hm, em⟩ := mod_nat x 100 (by omega) (by omega)
  have em : wrap64 ((IntKind.u64.wrap x).tmod 100) = (m : Int) := em
  obtain ⟨p, hp⟩ : ∃ p, p = m / 16 + 1 := ⟨_, rfl⟩
  obtain ⟨t, ht, et⟩ := mod_nat y (1 + m) (by omega) (by omega)
  have et : wrap64 ((IntKind.u64.wrap y).tmod (1 + (m : Int))) = (t : Int) := by rw [← et]; simp
  have hpl : p ≤ 7 := by omega
  have hp0 : 1 ≤ p := by omega
  have hp3 : ((1 : Int) + (m : Int) - 1) / 16 + 1 = (p : Int) := by omega
  have htp : t < 16 * p := by omega
  have ht100 : (t : Int) < 100 := by omega
  have m100 : (m : Int) < 100 := by omega
  have uw : IntKind.u64.wrap (1 + (m : Int)) = 1 + (m : Int) := by rw [IntKind.wrap_u64]; omega
  have m1 : ((1 : Int) + (m : Int) == 0) = false := by simp; omega
  have HP3 := Lib.hid hp3
  clear hp3 hp hS hE
  go_enter Tryd.func4, Tryd.ntmps4
  go_wp2_with fail
  refine HA.out.mono ?_
  rintro e w1 ⟨rfl, hb1⟩
  have HE1 := Lib.hid (HE.out.later hb1)
  go_wp2_with fail
  refine (sole_ok 16 (by omega) (by omega) w1 er en ea HE1.out).mono ?_
  rintro e w2 ⟨a, rfl, h2⟩
  have A0 : Hid (AOb w1 w2 a ⟨0, 16, List.replicate 16 0, pre 0 16⟩ (List.replicate 256 0)) := by rw [pre_zero]; exact h2
  clear h2
  go_wp2_with fail
  refine (o_alloc_ok A0.out (1 + (m : Int)) p 0 (by omega) (by omega) HP3.out (pre_fits 0 p 16 (by omega)) (fun f hf => by omega)).mono ?_
  rintro e w3 ⟨rfl, h3⟩
  have A1 : Hid (AOb w1 w3 a ⟨0, 16, (List.replicate 16 0).set 0 (p : Int), pre p 16⟩ (List.replicate 256 0)) := by
    have := pre_rng 0 p 16 (by omega)
    have e : pre p 16 = rng (pre 0 16) 0 (0 + p) true := by rw [this, Nat.zero_add]
    rw [e]
    exact h3
  clear h3 A0
  obtain ⟨k, hk⟩ : ∃ k : Nat, k = t / 16 := ⟨_, rfl⟩
  obtain ⟨j, hj⟩ : ∃ j : Nat, j = t % 16 := ⟨_, rfl⟩
  have htk : (t : Int) = 16 * (k : Int) + (j : Int) := by omega
  have hkp : k < p := by omega
  have hj16 : j < 16 := by omega
  have HTK := Lib.hid htk
  clear htk hk hj
  go_wp2_with fail
  refine (o_set_in A1.out k j v hj16 (t : Int) HTK.out (by rw [pre_get _ _ _ (by omega), if_pos hkp])).mono ?_
  rintro e w4 ⟨rfl, h4⟩
  have A2 : Hid (AOb w1 w4 a ⟨0, 16, (List.replicate 16 0).set 0 (p : Int), pre p 16⟩ ((List.replicate 256 0).set (0 * 16 + k * 16 + j) v)) := h4
  clear h4 A1
  go_wp2_with fail
  refine (o_free_ok A2.out 0 p 0 rfl (by simp) hp0 (by show 0 + p ≤ 16; omega)).mono ?_
  rintro e w5 ⟨rfl, h5⟩
  have A3 : Hid (AOb w1 w5 a ⟨0, 16, List.replicate 16 0, pre 0 16⟩ (rng ((List.replicate 256 0).set (0 * 16 + k * 16 + j) v) (0 * 16 + 0 * 16) (0 * 16 + 0 * 16 + p * 16) 0)) := by
    have e1 := pre_back p 16 (by omega)
    have e2 : (((List.replicate 16 0).set 0 (p : Int)).set 0 0) = List.replicate 16 (0 : Int) := by simp
    rw [← e1, ← e2]
    exact h5
  have W0 : Hid ((rng ((List.replicate 256 (0 : Int)).set (0 * 16 + k * 16 + j) v) (0 * 16 + 0 * 16) (0 * 16 + 0 * 16 + p * 16) 0)[0 * 16 + k * 16 + j]? = some 0) := by
    show _ = _
    rw [rng_get _ _ _ _ (by omega) (by simp; omega), if_pos (by omega)]
  generalize rng ((List.replicate 256 (0 : Int)).set (0 * 16 + k * 16 + j) v) (0 * 16 + 0 * 16) (0 * 16 + 0 * 16 + p * 16) 0 = ws at A3 W0
  clear h5 A2
  go_wp2_with fail
  refine (o_free_none A3.out 0 er en ea HE1.out (.inr ⟨0, rfl, by simp⟩) (by omega)).mono ?_
  rintro e w6 ⟨rfl, h6⟩
  replace A3 := Lib.hid h6
  clear h6
  unfold errV
  go_wp2_with fail
  refine (o_alloc_ok A3.out (1 + (m : Int)) p 0 (by omega) (by omega) HP3.out (pre_fits 0 p 16 (by omega)) (fun f hf => by omega)).mono ?_
  rintro e w7 ⟨rfl, h7'⟩
  have A4 : Hid (AOb w1 w7 a ⟨0, 16, (List.replicate 16 0).set 0 (p : Int), pre p 16⟩ ws) := by
    have := pre_rng 0 p 16 (by omega)
    have e : pre p 16 = rng (pre 0 16) 0 (0 + p) true := by rw [this, Nat.zero_add]
    rw [e]
    exact h7'
  clear h7' A3
  go_wp2_with fail
  refine (o_get_in A4.out k j 0 hj16 (t : Int) HTK.out (by rw [pre_get _ _ _ (by omega), if_pos hkp]) W0.out).mono ?_
  rintro e w8 ⟨rfl, h8⟩
  have hb := below_next hb1 h8.bl
  clear h8 A4
  go_wp2_with fail
  refine (num_err w8 ads (HS.out.later hb) 7 en h7).mono ?_
  rintro e w9 ⟨rfl, hb9⟩
  replace hb := below_next hb hb9
  clear hb9
  go_wp2_with fail
  go_ret
  exact ⟨rfl, hb⟩
end Go.Proofs.YtpjphmpebegidaaDoor
