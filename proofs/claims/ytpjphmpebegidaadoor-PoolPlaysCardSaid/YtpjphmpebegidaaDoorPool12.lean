/-
  PoolSizes: a run has the words asked for, rounded up to pages; the second begins behind the first.
-/
import Derived.Test.YtpjphmpebegidaaDoorPool11
import Derived.Test.YtpjphmpebegidaaDoorArith
namespace Go.Proofs.YtpjphmpebegidaaDoor
open Go.RowKit Go.Stk
attribute [local go_sem ↓] Go.wp_at_zero Go.wp_at_succ

/-- The first k pages taken, no others. -/
def pre (k m : Nat) : List Bool := List.replicate k true ++ List.replicate (m - k) false
theorem pre_get (k m x : Nat) (h : k ≤ m) : (pre k m)[x]? = if x < k then some true else if x < m then some false else none := by
  unfold pre
  by_cases h1 : x < k
  · rw [List.getElem?_append_left (by simpa using h1), if_pos h1, List.getElem?_replicate, if_pos h1]
  · rw [List.getElem?_append_right (by simp; omega), if_neg h1, List.getElem?_replicate]
    simp only [List.length_replicate]
    by_cases h2 : x < m
    · rw [if_pos h2, if_pos (by omega)]
    · rw [if_neg h2, if_neg (by omega)]
theorem pre_len (k m : Nat) (h : k ≤ m) : (pre k m).length = m := by simp [pre]; omega
theorem pre_zero (m : Nat) : pre 0 m = List.replicate m false := by simp [pre]
theorem pre_rng (k q m : Nat) (h : k + q ≤ m) : rng (pre k m) k (k + q) true = pre (k + q) m := by
  apply List.ext_getElem?
  intro x
  rw [rng_get _ _ _ _ (by omega) (by rw [pre_len _ _ (by omega)]; exact h), pre_get _ _ _ (by omega), pre_get _ _ _ h]
  by_cases h1 : x < k
  · rw [if_neg (by omega), if_pos h1, if_pos (by omega)]
  · by_cases h2 : x < k + q
    · rw [if_pos (by omega), if_pos h2]
    · rw [if_neg (by omega), if_neg h1, if_neg h2]
theorem pre_fits (k q m : Nat) (h : k + q ≤ m) : Fits (pre k m) q k := ⟨by rw [pre_len _ _ (by omega)]; exact h, fun x h1 h2 => by rw [pre_get _ _ _ (by omega), if_neg (by omega), if_pos (by omega)]⟩
theorem pre_no (k q m f : Nat) (h : k ≤ m) (hq : 1 ≤ q) (hf : f < k) : ¬ Fits (pre k m) q f := fun ⟨_, h2⟩ => by
  have := h2 f (Nat.le_refl _) (by omega)
  rw [pre_get _ _ _ h, if_pos hf] at this
  cases this
theorem pre_trues (k m : Nat) : trues (pre k m) = k := by simp [trues, pre, List.countP_append, List.countP_replicate]
theorem shared_mod {n : Int} : ∃ m : Nat, m < 200 ∧ wrap64 ((IntKind.u64.wrap n).tmod 200) = (m : Int) := mod_nat n 200 (by omega) (by omega)

set_option maxRecDepth 100000 in
set_option maxHeartbeats 2000000 in
theorem sizes_law (x y : Int) (w : World) (ads : List Addr) (hS : Sent w 94 errGs ads) (er en ea : Addr) (hE : Errs w er en ea) (h13 : ads[13]? = some ea) : Calls Tryd.prog 3 #[.int .i64 x, .int .i64 y] w (Ret w (.bool true)) := by
  have HA := Lib.hid (alive_any w ads hS er en ea hE h13)
  have HE := Lib.hid hE
  obtain ⟨m, hm, em⟩ := mod_nat x 200 (by omega) (by omega)
  obtain ⟨k, hk, ek⟩ := mod_nat y 200 (by omega) (by omega)
  have em : wrap64 ((IntKind.u64.wrap x).tmod 200) = (m : Int) := em
  have ek : wrap64 ((IntKind.u64.wrap y).tmod 200) = (k : Int) := ek
  obtain ⟨p, hp⟩ : ∃ p, p = m / 16 + 1 := ⟨_, rfl⟩
  obtain ⟨q, hq⟩ : ∃ q, q = k / 16 + 1 := ⟨_, rfl⟩
  have hp2 : ((1 : Int) + (m : Int) + 15) / 16 = (p : Int) := by omega
  have hq2 : ((1 : Int) + (k : Int) + 15) / 16 = (q : Int) := by omega
  have hpl : p ≤ 13 := by omega
  have hql : q ≤ 13 := by omega
  have hp0 : 1 ≤ p := by omega
  have hq0 : 1 ≤ q := by omega
  have hp3 : ((1 : Int) + (m : Int) - 1) / 16 + 1 = (p : Int) := by omega
  have hq3 : ((1 : Int) + (k : Int) - 1) / 16 + 1 = (q : Int) := by omega
  have m200 : (m : Int) < 200 := by omega
  have k200 : (k : Int) < 200 := by omega
  have HP3 := Lib.hid hp3
  have HQ3 := Lib.hid hq3
  clear hp3 hq3 hp hq hS hE
  go_enter Tryd.func3, Tryd.ntmps3
  go_wp2_with fail
  refine HA.out.mono ?_
  rintro e w1 ⟨rfl, hb1⟩
  go_wp2_with fail
  refine (sole_ok 64 (by omega) (by omega) w1 er en ea (HE.out.later hb1)).mono ?_
  rintro e w2 ⟨a, rfl, h2⟩
  have A0 : Hid (AOb w1 w2 a ⟨0, 64, List.replicate 64 0, pre 0 64⟩ (List.replicate (64 * 16) 0)) := by rw [pre_zero]; exact h2
  generalize List.replicate (64 * 16) (0 : Int) = ws at A0
  clear h2
  go_wp2_with fail
  refine (o_alloc_ok A0.out (1 + (m : Int)) p 0 (by omega) (by omega) HP3.out (pre_fits 0 p 64 (by omega)) (fun f hf => by omega)).mono ?_
  rintro e w3 ⟨rfl, h3⟩
  have A1 : Hid (AOb w1 w3 a ⟨0, 64, (List.replicate 64 0).set 0 (p : Int), pre p 64⟩ ws) := by
    have := pre_rng 0 p 64 (by omega)
    have e : pre p 64 = rng (pre 0 64) 0 (0 + p) true := by rw [this, Nat.zero_add]
    rw [e]
    exact h3
  clear h3 A0
  go_wp2_with fail
  refine (o_alloc_ok A1.out (1 + (k : Int)) q p (by omega) (by omega) HQ3.out (pre_fits p q 64 (by omega)) (fun f hf => pre_no p q 64 f (by omega) hq0 hf)).mono ?_
  rintro e w4 ⟨rfl, h4⟩
  have A2 : Hid (AOb w1 w4 a ⟨0, 64, ((List.replicate 64 0).set 0 (p : Int)).set p (q : Int), pre (p + q) 64⟩ ws) := by
    have := pre_rng p q 64 (by omega)
    rw [← this]
    exact h4
  clear h4 A1
  have r0 : Hid ((((List.replicate 64 0).set 0 (p : Int)).set p (q : Int))[0]? = some (p : Int)) := by
    show _ = _
    rw [List.getElem?_set_ne (by omega)]
    simp
  have r1 : Hid ((((List.replicate 64 0).set 0 (p : Int)).set p (q : Int))[p]? = some (q : Int)) := by
    show _ = _
    rw [List.getElem?_set_self (by simp; omega)]
  have T2 : Hid (trues (pre (p + q) 64) = p + q) := pre_trues _ _
  generalize ((List.replicate 64 0).set 0 (p : Int)).set p (q : Int) = runs at A2 r0 r1
  generalize pre (p + q) 64 = tk at A2 T2
  have ep : ((p * 16 : Nat) : Int) = 16 * (p : Int) := by omega
  rw [ep]
  clear ep
  have p13 : (p : Int) ≤ 13 := by omega
  have q13 : (q : Int) ≤ 13 := by omega
  have b1 : ((p : Int) * 16 == 16 * (p : Int)) = true := by simp; omega
  have b2 : ((q : Int) * 16 == 16 * (q : Int)) = true := by simp; omega
  go_wp2_with fail
  refine (o_size_in A2.out 0 (p : Int) 0 (by omega) r0.out (by omega) (by omega)).mono ?_
  rintro e w5 ⟨rfl, h5⟩
  replace A2 := Lib.hid h5
  clear h5
  go_wp2_with fail
  refine (o_size_in A2.out p (q : Int) (16 * (p : Int)) rfl r1.out (by omega) (by omega)).mono ?_
  rintro e w6 ⟨rfl, h6⟩
  replace A2 := Lib.hid h6
  clear h6
  go_wp2_with fail
  refine (o_used A2.out).mono ?_
  rintro e w7 ⟨rfl, h7⟩
  replace A2 := Lib.hid h7
  clear h7
  have et : ((trues tk : Nat) : Int) = (p : Int) + (q : Int) := by have := T2.out; omega
  simp only [et]
  go_wp2_with fail
  refine (o_size_out A2.out 1 (.inr (.inl (by decide))) (by omega)).mono ?_
  rintro e w8 ⟨rfl, h8⟩
  have hb := below_next hb1 h8.bl
  clear h8 A2
  go_wp2_with fail
  go_ret
  exact ⟨rfl, hb⟩
end Go.Proofs.YtpjphmpebegidaaDoor
