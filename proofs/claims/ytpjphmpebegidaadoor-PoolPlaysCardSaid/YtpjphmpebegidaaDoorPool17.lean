/-
  PoolZeroes: what is allocated is 0; runs don't overlap; freed pages can be allocated again.
-/
import Derived.Test.YtpjphmpebegidaaDoorPool11
import Derived.Test.YtpjphmpebegidaaDoorPool16
import Derived.Test.YtpjphmpebegidaaDoorArith
namespace Go.Proofs.YtpjphmpebegidaaDoor
open Go.RowKit Go.Stk
attribute [local go_sem ↓] Go.wp_at_zero Go.wp_at_succ

theorem first_fit {t : List Bool} {m f : Nat} (h : Fits t m f) : ∃ g, Fits t m g ∧ ∀ x, x < g → ¬ Fits t m x := by
  induction f using Nat.strongRecOn with
  | ind f ih =>
    by_cases hc : ∃ x, x < f ∧ Fits t m x
    · obtain ⟨x, h1, h2⟩ := hc
      exact ih x h1 h2
    · exact ⟨f, h, fun x hx hf => hc ⟨x, hx, hf⟩⟩
/-- The held runs' addresses. -/
def adrs (H : List (Nat × Nat)) : List Int := H.map fun r => 16 * (r.1 : Int)
theorem adrs_len (H : List (Nat × Nat)) : (adrs H).length = H.length := by simp [adrs]
theorem one_al {als : List AL} {l : AL} (h1 : als.length = 1) (h : als[0]? = some l) : als = [l] := by
  match als, h1, h with
  | [x], _, h => simp at h; rw [h]
/-- The pages of the first j runs. -/
def sumP (H : List (Nat × Nat)) (j : Nat) : Nat := ((H.take j).map Prod.snd).sum
theorem sumP_next {H : List (Nat × Nat)} {j : Nat} {r : Nat × Nat} (h : H[j]? = some r) : sumP H (j + 1) = sumP H j + r.2 := by
  unfold sumP
  rw [List.take_add_one, h]
  simp
theorem sumP_all (H : List (Nat × Nat)) : sumP H H.length = (H.map Prod.snd).sum := by unfold sumP; rw [List.take_length]
theorem trues_len (l : List Bool) : trues l ≤ l.length := by unfold trues; exact List.countP_le_length
theorem sumP_le (H : List (Nat × Nat)) (j : Nat) : sumP H j ≤ (H.map Prod.snd).sum := by
  have h : H.map Prod.snd = (H.take j).map Prod.snd ++ (H.drop j).map Prod.snd := by rw [← List.map_append, List.take_append_drop]
  rw [h, List.sum_append]
  unfold sumP; omega
theorem Z.top {runs : List Int} {tk : List Bool} {ws : List Int} {H : List (Nat × Nat)} (h : Z runs tk ws H) (j : Nat) : sumP H j ≤ 64 := by
  have h1 := h.sum
  have h2 := trues_len tk
  have h3 := sumP_le H j
  have h4 := h.lt
  omega
theorem adrs_snoc (H : List (Nat × Nat)) (f m : Nat) : ints (adrs H) ++ [.int .i64 (16 * (f : Int))] = ints (adrs (H ++ [(f, m)])) := by simp [ints, adrs]
theorem adrs_cut (H : List (Nat × Nat)) (k : Nat) : (ints (adrs H)).take k ++ (ints (adrs H)).drop (k + 1) = ints (adrs (H.eraseIdx k)) := by
  rw [List.eraseIdx_eq_take_drop_succ]
  simp [ints, adrs, List.map_take, List.map_drop]
theorem Rd.take {w : World} {A : Option Addr} {cs : List Value} (h : Rd w A cs) (k : Nat) : Rd w A (cs.take k) := by
  refine ⟨by have := h.1; simp; omega, fun hl => ?_⟩
  simp at hl
  obtain ⟨b, off, e, hc⟩ := h.2 (by omega)
  refine ⟨b, off, e, fun j hj => ?_⟩
  simp at hj
  rw [hc j (by omega)]
  simp
theorem Rd.dropIf {w : World} {g cv : Nat} {cs : List Value} (h : Rd w (some ⟨g, 0, none⟩) cs) (k : Nat) (hcv : cs.length ≤ cv) : Rd w (if cv = k then some ⟨g, 0, none⟩ else some ⟨g, k, none⟩) (cs.drop k) := by
  refine ⟨by have := h.1; simp; omega, fun hl => ?_⟩
  simp at hl
  rw [if_neg (by omega)]
  obtain ⟨b, off, e, hc⟩ := h.2 (by omega)
  simp at e
  obtain ⟨rfl, rfl⟩ := e
  refine ⟨g, k, rfl, fun j hj => ?_⟩
  simp at hj
  have h1 := hc (k + j) (by omega)
  simp only [Nat.zero_add] at h1
  rw [h1]
  simp
section
variable {w wr : World} {L : PLay} {l : AL} {g n cv : Nat} {runs : List Int} {tk : List Bool} {ws ns : List Int} (h : ZR w wr L l (.slice (some ⟨g, 0, none⟩) n cv) runs tk ws ns)
include h
theorem ZR.form (h0 : 0 < ns.length) : ns.length ≤ cv ∧ Rd wr (some ⟨g, 0, none⟩) (ints ns) := by
  obtain ⟨g2, cap, ev, _, hc, hm, _, hcell, _⟩ := h.row.mid h0
  injection ev with e1 e2 e3
  injection e1 with e1
  injection e1 with e1
  subst e1 e3
  refine ⟨hc, by simp; omega, fun hl => ⟨g, 0, rfl, fun j hj => ?_⟩⟩
  rw [Nat.zero_add]
  exact hcell j _ (List.getElem?_eq_getElem hj)
theorem ZR.takeRd (h0 : 0 < ns.length) {W : World} (hb : Below wr.heap.size wr W) (k : Nat) : Rd W (some ⟨g, 0, none⟩) ((ints ns).take k) := Rd.take (Rd.later (h.form h0).2 hb) k
theorem ZR.dropRd (h0 : 0 < ns.length) {W : World} (hb : Below wr.heap.size wr W) (k : Nat) : Rd W (if cv = k then some ⟨g, 0, none⟩ else some ⟨g, k, none⟩) ((ints ns).drop k) := Rd.dropIf (Rd.later (h.form h0).2 hb) k (by simpa using (h.form h0).1)
theorem ZR.cut {WA w8 w9 : World} {v1 v2 : Value} {N : Nat} {cells : List Value} {ns2 : List Int} (hbA : Below wr.heap.size wr WA) (k8 : Kept [] WA w8) (hv : ∀ x ∈ blk v1, x ∈ ([] : List Nat) ∨ WA.heap.size ≤ x) (k9 : Kept (blk v1) w8 w9) (hb9 : ∀ x ∈ blk v2, x ∈ blk v1 ∨ w8.heap.size ≤ x)
    (hr : Row w9 3 1 v2 N cells) (hN : N = ns2.length) (hc : cells = ints ns2) : ZR w w9 L l v2 runs tk ws ns2 := by
  subst hN hc
  refine (h.later hbA).list (k8.trans k9 hv) (by simp) v2 ns2 hr fun x hx => ?_
  rcases hb9 x hx with h1 | h1
  · exact hv x h1
  · exact .inr (Nat.le_trans k8.size h1)
end
theorem ones_take (l : List Int) (k : Nat) : ∀ u ∈ (ints l).take k, u.oneCell' = true := fun u hu => by
  obtain ⟨n, _, rfl⟩ := List.mem_map.1 (List.mem_of_mem_take hu)
  rfl
theorem ones_drop (l : List Int) (k : Nat) : ∀ u ∈ (ints l).drop k, u.oneCell' = true := fun u hu => by
  obtain ⟨n, _, rfl⟩ := List.mem_map.1 (List.mem_of_mem_drop hu)
  rfl
set_option maxRecDepth 100000 in
set_option maxHeartbeats 4000000 in
theorem zeroes_law (xs ys : List Int) (A D : Option Addr) (c d : Nat) (w : World) (hx : RI w A xs) (hy : RI w D ys) (ads : List Addr) (hS : Sent w 94 errGs ads) (er en ea : Addr) (hE : Errs w er en ea) (h13 : ads[13]? = some ea) : Calls Tryd.prog 6 #[.slice A xs.length c, .slice D ys.length d] w (Ret w (.bool true)) := by
  have HA := Lib.hid (alive_any w ads hS er en ea hE h13)
  have HE := Lib.hid hE
  have HS := Lib.hid hS
  have HX := Lib.hid hx
  have HY := Lib.hid hy
  have hxl := hx.len
  have hyl := hy.len
  clear hx hy hS hE
  go_enter Tryd.func6, Tryd.ntmps6
  go_wp2_with fail
  refine HA.out.mono ?_
  rintro e w1 ⟨rfl, hb1⟩
  have hs1 := hb1.size
  go_wp2_with fail
  have hR : RI (w1.alloc (.cells #[.int .i64 64] 3)) (some ⟨w1.heap.size, 0, none⟩) [((64 : Nat) : Int)] := rd_blk (T := 3) (blk_new w1 _) (by simp [maxLen])
  have hb0 : Below w.heap.size w (w1.alloc (.cells #[.int .i64 64] 3)) := below_alloc hb1 _
  refine (new_ok 64 [((64 : Nat) : Int)] (some ⟨w1.heap.size, 0, none⟩) 1 _ er en ea (HE.out.later hb0) hR (by omega) (by omega) (by simp)).mono ?_
  rintro e w2 hq
  have hm : Made (w1.alloc (.cells #[.int .i64 64] 3)) 64 [((64 : Nat) : Int)] e w2 := by
    rcases hq with ⟨_, hm⟩ | ⟨hno, _⟩
    · exact hm
    · exact absurd hno (by decide)
  clear hq
  obtain ⟨L, l, zs, rfl, ho, hzs, hl, ha⟩ := made_one hm 0 64 rfl
  have H0 : Hid (PRep w2 L ⟨64, List.replicate 1024 0, [⟨0, 64, List.replicate 64 0, List.replicate 64 false⟩]⟩ ∧ L.als = [l] ∧ (∀ g, L.own g → w.heap.size ≤ g) ∧ Below w.heap.size w w2) := by
    have hz : zs = [64] := by
      cases zs with
      | nil => simp [ints'] at hzs
      | cons z r =>
        simp only [ints', List.map_cons, List.cons.injEq] at hzs
        obtain ⟨h1, h2⟩ := hzs
        have h1 : ((64 : Nat) : Int) = (z : Int) := h1
        have : r = [] := by simpa using h2.symm
        rw [this, show z = 64 by omega]
    subst hz
    refine ⟨ho.rep, ?_, fun g hg => ?_, below_next hb0 ho.bl⟩
    · have h1 : L.als.length = 1 := ho.rep.alen
      exact one_al h1 hl
    · have := ho.own g hg
      simp at this
      omega
  have HL := Lib.hid hl
  clear hm ho hzs hl ha hR hb0 HA hb1 hs1
  go_wp2_with fail
  refine (arena_in H0.out.1 0 l HL.out).mono ?_
  rintro e w3 ⟨rfl, hb3⟩
  go_wp2_with fail
  have Z0 : Hid (ZR w (w3.alloc (.cells #[] 3)) L l (.slice (some ⟨w3.heap.size, 0, none⟩) 0 0) (List.replicate 64 0) (List.replicate 64 false) (List.replicate 1024 0) (adrs []) ∧ Z (List.replicate 64 0) (List.replicate 64 false) (List.replicate 1024 0) []) :=
    ⟨⟨H0.out.1.later (below_alloc hb3 _), H0.out.2.1, H0.out.2.2.1, below_next H0.out.2.2.2 (below_alloc hb3 _), Row.empty _ _ _ _, fun g hg => by simp [blk] at hg, fun g hg => by simp [blk] at hg⟩, Z.start⟩
  clear H0 HL hb3
  generalize w3.alloc (.cells #[] 3) = w4 at Z0 ⊢
  generalize List.replicate 64 (0 : Int) = runs0 at Z0
  generalize List.replicate 64 false = tk0 at Z0
  generalize List.replicate 1024 (0 : Int) = ws0 at Z0
  go_loopw [8, 52] (fun hv kv wr => ∃ (k : Nat) (v : Value) (runs : List Int) (tk : List Bool) (ws : List Int) (H : List (Nat × Nat)), k ≤ xs.length ∧ kv = .int .i64 k ∧ hv = v ∧ H.length ≤ k ∧ k ≤ 41 ∧ Hid (ZR w wr L l v runs tk ws (adrs H) ∧ Z runs tk ws H)) (fun _ kv _ => xs.length - (intOf kv).toNat)
  case atStart => exact ⟨0, _, _, _, _, [], Nat.zero_le _, rfl, rfl, Nat.le_refl _, by omega, Z0⟩
  case round =>
    obtain ⟨k, v, runs, tk, ws, H, hk, rfl, rfl, hHk, hk41, hP⟩ := hrel
    obtain ⟨AV, cv, rfl, hcv, hcm, hnil, _⟩ := hP.out.1.row.form
    by_cases hgo : k < xs.length ∧ k ≤ 40
    · obtain ⟨hlt, h40⟩ := hgo
      obtain ⟨b1, o1, rfl, c1⟩ := (HX.out.later hP.out.1.bl).at k hlt
      obtain ⟨n, en⟩ : ∃ n, xs.getD k 0 = n := ⟨_, rfl⟩
      rw [en] at c1
      clear en
      have d2 : decide (40 < (k : Int)) = false := decide_eq_false (by omega)
      obtain ⟨m, hm, em⟩ := mod_nat n 200 (by omega) (by omega)
      have em : wrap64 ((IntKind.u64.wrap n).tmod 200) = (m : Int) := em
      have m200 : (m : Int) < 200 := by omega
      obtain ⟨need, hneed⟩ : ∃ need, need = m / 16 + 1 := ⟨_, rfl⟩
      have hn13 : need ≤ 13 := by omega
      have hn0 : 1 ≤ need := by omega
      have HN := Lib.hid (show ((1 : Int) + (m : Int) - 1) / 16 + 1 = (need : Int) by omega)
      have HNB : Hid (1 + m ≤ 16 * need ∧ 16 * need < 1 + m + 16) := by show _ ∧ _; omega
      clear hneed
      by_cases hfit : ∃ f, Fits tk need f
      · obtain ⟨f0, hf0⟩ := hfit
        obtain ⟨f, hf, hmin⟩ := first_fit hf0
        clear hf0
        go_wp2_with fail
        refine (z_alloc_ok hP.out.1 (1 + (m : Int)) need f (by omega) (by omega) HN.out hf hmin).mono ?_
        rintro e w5 ⟨rfl, h5⟩
        have hfl : f + need ≤ 64 := by have h1 := hf.1; have h2 := hP.out.2.lt; omega
        have r1 : (runs.set f (need : Int))[f]? = some (need : Int) := by
          rw [List.getElem?_set_self (by rw [hP.out.2.lr]; omega)]
        have t1 : Hid (∀ q, 16 * f ≤ q → q < 16 * (f + need) → (rng tk f (f + need) true)[q / 16]? = some true) := fun q h1 h2 => by
          have h3 := hP.out.2.lt
          rw [rng_get _ _ _ _ (by omega) (by omega), if_pos (by omega)]
        have u1 : Hid (∀ q, 16 * f ≤ q → q < 16 * (f + need) → (rng ws (16 * f) q (16 * (f : Int) + 1))[q]? = some 0) := fun q h1 h2 => by
          have h3 := hP.out.2.lw
          rw [rng_get _ _ _ _ h1 (by omega), if_neg (by omega)]
          exact hP.out.2.free q (hf.2 _ (by omega) (by omega))
        have ZN := Lib.hid (hP.out.2.alloc hf hn0)
        have HLW := Lib.hid hP.out.2.lw
        have R1 := Lib.hid r1
        have Q0 := Lib.hid h5
        rw [show ((f * 16 : Nat) : Int) = 16 * (f : Int) by omega]
        clear hf hmin r1 h5 hP
        have f64 : (f : Int) ≤ 64 := by omega
        have n13 : (need : Int) ≤ 13 := by omega
        have d5 : decide ((need : Int) * 16 < 1 + (m : Int)) = false := decide_eq_false (by have := HNB.out.1; omega)
        have d6 : decide (1 + (m : Int) + 16 ≤ (need : Int) * 16) = false := decide_eq_false (by have := HNB.out.2; omega)
        generalize hr' : runs.set f (need : Int) = runs' at ZN R1 Q0
        generalize ht' : rng tk f (f + need) true = tk' at ZN t1 Q0
        clear hr' ht'
        go_wp2_with fail
        refine (z_size Q0.out f (need : Int) (16 * (f : Int)) rfl R1.out (by omega) (by omega)).mono ?_
        rintro e w6 ⟨rfl, h6⟩
        replace Q0 := Lib.hid h6
        clear h6
        go_wp2_with fail
        refine (z_size Q0.out f (need : Int) (16 * (f : Int)) rfl R1.out (by omega) (by omega)).mono ?_
        rintro e w7 ⟨rfl, h7⟩
        replace Q0 := Lib.hid h7
        clear h7
        go_wp2_with fail
        clear d5 d6
        replace Q0 : Hid (ZR w w7 L l (.slice AV (adrs H).length cv) runs' tk' (rng ws (16 * f) (16 * f) (16 * (f : Int) + 1)) (adrs H)) := by
          rw [rng_none _ _ _ (by rw [HLW.out]; omega)]
          exact Q0.out
        go_loopw [14] (fun qv wr => ∃ q : Nat, 16 * f ≤ q ∧ q ≤ 16 * (f + need) ∧ qv = .int .i64 q ∧ Hid (ZR w wr L l (.slice AV (adrs H).length cv) runs' tk' (rng ws (16 * f) q (16 * (f : Int) + 1)) (adrs H))) (fun qv _ => 16 * (f + need) - (intOf qv).toNat)
        case atStart => exact ⟨16 * f, Nat.le_refl _, by omega, congrArg (Value.int .i64) (by omega), Q0⟩
        case round =>
          obtain ⟨q, hq1, hq2, rfl, hQ⟩ := hrel
          go_wp2_with fail
          refine (z_size hQ.out f (need : Int) (16 * (f : Int)) rfl R1.out (by omega) (by omega)).mono ?_
          rintro e w8 ⟨rfl, h8⟩
          replace hQ := Lib.hid h8
          clear h8
          by_cases hqe : q < 16 * (f + need)
          · have d7 : decide ((q : Int) < 16 * (f : Int) + (need : Int) * 16) = true := decide_eq_true (by omega)
            have hu := u1.out q hq1 hqe
            have ht := t1.out q hq1 hqe
            have HU := Lib.hid hu
            have HT := Lib.hid ht
            clear hu ht
            have q1025 : (q : Int) ≤ 1024 := by omega
            go_wp2_with fail
            refine (z_get hQ.out q 0 HT.out HU.out).mono ?_
            rintro e w9 ⟨rfl, h9⟩
            replace hQ := Lib.hid h9
            clear h9
            go_wp2_with fail
            refine (z_set hQ.out q (16 * (f : Int) + 1) HT.out).mono ?_
            rintro e w10 ⟨rfl, h10⟩
            rw [rng_step _ _ _ _ hq1 (by rw [HLW.out]; omega)] at h10
            replace hQ := Lib.hid h10
            clear h10
            go_wp2_with fail
            go_roundw
            case rel => exact ⟨q + 1, by omega, by omega, by go_num, hQ⟩
            case measure => simp [intOf]; omega
          · have d7 : decide ((q : Int) < 16 * (f : Int) + (need : Int) * 16) = false := decide_eq_false (by omega)
            rw [show q = 16 * (f + need) by omega] at hQ
            go_wp2_with (at_builtin; refine append_row (by rfl) _ _ _ 3 (.int .i64 0) 1 8 (by rfl) Tryd.underlying37 infoInt3 (by rfl) (by omega) (.slice AV (adrs H).length cv) (adrs H).length (ints (adrs H)) (by rfl) (hQ.out.later (below_alloc (Below.refl _ _) _)).row (some ⟨w8.heap.size, 0, none⟩) 1 1 [.int .i64 (16 * (f : Int))] (by rfl) (by rfl) (by simp) (by omega) (rd_blk (T := 3) (blk_new w8 _) (by simp [maxLen])) (by simp [Value.oneCell']) (by rw [adrs_len]; simp only [maxLen]; omega) (by rw [adrs_len]; omega) ?_; intro v1 w3 hrow3 hkk hb3)
            have ZL : Hid (ZR w w3 L l v1 runs' tk' (rng ws (16 * f) (16 * (f + need)) (16 * (f : Int) + 1)) (adrs (H ++ [(f, need)]))) := (hQ.out.later (below_alloc (Below.refl _ _) _)).list hkk (fun g hg => ⟨hQ.out.sep g hg, hQ.out.low g hg⟩) v1 (adrs (H ++ [(f, need)])) (by rw [← adrs_snoc, adrs_len, List.length_append]; rw [adrs_len] at hrow3; exact hrow3) hb3
            clear hQ hrow3 hkk hb3
            go_wp2_with fail
            go_roundw
            case rel => exact ⟨k + 1, v1, runs', tk', _, H ++ [(f, need)], by omega, by go_num, rfl, by simp; omega, by omega, ZL.out, ZN.out⟩
            case measure => simp [intOf]; omega
      · have hne : 0 < H.length := by
          rcases Nat.eq_zero_or_pos H.length with h0 | h0
          · exact absurd ⟨0, hP.out.2.none_free (List.eq_nil_of_length_eq_zero h0) need (by omega)⟩ hfit
          · exact h0
        have d8 : (((adrs H).length : Int) == 0) = false := beq_eq_false_iff_ne.2 (by rw [adrs_len]; omega)
        have l41 : ((adrs H).length : Int) ≤ 41 := by rw [adrs_len]; omega
        have l0 : (0 : Int) < ((adrs H).length : Int) := by rw [adrs_len]; omega
        have l1 : 0 < (adrs H).length := by rw [adrs_len]; omega
        go_wp2_with fail
        refine (z_alloc_none hP.out.1 (1 + (m : Int)) need er en ea HE.out (by omega) (by omega) HN.out (fun f hf => hfit ⟨f, hf⟩)).mono ?_
        rintro e w5 ⟨rfl, h5⟩
        clear hfit
        unfold errV
        by_cases hky : k < ys.length
        · go_wp2_with fail
          refine (num_err w5 ads (HS.out.later h5.bl) 13 ea h13).mono ?_
          rintro e w6 ⟨rfl, hb6⟩
          have h6 := h5.later hb6
          clear h5 hb6
          obtain ⟨b2, o2, rfl, c2⟩ := (HY.out.later h6.bl).at k hky
          obtain ⟨y, ey⟩ : ∃ y, ys.getD k 0 = y := ⟨_, rfl⟩
          rw [ey] at c2
          clear ey
          obtain ⟨kk, hkk, ek⟩ := mod_nat y H.length (by omega) (by omega)
          rw [← adrs_len H] at ek
          go_wp2_with fail
          obtain ⟨⟨f, m2⟩, hr⟩ : ∃ r, H[kk]? = some r := ⟨_, List.getElem?_eq_getElem (by omega)⟩
          obtain ⟨hm0, hfm⟩ := hP.out.2.ok _ (List.mem_of_getElem? hr)
          have hrun := hP.out.2.run _ (List.mem_of_getElem? hr)
          simp only at hm0 hfm hrun
          have HRUN := Lib.hid hrun
          have HR := Lib.hid hr
          obtain ⟨g, cap, ev, hblk, hcap, hcapm, hg6, hcell, _⟩ := h6.row.mid (by rw [adrs_len]; omega)
          have c3 := hcell kk (.int .i64 (16 * (f : Int))) (by simp [ints, adrs, hr])
          have ev' := ev
          injection ev' with e1 _ e2
          clear hcell hrun hr ev hblk
          subst e1 e2
          have k30 : (0 : Int) ≤ (kk : Int) := by omega
          have k31 : (kk : Int) < ((adrs H).length : Int) := by rw [adrs_len]; omega
          go_wp2_with fail
          refine (z_free h6 f m2 (16 * (f : Int)) rfl HRUN.out hm0 hfm).mono ?_
          rintro e w7 ⟨rfl, h7⟩
          have H7 := Lib.hid h7
          clear h7 c3
          go_wp2_with fail
          have kcv : kk ≤ cv := by have := hcap; rw [adrs_len] at this; omega
          have wr1 : IntKind.i64.wrap ((kk : Int) + 1) = ((kk : Int) + 1) := IntWalk.i64_in _ (by omega)
          have k32 : (0 : Int) ≤ ((kk : Int) + 1) := by omega
          have k33 : ((kk : Int) + 1) ≤ ((adrs H).length : Int) := by omega
          have k34 : (((kk : Int) + 1) : Int).toNat = kk + 1 := by omega
          have L0 : 0 < (adrs H).length := by rw [adrs_len]; omega
          have l8 : (adrs H).length ≤ 41 := by rw [adrs_len]; omega
          have hbA : Below w7.heap.size w7 (w7.alloc (.cells #[] 3)).drew := (below_alloc (Below.refl _ _) _).drew
          have RD1 := Lib.hid (H7.out.takeRd L0 hbA kk)
          have RD2 := Lib.hid (fun (W : World) (hb : Below w7.heap.size w7 W) => H7.out.dropRd L0 hb (kk + 1))
          have len1 : ((ints (adrs H)).take kk).length = kk * 1 := by rw [List.length_take, ints_length]; omega
          have len2 : ((ints (adrs H)).drop (kk + 1)).length = ((adrs H).length - (kk + 1)) * 1 := by rw [List.length_drop, ints_length]; omega
          have LE1 := Lib.hid len1
          have LE2 := Lib.hid len2
          have HBA := Lib.hid hbA
          have cle : (adrs H).length - (kk + 1) ≤ cv - (kk + 1) := by have := hcap; rw [adrs_len] at this ⊢; omega
          clear len1 len2 hbA
          go_region_law (first
            | (refine step_append_row (by rfl) _ _ _ 3 (.int .i64 0) 1 8 (by rfl) Tryd.underlying37 infoInt3 (by rfl) (by omega) (.slice (some ⟨w7.heap.size, 0, none⟩) 0 0) 0 [] (by rfl) (Row.empty _ _ _ _) (some ⟨g, 0, none⟩) kk cv ((ints (adrs H)).take kk) (by rfl) LE1.out (by intro h; cases h) kcv RD1.out (ones_take _ _) (by simp only [maxLen]; omega) (by omega) ?_; intro v1 w8 hrow8 hk8 hb8)
            | (refine step_append_row (by rfl) _ _ _ 3 (.int .i64 0) 1 8 (by rfl) Tryd.underlying37 infoInt3 (by rfl) (by omega) v1 (0 + kk) ([] ++ (ints (adrs H)).take kk) (by rfl) hrow8 (if cv = kk + 1 then some ⟨g, 0, none⟩ else some ⟨g, kk + 1, none⟩) ((adrs H).length - (kk + 1)) (cv - (kk + 1)) ((ints (adrs H)).drop (kk + 1)) (by rfl) LE2.out (by intro h; split at h <;> cases h) cle (RD2.out _ (below_next HBA.out hk8.below0)) (ones_drop _ _) (by simp only [maxLen]; omega) (by omega) ?_; intro v2 w9 hrow9 hk9 hb9))
          have ZZ : Hid (ZR w w9 L l v2 (runs.set f 0) (rng tk f (f + m2) false) (rng ws (f * 16) (f * 16 + m2 * 16) 0) (adrs (H.eraseIdx kk))) := H7.out.cut HBA.out hk8 hb8 hk9 hb9 hrow9 (by rw [adrs_len, adrs_len, List.length_eraseIdx, if_pos (by omega)]; omega) (by rw [List.nil_append]; exact adrs_cut H kk)
          have HZ := Lib.hid (hP.out.2.drop HR.out)
          have hel : (H.eraseIdx kk).length = H.length - 1 := by rw [List.length_eraseIdx, if_pos (by omega)]
          clear hrow9 hk9 hb9 hrow8 hk8 hb8 RD1 RD2 LE1 LE2 HBA
          go_wp2_with fail
          go_roundw
          case rel => exact ⟨k + 1, v2, _, _, _, H.eraseIdx kk, by omega, by go_num, rfl, by omega, by omega, ZZ.out, HZ.out⟩
          case measure => simp [intOf]; omega
        · go_wp2_with fail
          refine (num_err w5 ads (HS.out.later h5.bl) 13 ea h13).mono ?_
          rintro e w6 ⟨rfl, hb6⟩
          have h6 := h5.later hb6
          clear h5 hb6
          go_wp2_with fail
          obtain ⟨⟨f, m2⟩, hr⟩ : ∃ r, H[0]? = some r := ⟨_, List.getElem?_eq_getElem (by omega)⟩
          obtain ⟨hm0, hfm⟩ := hP.out.2.ok _ (List.mem_of_getElem? hr)
          have hrun := hP.out.2.run _ (List.mem_of_getElem? hr)
          simp only at hm0 hfm hrun
          have HRUN := Lib.hid hrun
          have HR := Lib.hid hr
          obtain ⟨g, cap, ev, hblk, hcap, hcapm, hg6, hcell, _⟩ := h6.row.mid (by rw [adrs_len]; omega)
          have c3 := hcell 0 (.int .i64 (16 * (f : Int))) (by simp [ints, adrs, hr])
          have ev' := ev
          injection ev' with e1 _ e2
          clear hcell hrun hr ev hblk
          subst e1 e2
          have k30 : (0 : Int) ≤ (0 : Int) := by omega
          have k31 : (0 : Int) < ((adrs H).length : Int) := by rw [adrs_len]; omega
          go_wp2_with fail
          refine (z_free h6 f m2 (16 * (f : Int)) rfl HRUN.out hm0 hfm).mono ?_
          rintro e w7 ⟨rfl, h7⟩
          have H7 := Lib.hid h7
          clear h7 c3
          go_wp2_with fail
          have kcv : 0 ≤ cv := by have := hcap; rw [adrs_len] at this; omega
          have wr1 : IntKind.i64.wrap (1 : Int) = (1 : Int) := rfl
          have k32 : (0 : Int) ≤ (1 : Int) := by omega
          have k33 : (1 : Int) ≤ ((adrs H).length : Int) := by omega
          have k34 : ((1 : Int) : Int).toNat = 1 := by omega
          have L0 : 0 < (adrs H).length := by rw [adrs_len]; omega
          have l8 : (adrs H).length ≤ 41 := by rw [adrs_len]; omega
          have hbA : Below w7.heap.size w7 (w7.alloc (.cells #[] 3)).drew := (below_alloc (Below.refl _ _) _).drew
          have RD1 := Lib.hid (H7.out.takeRd L0 hbA 0)
          have RD2 := Lib.hid (fun (W : World) (hb : Below w7.heap.size w7 W) => H7.out.dropRd L0 hb (1))
          have len1 : ((ints (adrs H)).take 0).length = 0 * 1 := by rw [List.length_take, ints_length]; omega
          have len2 : ((ints (adrs H)).drop (1)).length = ((adrs H).length - (1)) * 1 := by rw [List.length_drop, ints_length]; omega
          have LE1 := Lib.hid len1
          have LE2 := Lib.hid len2
          have HBA := Lib.hid hbA
          have cle : (adrs H).length - (1) ≤ cv - (1) := by have := hcap; rw [adrs_len] at this ⊢; omega
          clear len1 len2 hbA
          go_region_law (first
            | (refine step_append_row (by rfl) _ _ _ 3 (.int .i64 0) 1 8 (by rfl) Tryd.underlying37 infoInt3 (by rfl) (by omega) (.slice (some ⟨w7.heap.size, 0, none⟩) 0 0) 0 [] (by rfl) (Row.empty _ _ _ _) (some ⟨g, 0, none⟩) 0 cv ((ints (adrs H)).take 0) (by rfl) LE1.out (by intro h; cases h) kcv RD1.out (ones_take _ _) (by simp only [maxLen]; omega) (by omega) ?_; intro v1 w8 hrow8 hk8 hb8)
            | (refine step_append_row (by rfl) _ _ _ 3 (.int .i64 0) 1 8 (by rfl) Tryd.underlying37 infoInt3 (by rfl) (by omega) v1 (0 + 0) ([] ++ (ints (adrs H)).take 0) (by rfl) hrow8 (if cv = 1 then some ⟨g, 0, none⟩ else some ⟨g, 1, none⟩) ((adrs H).length - (1)) (cv - (1)) ((ints (adrs H)).drop (1)) (by rfl) LE2.out (by intro h; split at h <;> cases h) cle (RD2.out _ (below_next HBA.out hk8.below0)) (ones_drop _ _) (by simp only [maxLen]; omega) (by omega) ?_; intro v2 w9 hrow9 hk9 hb9))
          have ZZ : Hid (ZR w w9 L l v2 (runs.set f 0) (rng tk f (f + m2) false) (rng ws (f * 16) (f * 16 + m2 * 16) 0) (adrs (H.eraseIdx 0))) := H7.out.cut HBA.out hk8 hb8 hk9 hb9 hrow9 (by rw [adrs_len, adrs_len, List.length_eraseIdx, if_pos (by omega)]; omega) (by rw [List.nil_append]; exact adrs_cut H 0)
          have HZ := Lib.hid (hP.out.2.drop HR.out)
          have hel : (H.eraseIdx 0).length = H.length - 1 := by rw [List.length_eraseIdx, if_pos (by omega)]
          clear hrow9 hk9 hb9 hrow8 hk8 hb8 RD1 RD2 LE1 LE2 HBA
          go_wp2_with fail
          go_roundw
          case rel => exact ⟨k + 1, v2, _, _, _, H.eraseIdx 0, by omega, by go_num, rfl, by omega, by omega, ZZ.out, HZ.out⟩
          case measure => simp [intOf]; omega
    · have hP1 : Hid (ZR w wr L l (.slice AV (adrs H).length cv) runs tk ws (adrs H)) := hP.out.1
      have hP2 : Hid (Z runs tk ws H) := hP.out.2
      have H41 : (H.length : Int) ≤ 41 := by omega
      by_cases hlt : k < xs.length
      · obtain ⟨b1, o1, rfl, c1⟩ := (HX.out.later hP.out.1.bl).at k hlt
        obtain ⟨n, en⟩ : ∃ n, xs.getD k 0 = n := ⟨_, rfl⟩
        rw [en] at c1
        clear en
        have d2 : decide (40 < (k : Int)) = true := decide_eq_true (by omega)
        clear hgo hP
        go_wp2_with fail
        go_loopw [17, 161] (fun sv iv wr2 => ∃ j : Nat, j ≤ H.length ∧ iv = .int .i64 j ∧ sv = .int .i64 (16 * (sumP H j : Int)) ∧ Hid (ZR w wr2 L l (.slice AV (adrs H).length cv) runs tk ws (adrs H))) (fun _ iv _ => H.length - (intOf iv).toNat)
        case atStart => exact ⟨0, Nat.zero_le _, rfl, rfl, hP1⟩
        case round =>
          obtain ⟨j, hj, rfl, rfl, hQ⟩ := hrel
          have st := hP2.out.top j
          by_cases hjl : j < H.length
          · obtain ⟨⟨f, m⟩, hr⟩ : ∃ r, H[j]? = some r := ⟨_, List.getElem?_eq_getElem hjl⟩
            obtain ⟨hm0, hfm⟩ := hP2.out.ok _ (List.mem_of_getElem? hr)
            have hrun := hP2.out.run _ (List.mem_of_getElem? hr)
            have hheld : Hid (∀ q, 16 * f ≤ q → q < 16 * (f + m) → tk[q / 16]? = some true ∧ ws[q]? = some (16 * (f : Int) + 1)) := fun q h1 h2 =>
              ⟨(hP2.out.tkn (q / 16)).2 ⟨_, List.mem_of_getElem? hr, by show f ≤ q / 16; omega, by show q / 16 < f + m; omega⟩, hP2.out.held _ (List.mem_of_getElem? hr) q h1 h2⟩
            simp only at hm0 hfm hrun
            have HRUN := Lib.hid hrun
            have HSUM := Lib.hid (sumP_next hr)
            obtain ⟨g, cap, ev, hblk, hcap, hcapm, hg6, hcell, _⟩ := hQ.out.row.mid (by rw [adrs_len]; omega)
            have c3 := hcell j (.int .i64 (16 * (f : Int))) (by simp [ints, adrs, hr])
            have ev' := ev
            injection ev' with e1 _ e2
            clear hcell hrun hr ev hblk
            subst e1 e2
            have k31 : (j : Int) < ((adrs H).length : Int) := by rw [adrs_len]; omega
            have f64 : (f : Int) ≤ 64 := by omega
            have m64 : (m : Int) ≤ 64 := by omega
            have s64 : (sumP H j : Int) ≤ 64 := by omega
            go_wp2_with fail
            refine (z_size hQ.out f (m : Int) (16 * (f : Int)) rfl HRUN.out (by omega) (by omega)).mono ?_
            rintro e w6 ⟨rfl, h6⟩
            replace hQ := Lib.hid h6
            clear h6 c3
            go_wp2_with fail
            go_loopw [20] (fun qv wr => ∃ q : Nat, 16 * f ≤ q ∧ q ≤ 16 * (f + m) ∧ qv = .int .i64 q ∧ Hid (ZR w wr L l (.slice (some ⟨g, 0, none⟩) (adrs H).length cv) runs tk ws (adrs H))) (fun qv _ => 16 * (f + m) - (intOf qv).toNat)
            case atStart => exact ⟨16 * f, Nat.le_refl _, by omega, congrArg (Value.int .i64) (by omega), hQ⟩
            case round =>
              obtain ⟨q, hq1, hq2, rfl, hQ⟩ := hrel
              go_wp2_with fail
              refine (z_size hQ.out f (m : Int) (16 * (f : Int)) rfl HRUN.out (by omega) (by omega)).mono ?_
              rintro e w8 ⟨rfl, h8⟩
              replace hQ := Lib.hid h8
              clear h8
              by_cases hqe : q < 16 * (f + m)
              · have d7 : decide ((q : Int) < 16 * (f : Int) + (m : Int) * 16) = true := decide_eq_true (by omega)
                obtain ⟨hu1, hu2⟩ := hheld.out q hq1 hqe
                have HU1 := Lib.hid hu1
                have HU2 := Lib.hid hu2
                clear hu1 hu2
                have q1025 : (q : Int) ≤ 1024 := by omega
                go_wp2_with fail
                refine (z_get hQ.out q (16 * (f : Int) + 1) HU1.out HU2.out).mono ?_
                rintro e w9 ⟨rfl, h9⟩
                replace hQ := Lib.hid h9
                clear h9
                go_wp2_with fail
                go_roundw
                case rel => exact ⟨q + 1, by omega, by omega, by go_num, hQ⟩
                case measure => simp [intOf]; omega
              · have d7 : decide ((q : Int) < 16 * (f : Int) + (m : Int) * 16) = false := decide_eq_false (by omega)
                go_wp2_with fail
                go_roundw
                case rel => exact ⟨j + 1, by omega, by go_num, congrArg (Value.int .i64) (by have := HSUM.out; omega), hQ⟩
                case measure => simp [intOf]; omega
          · have HJ : Hid (sumP H j = trues tk) := by
              show _ = _
              rw [show j = H.length by omega, sumP_all, hP2.out.sum]
            have t64 : (trues tk : Int) ≤ 64 := by have := HJ.out; omega
            have d9 : (16 * (sumP H j : Int) == 16 * (trues tk : Int)) = true := by rw [HJ.out]; simp
            have d10 : ¬ j < (adrs H).length := by rw [adrs_len]; omega
            have d11 : decide (j < (adrs H).length) = false := decide_eq_false d10
            go_wp2_with fail
            refine (z_used hQ.out).mono ?_
            rintro e w8 ⟨rfl, h8⟩
            replace hQ := Lib.hid h8
            clear h8
            go_wp2_with fail
            refine (z_clear hQ.out).mono ?_
            rintro e w9 ⟨rfl, h9⟩
            replace hQ := Lib.hid h9
            clear h9
            go_wp2_with fail
            refine (z_alloc_ok hQ.out 1024 64 0 (by omega) (by omega) (by rfl) (fits_free 64 64 (by omega)) (fun f hf => by omega)).mono ?_
            rintro e w10 ⟨rfl, h10⟩
            have hb := h10.bl
            clear h10
            go_wp2_with fail
            go_ret
            exact ⟨rfl, hb⟩
      · clear hgo hP
        go_wp2_with fail
        go_loopw [17, 161] (fun sv iv wr2 => ∃ j : Nat, j ≤ H.length ∧ iv = .int .i64 j ∧ sv = .int .i64 (16 * (sumP H j : Int)) ∧ Hid (ZR w wr2 L l (.slice AV (adrs H).length cv) runs tk ws (adrs H))) (fun _ iv _ => H.length - (intOf iv).toNat)
        case atStart => exact ⟨0, Nat.zero_le _, rfl, rfl, hP1⟩
        case round =>
          obtain ⟨j, hj, rfl, rfl, hQ⟩ := hrel
          have st := hP2.out.top j
          by_cases hjl : j < H.length
          · obtain ⟨⟨f, m⟩, hr⟩ : ∃ r, H[j]? = some r := ⟨_, List.getElem?_eq_getElem hjl⟩
            obtain ⟨hm0, hfm⟩ := hP2.out.ok _ (List.mem_of_getElem? hr)
            have hrun := hP2.out.run _ (List.mem_of_getElem? hr)
            have hheld : Hid (∀ q, 16 * f ≤ q → q < 16 * (f + m) → tk[q / 16]? = some true ∧ ws[q]? = some (16 * (f : Int) + 1)) := fun q h1 h2 =>
              ⟨(hP2.out.tkn (q / 16)).2 ⟨_, List.mem_of_getElem? hr, by show f ≤ q / 16; omega, by show q / 16 < f + m; omega⟩, hP2.out.held _ (List.mem_of_getElem? hr) q h1 h2⟩
            simp only at hm0 hfm hrun
            have HRUN := Lib.hid hrun
            have HSUM := Lib.hid (sumP_next hr)
            obtain ⟨g, cap, ev, hblk, hcap, hcapm, hg6, hcell, _⟩ := hQ.out.row.mid (by rw [adrs_len]; omega)
            have c3 := hcell j (.int .i64 (16 * (f : Int))) (by simp [ints, adrs, hr])
            have ev' := ev
            injection ev' with e1 _ e2
            clear hcell hrun hr ev hblk
            subst e1 e2
            have k31 : (j : Int) < ((adrs H).length : Int) := by rw [adrs_len]; omega
            have f64 : (f : Int) ≤ 64 := by omega
            have m64 : (m : Int) ≤ 64 := by omega
            have s64 : (sumP H j : Int) ≤ 64 := by omega
            go_wp2_with fail
            refine (z_size hQ.out f (m : Int) (16 * (f : Int)) rfl HRUN.out (by omega) (by omega)).mono ?_
            rintro e w6 ⟨rfl, h6⟩
            replace hQ := Lib.hid h6
            clear h6 c3
            go_wp2_with fail
            go_loopw [20] (fun qv wr => ∃ q : Nat, 16 * f ≤ q ∧ q ≤ 16 * (f + m) ∧ qv = .int .i64 q ∧ Hid (ZR w wr L l (.slice (some ⟨g, 0, none⟩) (adrs H).length cv) runs tk ws (adrs H))) (fun qv _ => 16 * (f + m) - (intOf qv).toNat)
            case atStart => exact ⟨16 * f, Nat.le_refl _, by omega, congrArg (Value.int .i64) (by omega), hQ⟩
            case round =>
              obtain ⟨q, hq1, hq2, rfl, hQ⟩ := hrel
              go_wp2_with fail
              refine (z_size hQ.out f (m : Int) (16 * (f : Int)) rfl HRUN.out (by omega) (by omega)).mono ?_
              rintro e w8 ⟨rfl, h8⟩
              replace hQ := Lib.hid h8
              clear h8
              by_cases hqe : q < 16 * (f + m)
              · have d7 : decide ((q : Int) < 16 * (f : Int) + (m : Int) * 16) = true := decide_eq_true (by omega)
                obtain ⟨hu1, hu2⟩ := hheld.out q hq1 hqe
                have HU1 := Lib.hid hu1
                have HU2 := Lib.hid hu2
                clear hu1 hu2
                have q1025 : (q : Int) ≤ 1024 := by omega
                go_wp2_with fail
                refine (z_get hQ.out q (16 * (f : Int) + 1) HU1.out HU2.out).mono ?_
                rintro e w9 ⟨rfl, h9⟩
                replace hQ := Lib.hid h9
                clear h9
                go_wp2_with fail
                go_roundw
                case rel => exact ⟨q + 1, by omega, by omega, by go_num, hQ⟩
                case measure => simp [intOf]; omega
              · have d7 : decide ((q : Int) < 16 * (f : Int) + (m : Int) * 16) = false := decide_eq_false (by omega)
                go_wp2_with fail
                go_roundw
                case rel => exact ⟨j + 1, by omega, by go_num, congrArg (Value.int .i64) (by have := HSUM.out; omega), hQ⟩
                case measure => simp [intOf]; omega
          · have HJ : Hid (sumP H j = trues tk) := by
              show _ = _
              rw [show j = H.length by omega, sumP_all, hP2.out.sum]
            have t64 : (trues tk : Int) ≤ 64 := by have := HJ.out; omega
            have d9 : (16 * (sumP H j : Int) == 16 * (trues tk : Int)) = true := by rw [HJ.out]; simp
            have d10 : ¬ j < (adrs H).length := by rw [adrs_len]; omega
            have d11 : decide (j < (adrs H).length) = false := decide_eq_false d10
            go_wp2_with fail
            refine (z_used hQ.out).mono ?_
            rintro e w8 ⟨rfl, h8⟩
            replace hQ := Lib.hid h8
            clear h8
            go_wp2_with fail
            refine (z_clear hQ.out).mono ?_
            rintro e w9 ⟨rfl, h9⟩
            replace hQ := Lib.hid h9
            clear h9
            go_wp2_with fail
            refine (z_alloc_ok hQ.out 1024 64 0 (by omega) (by omega) (by rfl) (fits_free 64 64 (by omega)) (fun f hf => by omega)).mono ?_
            rintro e w10 ⟨rfl, h10⟩
            have hb := h10.bl
            clear h10
            go_wp2_with fail
            go_ret
            exact ⟨rfl, hb⟩
end Go.Proofs.YtpjphmpebegidaaDoor
