/-
  PoolApart: what is done to other arenas changes no answer of one's own.
-/
import Derived.Test.YtpjphmpebegidaaDoorPool22
import Derived.Test.YtpjphmpebegidaaDoorSame2
import Derived.Deep.RegionWith
namespace Go.Proofs.YtpjphmpebegidaaDoor
open Go.RowKit Go.Stk
attribute [local go_sem ↓] Go.wp_at_zero Go.wp_at_succ

set_option maxRecDepth 100000 in
set_option maxHeartbeats 4000000 in
theorem apart_law (xs : List Int) (os : List Op4) (own : Int) (A D : Option Addr) (c d : Nat) (w : World) (hx : RI w A xs) (hcx : xs.length ≤ c) (hy : Rs w D (ocells os)) (hol0 : os.length ≤ 9223372036854775807) (hos : ∀ o ∈ os, o.t ≤ 9223372036854775807 ∧ o.v ≤ 9223372036854775807) (ads : List Addr) (hS : Sent w 94 errGs ads) (er en ea : Addr) (hE : Errs w er en ea) (h0 : ads[0]? = some er) (h7 : ads[7]? = some en) (h13 : ads[13]? = some ea) :
    Calls Tryd.prog 7 #[.slice A xs.length c, .slice D os.length d, .int .i64 own] w (Ret w (.bool true)) := by
  have HA := Lib.hid (alive_any w ads hS er en ea hE h13)
  have HE := Lib.hid hE
  have HS := Lib.hid hS
  have HX := Lib.hid hx
  have HY := Lib.hid hy
  have HOS := Lib.hid hos
  have hxl := hx.len
  have hol := hol0
  clear hx hy hS hE hos
  by_cases hok : newOk 256 xs = true
  · by_cases hlen : xs.length = 0
    · have HL := Lib.hid hlen
      have dl : ((xs.length : Int) == 0) = true := by rw [hlen]; rfl
      have HOK := Lib.hid hok
      clear hlen hok
      go_enter Tryd.func7, Tryd.ntmps7
      go_wp2_with fail
      refine HA.out.mono ?_
      rintro e w1 ⟨rfl, hb1⟩
      go_wp2_with fail
      refine (may_any 256 xs A c _ (HX.out.later hb1) (by omega)).mono ?_
      rintro e w2 ⟨rfl, rfl⟩
      rw [HOK.out]
      go_wp2_with fail
      go_ret
      exact ⟨rfl, hb1⟩
    · have dl : ((xs.length : Int) == 0) = false := beq_eq_false_iff_ne.2 (by omega)
      have l1 : 0 < xs.length := by omega
      have l0 : (0 : Int) < (xs.length : Int) := by omega
      have HOK := Lib.hid hok
      have l8 : (xs.length : Int) ≤ 8 := by
        unfold newOk at hok
        simp only [Bool.and_eq_true, decide_eq_true_eq] at hok
        omega
      have h8 : xs.length ≤ 8 := by omega
      clear hlen hok
      obtain ⟨m, hm, em⟩ := mod_nat own xs.length l1 (by omega)
      have hm8 : (m : Int) < (xs.length : Int) := by omega
      go_enter Tryd.func7, Tryd.ntmps7
      go_wp2_with fail
      refine HA.out.mono ?_
      rintro e w1 ⟨rfl, hb1⟩
      go_wp2_with fail
      refine (may_any 256 xs A c _ (HX.out.later hb1) (by omega)).mono ?_
      rintro e w2 ⟨rfl, rfl⟩
      rw [HOK.out]
      go_wp2_with fail
      refine (new_ok 256 xs A c _ er en ea (HE.out.later hb1) (HX.out.later hb1) (by omega) (by omega) h8).mono ?_
      rintro e w2 hq
      have hm1 : Made w1 256 xs e w2 := by
        rcases hq with ⟨_, hm⟩ | ⟨hno, _⟩
        · exact hm
        · rw [show newOk ((256 : Nat) : Int) xs = true from HOK.out] at hno; cases hno
      clear hq
      obtain ⟨L, ys, rfl, p1, p2, p3, p4, p5⟩ := hm1
      have HM1 : Hid (Made w1 256 xs (.returned (.tuple #[.pointer (some ⟨L.pb, 0, none⟩), .nilIface])) w2) := ⟨L, ys, rfl, p1, p2, p3, p4, p5⟩
      have HB2 := Lib.hid (below_next hb1 p3)
      clear p1 p2 p3 p4 p5
      go_wp2_with fail
      refine (new_ok 256 xs A c _ er en ea (HE.out.later HB2.out) (HX.out.later HB2.out) (by omega) (by omega) h8).mono ?_
      rintro e w3 hq
      have hm2 : Made w2 256 xs e w3 := by
        rcases hq with ⟨_, hm⟩ | ⟨hno, _⟩
        · exact hm
        · rw [show newOk ((256 : Nat) : Int) xs = true from HOK.out] at hno; cases hno
      clear hq
      obtain ⟨L1, L2, zs, aO, q1, rfl, q3, q4, q5⟩ := apr_start hb1 HM1.out hm2 m hm
      have hpb : L.pb = L1.pb := by
        simp at q1
        exact q1
      rw [hpb]
      have HZ := Lib.hid q3
      have HQ := Lib.hid q5
      have HSUM := Lib.hid q4
      clear q1 q3 q5 hm2 hpb HM1 HB2 q4 hb1 HA
      go_wp2_with fail
      obtain ⟨l2, hl2⟩ : ∃ l, L2.als[m]? = some l := ⟨_, List.getElem?_eq_getElem (by rw [HQ.out.p2.alen]; exact (List.getElem?_eq_some_iff.1 HQ.out.same2).1)⟩
      have HL2 := Lib.hid hl2
      clear hl2
      refine (arena_in HQ.out.p2 m l2 HL2.out).mono ?_
      rintro e w4 ⟨rfl, hb4⟩
      replace HQ := Lib.hid (HQ.out.later hb4)
      clear hb4
      go_wp2_with fail
      go_loopw [76] (fun kv wr => ∃ (k : Nat) (S1 S2 : PS) (aO : Ar), k ≤ os.length ∧ kv = .int .i64 k ∧ Hid (ApR w wr L1 L2 S1 S2 zs m aO)) (fun kv _ => os.length - (intOf kv).toNat)
      case atStart => exact ⟨0, _, _, _, Nat.zero_le _, rfl, HQ⟩
      case round =>
        clear HQ aO
        obtain ⟨k, S1, S2, aO, hk, rfl, hP⟩ := hrel
        by_cases hgo : k < os.length ∧ k ≤ 150
        · obtain ⟨hlt, h150⟩ := hgo
          obtain ⟨o, ho⟩ : ∃ o, os[k]? = some o := ⟨_, List.getElem?_eq_getElem hlt⟩
          obtain ⟨b1, o1, rfl, c1, c2, c3, c4⟩ := ocells_at (HY.out.later hP.out.bl) k o ho
          obtain ⟨ot, ov⟩ := HOS.out o (List.mem_of_getElem? ho)
          have d2 : decide (150 < (k : Int)) = false := decide_eq_false (by omega)
          obtain ⟨r, hr, er'⟩ := mod_nat o.a xs.length l1 (by omega)
          have hra : r < S1.ars.length := by
            rw [hP.out.len]
            have h1 := HZ.out
            rw [h1] at hr
            simpa [ints'] using hr
          obtain ⟨a1, ha1⟩ : ∃ a, S1.ars[r]? = some a := ⟨_, List.getElem?_eq_getElem hra⟩
          obtain ⟨l1', hl1⟩ : ∃ l, L1.als[r]? = some l := ⟨_, List.getElem?_eq_getElem (by rw [hP.out.p1.alen]; exact hra)⟩
          have HA1 := Lib.hid ha1
          have HL1 := Lib.hid hl1
          clear ho ha1 hl1 hra
          have HBX := Lib.hid (blk_new wr (.cells #[.int .i64 o.k, .int .i64 o.a, .int .i64 o.t, .int .i64 o.v] 47))
          have HP1 := Lib.hid (hP.out.later (below_alloc (Below.refl wr.heap.size wr) (.cells #[.int .i64 o.k, .int .i64 o.a, .int .i64 o.t, .int .i64 o.v] 47)))
          by_cases hrm : r = m
          · subst hrm
            obtain rfl : a1 = aO := by
              have h1 := HA1.out
              rw [hP.out.same1] at h1
              exact (Option.some.inj h1).symm
            go_wp2_with fail
            refine (arena_in HP1.out.p1 r l1' HL1.out).mono ?_
            rintro e w5 ⟨rfl, hb5⟩
            obtain ⟨q0, q1, q2, q3⟩ := blk4 (blk_later hb5 HBX.out)
            have HB5 := Lib.hid (blk_later hb5 HBX.out)
            have HP5 := Lib.hid (HP1.out.later hb5)
            clear hb5 HP1 HBX c1 c2 c3 c4
            go_wp2_with fail
            refine (step_all HP5.out.p1 HA1.out HL1.out (HP5.out.ok _ _ HA1.out).1.ok o ot ov er en ea (HE.out.later HP5.out.bl)).mono ?_
            rintro e w6 hr6
            have HR6 := Lib.hid hr6
            have HB6 := Lib.hid (hr6.2.2.heap HB5.out (hP.out.notBox (Nat.le_refl _)))
            obtain ⟨t0, t1, t2, t3⟩ := blk4 HB6.out
            have HM6 := Lib.hid (HP5.out.mid hr6)
            obtain ⟨rfl, _, _⟩ := hr6
            clear q0 q1 q2 q3 HB5
            go_wp2_with fail
            refine (step_all HM6.out.1 HP5.out.same2 HL2.out (HP5.out.ok _ _ HA1.out).1.ok o ot ov er en ea (HE.out.later HM6.out.2)).mono ?_
            rintro e w7 hr7
            have HQ7 := Lib.hid (HP5.out.both o HR6.out hr7)
            have hres := HP5.out.res o
            obtain ⟨rfl, _, _⟩ := hr7
            rw [hres.1]
            have HRS := Lib.hid hres.2
            clear hres t0 t1 t2 t3 HB6 HM6 HR6
            generalize doR a1 S1.words o = R1 at HQ7 HRS ⊢
            go_wp2_with fail
            refine (num_ev w7 ads (HS.out.later HQ7.out.bl) er en ea h0 h7 h13 R1.1.2).mono ?_
            rintro e w8 ⟨rfl, hb8⟩
            replace HQ7 := Lib.hid (HQ7.out.later hb8)
            clear hb8
            go_wp2_with fail
            refine (num_ev w8 ads (HS.out.later HQ7.out.bl) er en ea h0 h7 h13 R1.1.2).mono ?_
            rintro e w9 ⟨rfl, hb9⟩
            replace HQ7 := Lib.hid (HQ7.out.later hb9)
            clear hb9
            go_wp2_with fail
            refine (used_any HQ7.out.p1 HQ7.out.same1 HL1.out).mono ?_
            rintro e w10 ⟨rfl, hb10⟩
            replace HQ7 := Lib.hid (HQ7.out.later hb10)
            clear hb10
            go_wp2_with fail
            refine (used_any HQ7.out.p2 HQ7.out.same2 HL2.out).mono ?_
            rintro e w11 ⟨rfl, hb11⟩
            replace HQ7 := Lib.hid (HQ7.out.later hb11)
            clear hb11
            go_wp2_with fail
            go_roundw
            case rel => exact ⟨k + 1, _, _, _, by omega, by go_num, HQ7⟩
            case measure => simp [intOf]; omega
          · have hne : ((r : Int) != (m : Int)) = true := by simp; omega
            go_wp2_with fail
            refine (arena_in HP1.out.p1 r l1' HL1.out).mono ?_
            rintro e w5 ⟨rfl, hb5⟩
            obtain ⟨q0, q1, q2, q3⟩ := blk4 (blk_later hb5 HBX.out)
            have HP5 := Lib.hid (HP1.out.later hb5)
            clear hb5 HP1 HBX c1 c2 c3 c4
            go_wp2_with fail
            refine (step_all HP5.out.p1 HA1.out HL1.out (HP5.out.ok _ _ HA1.out).1.ok o ot ov er en ea (HE.out.later HP5.out.bl)).mono ?_
            rintro e w6 hr6
            have HQ := Lib.hid (HP5.out.other HA1.out hrm o hr6)
            obtain ⟨rfl, _, _⟩ := hr6
            clear q0 q1 q2 q3 HP5 hP hrm
            go_wp2_with fail
            go_roundw
            case rel => exact ⟨k + 1, _, S2, aO, by omega, by go_num, HQ⟩
            case measure => simp [intOf]; omega
        · have HQ := Lib.hid hP.out
          have HZL : Hid (zs.length = xs.length) := by show _ = _; rw [HZ.out]; simp [ints']
          have mc : m ≤ c := by omega
          have mc' : (m : Int) ≤ (c : Int) := by omega
          by_cases hlt : k < os.length
          · obtain ⟨o, ho⟩ : ∃ o, os[k]? = some o := ⟨_, List.getElem?_eq_getElem hlt⟩
            obtain ⟨b1, o1, rfl, c1, c2, c3, c4⟩ := ocells_at (HY.out.later hP.out.bl) k o ho
            have d2 : decide (150 < (k : Int)) = true := decide_eq_true (by omega)
            replace HQ := Lib.hid (HQ.out.later (below_alloc (Below.refl wr.heap.size wr) (.cells #[.int .i64 o.k, .int .i64 o.a, .int .i64 o.t, .int .i64 o.v] 47)))
            clear hgo hP ho
            go_wp2_with fail
            clear c1 c2 c3 c4
            generalize wr.alloc (.cells #[.int .i64 o.k, .int .i64 o.a, .int .i64 o.t, .int .i64 o.v] 47) = wr2 at HQ ⊢
            go_loop [22, 136] (fun fv jv => ∃ j : Nat, j ≤ m ∧ jv = .int .i64 j ∧ fv = .int .i64 ((16 * (zs.take j).sum : Nat) : Int)) (fun _ jv => m - (intOf jv).toNat)
            case atStart => exact ⟨0, Nat.zero_le _, rfl, rfl⟩
            case round =>
              obtain ⟨j, hj, rfl, rfl⟩ := hrel
              by_cases hjm : j < m
              · obtain ⟨y, hy⟩ : ∃ y, zs[j]? = some y := ⟨_, List.getElem?_eq_getElem (by have := HZL.out; omega)⟩
                obtain ⟨b2, o2, rfl, c2⟩ := (HX.out.later HQ.out.bl).at j (by omega)
                rw [show xs.getD j 0 = (y : Int) by rw [HZ.out]; simp [ints', hy]] at c2
                have hsum := take_sum_le zs j zs.length (by have := HZL.out; omega) y hy
                rw [List.take_length] at hsum
                have HT := Lib.hid (show (zs.take (j + 1)).sum = (zs.take j).sum + y by rw [List.take_add_one, hy]; simp)
                have s1 : ((16 * (zs.take j).sum : Nat) : Int) ≤ 4096 := by have := HSUM.out; omega
                have s2 : (y : Int) ≤ 256 := by have := HSUM.out; omega
                clear hy hsum
                generalize hs0 : (zs.take j).sum = s0 at HT s1 ⊢
                clear hs0
                go_wp2_with fail
                go_round
                case rel => exact ⟨j + 1, by omega, by go_num, congrArg (Value.int .i64) (by have := HT.out; omega)⟩
                case measure => simp [intOf]; omega
              · obtain rfl : j = m := by omega
                obtain ⟨hok1, hoff, hn⟩ := HQ.out.ok j aO HQ.out.same1
                have hroom := HQ.out.room HQ.out.same1
                have hw1 : S1.words.length = 4096 := by rw [HQ.out.p1.lw, HQ.out.np1]
                have hw2 : S2.words.length = 4096 := by rw [HQ.out.p2.lw, HQ.out.np2]
                obtain ⟨b2, o2, rfl, c2⟩ := (HX.out.later HQ.out.bl).at j (by omega)
                rw [show xs.getD j 0 = (aO.n : Int) by rw [HZ.out]; simp [ints', hn]] at c2
                obtain ⟨F, hF⟩ : ∃ F, F = aO.off * 16 := ⟨_, rfl⟩
                obtain ⟨N, hN⟩ : ∃ N, N = aO.n * 16 := ⟨_, rfl⟩
                rw [show 16 * (zs.take j).sum = F by omega]
                have HW := Lib.hid HQ.out.words
                rw [← hF, ← hN] at HW
                have W1 := Lib.hid hw1
                have W2 := Lib.hid hw2
                obtain ⟨E, hE⟩ : ∃ E, E = F + N := ⟨_, rfl⟩
                have FN : E ≤ 4096 := by omega
                have e1 : IntKind.i64.wrap (16 * (aO.n : Int)) = (N : Int) := by rw [IntWalk.i64_in _ (by omega)]; omega
                have e2 : IntKind.i64.wrap ((F : Int) + (N : Int)) = (E : Int) := by rw [IntWalk.i64_in _ (by omega)]; omega
                have e3 : (F : Int) ≤ (E : Int) := by omega
                have e4 : F ≤ E := by omega
                have HEF := Lib.hid hE
                have NP1 := Lib.hid (show 0 < S1.np by rw [HQ.out.np1]; omega)
                have NP2 := Lib.hid (show 0 < S2.np by rw [HQ.out.np2]; omega)
                clear hok1 hoff hn hroom hw1 hw2 hF hN hE HOS
                have LEN : Hid (((S1.words.drop F).take N).length = E - F) := by show _ = _; rw [List.length_take, List.length_drop, W1.out]; have := HEF.out; omega
                have C1 := Lib.hid (show E ≤ S1.words.length by rw [W1.out]; exact FN)
                have C2 := Lib.hid (show E ≤ S2.words.length by rw [W2.out]; exact FN)
                have HQ1 := Lib.hid HQ.out.p1
                have HQ2 := Lib.hid HQ.out.p2
                have HQB := Lib.hid HQ.out.bl
                clear HQ
                go_wp2_with fail
                go_region_held3 (fun w' => w'.cell? ⟨b2, o2 + j, none⟩ = some (.int .i64 aO.n) ∧ Below wr2.heap.size wr2 w')
                (first | assumption | exact ⟨c2, below_drew0 _⟩ | exact ⟨c2, Below.refl _ _⟩ | exact ⟨c2, below_drewN0 _ _⟩)
                (first
                | (go_at_call 24; ((with_reducible refine (dump_any (L := L1) (S := S1) (HQ1.out.later (show (_ ∧ Below wr2.heap.size wr2 _) by assumption).2) NP1.out).mono ?_); rintro e w' ⟨g1, k1, rfl, hc1, hm1, hr1, ho1, hb1⟩; have kc1 : E ≤ k1 := Nat.le_trans C1.out hc1; have kd1 : (E : Int) ≤ (k1 : Int) := Int.ofNat_le.2 kc1; obtain ⟨AD1, hAD1⟩ : ∃ A : Option Addr, (if k1 = F then some ⟨g1, 0, none⟩ else some ⟨g1, F, none⟩) = A := ⟨_, rfl⟩; have R1 := Lib.hid (RI.cutAs hr1 F N hc1 hAD1); have hkw : w'.cell? ⟨b2, o2 + j, none⟩ = some (.int .i64 aO.n) ∧ Below wr2.heap.size wr2 w' := ⟨cell_later hb1 (show (_ ∧ Below wr2.heap.size wr2 _) by assumption).1, below_next (show (_ ∧ Below wr2.heap.size wr2 _) by assumption).2 hb1⟩))
                | (go_at_call 24; ((with_reducible refine (dump_any (L := L2) (S := S2) (HQ2.out.later (show (_ ∧ Below wr2.heap.size wr2 _) by assumption).2) NP2.out).mono ?_); rintro e w' ⟨g2, k2, rfl, hc2, hm2, hr2, ho2, hb2⟩; have kc2 : E ≤ k2 := Nat.le_trans C2.out hc2; have kd2 : (E : Int) ≤ (k2 : Int) := Int.ofNat_le.2 kc2; obtain ⟨AD2, hAD2⟩ : ∃ A : Option Addr, (if k2 = F then some ⟨g2, 0, none⟩ else some ⟨g2, F, none⟩) = A := ⟨_, rfl⟩; have R2 := Lib.hid (RI.cutAs hr2 F N hc2 hAD2); have hkw : w'.cell? ⟨b2, o2 + j, none⟩ = some (.int .i64 aO.n) ∧ Below wr2.heap.size wr2 w' := ⟨cell_later hb2 (show (_ ∧ Below wr2.heap.size wr2 _) by assumption).1, below_next (show (_ ∧ Below wr2.heap.size wr2 _) by assumption).2 hb2⟩))
                | (go_at_call 23; ((with_reducible refine (same_sl _ _ _ _ _ _ _ _ _ (RI.later R1.out hb2) R2.out HW.out.symm LEN.out LEN.out).mono ?_); rintro e w' ⟨rfl, hb3⟩; have hkw : w'.cell? ⟨b2, o2 + j, none⟩ = some (.int .i64 aO.n) ∧ Below wr2.heap.size wr2 w' := ⟨cell_later hb3 (show (_ ∧ Below wr2.heap.size wr2 _) by assumption).1, below_next (show (_ ∧ Below wr2.heap.size wr2 _) by assumption).2 hb3⟩))
                | (go_at_call 23; ((with_reducible refine (same_sl _ _ _ _ _ _ _ _ _ R1.out (RI.later R2.out hb1) HW.out.symm LEN.out LEN.out).mono ?_); rintro e w' ⟨rfl, hb3⟩; have hkw : w'.cell? ⟨b2, o2 + j, none⟩ = some (.int .i64 aO.n) ∧ Below wr2.heap.size wr2 w' := ⟨cell_later hb3 (show (_ ∧ Below wr2.heap.size wr2 _) by assumption).1, below_next (show (_ ∧ Below wr2.heap.size wr2 _) by assumption).2 hb3⟩)))
                all_goals
                  go_wp2_with fail
                  go_ret
                  exact ⟨rfl, below_next HQB.out hkw.2⟩
          · clear hgo hP
            go_wp2_with fail
            go_loop [22, 136] (fun fv jv => ∃ j : Nat, j ≤ m ∧ jv = .int .i64 j ∧ fv = .int .i64 ((16 * (zs.take j).sum : Nat) : Int)) (fun _ jv => m - (intOf jv).toNat)
            case atStart => exact ⟨0, Nat.zero_le _, rfl, rfl⟩
            case round =>
              obtain ⟨j, hj, rfl, rfl⟩ := hrel
              by_cases hjm : j < m
              · obtain ⟨y, hy⟩ : ∃ y, zs[j]? = some y := ⟨_, List.getElem?_eq_getElem (by have := HZL.out; omega)⟩
                obtain ⟨b2, o2, rfl, c2⟩ := (HX.out.later HQ.out.bl).at j (by omega)
                rw [show xs.getD j 0 = (y : Int) by rw [HZ.out]; simp [ints', hy]] at c2
                have hsum := take_sum_le zs j zs.length (by have := HZL.out; omega) y hy
                rw [List.take_length] at hsum
                have HT := Lib.hid (show (zs.take (j + 1)).sum = (zs.take j).sum + y by rw [List.take_add_one, hy]; simp)
                have s1 : ((16 * (zs.take j).sum : Nat) : Int) ≤ 4096 := by have := HSUM.out; omega
                have s2 : (y : Int) ≤ 256 := by have := HSUM.out; omega
                clear hy hsum
                generalize hs0 : (zs.take j).sum = s0 at HT s1 ⊢
                clear hs0
                go_wp2_with fail
                go_round
                case rel => exact ⟨j + 1, by omega, by go_num, congrArg (Value.int .i64) (by have := HT.out; omega)⟩
                case measure => simp [intOf]; omega
              · obtain rfl : j = m := by omega
                obtain ⟨hok1, hoff, hn⟩ := HQ.out.ok j aO HQ.out.same1
                have hroom := HQ.out.room HQ.out.same1
                have hw1 : S1.words.length = 4096 := by rw [HQ.out.p1.lw, HQ.out.np1]
                have hw2 : S2.words.length = 4096 := by rw [HQ.out.p2.lw, HQ.out.np2]
                obtain ⟨b2, o2, rfl, c2⟩ := (HX.out.later HQ.out.bl).at j (by omega)
                rw [show xs.getD j 0 = (aO.n : Int) by rw [HZ.out]; simp [ints', hn]] at c2
                obtain ⟨F, hF⟩ : ∃ F, F = aO.off * 16 := ⟨_, rfl⟩
                obtain ⟨N, hN⟩ : ∃ N, N = aO.n * 16 := ⟨_, rfl⟩
                rw [show 16 * (zs.take j).sum = F by omega]
                have HW := Lib.hid HQ.out.words
                rw [← hF, ← hN] at HW
                have W1 := Lib.hid hw1
                have W2 := Lib.hid hw2
                obtain ⟨E, hE⟩ : ∃ E, E = F + N := ⟨_, rfl⟩
                have FN : E ≤ 4096 := by omega
                have e1 : IntKind.i64.wrap (16 * (aO.n : Int)) = (N : Int) := by rw [IntWalk.i64_in _ (by omega)]; omega
                have e2 : IntKind.i64.wrap ((F : Int) + (N : Int)) = (E : Int) := by rw [IntWalk.i64_in _ (by omega)]; omega
                have e3 : (F : Int) ≤ (E : Int) := by omega
                have e4 : F ≤ E := by omega
                have HEF := Lib.hid hE
                have NP1 := Lib.hid (show 0 < S1.np by rw [HQ.out.np1]; omega)
                have NP2 := Lib.hid (show 0 < S2.np by rw [HQ.out.np2]; omega)
                clear hok1 hoff hn hroom hw1 hw2 hF hN hE HOS
                have LEN : Hid (((S1.words.drop F).take N).length = E - F) := by show _ = _; rw [List.length_take, List.length_drop, W1.out]; have := HEF.out; omega
                have C1 := Lib.hid (show E ≤ S1.words.length by rw [W1.out]; exact FN)
                have C2 := Lib.hid (show E ≤ S2.words.length by rw [W2.out]; exact FN)
                have HQ1 := Lib.hid HQ.out.p1
                have HQ2 := Lib.hid HQ.out.p2
                have HQB := Lib.hid HQ.out.bl
                clear HQ
                go_wp2_with fail
                go_region_held3 (fun w' => w'.cell? ⟨b2, o2 + j, none⟩ = some (.int .i64 aO.n) ∧ Below wr.heap.size wr w')
                (first | assumption | exact ⟨c2, below_drew0 _⟩ | exact ⟨c2, Below.refl _ _⟩ | exact ⟨c2, below_drewN0 _ _⟩)
                (first
                | (go_at_call 24; ((with_reducible refine (dump_any (L := L1) (S := S1) (HQ1.out.later (show (_ ∧ Below wr.heap.size wr _) by assumption).2) NP1.out).mono ?_); rintro e w' ⟨g1, k1, rfl, hc1, hm1, hr1, ho1, hb1⟩; have kc1 : E ≤ k1 := Nat.le_trans C1.out hc1; have kd1 : (E : Int) ≤ (k1 : Int) := Int.ofNat_le.2 kc1; obtain ⟨AD1, hAD1⟩ : ∃ A : Option Addr, (if k1 = F then some ⟨g1, 0, none⟩ else some ⟨g1, F, none⟩) = A := ⟨_, rfl⟩; have R1 := Lib.hid (RI.cutAs hr1 F N hc1 hAD1); have hkw : w'.cell? ⟨b2, o2 + j, none⟩ = some (.int .i64 aO.n) ∧ Below wr.heap.size wr w' := ⟨cell_later hb1 (show (_ ∧ Below wr.heap.size wr _) by assumption).1, below_next (show (_ ∧ Below wr.heap.size wr _) by assumption).2 hb1⟩))
                | (go_at_call 24; ((with_reducible refine (dump_any (L := L2) (S := S2) (HQ2.out.later (show (_ ∧ Below wr.heap.size wr _) by assumption).2) NP2.out).mono ?_); rintro e w' ⟨g2, k2, rfl, hc2, hm2, hr2, ho2, hb2⟩; have kc2 : E ≤ k2 := Nat.le_trans C2.out hc2; have kd2 : (E : Int) ≤ (k2 : Int) := Int.ofNat_le.2 kc2; obtain ⟨AD2, hAD2⟩ : ∃ A : Option Addr, (if k2 = F then some ⟨g2, 0, none⟩ else some ⟨g2, F, none⟩) = A := ⟨_, rfl⟩; have R2 := Lib.hid (RI.cutAs hr2 F N hc2 hAD2); have hkw : w'.cell? ⟨b2, o2 + j, none⟩ = some (.int .i64 aO.n) ∧ Below wr.heap.size wr w' := ⟨cell_later hb2 (show (_ ∧ Below wr.heap.size wr _) by assumption).1, below_next (show (_ ∧ Below wr.heap.size wr _) by assumption).2 hb2⟩))
                | (go_at_call 23; ((with_reducible refine (same_sl _ _ _ _ _ _ _ _ _ (RI.later R1.out hb2) R2.out HW.out.symm LEN.out LEN.out).mono ?_); rintro e w' ⟨rfl, hb3⟩; have hkw : w'.cell? ⟨b2, o2 + j, none⟩ = some (.int .i64 aO.n) ∧ Below wr.heap.size wr w' := ⟨cell_later hb3 (show (_ ∧ Below wr.heap.size wr _) by assumption).1, below_next (show (_ ∧ Below wr.heap.size wr _) by assumption).2 hb3⟩))
                | (go_at_call 23; ((with_reducible refine (same_sl _ _ _ _ _ _ _ _ _ R1.out (RI.later R2.out hb1) HW.out.symm LEN.out LEN.out).mono ?_); rintro e w' ⟨rfl, hb3⟩; have hkw : w'.cell? ⟨b2, o2 + j, none⟩ = some (.int .i64 aO.n) ∧ Below wr.heap.size wr w' := ⟨cell_later hb3 (show (_ ∧ Below wr.heap.size wr _) by assumption).1, below_next (show (_ ∧ Below wr.heap.size wr _) by assumption).2 hb3⟩)))
                all_goals
                  go_wp2_with fail
                  go_ret
                  exact ⟨rfl, below_next HQB.out hkw.2⟩
  · have hok' : newOk 256 xs = false := by simpa using hok
    have HOK := Lib.hid hok'
    clear hok'
    clear hok
    go_enter Tryd.func7, Tryd.ntmps7
    go_wp2_with fail
    refine HA.out.mono ?_
    rintro e w1 ⟨rfl, hb1⟩
    go_wp2_with fail
    refine (may_any 256 xs A c _ (HX.out.later hb1) (by omega)).mono ?_
    rintro e w2 ⟨rfl, rfl⟩
    rw [HOK.out]
    go_wp2_with fail
    go_ret
    exact ⟨rfl, hb1⟩
end Go.Proofs.YtpjphmpebegidaaDoor
