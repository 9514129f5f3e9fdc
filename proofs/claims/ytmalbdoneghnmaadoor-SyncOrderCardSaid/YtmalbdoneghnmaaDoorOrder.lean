/-
  SyncOrder: a channel gives what was sent, in order.
-/
import Derived.Test.YtmalbdoneghnmaaDoorSync9
import Derived.Test.YtmalbdoneghnmaaDoorArith
namespace Go.Proofs.YtmalbdoneghnmaaDoor
open Go.RowKit Go.Stk
attribute [local go_sem ↓] Go.wp_at_zero Go.wp_at_succ

/-- n ints, from g on. -/
def heldL (g n : Nat) : List Val := (List.range n).map fun j => (⟨1, ((g + j : Nat) : Int), 0⟩ : Val)
theorem heldL_len (g n : Nat) : (heldL g n).length = n := by simp [heldL]
theorem heldL_snoc (g n : Nat) : heldL g n ++ [⟨1, ((g + n : Nat) : Int), 0⟩] = heldL g (n + 1) := by simp [heldL, List.range_succ]
theorem heldL_cons (g n : Nat) : heldL g (n + 1) = ⟨1, (g : Int), 0⟩ :: heldL (g + 1) n := by
  simp only [heldL, List.range_succ_eq_map, List.map_cons, List.map_map, Nat.add_zero]
  congr 1
  apply List.map_congr_left
  intro j _
  simp
  omega
structure OrR (w wr : World) (X : Nat → Prop) (b m got sent : Nat) : Prop where
  ob : Ob X b ⟨[], [], [⟨1, (m : Int), heldL got (sent - got)⟩], []⟩ wr
  low : ∀ k, k < w.heap.size → X k
  bl : Below w.heap.size w wr
  le : got ≤ sent
  cap : sent - got ≤ m
theorem OrR.later {w wr w' : World} {X : Nat → Prop} {b m got sent : Nat} (h : OrR w wr X b m got sent) (hb : Below wr.heap.size wr w') : OrR w w' X b m got sent := ⟨h.ob.later hb, h.low, below_next h.bl hb, h.le, h.cap⟩
theorem OrR.send {w wr w' : World} {X : Nat → Prop} {b m got sent : Nat} (h : OrR w wr X b m got sent) (hlt : sent - got < m) (ho : Ob X b ⟨[], [], [⟨1, (m : Int), heldL got (sent - got) ++ [⟨1, (sent : Int), 0⟩]⟩], []⟩ w') (hk : KeptX X wr w') : OrR w w' X b m got (sent + 1) := by
  have hle := h.le
  have e : heldL got (sent - got) ++ [⟨1, (sent : Int), 0⟩] = heldL got (sent + 1 - got) := by
    have := heldL_snoc got (sent - got)
    rw [show got + (sent - got) = sent by omega, show sent - got + 1 = sent + 1 - got by omega] at this
    exact this
  rw [e] at ho
  exact ⟨ho, h.low, h.bl.trans (hk.below h.low), by omega, by omega⟩
theorem OrR.recv {w wr w' : World} {X : Nat → Prop} {b m got sent : Nat} (h : OrR w wr X b m got sent) (hlt : got < sent) (ho : Ob X b ⟨[], [], [⟨1, (m : Int), heldL (got + 1) (sent - got - 1)⟩], []⟩ w') (hk : KeptX X wr w') : OrR w w' X b m (got + 1) sent := by
  have hc := h.cap
  rw [show sent - got - 1 = sent - (got + 1) by omega] at ho
  exact ⟨ho, h.low, h.bl.trans (hk.below h.low), by omega, by omega⟩
set_option maxRecDepth 100000 in
set_option maxHeartbeats 8000000 in
theorem order_law (r : Int) (xs : List Int) (A : Option Addr) (c : Nat) (w : World) (er et : Addr) (hE : Errs w er et) (hx : RI w A xs) : Calls Tryd.prog 3 #[.int .i64 r, .slice A xs.length c] w (Ret w (.bool true)) := by
  have hxl := hx.len
  have HE := Lib.hid hE
  have HX := Lib.hid hx
  clear hE hx
  obtain ⟨m, hm, em⟩ := mod_nat r 9 (by omega) (by omega)
  have em : wrap64 ((IntKind.u64.wrap r).tmod 9) = (m : Int) := em
  go_enter Tryd.func3, Tryd.ntmps3
  go_wp2_with fail
  refine (alive_any w er et HE.out).mono ?_
  rintro e w1 ⟨rfl, hb⟩
  go_wp2_with fail
  refine (new_made [] 0 0 [(1, (m : Int))] none (some ⟨w1.heap.size, 0, none⟩) 0 1 _ er et (HE.out.later (below_alloc hb _)) (ri_none _) (by exact rd_blk (cs := [.int .i64 1, .int .i64 m]) (T := 31) (blk_new w1 _) (by simp [maxLen])) (by simp [newOk, okChan, okType]; omega)).mono ?_
  rintro e w2 ⟨b, rfl, hO, hb2⟩
  have hs1 := hb.size
  replace hb := below_next (below_alloc hb _) hb2
  have HO := Lib.hid hO
  have H0 : Hid (OrR w w2 (fun k => k < (w1.alloc (.cells #[.int .i64 1, .int .i64 m] 31)).heap.size) b m 0 0) := ⟨hO, fun k hk => by simp; omega, hb, Nat.le_refl _, Nat.zero_le _⟩
  clear hO hb2 HO hb hs1
  generalize (fun k => k < (w1.alloc (.cells #[.int .i64 1, .int .i64 m] 31)).heap.size) = X at H0
  have hm2 : (m : Int) < 9 := by omega
  go_wp2_with fail
  go_loopw [7, 8, 37] (fun sv gv i wr => ∃ (k got sent : Nat), k ≤ xs.length ∧ i = .int .i64 k ∧ sv = .int .i64 sent ∧ gv = .int .i64 got ∧ sent ≤ k ∧ Hid (OrR w wr X b m got sent)) (fun _ _ i _ => xs.length - (intOf i).toNat)
  case atStart => exact ⟨0, 0, 0, Nat.zero_le _, rfl, rfl, rfl, Nat.le_refl _, H0⟩
  case round =>
    obtain ⟨k, got, sent, hk, rfl, rfl, rfl, hsk, hP⟩ := hrel
    have hle := hP.out.le
    have hcap := hP.out.cap
    by_cases hlt : k < xs.length
    · obtain ⟨b1, o1, rfl, c1⟩ := (HX.out.later hP.out.bl).at k hlt
      obtain ⟨n, en⟩ : ∃ n, xs.getD k 0 = n := ⟨_, rfl⟩
      rw [en] at c1
      clear en
      by_cases h200 : 300 < k
      · have d2 : decide (300 < (k : Int)) = true := decide_eq_true (by omega)
        have hb := hP.out.bl
        go_wp2_with fail
        go_ret
        exact ⟨rfl, hb⟩
      · have d2 : decide (300 < (k : Int)) = false := decide_eq_false (by omega)
        have i0 : (0 : Int) ≤ (sent : Int) := by omega
        have i1 : (sent : Int) ≤ 300 := by omega
        have i2 : (0 : Int) ≤ (got : Int) := by omega
        have i3 : (got : Int) ≤ (sent : Int) := by omega
        by_cases hfull : sent - got < m
        · by_cases hsome : got < sent
          · have dl : decide ((sent : Int) - (got : Int) < (m : Int)) = true := decide_eq_true (by omega)
            have dg : decide ((got : Int) < (sent : Int)) = true := decide_eq_true (by omega)
            go_wp2_with fail
            · refine (valInt_any _ _).mono ?_
              rintro e w3 ⟨rfl, hb3⟩
              have HP3 := Lib.hid (hP.out.later hb3)
              clear hb3
              go_wp2_with fail
              refine (o_send_ok HP3.out.ob 0 ⟨1, (m : Int), heldL got (sent - got)⟩ ⟨1, (sent : Int), 0⟩ rfl rfl rfl (by simp only [heldL_len]; omega) (by simp only; omega)).mono ?_
              rintro e w4 ⟨rfl, hO, hk4⟩
              have H4 := Lib.hid (HP3.out.send hfull hO hk4)
              clear hO hk4 HP3 hP
              go_wp2_with fail
              first
                | (go_roundw
                   case rel => exact ⟨k + 1, got, sent + 1, by omega, by go_num, by go_num, rfl, by omega, H4⟩
                   case measure => simp [intOf]; omega)
                | (refine ⟨⟨k + 1, got, sent + 1, by omega, by go_num, by go_num, rfl, by omega, H4⟩, ?_⟩
                   simp [intOf]; omega)
            · refine (o_recv_ok hP.out.ob 0 ⟨1, (m : Int), heldL got (sent - got)⟩ ⟨1, (got : Int), 0⟩ (heldL (got + 1) (sent - got - 1)) rfl (by have h := heldL_cons got (sent - got - 1); rw [show sent - got - 1 + 1 = sent - got by omega] at h; exact h) (by simp only [heldL_len]; omega)).mono ?_
              rintro e w4 ⟨rfl, hO, hk4⟩
              have H4 := Lib.hid (hP.out.recv hsome hO hk4)
              clear hO hk4 hP
              go_wp2_with fail
              go_region_held3 (fun w' => w'.cell? ⟨w4.heap.size, 0, none⟩ = some (.int .i64 1) ∧ w'.cell? ⟨w4.heap.size, 1, none⟩ = some (.int .i64 got) ∧ w'.cell? ⟨w4.heap.size, 2, none⟩ = some (.int .u64 0)) (first | go_keep | exact ⟨c0, c1, c2⟩) (first | (go_at_call 11; refine (valInt_any _ _).mono ?_; rintro e w7 ⟨rfl, hb7⟩; obtain ⟨c0, c1, c2, g0, g1, g2, hz⟩ := res3d (w := w4) (b := .int .i64 got) ⟨hb7.size, hb7.block⟩))
              all_goals
                replace H4 := Lib.hid (H4.out.later (below_next (below_drew1 (below_alloc (Below.refl _ _) _)) hb7))
                clear hb7 c0 c1 c2 g0 g1 g2 hz
                go_wp2_with fail
                have hj := o_len_in H4.out.ob 0 _ rfl
                rw [show ((heldL (got + 1) (sent - (got + 1))).length : Int) = (sent : Int) - ((got : Int) + 1) by simp only [heldL_len]; omega] at hj
                refine hj.mono ?_
                rintro e w8 ⟨rfl, hb8⟩
                clear hj
                replace H4 := Lib.hid (H4.out.later hb8)
                clear hb8
                go_wp2_with fail
                first
                  | (go_roundw
                     case rel => exact ⟨k + 1, got + 1, sent, by omega, by go_num, rfl, by go_num, by omega, H4⟩
                     case measure => simp [intOf]; omega)
                  | (refine ⟨⟨k + 1, got + 1, sent, by omega, by go_num, rfl, by go_num, by omega, H4⟩, ?_⟩
                     simp [intOf]; omega)
          · have dl : decide ((sent : Int) - (got : Int) < (m : Int)) = true := decide_eq_true (by omega)
            have dg : decide ((got : Int) < (sent : Int)) = false := decide_eq_false (by omega)
            go_wp2_with fail
            · refine (valInt_any _ _).mono ?_
              rintro e w3 ⟨rfl, hb3⟩
              have HP3 := Lib.hid (hP.out.later hb3)
              clear hb3
              go_wp2_with fail
              refine (o_send_ok HP3.out.ob 0 ⟨1, (m : Int), heldL got (sent - got)⟩ ⟨1, (sent : Int), 0⟩ rfl rfl rfl (by simp only [heldL_len]; omega) (by simp only; omega)).mono ?_
              rintro e w4 ⟨rfl, hO, hk4⟩
              have H4 := Lib.hid (HP3.out.send hfull hO hk4)
              clear hO hk4 HP3 hP
              go_wp2_with fail
              first
                | (go_roundw
                   case rel => exact ⟨k + 1, got, sent + 1, by omega, by go_num, by go_num, rfl, by omega, H4⟩
                   case measure => simp [intOf]; omega)
                | (refine ⟨⟨k + 1, got, sent + 1, by omega, by go_num, by go_num, rfl, by omega, H4⟩, ?_⟩
                   simp [intOf]; omega)
            · refine (o_recv_none hP.out.ob 0 ⟨1, (m : Int), heldL got (sent - got)⟩ rfl (by rw [show sent - got = 0 by omega]; rfl)).mono ?_
              rintro e w4 ⟨rfl, hb4⟩
              have H4 := Lib.hid (hP.out.later hb4)
              clear hb4 hP
              go_wp2_with fail
              go_simp
              go_quiet (fail)
              go_wp2_with fail
              have hj : ∀ W, Below w4.heap.size w4 W → Calls Tryd.prog 13 #[.pointer (some ⟨b, 0, none⟩), .int .i64 0] W (Ret W (.int .i64 ((sent : Int) - (got : Int)))) := by
                intro W hW
                have h := o_len_in (H4.out.ob.later hW) 0 _ rfl
                rw [show ((heldL got (sent - got)).length : Int) = (sent : Int) - (got : Int) by simp only [heldL_len]; omega] at h
                exact h
              have HJ := Lib.hid hj
              clear hj
              refine (HJ.out _ (below_drewN1 (below_alloc (Below.refl _ _) _) _)).mono ?_
              rintro e w8 ⟨rfl, hb8⟩
              replace H4 := Lib.hid (H4.out.later (below_next (below_drewN1 (below_alloc (Below.refl _ _) _) _) hb8))
              clear hb8
              go_wp2_with fail
              first
                | (go_roundw
                   case rel => exact ⟨k + 1, got, sent, by omega, by go_num, rfl, rfl, by omega, H4⟩
                   case measure => simp [intOf]; omega)
                | (refine ⟨⟨k + 1, got, sent, by omega, by go_num, rfl, rfl, by omega, H4⟩, ?_⟩
                   simp [intOf]; omega)
        · by_cases hsome : got < sent
          · have dl : decide ((sent : Int) - (got : Int) < (m : Int)) = false := decide_eq_false (by omega)
            have dg : decide ((got : Int) < (sent : Int)) = true := decide_eq_true (by omega)
            go_wp2_with fail
            · refine (valInt_any _ _).mono ?_
              rintro e w3 ⟨rfl, hb3⟩
              have HP3 := Lib.hid (hP.out.later hb3)
              clear hb3
              go_wp2_with fail
              refine (o_send_full HP3.out.ob 0 ⟨1, (m : Int), heldL got (sent - got)⟩ ⟨1, (sent : Int), 0⟩ rfl rfl rfl (by simp only [heldL_len]; omega)).mono ?_
              rintro e w4 ⟨rfl, hb4⟩
              have H4 := Lib.hid (HP3.out.later hb4)
              clear hb4 HP3 hP
              go_wp2_with fail
              first
                | (go_roundw
                   case rel => exact ⟨k + 1, got, sent, by omega, by go_num, rfl, rfl, by omega, H4⟩
                   case measure => simp [intOf]; omega)
                | (refine ⟨⟨k + 1, got, sent, by omega, by go_num, rfl, rfl, by omega, H4⟩, ?_⟩
                   simp [intOf]; omega)
            · refine (o_recv_ok hP.out.ob 0 ⟨1, (m : Int), heldL got (sent - got)⟩ ⟨1, (got : Int), 0⟩ (heldL (got + 1) (sent - got - 1)) rfl (by have h := heldL_cons got (sent - got - 1); rw [show sent - got - 1 + 1 = sent - got by omega] at h; exact h) (by simp only [heldL_len]; omega)).mono ?_
              rintro e w4 ⟨rfl, hO, hk4⟩
              have H4 := Lib.hid (hP.out.recv hsome hO hk4)
              clear hO hk4 hP
              go_wp2_with fail
              go_region_held3 (fun w' => w'.cell? ⟨w4.heap.size, 0, none⟩ = some (.int .i64 1) ∧ w'.cell? ⟨w4.heap.size, 1, none⟩ = some (.int .i64 got) ∧ w'.cell? ⟨w4.heap.size, 2, none⟩ = some (.int .u64 0)) (first | go_keep | exact ⟨c0, c1, c2⟩) (first | (go_at_call 11; refine (valInt_any _ _).mono ?_; rintro e w7 ⟨rfl, hb7⟩; obtain ⟨c0, c1, c2, g0, g1, g2, hz⟩ := res3d (w := w4) (b := .int .i64 got) ⟨hb7.size, hb7.block⟩))
              all_goals
                replace H4 := Lib.hid (H4.out.later (below_next (below_drew1 (below_alloc (Below.refl _ _) _)) hb7))
                clear hb7 c0 c1 c2 g0 g1 g2 hz
                go_wp2_with fail
                have hj := o_len_in H4.out.ob 0 _ rfl
                rw [show ((heldL (got + 1) (sent - (got + 1))).length : Int) = (sent : Int) - ((got : Int) + 1) by simp only [heldL_len]; omega] at hj
                refine hj.mono ?_
                rintro e w8 ⟨rfl, hb8⟩
                clear hj
                replace H4 := Lib.hid (H4.out.later hb8)
                clear hb8
                go_wp2_with fail
                first
                  | (go_roundw
                     case rel => exact ⟨k + 1, got + 1, sent, by omega, by go_num, rfl, by go_num, by omega, H4⟩
                     case measure => simp [intOf]; omega)
                  | (refine ⟨⟨k + 1, got + 1, sent, by omega, by go_num, rfl, by go_num, by omega, H4⟩, ?_⟩
                     simp [intOf]; omega)
          · have dl : decide ((sent : Int) - (got : Int) < (m : Int)) = false := decide_eq_false (by omega)
            have dg : decide ((got : Int) < (sent : Int)) = false := decide_eq_false (by omega)
            go_wp2_with fail
            · refine (valInt_any _ _).mono ?_
              rintro e w3 ⟨rfl, hb3⟩
              have HP3 := Lib.hid (hP.out.later hb3)
              clear hb3
              go_wp2_with fail
              refine (o_send_full HP3.out.ob 0 ⟨1, (m : Int), heldL got (sent - got)⟩ ⟨1, (sent : Int), 0⟩ rfl rfl rfl (by simp only [heldL_len]; omega)).mono ?_
              rintro e w4 ⟨rfl, hb4⟩
              have H4 := Lib.hid (HP3.out.later hb4)
              clear hb4 HP3 hP
              go_wp2_with fail
              first
                | (go_roundw
                   case rel => exact ⟨k + 1, got, sent, by omega, by go_num, rfl, rfl, by omega, H4⟩
                   case measure => simp [intOf]; omega)
                | (refine ⟨⟨k + 1, got, sent, by omega, by go_num, rfl, rfl, by omega, H4⟩, ?_⟩
                   simp [intOf]; omega)
            · refine (o_recv_none hP.out.ob 0 ⟨1, (m : Int), heldL got (sent - got)⟩ rfl (by rw [show sent - got = 0 by omega]; rfl)).mono ?_
              rintro e w4 ⟨rfl, hb4⟩
              have H4 := Lib.hid (hP.out.later hb4)
              clear hb4 hP
              go_wp2_with fail
              go_simp
              go_quiet (fail)
              go_wp2_with fail
              have hj : ∀ W, Below w4.heap.size w4 W → Calls Tryd.prog 13 #[.pointer (some ⟨b, 0, none⟩), .int .i64 0] W (Ret W (.int .i64 ((sent : Int) - (got : Int)))) := by
                intro W hW
                have h := o_len_in (H4.out.ob.later hW) 0 _ rfl
                rw [show ((heldL got (sent - got)).length : Int) = (sent : Int) - (got : Int) by simp only [heldL_len]; omega] at h
                exact h
              have HJ := Lib.hid hj
              clear hj
              refine (HJ.out _ (below_drewN1 (below_alloc (Below.refl _ _) _) _)).mono ?_
              rintro e w8 ⟨rfl, hb8⟩
              replace H4 := Lib.hid (H4.out.later (below_next (below_drewN1 (below_alloc (Below.refl _ _) _) _) hb8))
              clear hb8
              go_wp2_with fail
              first
                | (go_roundw
                   case rel => exact ⟨k + 1, got, sent, by omega, by go_num, rfl, rfl, by omega, H4⟩
                   case measure => simp [intOf]; omega)
                | (refine ⟨⟨k + 1, got, sent, by omega, by go_num, rfl, rfl, by omega, H4⟩, ?_⟩
                   simp [intOf]; omega)
    · have hb := hP.out.bl
      go_wp2_with fail
      go_ret
      exact ⟨rfl, hb⟩
end Go.Proofs.YtmalbdoneghnmaaDoor
