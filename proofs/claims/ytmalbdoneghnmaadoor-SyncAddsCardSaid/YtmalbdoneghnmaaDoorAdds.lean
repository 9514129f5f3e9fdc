/-
  SyncAdds: an atomic holds the sum of what was added.
-/
import Derived.Test.YtmalbdoneghnmaaDoorSync9
namespace Go.Proofs.YtmalbdoneghnmaaDoor
open Go.RowKit Go.Stk
attribute [local go_sem ↓] Go.wp_at_zero Go.wp_at_succ

structure AdR (w wr : World) (X : Nat → Prop) (b : Nat) (s : Int) : Prop where
  ob : Ob X b ⟨[], [], [], [0, s]⟩ wr
  low : ∀ k, k < w.heap.size → X k
  bl : Below w.heap.size w wr
theorem AdR.later {w wr w' : World} {X : Nat → Prop} {b : Nat} {s : Int} (h : AdR w wr X b s) (hb : Below wr.heap.size wr w') : AdR w w' X b s := ⟨h.ob.later hb, h.low, below_next h.bl hb⟩
set_option maxRecDepth 100000 in
set_option maxHeartbeats 4000000 in
theorem adds_law (p : Int) (xs : List Int) (A : Option Addr) (c : Nat) (w : World) (er et : Addr) (hE : Errs w er et) (hx : RI w A xs) : Calls Tryd.prog 5 #[.int .i64 p, .slice A xs.length c] w (Ret w (.bool true)) := by
  have hxl := hx.len
  have HE := Lib.hid hE
  have HX := Lib.hid hx
  clear hE hx
  go_enter Tryd.func5, Tryd.ntmps5
  go_wp2_with fail
  refine (alive_any w er et HE.out).mono ?_
  rintro e w1 ⟨rfl, hb⟩
  go_wp2_with fail
  refine (new_made [] 0 2 [] none none 0 0 w1 er et (HE.out.later hb) (ri_none _) (rd_none _) (by decide)).mono ?_
  rintro e w2 ⟨b, rfl, hO, hb2⟩
  have hs1 := hb.size
  replace hb := below_next hb hb2
  have HO := Lib.hid hO
  clear hO hb2
  go_wp2_with fail
  refine (o_put_in HO.out 1 0 p rfl).mono ?_
  rintro e w3 ⟨rfl, hO, hk⟩
  have H0 : Hid (AdR w w3 (fun k => k < w1.heap.size) b p) := ⟨hO, fun k hk => by omega, hb.trans (hk.below fun _ h => by omega)⟩
  clear hO hk HO hb
  generalize (fun k => k < w1.heap.size) = X at H0
  clear hs1
  go_wp2_with fail
  go_loopw [7, 34] (fun sv i wr => ∃ (k : Nat) (s : Int), k ≤ xs.length ∧ i = .int .i64 k ∧ sv = .int .i64 s ∧ Hid (AdR w wr X b s)) (fun _ i _ => xs.length - (intOf i).toNat)
  case atStart => exact ⟨0, p, Nat.zero_le _, rfl, rfl, H0⟩
  case round =>
    obtain ⟨k, s, hk, rfl, rfl, hP⟩ := hrel
    by_cases hlt : k < xs.length
    · obtain ⟨b1, o1, rfl, c1⟩ := (HX.out.later hP.out.bl).at k hlt
      obtain ⟨n, en⟩ : ∃ n, xs.getD k 0 = n := ⟨_, rfl⟩
      rw [en] at c1
      clear en
      by_cases h200 : 200 < k
      · have d2 : decide (200 < (k : Int)) = true := decide_eq_true (by omega)
        go_wp2_with fail
        refine (o_get_in hP.out.ob 0 0 rfl).mono ?_
        rintro e w4 ⟨rfl, hb4⟩
        have hb := below_next hP.out.bl hb4
        go_wp2_with fail
        go_ret
        exact ⟨rfl, hb⟩
      · have d2 : decide (200 < (k : Int)) = false := decide_eq_false (by omega)
        go_wp2_with fail
        refine (o_add_in hP.out.ob 1 s n rfl).mono ?_
        rintro e w4 ⟨rfl, hO, hk4⟩
        have H4 : Hid (AdR w w4 X b (wrap64 (s + n))) := ⟨hO, hP.out.low, hP.out.bl.trans (hk4.below hP.out.low)⟩
        clear hO hk4 hP
        go_wp2_with fail
        refine (o_get_in H4.out.ob 1 (wrap64 (s + n)) rfl).mono ?_
        rintro e w5 ⟨rfl, hb5⟩
        replace H4 := Lib.hid (H4.out.later hb5)
        clear hb5
        go_wp2_with fail
        go_roundw
        case rel => exact ⟨k + 1, _, by omega, by go_num, rfl, H4⟩
        case measure => simp [intOf]; omega
    · go_wp2_with fail
      refine (o_get_in hP.out.ob 0 0 rfl).mono ?_
      rintro e w4 ⟨rfl, hb4⟩
      have hb := below_next hP.out.bl hb4
      go_wp2_with fail
      go_ret
      exact ⟨rfl, hb⟩
end Go.Proofs.YtmalbdoneghnmaaDoor
