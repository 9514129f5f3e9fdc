/-
  The walk of the document's Tick; a copy with marked room; whether it stands as it stood.
-/
import Derived.Test.YtcipikacgkkapaaDoorTb
import Derived.Test.YtcipikacgkkapaaDoorMarked
namespace Go.Proofs.YtcipikacgkkapaaDoor
open Go.RowKit Go.Stk
attribute [local go_sem] max2_int max_two

theorem rtick_range (c : List Int) (A : Option Addr) (ca : Nat) (g : Int) (w : World) (hg : g < 0 ∨ 8 ≤ g) :
    Calls Tryd.prog 24 #[.slice A c.length ca, .int .i64 g] w fun e w' => e = .returned (.tuple #[.slice none 0 0, .int .i64 1]) ∧ w = w' := by
  by_cases h : g < 0
  · go_enter Tryd.func24, Tryd.ntmps24
    go_wp2_with fail
    go_ret2
    exact ⟨rfl, rfl⟩
  · have h2 : 7 < g := by omega
    clear hg
    go_enter Tryd.func24, Tryd.ntmps24
    go_wp2_with fail
    go_ret2
    exact ⟨rfl, rfl⟩
theorem rtick_full (c : List Int) (A : Option Addr) (ca : Nat) (g : Int) (w : World) (hc : RI w A c) (hg : 0 ≤ g) (hg8 : g ≤ 7) (hn : 65536 ≤ getL c g) :
    Calls Tryd.prog 24 #[.slice A c.length ca, .int .i64 g] w fun e w' => e = .returned (.tuple #[.slice none 0 0, .int .i64 15]) ∧ w = w' := by
  go_enter Tryd.func24, Tryd.ntmps24
  go_wp2_with fail
  refine (at_any c A ca g w hc).mono ?_
  rintro e w' ⟨rfl, rfl⟩
  go_wp2_with fail
  go_ret2
  exact ⟨rfl, rfl⟩
/-- The list of a clock, padded up to g, its count at g set. -/
theorem tick_list (c : List Int) (g k : Nat) (hk : g < c.length + k) (hk2 : k = 0 ∨ c.length + k ≤ g + 1) : joinL ((c ++ List.replicate k 0).set g (getL c g + 1)) [] = joinL c (oneL g (getL c g + 1)) := by
  refine joinL_ext fun h => ?_
  rw [getL_nil]
  have hn := getL_nonneg c g
  have hh := getL_nonneg c h
  rw [getL_one _ _ (by omega)]
  rcases intSplit h 0 with h0 | h0
  · rw [getL_neg _ _ h0, getL_neg _ _ h0, if_neg (by omega)]
  · obtain ⟨j, rfl⟩ := Int.eq_ofNat_of_zero_le h0
    have e : getL ((c ++ List.replicate k 0).set g (getL c g + 1)) j = if (j : Int) = g then getL c g + 1 else getL c j := by
      rw [getL_nat, getL_nat c j]
      by_cases hj : j = g
      · subst hj
        rw [if_pos rfl]
        simp [hk]
        omega
      · rw [if_neg (by omega)]
        rw [List.getD_eq_getElem?_getD, List.getElem?_set_ne (by omega), List.getD_eq_getElem?_getD]
        by_cases hjc : j < c.length
        · rw [List.getElem?_append_left hjc]
        · rw [List.getElem?_append_right (by omega), List.getElem?_eq_none (show c.length ≤ j by omega)]
          by_cases hjk : j - c.length < k
          · simp [hjk]
          · rw [List.getElem?_eq_none (by simp; omega)]
    rw [e]
    split <;> rename_i h1
    · rw [h1]; omega
    · omega

set_option maxHeartbeats 1000000 in
theorem rtick_ok (c : List Int) (A : Option Addr) (ca : Nat) (g : Nat) (w : World) (hc : RI w A c) (hnil : A = none → ca = 0) (hlc : c.length ≤ 1000000) (hg8 : g ≤ 7) (hn : getL c g < 65536) :
    Calls Tryd.prog 24 #[.slice A c.length ca, .int .i64 g] w (OwnRet2 w.heap.size w (joinL c (oneL g (getL c g + 1))) (.int .i64 0)) := by
  have hn0 := getL_nonneg c g
  have hb0 : Below w.heap.size w (w.alloc (.cells #[] 3)) := (Below.refl _ _).alloc (Nat.le_refl _) _
  have HO := Lib.hid (own_room w w.heap.size 3 #[] (Nat.le_refl _) (by decide))
  have HB := Lib.hid hb0
  clear hb0
  go_enter Tryd.func24, Tryd.ntmps24
  go_wp2_with fail
  refine (at_any c A ca g w hc).mono ?_
  rintro e w' ⟨rfl, rfl⟩
  go_wp2_with (first | (at_builtin; have tok := HO; refine append_list (w0 := w) w.heap.size rfl _ _ 22 3 (.int .i64 0) 8 rfl Tryd.underlying22 infoInt rfl (by decide) _ [] (ints c) A ca rfl (by rw [ints_length]; rfl) ?c1 HO.out HB.out ?c2 ?c3 hnil ?c4 ?_))
  case c1 => intro u hu; simp only [ints, List.mem_map] at hu; obtain ⟨n, _, rfl⟩ := hu; rfl
  case c2 => exact HB.out.size
  case c3 => exact hc.later HB.out
  case c4 => simp; omega
  intro v1 w1 hown hb1 _
  clear HO HB
  have ho1 : Own w1 w.heap.size v1 (c ++ List.replicate 0 0) := by simpa [Own] using hown
  clear hown
  go_wp2_with fail
  go_loopw [6] (fun v wr => ∃ k : Nat, (k = 0 ∨ c.length + k ≤ g + 1) ∧ Own wr w.heap.size v (c ++ List.replicate k 0) ∧ Below w.heap.size w wr) (fun v _ => g + 1 - lenOf v)
  case atStart => exact ⟨0, .inl rfl, ho1, hb1⟩
  case round =>
    clear ho1 hb1
    obtain ⟨k, hk, ho, hb⟩ := hrel
    by_cases hlt : c.length + k ≤ g
    · have ho' := ho
      obtain ⟨A', c', rfl, hcc, r⟩ := ho'.ri
      have hlen : (c ++ List.replicate k (0 : Int)).length = c.length + k := by simp
      rw [hlen]
      rw [hlen] at ho
      clear ho' r hcc hlen
      go_wp2_with (first | (at_builtin; refine append_one (w0 := w) w.heap.size rfl _ _ 22 3 (.int .i64 0) 8 rfl Tryd.underlying22 infoInt rfl (by decide) (.slice A' (c.length + k) c') (ints (c ++ List.replicate k 0)) (.int .i64 0) rfl rfl rfl ?e1 ?e2 ?e3 ?e4 ?_))
      case e1 => simpa [Own] using ho
      case e2 => exact hb
      case e3 => exact hb.size
      case e4 => simp; omega
      intro v2 w2 hown2 hb2 _
      have ho2 : Own w2 w.heap.size v2 (c ++ List.replicate (k + 1) 0) := by
        rw [List.replicate_succ', ← List.append_assoc]
        simpa [Own, ints, Nat.add_assoc] using hown2
      clear hown2 ho
      obtain ⟨A2, c2, rfl, _, _⟩ := ho2.ri
      go_wp2_with fail
      go_roundw
      case rel => exact ⟨k + 1, .inr (by omega), ho2, hb2⟩
      case measure => simp [lenOf]; omega
    · obtain ⟨gb, cap, rfl, hgb, _⟩ := World.ownsRow.form ho (by simp; omega)
      have hlen : (c ++ List.replicate k (0 : Int)).length = c.length + k := by simp
      have hcell := ho.cell g (by simp; omega)
      have hfree := ho.free g
      have hset := ho.set g (getL c g + 1)
      obtain ⟨W, hW⟩ : ∃ W, W = wr.setCell ⟨gb, g, none⟩ (.int .i64 (getL c g + 1)) := ⟨_, rfl⟩
      have hbW : Below w.heap.size w W := by rw [hW]; exact hb.setCell hgb _
      rw [← hW] at hset
      rw [hlen] at ho ⊢
      have HS := Lib.hid hset
      have HL := Lib.hid hlen
      have HT := Lib.hid (tick_list c g k (by omega) hk)
      have hgl : g < c.length + k := by omega
      have hlb : c.length + k ≤ 2000000 := by rcases hk with h | h <;> omega
      clear ho hset hlen hk hlt
      go_wp2_with fail
      refine (at_any c A ca g wr (hc.later hb)).mono ?_
      rintro e w' ⟨rfl, rfl⟩
      go_wp2_with fail
      rw [← hW]
      clear hW
      have ho3 := HS.out
      obtain ⟨A3, c3, e3, _, r3⟩ := Own.ri (v := .slice (some ⟨gb, 0, none⟩) (c.length + k) cap) (by rw [HL.out] at ho3; exact ho3)
      have hj := rshort_any _ A3 c3 W r3 (by simp; omega)
      rw [← e3, HT.out] at hj
      refine hj.mono ?_
      rintro e w2 ⟨v, rfl, ho2, hb2⟩
      go_wp2_with fail
      go_ret2
      exact ⟨_, rfl, own_base ho2 hbW.size, hbW.trans (hb2.mono hbW.size)⟩
end Go.Proofs.YtcipikacgkkapaaDoor
