/-
  ClockGets: a join's counts are the greater ones, and a tick changes one alone: the law's walk.
-/
import Derived.Test.YtcipikacgkkapaaDoorWd
import Derived.Test.YtcipikacgkkapaaDoorPlain
namespace Go.Proofs.YtcipikacgkkapaaDoor
open Go.RowKit Go.Stk
attribute [local go_sem] max2_int max_two

theorem gets_long (a b : List Int) (A B : Option Addr) (ca cb : Nat) (g : Int) (w : World) (hl : 500 < a.length ∨ 500 < b.length) (hla : a.length ≤ 9223372036854775807) (hlb : b.length ≤ 9223372036854775807) :
    Calls Tryd.prog 3 #[.slice A a.length ca, .slice B b.length cb, .int .i64 g] w (Ret w (.bool true)) := by
  by_cases h1 : 500 < a.length
  · go_enter Tryd.func3, Tryd.ntmps3
    go_wp2_with fail
    refine (alive_any w).mono ?_
    rintro e w1 ⟨rfl, hb1⟩
    go_wp2_with fail
    go_ret
    exact ⟨rfl, hb1⟩
  · have h2 : 500 < b.length := by omega
    clear hl
    go_enter Tryd.func3, Tryd.ntmps3
    go_wp2_with fail
    refine (alive_any w).mono ?_
    rintro e w1 ⟨rfl, hb1⟩
    go_wp2_with fail
    go_ret
    exact ⟨rfl, hb1⟩

theorem gets_any (a b : List Int) (A B : Option Addr) (ca cb : Nat) (g : Int) (w : World) (ha : RI w A a) (hb : RI w B b) (t1 : TypeId) (p1 : Value) (h1 : w.cell? ⟨1, 0, none⟩ = some (.iface t1 p1)) :
    Calls Tryd.prog 3 #[.slice A a.length ca, .slice B b.length cb, .int .i64 g] w (Ret w (.bool true)) := by
  by_cases hl : 500 < a.length ∨ 500 < b.length
  · exact gets_long a b A B ca cb g w hl ha.len hb.len
  have hla : a.length ≤ 500 := by omega
  have hlb : b.length ≤ 500 := by omega
  clear hl
  have E1 := Lib.hid h1
  clear h1
  go_enter Tryd.func3, Tryd.ntmps3
  go_wp2_with fail
  refine (alive_any w).mono ?_
  rintro e w1 ⟨rfl, hb1⟩
  go_wp2_with fail
  refine (join_any a b A B ca cb w1 (ha.later hb1) (hb.later hb1) (by omega) (by omega)).mono ?_
  rintro e w2 ⟨v2, rfl, ho2, hb2⟩
  have hb2 := below_next hb1 hb2
  obtain ⟨A2, c2, rfl, _, r2⟩ := ho2.ri
  go_wp2_with fail
  have hj := get_any (joinL a b) A2 c2 g w2 r2
  rw [getL_join] at hj
  refine hj.mono ?_
  rintro e w' ⟨rfl, rfl⟩
  go_wp2_with fail
  refine (get_any a A ca g w2 (ha.later hb2)).mono ?_
  rintro e w' ⟨rfl, rfl⟩
  go_wp2_with fail
  refine (get_any b B cb g w2 (hb.later hb2)).mono ?_
  rintro e w' ⟨rfl, rfl⟩
  clear hb1 ho2 hj r2
  by_cases hn : 65536 ≤ getL a 3
  · go_wp2_with fail
    refine (tick_full a A ca 3 _ w2 (cell_later hb2 E1.out) (ha.later hb2) (by omega) (by omega) hn).mono ?_
    rintro e w3 ⟨rfl, hb3⟩
    have hb3 := below_next hb2 hb3
    go_wp2_with fail
    go_ret
    exact ⟨rfl, hb3⟩
  · go_wp2_with fail
    refine (tick_ok a A ca 3 w2 (ha.later hb2) (by omega) (by omega) (by omega) (getL_nonneg _ _)).mono ?_
    rintro e w3 ⟨v3, rfl, ho3, hb3⟩
    have hb3 := below_next hb2 hb3
    obtain ⟨A3, c3, rfl, _, r3⟩ := ho3.ri
    clear ho3
    by_cases hg : g = 3
    · subst hg
      go_wp2_with fail
      have hj := get_any (joinL a (oneL 3 (getL a 3 + 1))) A3 c3 3 w3 r3
      have ht : getL (joinL a (oneL 3 (getL a 3 + 1))) 3 = getL a 3 + 1 := by simpa using getL_tick a 3 3
      rw [ht] at hj
      clear ht
      refine hj.mono ?_
      rintro e w' ⟨rfl, rfl⟩
      go_wp2_with fail
      refine (get_any a A ca 3 w3 (ha.later hb3)).mono ?_
      rintro e w' ⟨rfl, rfl⟩
      clear hj
      have := getL_nonneg a 3
      go_wp2_with fail
      go_ret
      exact ⟨by simp, hb3⟩
    · have hg2 : (g == 3) = false := by simpa using hg
      go_wp2_with fail
      have hj := get_any (joinL a (oneL 3 (getL a 3 + 1))) A3 c3 g w3 r3
      have ht : getL (joinL a (oneL 3 (getL a 3 + 1))) g = getL a g := by have := getL_tick a 3 g; rw [if_neg (by simpa using hg)] at this; simpa using this
      rw [ht] at hj
      clear ht
      refine hj.mono ?_
      rintro e w' ⟨rfl, rfl⟩
      clear hj
      go_wp2_with fail
      refine (get_any a A ca g w3 (ha.later hb3)).mono ?_
      rintro e w' ⟨rfl, rfl⟩
      go_wp2_with fail
      go_ret
      exact ⟨by simp, hb3⟩
end Go.Proofs.YtcipikacgkkapaaDoor
