/-
  CodeCuts: a code's bytes cut short, or with more behind, are none's.
-/
import Derived.Test.YtbpbimkadiobfaaDoorParse4
import Derived.Test.YtbpbimkadiobfaaDoorCode16
import Derived.Test.YtbpbimkadiobfaaDoorCode11
import Derived.Test.YtbpbimkadiobfaaDoorNum11
import Derived.Test.YtbpbimkadiobfaaDoorArith
import Derived.Deep.CutBlock
import Derived.Deep.DeepCutAuto
namespace Go.Proofs.YtbpbimkadiobfaaDoor
open Go.RowKit Go.Stk
attribute [local go_sem ↓] Go.wp_at_zero Go.wp_at_succ

theorem getN_any (l : List Int) (n : Nat) (hn : l.length = n) (hB : Byt l) (hm : l.length ≤ 1000000) (g off cp : Nat) (w : World) (hr : Rs w (some ⟨g, off, none⟩) (bys l)) (hc : l.length ≤ cp) (hcm : cp ≤ maxLen) (hg : g < w.heap.size) (ec : Addr) (hE : Errs w ec) :
    Calls Tryd.prog 22 #[.slice (some ⟨g, off, none⟩) n cp] w (GetR w l ec) := by
  subst hn
  exact getC_any l hB hm g off cp w hr hc hcm hg ec hE
theorem ones_bys (l : List Int) : ∀ u ∈ bys l, u.oneCell' = true := fun u hu => by
  obtain ⟨x, _, rfl⟩ := List.mem_map.1 hu
  rfl
/-- No code's bytes: refused. -/
def Refused (w : World) (ec : Addr) (e : Ending) (w' : World) : Prop := e = .returned (.tuple #[.agg #[.slice none 0 0, .int .i64 0, .int .i64 0, .slice none 0 0, .slice none 0 0, .int .i64 0, .slice none 0 0], errV ec]) ∧ Below w.heap.size w w'
theorem getNo_any (l : List Int) (n : Nat) (hn : l.length = n) (hB : Byt l) (hm : l.length ≤ 1000000) (hno : parse l = none) (g off cp : Nat) (w : World) (hr : Rs w (some ⟨g, off, none⟩) (bys l)) (hc : l.length ≤ cp) (hcm : cp ≤ maxLen) (hg : g < w.heap.size) (ec : Addr) (hE : Errs w ec) :
    Calls Tryd.prog 22 #[.slice (some ⟨g, off, none⟩) n cp] w (Refused w ec) := by
  refine (getN_any l n hn hB hm g off cp w hr hc hcm hg ec hE).mono ?_
  rintro e w' ⟨hb, ⟨c, h, _⟩ | ⟨_, rfl⟩⟩
  · rw [hno] at h; cases h
  · exact ⟨rfl, hb⟩
theorem numC_any (w : World) (ads : List Addr) (hS : Sent w 116 errGs ads) (ec : Addr) (h8 : ads[8]? = some ec) : Calls Tryd.prog 21 #[errV ec] w (Ret w (.int .i64 9)) :=
  (num_err w ads hS 8 ec h8).mono fun _ _ ⟨h1, h2⟩ => ⟨h1, h2⟩
set_option maxRecDepth 100000 in
set_option maxHeartbeats 4000000 in
theorem cuts_law (c : Co) (cut more : Int) (hm0 : 0 ≤ more ∧ more ≤ 255) (w : World) (hc : CoOk w c) (ads : List Addr) (hS : Sent w 116 errGs ads) (ec : Addr) (hE : Errs w ec) (h8 : ads[8]? = some ec) :
    Calls Tryd.prog 8 #[c.agg, .int .i64 cut, .int .u8 more] w (Ret w (.bool true)) := by
  have hb0 : Below w.heap.size w (w.alloc (.cells #[.slice c.pA c.places.length c.pc, .int .i64 c.mux, .int .i64 c.ato, .slice c.cA c.chans.length c.cc, .slice c.fA c.funcs.length c.fc, .int .i64 c.start, .slice c.bA c.body.length c.bc] 31)) := below_alloc (Below.refl _ _) _
  have HC := Lib.hid hc
  have HS := Lib.hid hS
  have HE := Lib.hid hE
  have HR : Hid (LawR w (w.alloc (.cells #[.slice c.pA c.places.length c.pc, .int .i64 c.mux, .int .i64 c.ato, .slice c.cA c.chans.length c.cc, .slice c.fA c.funcs.length c.fc, .int .i64 c.start, .slice c.bA c.body.length c.bc] 31)) c w.heap.size) := ⟨hb0, hc.rep, Co.box_new w c _⟩
  clear hc hS hE hb0
  unfold Co.agg
  go_enter Tryd.func8, Tryd.ntmps8
  go_wp2_with fail
  generalize w.alloc (.cells #[.slice c.pA c.places.length c.pc, .int .i64 c.mux, .int .i64 c.ato, .slice c.cA c.chans.length c.cc, .slice c.fA c.funcs.length c.fc, .int .i64 c.start, .slice c.bA c.body.length c.bc] 31) = w1 at HR ⊢
  refine (alive_any w1 ec (HE.out.later HR.out.bl)).mono ?_
  rintro e w2 ⟨rfl, hb2⟩
  have HR2 := Lib.hid (HR.out.later hb2)
  clear HR hb2
  obtain ⟨q0, q1, q2, q3, q4, q5, q6⟩ := HR2.out.cells
  go_wp2_with fail
  refine (long_any c w2 HR2.out.rep').mono ?_
  rintro e w3 ⟨rfl, hb3⟩
  have HR3 := Lib.hid (HR2.out.later hb3)
  clear HR2 hb3 q0 q1 q2 q3 q4 q5 q6
  by_cases hlong : 20000 < coLen c
  · rw [decide_eq_true hlong]
    go_wp2_with fail
    go_ret
    exact ⟨rfl, HR3.out.bl⟩
  rw [decide_eq_false hlong]
  obtain ⟨q0, q1, q2, q3, q4, q5, q6⟩ := HR3.out.cells
  go_wp2_with fail
  refine (putC_any c w3 HR3.out.rep' ec (HE.out.later HR3.out.bl)).mono ?_
  rintro e w4 (⟨hk, v, rfl, hrow, hown, hb4⟩ | ⟨hk, rfl, hb4⟩)
  · obtain ⟨hN28, hN3⟩ := encC_len hk
    have HBY := Lib.hid (byt_enc c fun x hx => (HC.out.body x hx).2.2.2.1.1)
    have HPF := Lib.hid (pcF_of hk fun x hx => ⟨(HC.out.body x hx).2.1, (HC.out.body x hx).2.2.2.1⟩)
    obtain ⟨B, hB⟩ : ∃ B, encC c = B := ⟨_, rfl⟩
    have HPB : Hid (B = c.pl.enc) := by show _ = _; rw [← hB, encC_pl]
    rw [hB] at hN28 hN3 HBY hrow
    obtain ⟨N, hN⟩ : ∃ N, B.length = N := ⟨_, rfl⟩
    rw [hN] at hN28 hN3 hrow
    obtain ⟨gb, cap, rfl, _, hnc, hcm, hgl, _, _⟩ := hrow.mid (by omega)
    have HRS := Lib.hid (row_rs hrow)
    have HNN := Lib.hid hN
    have HR4 := Lib.hid (HR3.out.later hb4)
    clear HR3 hb4 hB hN hown q0 q1 q2 q3 q4 q5 q6 hrow
    have l0 : (0 : Int) < (N : Int) := by omega
    have u64n : IntKind.u64.wrap (N : Int) = N := wrap_u64_id (by omega) (by omega)
    obtain ⟨m, hmN, hme⟩ := mod_nat cut N (by omega) (by omega)
    unfold maxLen at hcm
    go_wp2_with fail
    refine (getNo_any (B.take m) m (by rw [List.length_take, HNN.out]; omega) (fun x hx => HBY.out x (List.mem_of_mem_take hx)) (by rw [List.length_take]; omega) (by rw [HPB.out]; exact parse_short _ HPF.out m (by rw [← HPB.out, HNN.out]; exact hmN)) gb 0 cap w4 (fun hp => ?_) (by rw [List.length_take]; omega) (by simp only [maxLen]; omega) hgl ec (HE.out.later HR4.out.bl)).mono ?_
    · obtain ⟨b1, o1, e1, hcl⟩ := HRS.out (by rw [bys_len, HNN.out]; omega)
      refine ⟨b1, o1, e1, fun j hj => ?_⟩
      rw [bys_len, List.length_take] at hj
      rw [hcl j (by rw [bys_len]; omega)]
      simp [bys]
    rintro e w5 ⟨rfl, hb5⟩
    have HR5 := Lib.hid (HR4.out.later hb5)
    have HRS5 := Lib.hid (HRS.out.later hb5)
    clear HR4 hb5
    unfold errV
    go_upto_region 9 with fail
    have HR6 := Lib.hid (HR5.out.later (below_alloc (Below.refl w5.heap.size w5) (.cells #[.slice none 0 0, .int .i64 0, .int .i64 0, .slice none 0 0, .slice none 0 0, .int .i64 0, .slice none 0 0] 31)))
    have HRS6 := Lib.hid (HRS5.out.later (below_alloc (Below.refl w5.heap.size w5) (.cells #[.slice none 0 0, .int .i64 0, .int .i64 0, .slice none 0 0, .slice none 0 0, .int .i64 0, .slice none 0 0] 31)))
    generalize w5.alloc (.cells #[.slice none 0 0, .int .i64 0, .int .i64 0, .slice none 0 0, .slice none 0 0, .int .i64 0, .slice none 0 0] 31) = w6 at HR6 HRS6 ⊢
    clear HR5 HRS5 HRS
    have hB1 : ∀ u ∈ bys B, u.oneCell' = true := ones_bys B
    have HB1 := Lib.hid hB1
    clear hB1
    go_wp2_with (first
      | (at_builtin; refine append_row (by rfl) _ _ _ 5 _ 1 1 (by rfl) Tryd.underlying47 infoByte (by rfl) (by omega) (.slice (some ⟨w6.heap.size, 0, none⟩) 0 0) 0 [] (by rfl) (Row.empty _ _ _ _) (some ⟨gb, 0, none⟩) N cap (bys B) (by rfl) (by rw [bys_len, HNN.out, Nat.mul_one]) (by simp) hnc ((HRS6.out.later (below_alloc (Below.refl _ _) _)).rd (by rw [bys_len, HNN.out]; simp only [maxLen]; omega)) HB1.out (by simp only [maxLen]; omega) (by omega) ?_; intro v1 w7 hrow7 hk7 hg7; rw [Nat.zero_add, List.nil_append] at hrow7; have HK7 := Lib.hid hk7; have HG7 := Lib.hid hg7; have HRW7 := Lib.hid hrow7; obtain ⟨A7, c7, rfl, _, _, _, _⟩ := hrow7.form; clear hrow7 hk7 hg7)
      | (at_builtin; refine append_row (by rfl) _ _ _ 5 _ 1 1 (by rfl) Tryd.underlying47 infoByte (by rfl) (by omega) (.slice A7 N c7) N (bys B) (by rfl) (HRW7.out.kept (Kept.ofBelow (below_alloc (Below.refl _ _) _) []) (by simp)) (some ⟨w7.heap.size, 0, none⟩) 1 1 [.int .u8 more] (by rfl) (by rfl) (by simp) (by omega) (rd_blkW (T := 5) (blk_new w7 _) (by simp [maxLen])) (by simp [Value.oneCell']) (by simp only [maxLen]; omega) (by omega) ?_; intro v2 w8 hrow8 hk8 hg8; have HK8 := Lib.hid hk8; have HG8 := Lib.hid hg8; have HRW8 := Lib.hid hrow8; clear hk8 hg8))
    have HB8 : Hid (Below w6.heap.size w6 w8) := by
      have hz : blk (.slice (some ⟨w6.heap.size, 0, none⟩) 0 0) = [] := rfl
      have k7 := HK7.out
      have g7 := HG7.out
      rw [hz] at k7 g7
      have b1 : Below w6.heap.size w6 w7 := below_next (below_alloc (Below.refl _ _) _) k7.below0
      have b2 := below_alloc b1 (.cells #[.int .u8 more] 5)
      refine b2.trans (HK8.out.below (fun i hi => ?_) b2.size)
      rcases g7 i hi with h1 | h1
      · simp at h1
      · simp at h1; omega
    have HR8 := Lib.hid (HR6.out.later HB8.out)
    clear HR6 HK7 HK8 HG7 HG8 HRW7 HRS6
    obtain ⟨g2, c2, rfl, _, hn2, hcm2, hgl2, _, _⟩ := HRW8.out.mid (by omega)
    have HRS8 : Hid (Rs w8 (some ⟨g2, 0, none⟩) (bys (B ++ [more]))) := by
      have := row_rs HRW8.out
      rw [bys_app]
      exact this
    clear HRW8
    refine (getNo_any (B ++ [more]) (N + 1) (by rw [List.length_append, HNN.out]; rfl) (byt_app HBY.out fun x hx => by simp at hx; subst hx; exact hm0) (by rw [List.length_append, HNN.out]; simp; omega) (by rw [HPB.out]; exact parse_long _ HPF.out _ (by simp)) g2 0 c2 w8 HRS8.out (by rw [List.length_append, HNN.out]; simp; omega) hcm2 hgl2 ec (HE.out.later HR8.out.bl)).mono ?_
    rintro e w9 ⟨rfl, hb9⟩
    have HR9 := Lib.hid (HR8.out.later hb9)
    clear HR8 hb9 HRS8
    unfold errV
    go_upto_region 10 with fail
    have HR10 := Lib.hid (HR9.out.later (below_alloc (Below.refl w9.heap.size w9) (.cells #[.slice none 0 0, .int .i64 0, .int .i64 0, .slice none 0 0, .slice none 0 0, .int .i64 0, .slice none 0 0] 31)))
    generalize w9.alloc (.cells #[.slice none 0 0, .int .i64 0, .int .i64 0, .slice none 0 0, .slice none 0 0, .int .i64 0, .slice none 0 0] 31) = w10 at HR10 ⊢
    clear HR9
    go_wp2_with fail
    refine (numC_any w10 ads (HS.out.later HR10.out.bl) ec h8).mono ?_
    rintro e w11 ⟨rfl, hb11⟩
    have HR11 := Lib.hid (HR10.out.later hb11)
    clear HR10 hb11
    go_wp2_with fail
    refine (numC_any w11 ads (HS.out.later HR11.out.bl) ec h8).mono ?_
    rintro e w12 ⟨rfl, hb12⟩
    have HR12 := Lib.hid (HR11.out.later hb12)
    clear HR11 hb12
    go_wp2_with fail
    go_ret
    exact ⟨rfl, HR12.out.bl⟩
  · have HR4 := Lib.hid (HR3.out.later hb4)
    clear HR3 hb4 q0 q1 q2 q3 q4 q5 q6
    unfold errV
    go_wp2_with fail
    refine (numC_any w4 ads (HS.out.later HR4.out.bl) ec h8).mono ?_
    rintro e w5 ⟨rfl, hb5⟩
    have HR5 := Lib.hid (HR4.out.later hb5)
    clear hb5
    go_wp2_with fail
    go_ret
    exact ⟨rfl, HR5.out.bl⟩
theorem byte_u8 {n : Int} (h : (Lit.int .u8 n).wf = true) : 0 ≤ n ∧ n ≤ 255 := by
  have h1 : IntKind.u8.min ≤ n ∧ n ≤ IntKind.u8.max := by simpa [Lit.wf] using h
  exact h1
theorem co_val {v : Value} {cs : Array Value} {c : Co} (hv : v = .agg cs) (h : v.cells.toList = c.cells) : v = c.agg := by
  subst hv
  have h' : cs.toList = c.cells := h
  unfold Co.agg
  congr 1
  exact Array.ext' h'
end Go.Proofs.YtbpbimkadiobfaaDoor
