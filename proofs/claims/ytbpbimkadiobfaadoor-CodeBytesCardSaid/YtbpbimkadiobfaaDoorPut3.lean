/-
  A code's bytes: Put, walked.
-/
import Derived.Test.YtbpbimkadiobfaaDoorPut2
namespace Go.Proofs.YtbpbimkadiobfaaDoor
open Go.RowKit Go.Stk
attribute [local go_sem ↓] Go.wp_at_zero Go.wp_at_succ

theorem wr_start (w : World) (T : TypeId) (hT : T = 77) : WrO (fun k => k < w.heap.size) w.heap.size [] (w.alloc (.cells #[.slice none 0 0] T)) := by
  subst hT
  exact ⟨_, blk_new w _, Row.empty _ _ _ _, by simp [blk], by omega, by simp [blk], fun k hk => by simp; omega⟩
theorem PuR.cells {w wr : World} {c : Co} {bx b : Nat} {X : Nat → Prop} {xs : List Int} (h : PuR w wr c bx b X xs) {cA fA bA : Option Addr} (e1 : c.cA = cA) (e2 : c.fA = fA) (e3 : c.bA = bA) :
    wr.cell? ⟨bx, 0, none⟩ = some (.slice c.pA c.places.length c.pc) ∧ wr.cell? ⟨bx, 1, none⟩ = some (.int .i64 c.mux) ∧ wr.cell? ⟨bx, 2, none⟩ = some (.int .i64 c.ato) ∧ wr.cell? ⟨bx, 3, none⟩ = some (.slice cA c.chans.length c.cc) ∧ wr.cell? ⟨bx, 4, none⟩ = some (.slice fA c.funcs.length c.fc) ∧ wr.cell? ⟨bx, 5, none⟩ = some (.int .i64 c.start) ∧ wr.cell? ⟨bx, 6, none⟩ = some (.slice bA c.body.length c.bc) := by
  subst e1 e2 e3
  exact ⟨h.box.c0, h.box.c1, h.box.c2, h.box.c3, h.box.c4, h.box.c5, h.box.c6⟩
def P1 (c : Co) : List Int := headE c ++ be4 c.places
def P2 (c : Co) : List Int := P1 c ++ c.chans.flatMap chE
def P3 (c : Co) : List Int := P2 c ++ c.funcs.flatMap fnE
theorem headE_len (c : Co) : (headE c).length = 28 := by rw [headE, be4_len]; rfl
section
variable {c : Co} (h : checkB c = true)
include h
theorem len1 (k : Nat) : (P1 c ++ (c.chans.take k).flatMap chE).length ≤ 1000 := by
  obtain ⟨h1, h2, _⟩ := check_small h
  rw [List.length_append, P1, List.length_append, headE_len, be4_len, flat_len chE_len, List.length_take]
  omega
theorem len2 (k : Nat) : (P2 c ++ (c.funcs.take k).flatMap fnE).length ≤ 4000 := by
  obtain ⟨h1, h2, h3, h4, h5⟩ := check_small h
  have h6 := len1 h c.chans.length
  rw [List.take_length] at h6
  have h7 := fns_len (l := c.funcs.take k) fun f hf => h5 f (List.mem_of_mem_take hf)
  rw [List.length_take] at h7
  rw [List.length_append, P2]
  omega
theorem len3 (k : Nat) : (P3 c ++ (c.body.take k).flatMap insE).length ≤ 300000 := by
  obtain ⟨h1, h2, h3, h4, h5⟩ := check_small h
  have h6 := len2 h c.funcs.length
  rw [List.take_length] at h6
  rw [List.length_append, P3, flat_len insE_len, List.length_take]
  omega
end
theorem insE_app (xs : List Int) (x : Ins) : xs ++ be (IntKind.u64.wrap x.op) 1 ++ be (IntKind.u64.wrap x.a) 8 ++ be4 [x.b] ++ be x.bits 8 ++ be4 [x.at_] = xs ++ insE x := by simp [insE]
theorem fnE_app (xs : List Int) (f : Fn) : xs ++ be4 [f.st, f.pa, f.locals.length] ++ be4 f.locals = xs ++ fnE f := by simp [fnE]
set_option maxRecDepth 100000 in
set_option maxHeartbeats 4000000 in
theorem putC_any (c : Co) (w : World) (h : c.Rep w) (ec : Addr) (hE : Errs w ec) : Calls Tryd.prog 20 #[c.agg] w (PutR w c ec) := by
  have hlp := h.lp
  have hlc := h.lc
  have hlf := h.lf
  have hlb := h.lb
  have HC := Lib.hid h
  have hb0 : Below w.heap.size w (w.alloc (.cells #[.slice c.pA c.places.length c.pc, .int .i64 c.mux, .int .i64 c.ato, .slice c.cA c.chans.length c.cc, .slice c.fA c.funcs.length c.fc, .int .i64 c.start, .slice c.bA c.body.length c.bc] 31)) := below_alloc (Below.refl _ _) _
  have HK := Lib.hid (check_any c _ (h.later hb0) ec (hE.later hb0))
  have HBX := Lib.hid (Co.box_new w c 31)
  have HB0 := Lib.hid hb0
  have q0 := HBX.out.c0
  have q1 := HBX.out.c1
  have q2 := HBX.out.c2
  have q3 := HBX.out.c3
  have q4 := HBX.out.c4
  have q5 := HBX.out.c5
  have q6 := HBX.out.c6
  have hs1 : w.heap.size < (w.alloc (.cells #[.slice c.pA c.places.length c.pc, .int .i64 c.mux, .int .i64 c.ato, .slice c.cA c.chans.length c.cc, .slice c.fA c.funcs.length c.fc, .int .i64 c.start, .slice c.bA c.body.length c.bc] 31)).heap.size := by simp
  clear h hE hb0
  unfold Co.agg
  generalize hw1 : w.alloc (.cells #[.slice c.pA c.places.length c.pc, .int .i64 c.mux, .int .i64 c.ato, .slice c.cA c.chans.length c.cc, .slice c.fA c.funcs.length c.fc, .int .i64 c.start, .slice c.bA c.body.length c.bc] 31) = w1 at HK HBX HB0 q0 q1 q2 q3 q4 q5 q6 hs1
  go_enter Tryd.func20, Tryd.ntmps20
  go_wp2_with fail
  clear hw1
  cases hB : checkB c
  · have HF := Lib.hid hB
    clear hB
    refine HK.out.mono ?_
    unfold checkV errV
    rw [HF.out]
    rintro e w2 ⟨rfl, hb2⟩
    simp only [Bool.false_eq_true, if_false]
    have HB2 := Lib.hid (below_next HB0.out hb2)
    clear hb2
    go_wp2_with fail
    go_ret2
    exact .inr ⟨HF.out, rfl, HB2.out⟩
  · have HF := Lib.hid hB
    clear hB
    refine HK.out.mono ?_
    unfold checkV
    rw [HF.out]
    rintro e w2 ⟨rfl, hb2⟩
    simp only [if_true]
    have HS : Hid (PuR w (w2.alloc (.cells #[.slice none 0 0] 77)) c w.heap.size w2.heap.size (fun k => k < w2.heap.size) []) :=
      ⟨below_alloc (below_next HB0.out hb2) _, HC.out, (HBX.out.later hb2).later (below_alloc (Below.refl _ _) _), ⟨(below_next HB0.out hb2).size, Nat.lt_of_lt_of_le hs1 hb2.size⟩, fun _ hk => hk, wr_start w2 _ rfl⟩
    obtain ⟨cA, hcA⟩ : ∃ A, c.cA = A := ⟨_, rfl⟩
    obtain ⟨fA, hfA⟩ : ∃ A, c.fA = A := ⟨_, rfl⟩
    obtain ⟨bA, hbA⟩ : ∃ A, c.bA = A := ⟨_, rfl⟩
    have HcA := Lib.hid hcA
    have HfA := Lib.hid hfA
    have HbA := Lib.hid hbA
    clear hcA hfA hbA q0 q1 q2 q3 q4 q5 q6 hs1 HK
    obtain ⟨q0, q1, q2, q3, q4, q5, q6⟩ := HS.out.cells HcA.out HfA.out HbA.out
    clear hb2
    go_wp2_with fail
    refine Calls.mono (HS.out.newNums [(c.places.length : Int), c.mux, c.ato, c.chans.length, c.funcs.length, c.body.length, c.start] _ _ 7 _ (by simp) rfl rfl (by simp)) ?_
    rintro e w3 ⟨rfl, HP3, _⟩
    rw [List.nil_append] at HP3
    replace HP3 : Hid (PuR w w3 c w.heap.size w2.heap.size (fun k => k < w2.heap.size) (headE c)) := HP3
    clear q0 q1 q2 q3 q4 q5 q6
    obtain ⟨q0, q1, q2, q3, q4, q5, q6⟩ := HP3.out.cells HcA.out HfA.out HbA.out
    go_wp2_with fail
    with_reducible refine (HP3.out.nums c.places c.pA c.pc HC.out.pl (by have := (check_small HF.out).1; rw [headE_len]; omega)).mono ?_
    rintro e w4 ⟨rfl, HP4, _⟩
    clear q0 q1 q2 q3 q4 q5 q6 HP3 HS
    obtain ⟨q0, q1, q2, q3, q4, q5, q6⟩ := HP4.out.cells HcA.out HfA.out HbA.out
    go_wp2_with fail
    go_loopw [47] (fun iv wr => ∃ k : Nat, k ≤ c.chans.length ∧ iv = .int .i64 k ∧ Hid (PuR w wr c w.heap.size w2.heap.size (fun k => k < w2.heap.size) (P1 c ++ (c.chans.take k).flatMap chE))) (fun iv _ => c.chans.length - (intOf iv).toNat)
    case atStart => exact ⟨0, Nat.zero_le _, rfl, by show PuR _ _ _ _ _ _ _; rw [List.take_zero, List.flatMap_nil, List.append_nil]; exact HP4.out⟩
    case round =>
      clear HP4 q0 q1 q2 q3 q4 q5 q6
      obtain ⟨k, hk, rfl, hP⟩ := hrel
      by_cases hlt : k < c.chans.length
      · obtain ⟨x, hx⟩ : ∃ x, c.chans[k]? = some x := ⟨_, List.getElem?_eq_getElem hlt⟩
        obtain ⟨b1, o1, e1, c1, c2⟩ := ch_at (HC.out.ch.later hP.out.bl) k x hx
        rw [HcA.out] at e1
        subst e1
        have HX := Lib.hid hx
        clear hx
        go_wp2_with fail
        refine Calls.mono ((hP.out.later (below_alloc (Below.refl _ _) _)).newNums [x.1, x.2] _ _ 2 _ (by simp) rfl rfl (by have := len1 HF.out k; simp only [List.length_cons, List.length_nil]; omega)) ?_
        rintro e w5 ⟨rfl, HP5, _⟩
        have HQ : Hid (PuR w w5 c w.heap.size w2.heap.size (fun k => k < w2.heap.size) (P1 c ++ (c.chans.take (k + 1)).flatMap chE)) := by
          show PuR _ _ _ _ _ _ _
          rw [fm_next HX.out, ← List.append_assoc]; exact HP5.out
        clear HP5
        go_wp2_with fail
        go_roundw
        case rel => exact ⟨k + 1, by omega, by go_num, HQ.out⟩
        case measure => simp [intOf]; omega
      · have HP5 : Hid (PuR w wr c w.heap.size w2.heap.size (fun k => k < w2.heap.size) (P2 c)) := by
          have := hP.out
          rw [List.take_of_length_le (by omega)] at this
          exact this
        clear hP
        obtain ⟨q0, q1, q2, q3, q4, q5, q6⟩ := HP5.out.cells HcA.out HfA.out HbA.out
        go_wp2_with fail
        go_loopw [62] (fun iv wr => ∃ k : Nat, k ≤ c.funcs.length ∧ iv = .int .i64 k ∧ Hid (PuR w wr c w.heap.size w2.heap.size (fun k => k < w2.heap.size) (P2 c ++ (c.funcs.take k).flatMap fnE))) (fun iv _ => c.funcs.length - (intOf iv).toNat)
        case atStart => exact ⟨0, Nat.zero_le _, rfl, by show PuR _ _ _ _ _ _ _; rw [List.take_zero, List.flatMap_nil, List.append_nil]; exact HP5.out⟩
        case round =>
          clear HP5 q0 q1 q2 q3 q4 q5 q6
          obtain ⟨k, hk, rfl, hP⟩ := hrel
          by_cases hlt : k < c.funcs.length
          · obtain ⟨x, hx⟩ : ∃ x, c.funcs[k]? = some x := ⟨_, List.getElem?_eq_getElem hlt⟩
            obtain ⟨b1, o1, e1, c1, c2, c3⟩ := fn_at (HC.out.fn.later hP.out.bl) k x hx
            rw [HfA.out] at e1
            subst e1
            have HX := Lib.hid hx
            have hxl := (check_small HF.out).2.2.2.2 x (List.mem_of_getElem? hx)
            have hxl2 : (x.locals.length : Int) ≤ 32 := by omega
            have HEN := Lib.hid (hP.out.enter (.cells #[.int .i64 x.st, .int .i64 x.pa, .slice x.lA x.locals.length x.lc] 26))
            have HBN := Lib.hid (blk_new wr (.cells #[.int .i64 x.st, .int .i64 x.pa, .slice x.lA x.locals.length x.lc] 26))
            clear hx
            go_wp2_with fail
            refine Calls.mono (HEN.out.newNums [x.st, x.pa, (x.locals.length : Int)] _ _ 3 _ (by simp) rfl rfl (by have := len2 HF.out k; simp only [List.length_cons, List.length_nil]; omega)) ?_
            rintro e w6 ⟨rfl, HP6, hk6⟩
            have g2 := hk6.cell (a := ⟨wr.heap.size, 2, none⟩) (v := .slice x.lA x.locals.length x.lc) (.inr rfl) (by rw [blk_cell HBN.out]; rfl)
            clear hk6
            go_wp2_with fail
            refine Calls.mono (HP6.out.nums x.locals x.lA x.lc (HC.out.lo x (List.mem_of_getElem? HX.out)).1 (by have := len2 HF.out k; rw [List.length_append, be4_len]; simp only [List.length_cons, List.length_nil]; omega)) ?_
            rintro e w7 ⟨rfl, HP7, _⟩
            have HQ : Hid (PuR w w7 c w.heap.size w2.heap.size (fun k => k < w2.heap.size) (P2 c ++ (c.funcs.take (k + 1)).flatMap fnE)) := by
              show PuR _ _ _ _ _ _ _
              rw [fm_next HX.out, ← List.append_assoc, ← fnE_app]; exact HP7.out.leave
            clear HP7 HP6 g2
            go_wp2_with fail
            go_roundw
            case rel => exact ⟨k + 1, by omega, by go_num, HQ.out⟩
            case measure => simp [intOf]; omega
          · have HP8 : Hid (PuR w wr c w.heap.size w2.heap.size (fun k => k < w2.heap.size) (P3 c)) := by
              have := hP.out
              rw [List.take_of_length_le (by omega)] at this
              exact this
            clear hP
            obtain ⟨q0, q1, q2, q3, q4, q5, q6⟩ := HP8.out.cells HcA.out HfA.out HbA.out
            go_wp2_with fail
            go_loopw [84] (fun iv wr => ∃ k : Nat, k ≤ c.body.length ∧ iv = .int .i64 k ∧ Hid (PuR w wr c w.heap.size w2.heap.size (fun k => k < w2.heap.size) (P3 c ++ (c.body.take k).flatMap insE))) (fun iv _ => c.body.length - (intOf iv).toNat)
            case atStart => exact ⟨0, Nat.zero_le _, rfl, by show PuR _ _ _ _ _ _ _; rw [List.take_zero, List.flatMap_nil, List.append_nil]; exact HP8.out⟩
            case round =>
              clear HP8 q0 q1 q2 q3 q4 q5 q6
              obtain ⟨k, hk, rfl, hP⟩ := hrel
              by_cases hlt : k < c.body.length
              · obtain ⟨x, hx⟩ : ∃ x, c.body[k]? = some x := ⟨_, List.getElem?_eq_getElem hlt⟩
                obtain ⟨b1, o1, e1, c0, c1, c2, c3, c4⟩ := ins_at (HC.out.bo.later hP.out.bl) k x hx
                rw [HbA.out] at e1
                subst e1
                have HX := Lib.hid hx
                have HEN := Lib.hid (hP.out.enter (.cells #[.int .i64 x.op, .int .i64 x.a, .int .i64 x.b, .int .u64 x.bits, .int .i64 x.at_] 34))
                have HL3 := Lib.hid (len3 HF.out k)
                obtain ⟨g0, g1, g2, g3, g4⟩ := blk5 (blk_new wr (.cells #[.int .i64 x.op, .int .i64 x.a, .int .i64 x.b, .int .u64 x.bits, .int .i64 x.at_] 34))
                have HG := Lib.hid (And.intro g1 (And.intro g2 (And.intro g3 g4)))
                clear hx g0 g1 g2 g3 g4
                go_wp2_with fail
                refine Calls.mono (HEN.out.put 1 (by omega) (IntKind.u64.wrap x.op) (by have := HL3.out; omega)) ?_
                rintro e w6 ⟨rfl, HP6, hk6⟩
                have g1 := hk6.cell (a := ⟨wr.heap.size, 1, none⟩) (.inr rfl) HG.out.1
                have HK6 := Lib.hid hk6
                clear hk6
                go_wp2_with fail
                refine Calls.mono (HP6.out.put 8 (by omega) (IntKind.u64.wrap x.a) (by have := HL3.out; simp only [List.length_append, be_len] at this ⊢; omega)) ?_
                rintro e w7 ⟨rfl, HP7, hk7⟩
                have HK7 := Lib.hid (HK6.out.trans hk7)
                have g2 := HK7.out.cell (a := ⟨wr.heap.size, 2, none⟩) (.inr rfl) HG.out.2.1
                clear hk7 g1 HP6
                go_wp2_with fail
                refine Calls.mono (HP7.out.newNums [x.b] _ _ 1 _ (by simp) rfl rfl (by have := HL3.out; simp only [List.length_append, be_len, List.length_cons, List.length_nil] at this ⊢; omega)) ?_
                rintro e w8 ⟨rfl, HP8, hk8⟩
                have HK8 := Lib.hid (HK7.out.trans hk8)
                have g3 := HK8.out.cell (a := ⟨wr.heap.size, 3, none⟩) (.inr rfl) HG.out.2.2.1
                clear hk8 g2 HP7
                go_wp2_with fail
                refine Calls.mono (HP8.out.put 8 (by omega) x.bits (by have := HL3.out; simp only [List.length_append, be_len, be4_len, List.length_cons, List.length_nil] at this ⊢; omega)) ?_
                rintro e w9 ⟨rfl, HP9, hk9⟩
                have HK9 := Lib.hid (HK8.out.trans hk9)
                have g4 := HK9.out.cell (a := ⟨wr.heap.size, 4, none⟩) (.inr rfl) HG.out.2.2.2.1
                clear hk9 g3 HP8
                go_wp2_with fail
                refine Calls.mono (HP9.out.newNums [x.at_] _ _ 1 _ (by simp) rfl rfl (by have := HL3.out; simp only [List.length_append, be_len, be4_len, List.length_cons, List.length_nil] at this ⊢; omega)) ?_
                rintro e w10 ⟨rfl, HP10, _⟩
                have HQ : Hid (PuR w w10 c w.heap.size w2.heap.size (fun k => k < w2.heap.size) (P3 c ++ (c.body.take (k + 1)).flatMap insE)) := by
                  show PuR _ _ _ _ _ _ _
                  rw [fm_next HX.out, ← List.append_assoc, ← insE_app]; exact HP10.out.leave
                clear HP10 HP9 g4
                go_wp2_with fail
                go_roundw
                case rel => exact ⟨k + 1, by omega, by go_num, HQ.out⟩
                case measure => simp [intOf]; omega
              · have HPE : Hid (PuR w wr c w.heap.size w2.heap.size (fun k => k < w2.heap.size) (encC c)) := by
                  have := hP.out
                  rw [List.take_of_length_le (by omega)] at this
                  exact this
                clear hP
                obtain ⟨v, h1, h2, h3, h4, h5, h6⟩ := HPE.out.wr
                have f0 : wr.cell? ⟨w2.heap.size, 0, none⟩ = some v := by rw [blk_cell h1]; rfl
                have HV := Lib.hid (And.intro h2 h5)
                clear h1 h2 h3 h4 h5 h6
                go_wp2_with fail
                go_ret2
                exact .inl ⟨HF.out, v, rfl, HV.out.1, fun g hg => by have := HV.out.2 g hg; have := HPE.out.lt; omega, HPE.out.bl⟩
end Go.Proofs.YtbpbimkadiobfaaDoor
