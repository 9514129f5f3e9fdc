/-
  Codes compared by the reference.
-/
import Derived.Test.YtbpbimkadiobfaaDoorCode14
import Derived.Deep.QuietTactic
import Derived.BigQuiet
namespace Go.Proofs.YtbpbimkadiobfaaDoor
open Go.RowKit Go.Stk

theorem below_dN (w : World) (n : Nat) : Below w.heap.size w (w.drewN n) := ⟨rfl, rfl, rfl, Nat.le_refl _, fun _ _ => rfl⟩
def Quiet (w : World) (v : Value) (e : Ending) (w' : World) : Prop := e = .returned v ∧ ∃ d, w' = w.drewN d
set_option maxRecDepth 100000 in
set_option maxHeartbeats 4000000 in
theorem refIntsQ (l m : List Int) (A B : Option Addr) (ca cb : Nat) (w : World) (hl : l.length ≤ 140737488351232) (hm : m.length ≤ 140737488351232) (h1 : Rs w A (ints l)) (h2 : Rs w B (ints m)) :
    Calls Tryd.prog 39 #[.slice A l.length ca, .slice B m.length cb] w (Quiet w (.bool (decide (l = m)))) := by
  have hm2 := hm
  by_cases hlen : l.length = m.length
  · have hl2 : ((l.length : Int) != (m.length : Int)) = false := by simp [hlen]
    have HL := Lib.hid hlen
    have H1 := Lib.hid h1
    have H2 := Lib.hid h2
    obtain ⟨S, hS⟩ : ∃ S, decide (l = m) = S := ⟨_, rfl⟩
    rw [hS]
    have HS := Lib.hid hS
    clear hlen h1 h2 hS
    go_enter Tryd.func39, Tryd.ntmps39
    go_wp2_with fail
    go_loopw [13] (fun i wr => ∃ k : Nat, k ≤ l.length ∧ i = .int .i64 k ∧ Hid (∃ d, wr = w.drewN d) ∧ Hid (l.take k = m.take k)) (fun i _ => l.length - (intOf i).toNat)
    case atStart => exact ⟨0, Nat.zero_le _, rfl, ⟨0, rfl⟩, by simp [Hid]⟩
    case round =>
      obtain ⟨k, hk, rfl, hb, ht⟩ := hrel
      obtain ⟨d, hd⟩ := hb.out
      subst hd
      clear hb
      by_cases hlt : k < l.length
      · have hlt2 : k < m.length := by have := HL.out; omega
        obtain ⟨x, hx⟩ : ∃ x, l[k]? = some x := ⟨_, List.getElem?_eq_getElem hlt⟩
        obtain ⟨y, hy⟩ : ∃ y, m[k]? = some y := ⟨_, List.getElem?_eq_getElem hlt2⟩
        obtain ⟨b1, o1, rfl, c1⟩ := rs_ri H1.out k x hx
        obtain ⟨b2, o2, rfl, c2⟩ := rs_ri H2.out k y hy
        have HN : Hid (x = y → l.take (k + 1) = m.take (k + 1)) := fun e => by
          rw [List.take_add_one, List.take_add_one, hx, hy, ht.out, e]
        have HD : Hid (x ≠ y → S = false) := fun e => by
          rw [← HS.out]
          refine decide_eq_false fun e2 => e ?_
          rw [e2] at hx
          rw [hx] at hy
          exact Option.some.inj hy
        clear hx hy ht
        by_cases hxy : x = y
        · have HT : Hid (l.take (k + 1) = m.take (k + 1)) := HN.out hxy
          subst hxy
          clear HN HD
          go_wp2_with fail
          go_quiet (fail)
          go_wp2_with fail
          go_roundw
          case rel => exact ⟨k + 1, by omega, by go_num, by first | exact ⟨_, rfl⟩ | exact ⟨_, World.drewN_drewN _ _ _⟩, HT⟩
          case measure => simp [intOf]; omega
        · have HF : Hid (S = false) := HD.out hxy
          have hxy2 : (x != y) = true := by simpa using hxy
          clear HN HD
          go_wp2_with fail
          go_quiet (fail)
          go_wp2_with fail
          go_ret
          exact ⟨by rw [HF.out]; rfl, by first | exact ⟨_, rfl⟩ | exact ⟨_, World.drewN_drewN _ _ _⟩⟩
      · have HF : Hid (S = true) := by
          have h3 := ht.out
          rw [List.take_of_length_le (by omega), List.take_of_length_le (by have := HL.out; omega)] at h3
          rw [← HS.out]
          exact decide_eq_true h3
        clear ht
        go_wp2_with fail
        go_ret
        exact ⟨by rw [HF.out]; rfl, d, rfl⟩
  · have hl2 : ((l.length : Int) != (m.length : Int)) = true := by simp; omega
    have E : Hid (decide (l = m) = false) := decide_eq_false fun e => hlen (by rw [e])
    clear hlen h1 h2
    go_enter Tryd.func39, Tryd.ntmps39
    go_wp2_with fail
    go_ret
    exact ⟨by rw [E.out]; rfl, 0, rfl⟩
/-- Two codes, boxed. -/
structure TwR (w wr : World) (a b : Co) : Prop where
  bl : Below w.heap.size w wr
  ra : a.Rep wr
  rb : b.Rep wr
  xa : Co.Box wr w.heap.size a
  xb : Co.Box wr (w.heap.size + 1) b
theorem TwR.later {w wr w' : World} {a b : Co} (h : TwR w wr a b) (hb : Below wr.heap.size wr w') : TwR w w' a b := ⟨below_next h.bl hb, h.ra.later hb, h.rb.later hb, h.xa.later hb, h.xb.later hb⟩
theorem twR_start (a b : Co) (w : World) (ha : a.Rep w) (hb : b.Rep w) : TwR w ((w.alloc (.cells #[.slice a.pA a.places.length a.pc, .int .i64 a.mux, .int .i64 a.ato, .slice a.cA a.chans.length a.cc, .slice a.fA a.funcs.length a.fc, .int .i64 a.start, .slice a.bA a.body.length a.bc] 31)).alloc (.cells #[.slice b.pA b.places.length b.pc, .int .i64 b.mux, .int .i64 b.ato, .slice b.cA b.chans.length b.cc, .slice b.fA b.funcs.length b.fc, .int .i64 b.start, .slice b.bA b.body.length b.bc] 31)) a b := by
  have hB := below_alloc (below_alloc (Below.refl w.heap.size w) (.cells #[.slice a.pA a.places.length a.pc, .int .i64 a.mux, .int .i64 a.ato, .slice a.cA a.chans.length a.cc, .slice a.fA a.funcs.length a.fc, .int .i64 a.start, .slice a.bA a.body.length a.bc] 31)) (.cells #[.slice b.pA b.places.length b.pc, .int .i64 b.mux, .int .i64 b.ato, .slice b.cA b.chans.length b.cc, .slice b.fA b.funcs.length b.fc, .int .i64 b.start, .slice b.bA b.body.length b.bc] 31)
  refine ⟨hB, ha.later hB, hb.later hB, (Co.box_new w a 31).later (below_alloc (Below.refl _ _) _), ?_⟩
  have := Co.box_new (w.alloc (.cells #[.slice a.pA a.places.length a.pc, .int .i64 a.mux, .int .i64 a.ato, .slice a.cA a.chans.length a.cc, .slice a.fA a.funcs.length a.fc, .int .i64 a.start, .slice a.bA a.body.length a.bc] 31)) b 31
  rw [show (w.alloc (.cells #[.slice a.pA a.places.length a.pc, .int .i64 a.mux, .int .i64 a.ato, .slice a.cA a.chans.length a.cc, .slice a.fA a.funcs.length a.fc, .int .i64 a.start, .slice a.bA a.body.length a.bc] 31)).heap.size = w.heap.size + 1 by simp] at this
  exact this
set_option maxRecDepth 100000 in
set_option maxHeartbeats 8000000 in
theorem refSame_any (a b : Co) (w : World) (ha : a.Rep w) (hb : b.Rep w) : Calls Tryd.prog 18 #[a.agg, b.agg] w (Ret w (.bool (sameB a b))) := by
  obtain ⟨S, hS⟩ : ∃ S, sameB a b = S := ⟨_, rfl⟩
  rw [hS]
  unfold sameB at hS
  have HS := Lib.hid hS
  have HT := Lib.hid (twR_start a b w ha hb)
  have A1 := ha.lp
  have A2 := ha.lc
  have A3 := ha.lf
  have A4 := ha.lb
  have B1 := hb.lp
  have B2 := hb.lc
  have B3 := hb.lf
  have B4 := hb.lb
  unfold Co.agg
  clear ha hb hS
  obtain ⟨apA, apc, aplaces, amux, aato, acA, acc, achans, afA, afc, afuncs, astart, abA, abc, abody⟩ := a
  obtain ⟨bpA, bpc, bplaces, bmux, bato, bcA, bcc, bchans, bfA, bfc, bfuncs, bstart, bbA, bbc, bbody⟩ := b
  dsimp only at HS HT A1 A2 A3 A4 B1 B2 B3 B4 ⊢
  obtain ⟨z, hz⟩ : ∃ z, decide (aplaces = bplaces) = z := ⟨_, rfl⟩
  have HZ := Lib.hid hz
  clear hz
  cases z
  · have F : Hid (S = false) := by show _ = _; rw [← HS.out, HZ.out]; simp
    go_enter Tryd.func18, Tryd.ntmps18
    go_wp2_with fail
    refine (refIntsQ aplaces bplaces apA bpA apc bpc _ A1 B1 HT.out.ra.pl HT.out.rb.pl).mono ?_
    rintro e w1 ⟨rfl, d, rfl⟩
    rw [HZ.out]
    replace HT := Lib.hid (HT.out.later (below_dN _ d))
    obtain ⟨p0, p1, p2, p3, p4, p5, p6⟩ := HT.out.xa
    obtain ⟨q0, q1, q2, q3, q4, q5, q6⟩ := HT.out.xb
    dsimp only at p0 p1 p2 p3 p4 p5 p6 q0 q1 q2 q3 q4 q5 q6
    go_wp2_with fail
    go_ret
    exact ⟨by rw [F.out]; rfl, HT.out.bl⟩
  by_cases e1 : amux = bmux
  rotate_left
  · have q : (amux != bmux) = true := by simpa using e1
    have F : Hid (S = false) := by show _ = _; rw [← HS.out]; simp [e1]
    clear e1
    go_enter Tryd.func18, Tryd.ntmps18
    go_wp2_with fail
    refine (refIntsQ aplaces bplaces apA bpA apc bpc _ A1 B1 HT.out.ra.pl HT.out.rb.pl).mono ?_
    rintro e w1 ⟨rfl, d, rfl⟩
    rw [HZ.out]
    replace HT := Lib.hid (HT.out.later (below_dN _ d))
    obtain ⟨p0, p1, p2, p3, p4, p5, p6⟩ := HT.out.xa
    obtain ⟨q0, q1, q2, q3, q4, q5, q6⟩ := HT.out.xb
    dsimp only at p0 p1 p2 p3 p4 p5 p6 q0 q1 q2 q3 q4 q5 q6
    go_wp2_with fail
    go_ret
    exact ⟨by rw [F.out]; rfl, HT.out.bl⟩
  have g1 : (amux != bmux) = false := by simpa using e1
  have E1 := Lib.hid e1
  clear e1
  by_cases e2 : aato = bato
  rotate_left
  · have q : (aato != bato) = true := by simpa using e2
    have F : Hid (S = false) := by show _ = _; rw [← HS.out]; simp [e2]
    clear e2
    go_enter Tryd.func18, Tryd.ntmps18
    go_wp2_with fail
    refine (refIntsQ aplaces bplaces apA bpA apc bpc _ A1 B1 HT.out.ra.pl HT.out.rb.pl).mono ?_
    rintro e w1 ⟨rfl, d, rfl⟩
    rw [HZ.out]
    replace HT := Lib.hid (HT.out.later (below_dN _ d))
    obtain ⟨p0, p1, p2, p3, p4, p5, p6⟩ := HT.out.xa
    obtain ⟨q0, q1, q2, q3, q4, q5, q6⟩ := HT.out.xb
    dsimp only at p0 p1 p2 p3 p4 p5 p6 q0 q1 q2 q3 q4 q5 q6
    go_wp2_with fail
    go_ret
    exact ⟨by rw [F.out]; rfl, HT.out.bl⟩
  have g2 : (aato != bato) = false := by simpa using e2
  have E2 := Lib.hid e2
  clear e2
  by_cases e4 : astart = bstart
  rotate_left
  · have q : (astart != bstart) = true := by simpa using e4
    have F : Hid (S = false) := by show _ = _; rw [← HS.out]; simp [e4]
    clear e4
    go_enter Tryd.func18, Tryd.ntmps18
    go_wp2_with fail
    refine (refIntsQ aplaces bplaces apA bpA apc bpc _ A1 B1 HT.out.ra.pl HT.out.rb.pl).mono ?_
    rintro e w1 ⟨rfl, d, rfl⟩
    rw [HZ.out]
    replace HT := Lib.hid (HT.out.later (below_dN _ d))
    obtain ⟨p0, p1, p2, p3, p4, p5, p6⟩ := HT.out.xa
    obtain ⟨q0, q1, q2, q3, q4, q5, q6⟩ := HT.out.xb
    dsimp only at p0 p1 p2 p3 p4 p5 p6 q0 q1 q2 q3 q4 q5 q6
    go_wp2_with fail
    go_ret
    exact ⟨by rw [F.out]; rfl, HT.out.bl⟩
  have g4 : (astart != bstart) = false := by simpa using e4
  have E4 := Lib.hid e4
  clear e4
  by_cases l5 : achans.length = bchans.length
  rotate_left
  · have q : ((achans.length : Int) != (bchans.length : Int)) = true := by simp; omega
    have F : Hid (S = false) := by show _ = _; rw [← HS.out]; rw [show decide (achans = bchans) = false from decide_eq_false (fun e => l5 (by rw [e]))]; simp
    clear l5
    go_enter Tryd.func18, Tryd.ntmps18
    go_wp2_with fail
    refine (refIntsQ aplaces bplaces apA bpA apc bpc _ A1 B1 HT.out.ra.pl HT.out.rb.pl).mono ?_
    rintro e w1 ⟨rfl, d, rfl⟩
    rw [HZ.out]
    replace HT := Lib.hid (HT.out.later (below_dN _ d))
    obtain ⟨p0, p1, p2, p3, p4, p5, p6⟩ := HT.out.xa
    obtain ⟨q0, q1, q2, q3, q4, q5, q6⟩ := HT.out.xb
    dsimp only at p0 p1 p2 p3 p4 p5 p6 q0 q1 q2 q3 q4 q5 q6
    go_wp2_with fail
    go_ret
    exact ⟨by rw [F.out]; rfl, HT.out.bl⟩
  have k5 : ((achans.length : Int) != (bchans.length : Int)) = false := by simp; omega
  have L5 := Lib.hid l5
  clear l5
  by_cases l6 : afuncs.length = bfuncs.length
  rotate_left
  · have q : ((afuncs.length : Int) != (bfuncs.length : Int)) = true := by simp; omega
    have F : Hid (S = false) := by show _ = _; rw [← HS.out]; rw [fnsEq_len _ _ l6]; simp
    clear l6
    go_enter Tryd.func18, Tryd.ntmps18
    go_wp2_with fail
    refine (refIntsQ aplaces bplaces apA bpA apc bpc _ A1 B1 HT.out.ra.pl HT.out.rb.pl).mono ?_
    rintro e w1 ⟨rfl, d, rfl⟩
    rw [HZ.out]
    replace HT := Lib.hid (HT.out.later (below_dN _ d))
    obtain ⟨p0, p1, p2, p3, p4, p5, p6⟩ := HT.out.xa
    obtain ⟨q0, q1, q2, q3, q4, q5, q6⟩ := HT.out.xb
    dsimp only at p0 p1 p2 p3 p4 p5 p6 q0 q1 q2 q3 q4 q5 q6
    go_wp2_with fail
    go_ret
    exact ⟨by rw [F.out]; rfl, HT.out.bl⟩
  have k6 : ((afuncs.length : Int) != (bfuncs.length : Int)) = false := by simp; omega
  have L6 := Lib.hid l6
  clear l6
  by_cases l7 : abody.length = bbody.length
  rotate_left
  · have q : ((abody.length : Int) != (bbody.length : Int)) = true := by simp; omega
    have F : Hid (S = false) := by show _ = _; rw [← HS.out]; rw [show decide (abody = bbody) = false from decide_eq_false (fun e => l7 (by rw [e]))]; simp
    clear l7
    go_enter Tryd.func18, Tryd.ntmps18
    go_wp2_with fail
    refine (refIntsQ aplaces bplaces apA bpA apc bpc _ A1 B1 HT.out.ra.pl HT.out.rb.pl).mono ?_
    rintro e w1 ⟨rfl, d, rfl⟩
    rw [HZ.out]
    replace HT := Lib.hid (HT.out.later (below_dN _ d))
    obtain ⟨p0, p1, p2, p3, p4, p5, p6⟩ := HT.out.xa
    obtain ⟨q0, q1, q2, q3, q4, q5, q6⟩ := HT.out.xb
    dsimp only at p0 p1 p2 p3 p4 p5 p6 q0 q1 q2 q3 q4 q5 q6
    go_wp2_with fail
    go_ret
    exact ⟨by rw [F.out]; rfl, HT.out.bl⟩
  have k7 : ((abody.length : Int) != (bbody.length : Int)) = false := by simp; omega
  have L7 := Lib.hid l7
  clear l7
  have R0 : Hid (S = (decide (achans = bchans) && (decide (abody = bbody) && fnsEq afuncs bfuncs))) := by show _ = _; rw [← HS.out, HZ.out, E1.out, E2.out, E4.out]; simp
  clear HS
  go_enter Tryd.func18, Tryd.ntmps18
  go_wp2_with fail
  refine (refIntsQ aplaces bplaces apA bpA apc bpc _ A1 B1 HT.out.ra.pl HT.out.rb.pl).mono ?_
  rintro e w1 ⟨rfl, d, rfl⟩
  rw [HZ.out]
  replace HT := Lib.hid (HT.out.later (below_dN _ d))
  obtain ⟨p0, p1, p2, p3, p4, p5, p6⟩ := HT.out.xa
  obtain ⟨q0, q1, q2, q3, q4, q5, q6⟩ := HT.out.xb
  dsimp only at p0 p1 p2 p3 p4 p5 p6 q0 q1 q2 q3 q4 q5 q6
  go_wp2_with fail
  clear p0 p1 p2 p3 p4 p5 p6 q0 q1 q2 q3 q4 q5 q6
  generalize ((w.alloc (.cells #[.slice apA aplaces.length apc, .int .i64 amux, .int .i64 aato, .slice acA achans.length acc, .slice afA afuncs.length afc, .int .i64 astart, .slice abA abody.length abc] 31)).alloc (.cells #[.slice bpA bplaces.length bpc, .int .i64 bmux, .int .i64 bato, .slice bcA bchans.length bcc, .slice bfA bfuncs.length bfc, .int .i64 bstart, .slice bbA bbody.length bbc] 31)).drewN d = W0 at HT ⊢
  go_loopw [65] (fun iv wr => ∃ k : Nat, k ≤ achans.length ∧ iv = .int .i64 k ∧ Hid (achans.take k = bchans.take k) ∧ Hid (TwR w wr ⟨apA, apc, aplaces, amux, aato, acA, acc, achans, afA, afc, afuncs, astart, abA, abc, abody⟩ ⟨bpA, bpc, bplaces, bmux, bato, bcA, bcc, bchans, bfA, bfc, bfuncs, bstart, bbA, bbc, bbody⟩)) (fun iv _ => achans.length - (intOf iv).toNat)
  case atStart => exact ⟨0, Nat.zero_le _, rfl, rfl, HT⟩
  case round =>
    clear HT
    obtain ⟨k, hk, rfl, ht, HT⟩ := hrel
    obtain ⟨p0, p1, p2, p3, p4, p5, p6⟩ := HT.out.xa
    obtain ⟨q0, q1, q2, q3, q4, q5, q6⟩ := HT.out.xb
    dsimp only at p3 q3 p4
    clear p0 p1 p2 p5 p6 q0 q1 q2 q4 q5 q6
    by_cases hlt : k < achans.length
    · clear p4
      have hlt2 : k < bchans.length := by have := L5.out; omega
      obtain ⟨x, hx⟩ : ∃ x, achans[k]? = some x := ⟨_, List.getElem?_eq_getElem hlt⟩
      obtain ⟨y, hy⟩ : ∃ y, bchans[k]? = some y := ⟨_, List.getElem?_eq_getElem hlt2⟩
      obtain ⟨b1, o1, ea, c1, c2⟩ := ch_at HT.out.ra.ch k x hx
      obtain ⟨b2, o2, eb, d1, d2⟩ := ch_at HT.out.rb.ch k y hy
      dsimp only at ea eb
      subst ea eb
      have HN : Hid (x = y → achans.take (k + 1) = bchans.take (k + 1)) := fun e => by
        rw [List.take_add_one, List.take_add_one, hx, hy, ht.out, e]
      have HD : Hid (x ≠ y → S = false) := fun e => by
        rw [R0.out, show decide (achans = bchans) = false from decide_eq_false fun e2 => e (by rw [e2] at hx; rw [hx] at hy; exact Option.some.inj hy)]
        rfl
      clear hx hy ht
      obtain ⟨x0, x1⟩ := x
      obtain ⟨y0, y1⟩ := y
      dsimp only at c1 c2 d1 d2
      by_cases e0 : x0 = y0
      rotate_left
      · have HF : Hid (S = false) := HD.out fun e => e0 (by injection e)
        have q : (x0 == y0) = false := by simpa using e0
        clear HN HD
        go_wp2_with fail
        go_quiet (fail)
        go_wp2_with fail
        go_ret
        exact ⟨by rw [HF.out]; rfl, (HT.out.later (below_dN _ _)).bl⟩
      subst e0
      by_cases e1 : x1 = y1
      rotate_left
      · have HF : Hid (S = false) := HD.out fun e => e1 (by injection e)
        have q : (x1 == y1) = false := by simpa using e1
        clear HN HD
        go_wp2_with fail
        go_quiet (fail)
        go_wp2_with fail
        go_ret
        exact ⟨by rw [HF.out]; rfl, (HT.out.later (below_dN _ _)).bl⟩
      subst e1
      have HX : Hid (achans.take (k + 1) = bchans.take (k + 1)) := HN.out rfl
      clear HN HD
      go_wp2_with fail
      go_quiet (fail)
      go_wp2_with fail
      go_roundw
      case rel => exact ⟨k + 1, by omega, by go_num, HX, HT.out.later (below_dN _ _)⟩
      case measure => simp [intOf]; omega
    · have R1 : Hid (S = (decide (abody = bbody) && fnsEq afuncs bfuncs)) := by
        have h3 := ht.out
        rw [List.take_of_length_le (by omega), List.take_of_length_le (by have := L5.out; omega)] at h3
        show _ = _
        rw [R0.out, decide_eq_true h3]
        rfl
      clear ht R0 p3 q3
      go_wp2_with fail
      clear p4
      go_loopw [83] (fun iv wr => ∃ k : Nat, k ≤ afuncs.length ∧ iv = .int .i64 k ∧ Hid (fnsEq afuncs bfuncs = fnsEq (afuncs.drop k) (bfuncs.drop k)) ∧ Hid (TwR w wr ⟨apA, apc, aplaces, amux, aato, acA, acc, achans, afA, afc, afuncs, astart, abA, abc, abody⟩ ⟨bpA, bpc, bplaces, bmux, bato, bcA, bcc, bchans, bfA, bfc, bfuncs, bstart, bbA, bbc, bbody⟩)) (fun iv _ => afuncs.length - (intOf iv).toNat)
      case atStart => exact ⟨0, Nat.zero_le _, rfl, rfl, HT⟩
      case round =>
        clear HT
        obtain ⟨j, hj, rfl, ht, HT⟩ := hrel
        obtain ⟨p0, p1, p2, p3, p4, p5, p6⟩ := HT.out.xa
        obtain ⟨q0, q1, q2, q3, q4, q5, q6⟩ := HT.out.xb
        dsimp only at p4 q4 p6
        clear p0 p1 p2 p3 p5 q0 q1 q2 q3 q5 q6
        by_cases hjl : j < afuncs.length
        · clear p6
          have hjl2 : j < bfuncs.length := by have := L6.out; omega
          obtain ⟨x, hx⟩ : ∃ x, afuncs[j]? = some x := ⟨_, List.getElem?_eq_getElem hjl⟩
          obtain ⟨y, hy⟩ : ∃ y, bfuncs[j]? = some y := ⟨_, List.getElem?_eq_getElem hjl2⟩
          obtain ⟨rx, nx⟩ := HT.out.ra.lo x (List.mem_of_getElem? hx)
          obtain ⟨ry, ny⟩ := HT.out.rb.lo y (List.mem_of_getElem? hy)
          obtain ⟨b1, o1, ea, c1, c2, c3⟩ := fn_at HT.out.ra.fn j x hx
          obtain ⟨b2, o2, eb, d1, d2, d3⟩ := fn_at HT.out.rb.fn j y hy
          dsimp only at ea eb
          subst ea eb
          have HX : Hid (fnsEq afuncs bfuncs = (fnEq x y && fnsEq (afuncs.drop (j + 1)) (bfuncs.drop (j + 1)))) := by show _ = _; rw [ht.out, fnsEq_step hx hy]
          clear hx hy ht
          obtain ⟨s1, t1, a1, k1, l1⟩ := x
          obtain ⟨s2, t2, a2, k2, l2⟩ := y
          dsimp only at c1 c2 c3 d1 d2 d3 rx ry nx ny
          have HK := Lib.hid (fun (n : Nat) => Calls.quiet_of (n := n) (refIntsQ l1 l2 a1 a2 k1 k2 (wr.drewN n) nx ny (rx.later (below_dN wr n)) (ry.later (below_dN wr n))))
          clear rx ry
          by_cases e0 : s1 = s2
          rotate_left
          · have HF : Hid (S = false) := by show _ = _; rw [R1.out, HX.out, show fnEq ⟨s1, t1, a1, k1, l1⟩ ⟨s2, t2, a2, k2, l2⟩ = false by simp [fnEq, e0]]; simp
            have q : (s1 != s2) = true := by simpa using e0
            clear HX HK
            go_wp2_with fail
            go_quiet (fail)
            go_wp2_with fail
            go_ret
            exact ⟨by rw [HF.out]; rfl, (HT.out.later (below_dN _ _)).bl⟩
          subst e0
          by_cases e1 : t1 = t2
          rotate_left
          · have HF : Hid (S = false) := by show _ = _; rw [R1.out, HX.out, show fnEq ⟨s1, t1, a1, k1, l1⟩ ⟨s1, t2, a2, k2, l2⟩ = false by simp [fnEq, e1]]; simp
            have q : (t1 != t2) = true := by simpa using e1
            clear HX HK
            go_wp2_with fail
            go_quiet (fail)
            go_wp2_with fail
            go_ret
            exact ⟨by rw [HF.out]; rfl, (HT.out.later (below_dN _ _)).bl⟩
          subst e1
          obtain ⟨z, hz⟩ : ∃ z, decide (l1 = l2) = z := ⟨_, rfl⟩
          rw [hz] at HK
          have HZ2 := Lib.hid hz
          clear hz
          cases z
          · have HF : Hid (S = false) := by show _ = _; rw [R1.out, HX.out, show fnEq ⟨s1, t1, a1, k1, l1⟩ ⟨s1, t1, a2, k2, l2⟩ = false by simp [fnEq, HZ2.out]]; simp
            clear HX
            go_wp2_with fail
            go_quiet ((exact HK.out _))
            go_wp2_with fail
            go_ret
            exact ⟨by rw [HF.out]; rfl, (HT.out.later (below_dN _ _)).bl⟩
          · have HY : Hid (fnsEq afuncs bfuncs = fnsEq (afuncs.drop (j + 1)) (bfuncs.drop (j + 1))) := by show _ = _; rw [HX.out, show fnEq ⟨s1, t1, a1, k1, l1⟩ ⟨s1, t1, a2, k2, l2⟩ = true by simp [fnEq, HZ2.out]]; rfl
            clear HX
            go_wp2_with fail
            go_quiet ((exact HK.out _))
            go_wp2_with fail
            go_roundw
            case rel => exact ⟨j + 1, by omega, by go_num, HY, HT.out.later (below_dN _ _)⟩
            case measure => simp [intOf]; omega
        · have R2 : Hid (S = decide (abody = bbody)) := by
            show _ = _
            rw [R1.out, ht.out, List.drop_eq_nil_of_le (by omega), List.drop_eq_nil_of_le (by have := L6.out; omega)]
            simp [fnsEq]
          clear ht R1 p4 q4
          go_wp2_with fail
          clear p6
          go_loopw [134] (fun iv wr => ∃ k : Nat, k ≤ abody.length ∧ iv = .int .i64 k ∧ Hid (abody.take k = bbody.take k) ∧ Hid (TwR w wr ⟨apA, apc, aplaces, amux, aato, acA, acc, achans, afA, afc, afuncs, astart, abA, abc, abody⟩ ⟨bpA, bpc, bplaces, bmux, bato, bcA, bcc, bchans, bfA, bfc, bfuncs, bstart, bbA, bbc, bbody⟩)) (fun iv _ => abody.length - (intOf iv).toNat)
          case atStart => exact ⟨0, Nat.zero_le _, rfl, rfl, HT⟩
          case round =>
            clear HT
            obtain ⟨i, hi, rfl, ht, HT⟩ := hrel
            obtain ⟨p0, p1, p2, p3, p4, p5, p6⟩ := HT.out.xa
            obtain ⟨q0, q1, q2, q3, q4, q5, q6⟩ := HT.out.xb
            dsimp only at p6 q6
            clear p0 p1 p2 p3 p4 p5 q0 q1 q2 q3 q4 q5
            by_cases hil : i < abody.length
            · have hil2 : i < bbody.length := by have := L7.out; omega
              obtain ⟨x, hx⟩ : ∃ x, abody[i]? = some x := ⟨_, List.getElem?_eq_getElem hil⟩
              obtain ⟨y, hy⟩ : ∃ y, bbody[i]? = some y := ⟨_, List.getElem?_eq_getElem hil2⟩
              obtain ⟨b1, o1, ea, c1, c2, c3, c4, c5⟩ := ins_at HT.out.ra.bo i x hx
              obtain ⟨b2, o2, eb, d1, d2, d3, d4, d5⟩ := ins_at HT.out.rb.bo i y hy
              dsimp only at ea eb
              subst ea eb
              have HN : Hid (x = y → abody.take (i + 1) = bbody.take (i + 1)) := fun e => by
                rw [List.take_add_one, List.take_add_one, hx, hy, ht.out, e]
              have HD : Hid (x ≠ y → S = false) := fun e => by
                rw [R2.out]
                exact decide_eq_false fun e2 => e (by rw [e2] at hx; rw [hx] at hy; exact Option.some.inj hy)
              clear hx hy ht
              obtain ⟨x0, x1, x2, x3, x4⟩ := x
              obtain ⟨y0, y1, y2, y3, y4⟩ := y
              dsimp only at c1 c2 c3 c4 c5 d1 d2 d3 d4 d5
              by_cases e0 : x0 = y0
              rotate_left
              · have HF : Hid (S = false) := HD.out fun e => e0 (by injection e)
                have q : (x0 == y0) = false := by simpa using e0
                clear HN HD
                go_wp2_with fail
                go_quiet (fail)
                go_wp2_with fail
                go_ret
                exact ⟨by rw [HF.out]; rfl, (HT.out.later (below_dN _ _)).bl⟩
              subst e0
              by_cases e1 : x1 = y1
              rotate_left
              · have HF : Hid (S = false) := HD.out fun e => e1 (by injection e)
                have q : (x1 == y1) = false := by simpa using e1
                clear HN HD
                go_wp2_with fail
                go_quiet (fail)
                go_wp2_with fail
                go_ret
                exact ⟨by rw [HF.out]; rfl, (HT.out.later (below_dN _ _)).bl⟩
              subst e1
              by_cases e2 : x2 = y2
              rotate_left
              · have HF : Hid (S = false) := HD.out fun e => e2 (by injection e)
                have q : (x2 == y2) = false := by simpa using e2
                clear HN HD
                go_wp2_with fail
                go_quiet (fail)
                go_wp2_with fail
                go_ret
                exact ⟨by rw [HF.out]; rfl, (HT.out.later (below_dN _ _)).bl⟩
              subst e2
              by_cases e3 : x3 = y3
              rotate_left
              · have HF : Hid (S = false) := HD.out fun e => e3 (by injection e)
                have q : (x3 == y3) = false := by simpa using e3
                clear HN HD
                go_wp2_with fail
                go_quiet (fail)
                go_wp2_with fail
                go_ret
                exact ⟨by rw [HF.out]; rfl, (HT.out.later (below_dN _ _)).bl⟩
              subst e3
              by_cases e4 : x4 = y4
              rotate_left
              · have HF : Hid (S = false) := HD.out fun e => e4 (by injection e)
                have q : (x4 == y4) = false := by simpa using e4
                clear HN HD
                go_wp2_with fail
                go_quiet (fail)
                go_wp2_with fail
                go_ret
                exact ⟨by rw [HF.out]; rfl, (HT.out.later (below_dN _ _)).bl⟩
              subst e4
              have HX : Hid (abody.take (i + 1) = bbody.take (i + 1)) := HN.out rfl
              clear HN HD
              go_wp2_with fail
              go_quiet (fail)
              go_wp2_with fail
              go_roundw
              case rel => exact ⟨i + 1, by omega, by go_num, HX, HT.out.later (below_dN _ _)⟩
              case measure => simp [intOf]; omega
            · have HF : Hid (S = true) := by
                have h3 := ht.out
                rw [List.take_of_length_le (by omega), List.take_of_length_le (by have := L7.out; omega)] at h3
                show _ = _
                rw [R2.out]
                exact decide_eq_true h3
              go_wp2_with fail
              go_ret
              exact ⟨by rw [HF.out]; rfl, HT.out.bl⟩
end Go.Proofs.YtbpbimkadiobfaaDoor
