/-
  Codes compared.
-/
import Derived.Test.YtbpbimkadiobfaaDoorCode13
import Derived.Test.YtbpbimkadiobfaaDoorCode8
namespace Go.Proofs.YtbpbimkadiobfaaDoor
open Go.RowKit Go.Stk

def fnEq (f g : Fn) : Bool := decide (f.st = g.st) && (decide (f.pa = g.pa) && decide (f.locals = g.locals))
def fnsEq : List Fn → List Fn → Bool
  | [], [] => true
  | f :: r, g :: s => fnEq f g && fnsEq r s
  | _, _ => false
theorem fnsEq_len : ∀ (l m : List Fn), l.length ≠ m.length → fnsEq l m = false
  | [], [], h => absurd rfl h
  | [], _ :: _, _ => rfl
  | _ :: _, [], _ => rfl
  | f :: r, g :: s, h => by
    rw [fnsEq, fnsEq_len r s (by simpa using h), Bool.and_false]
theorem fnsEq_refl : ∀ (l : List Fn), fnsEq l l = true
  | [] => rfl
  | f :: r => by rw [fnsEq, fnsEq_refl r]; simp [fnEq]
theorem fnsEq_step {l m : List Fn} {k : Nat} {f g : Fn} (hf : l[k]? = some f) (hg : m[k]? = some g) : fnsEq (l.drop k) (m.drop k) = (fnEq f g && fnsEq (l.drop (k + 1)) (m.drop (k + 1))) := by
  obtain ⟨h1, h2⟩ := List.getElem?_eq_some_iff.1 hf
  obtain ⟨h3, h4⟩ := List.getElem?_eq_some_iff.1 hg
  rw [List.drop_eq_getElem_cons h1, List.drop_eq_getElem_cons h3, h2, h4, fnsEq]
/-- Are codes the same? -/
def sameB (a b : Co) : Bool :=
  decide (a.places = b.places) && (decide (a.mux = b.mux) && (decide (a.ato = b.ato) && (decide (a.chans = b.chans) && (decide (a.start = b.start) && (decide (a.body = b.body) && fnsEq a.funcs b.funcs)))))
def Fn.agg (f : Fn) : Value := .agg #[.int .i64 f.st, .int .i64 f.pa, .slice f.lA f.locals.length f.lc]
def Fn.Rep (w : World) (f : Fn) : Prop := Rs w f.lA (ints f.locals) ∧ f.locals.length ≤ 140737488351232
theorem Fn.Rep.later {w w' : World} {f : Fn} (h : f.Rep w) (hb : Below w.heap.size w w') : f.Rep w' := ⟨h.1.later hb, h.2⟩
set_option maxRecDepth 100000 in
set_option maxHeartbeats 4000000 in
theorem sameFn_any (f g : Fn) (w : World) (hf : f.Rep w) (hg : g.Rep w) : Calls Tryd.prog 38 #[f.agg, g.agg] w (Ret w (.bool (fnEq f g))) := by
  obtain ⟨S, hS⟩ : ∃ S, fnEq f g = S := ⟨_, rfl⟩
  rw [hS]
  unfold fnEq at hS
  obtain ⟨s1, p1, a1, c1, l1⟩ := f
  obtain ⟨s2, p2, a2, c2, l2⟩ := g
  unfold Fn.agg
  obtain ⟨r1, n1⟩ := hf
  obtain ⟨r2, n2⟩ := hg
  dsimp only at hS r1 n1 r2 n2 ⊢
  have HB := Lib.hid (below_alloc (below_alloc (Below.refl w.heap.size w) (.cells #[.int .i64 s1, .int .i64 p1, .slice a1 l1.length c1] 26)) (.cells #[.int .i64 s2, .int .i64 p2, .slice a2 l2.length c2] 26))
  have HE := Lib.hid (equalInt_any l1 l2 a1 a2 c1 c2 _ n1 n2 (r1.later HB.out) (r2.later HB.out))
  have HS := Lib.hid hS
  clear hS r1 r2
  by_cases e1 : s1 = s2
  rotate_left
  · have q : (s1 == s2) = false := by simpa using e1
    have F : Hid (S = false) := by show _ = _; rw [← HS.out]; simp [e1]
    go_enter Tryd.func38, Tryd.ntmps38
    go_wp2_with fail
    go_ret
    exact ⟨by rw [F.out]; rfl, HB.out⟩
  subst e1
  by_cases e2 : p1 = p2
  rotate_left
  · have q : (p1 == p2) = false := by simpa using e2
    have F : Hid (S = false) := by show _ = _; rw [← HS.out]; simp [e2]
    go_enter Tryd.func38, Tryd.ntmps38
    go_wp2_with fail
    go_ret
    exact ⟨by rw [F.out]; rfl, HB.out⟩
  subst e2
  have F : Hid (decide (l1 = l2) = S) := by show _ = _; rw [← HS.out]; simp
  rw [F.out] at HE
  go_enter Tryd.func38, Tryd.ntmps38
  go_wp2_with fail
  refine HE.out.mono ?_
  rintro e w1 ⟨rfl, hb1⟩
  have HB1 := Lib.hid (below_next HB.out hb1)
  clear hb1
  go_wp2_with fail
  go_ret
  exact ⟨rfl, HB1.out⟩
structure FnR (w wr : World) (l m : List Fn) (A B : Option Addr) : Prop where
  bl : Below w.heap.size w wr
  ra : Rs wr A (fcells l)
  rb : Rs wr B (fcells m)
  la : ∀ f ∈ l, f.Rep wr
  lb : ∀ f ∈ m, f.Rep wr
theorem FnR.later {w wr w' : World} {l m : List Fn} {A B : Option Addr} (h : FnR w wr l m A B) (hb : Below wr.heap.size wr w') : FnR w w' l m A B :=
  ⟨below_next h.bl hb, h.ra.later hb, h.rb.later hb, fun f hf => (h.la f hf).later hb, fun f hf => (h.lb f hf).later hb⟩
set_option maxRecDepth 100000 in
set_option maxHeartbeats 4000000 in
theorem equalFns_any (l m : List Fn) (A B : Option Addr) (ca cb : Nat) (w : World) (hl : l.length ≤ 140737488351232) (hm : m.length ≤ 140737488351232) (h : FnR w w l m A B) :
    Calls Tryd.prog 37 #[.slice A l.length ca, .slice B m.length cb, .func (.func 38) #[] #[]] w (Ret w (.bool (fnsEq l m))) := by
  have hm2 := hm
  by_cases hlen : l.length = m.length
  · have hl2 : ((l.length : Int) != (m.length : Int)) = false := by simp [hlen]
    have HL := Lib.hid hlen
    have H := Lib.hid h
    obtain ⟨S, hS⟩ : ∃ S, fnsEq l m = S := ⟨_, rfl⟩
    rw [hS]
    have HS := Lib.hid hS
    clear hlen h hS
    go_enter Tryd.func37, Tryd.ntmps37
    go_wp2_with fail
    go_loopw [17] (fun i wr => ∃ k : Nat, k ≤ l.length ∧ i = .int .i64 k ∧ Hid (FnR w wr l m A B) ∧ Hid (S = fnsEq (l.drop k) (m.drop k))) (fun i _ => l.length - (intOf i).toNat)
    case atStart => exact ⟨0, Nat.zero_le _, rfl, H, by show _ = _; rw [← HS.out]; rfl⟩
    case round =>
      clear H
      obtain ⟨k, hk, rfl, hP, ht⟩ := hrel
      by_cases hlt : k < l.length
      · have hlt2 : k < m.length := by have := HL.out; omega
        obtain ⟨x, hx⟩ : ∃ x, l[k]? = some x := ⟨_, List.getElem?_eq_getElem hlt⟩
        obtain ⟨y, hy⟩ : ∃ y, m[k]? = some y := ⟨_, List.getElem?_eq_getElem hlt2⟩
        have HT : Hid (S = (fnEq x y && fnsEq (l.drop (k + 1)) (m.drop (k + 1)))) := by show _ = _; rw [ht.out, fnsEq_step hx hy]
        have RX := hP.out.la x (List.mem_of_getElem? hx)
        have RY := hP.out.lb y (List.mem_of_getElem? hy)
        obtain ⟨b1, o1, rfl, c1, c2, c3⟩ := fn_at hP.out.ra k x hx
        obtain ⟨b2, o2, rfl, d1, d2, d3⟩ := fn_at hP.out.rb k y hy
        clear hx hy ht
        have e1 := cell_later (below_alloc (Below.refl wr.heap.size wr) (.cells #[.int .i64 x.st, .int .i64 x.pa, .slice x.lA x.locals.length x.lc] 26)) d1
        have e2 := cell_later (below_alloc (Below.refl wr.heap.size wr) (.cells #[.int .i64 x.st, .int .i64 x.pa, .slice x.lA x.locals.length x.lc] 26)) d2
        have e3 := cell_later (below_alloc (Below.refl wr.heap.size wr) (.cells #[.int .i64 x.st, .int .i64 x.pa, .slice x.lA x.locals.length x.lc] 26)) d3
        have HB := Lib.hid (below_alloc (below_alloc (Below.refl wr.heap.size wr) (.cells #[.int .i64 x.st, .int .i64 x.pa, .slice x.lA x.locals.length x.lc] 26)) (.cells #[.int .i64 y.st, .int .i64 y.pa, .slice y.lA y.locals.length y.lc] 26))
        have HK := Lib.hid (sameFn_any x y _ (RX.later HB.out) (RY.later HB.out))
        have HP2 := Lib.hid (hP.out.later HB.out)
        clear RX RY hP d1 d2 d3
        go_wp2_with fail
        refine HK.out.mono ?_
        rintro e w1 ⟨rfl, hb1⟩
        have HP3 := Lib.hid (HP2.out.later hb1)
        clear hb1 HP2
        obtain ⟨z, hz⟩ : ∃ z, fnEq x y = z := ⟨_, rfl⟩
        rw [hz] at HT ⊢
        clear hz e1 e2 e3 c1 c2 c3
        cases z
        · go_wp2_with fail
          go_ret
          exact ⟨by rw [HT.out]; rfl, HP3.out.bl⟩
        · go_wp2_with fail
          go_roundw
          case rel => exact ⟨k + 1, by omega, by go_num, HP3, by show _ = _; rw [HT.out]; rfl⟩
          case measure => simp [intOf]; omega
      · have HF : Hid (S = true) := by
          show _ = _
          rw [ht.out, List.drop_eq_nil_of_le (by omega), List.drop_eq_nil_of_le (by have := HL.out; omega)]
          rfl
        clear ht
        go_wp2_with fail
        go_ret
        exact ⟨by rw [HF.out]; rfl, hP.out.bl⟩
  · have hl2 : ((l.length : Int) != (m.length : Int)) = true := by simp; omega
    have E : Hid (fnsEq l m = false) := fnsEq_len l m hlen
    clear hlen h
    go_enter Tryd.func37, Tryd.ntmps37
    go_wp2_with fail
    go_ret
    exact ⟨by rw [E.out]; rfl, Below.refl _ _⟩
set_option maxRecDepth 100000 in
set_option maxHeartbeats 8000000 in
theorem same_any (a b : Co) (w : World) (ha : a.Rep w) (hb : b.Rep w) : Calls Tryd.prog 17 #[a.agg, b.agg] w (Ret w (.bool (sameB a b))) := by
  obtain ⟨S, hS⟩ : ∃ S, sameB a b = S := ⟨_, rfl⟩
  rw [hS]
  unfold sameB at hS
  have HB := Lib.hid (below_alloc (below_alloc (Below.refl w.heap.size w) (.cells #[.slice a.pA a.places.length a.pc, .int .i64 a.mux, .int .i64 a.ato, .slice a.cA a.chans.length a.cc, .slice a.fA a.funcs.length a.fc, .int .i64 a.start, .slice a.bA a.body.length a.bc] 31)) (.cells #[.slice b.pA b.places.length b.pc, .int .i64 b.mux, .int .i64 b.ato, .slice b.cA b.chans.length b.cc, .slice b.fA b.funcs.length b.fc, .int .i64 b.start, .slice b.bA b.body.length b.bc] 31))
  have HRA := Lib.hid (ha.later HB.out)
  have HRB := Lib.hid (hb.later HB.out)
  have HXA := Lib.hid ((Co.box_new w a 31).later (below_alloc (Below.refl _ _) (.cells #[.slice b.pA b.places.length b.pc, .int .i64 b.mux, .int .i64 b.ato, .slice b.cA b.chans.length b.cc, .slice b.fA b.funcs.length b.fc, .int .i64 b.start, .slice b.bA b.body.length b.bc] 31)))
  have HXB : Hid (Co.Box ((w.alloc (.cells #[.slice a.pA a.places.length a.pc, .int .i64 a.mux, .int .i64 a.ato, .slice a.cA a.chans.length a.cc, .slice a.fA a.funcs.length a.fc, .int .i64 a.start, .slice a.bA a.body.length a.bc] 31)).alloc (.cells #[.slice b.pA b.places.length b.pc, .int .i64 b.mux, .int .i64 b.ato, .slice b.cA b.chans.length b.cc, .slice b.fA b.funcs.length b.fc, .int .i64 b.start, .slice b.bA b.body.length b.bc] 31)) (w.heap.size + 1) b) := by
    have := Co.box_new (w.alloc (.cells #[.slice a.pA a.places.length a.pc, .int .i64 a.mux, .int .i64 a.ato, .slice a.cA a.chans.length a.cc, .slice a.fA a.funcs.length a.fc, .int .i64 a.start, .slice a.bA a.body.length a.bc] 31)) b 31
    rw [show (w.alloc (.cells #[.slice a.pA a.places.length a.pc, .int .i64 a.mux, .int .i64 a.ato, .slice a.cA a.chans.length a.cc, .slice a.fA a.funcs.length a.fc, .int .i64 a.start, .slice a.bA a.body.length a.bc] 31)).heap.size = w.heap.size + 1 by simp] at this
    exact this
  have A1 := ha.lp
  have A2 := ha.lc
  have A3 := ha.lf
  have A4 := ha.lb
  have B1 := hb.lp
  have B2 := hb.lc
  have B3 := hb.lf
  have B4 := hb.lb
  clear ha hb
  unfold Co.agg
  have HS := Lib.hid hS
  clear hS
  have HW := HB
  obtain ⟨z0, hz0⟩ : ∃ z, decide (a.places = b.places) = z := ⟨_, rfl⟩
  have HZ0 := Lib.hid hz0
  clear hz0
  cases z0
  · have F : Hid (S = false) := by show _ = _; rw [← HS.out, HZ0.out]; simp
    go_enter Tryd.func17, Tryd.ntmps17
    go_wp2_with fail
    refine (equalInt_any a.places b.places a.pA b.pA a.pc b.pc _ A1 B1 HRA.out.pl HRB.out.pl).mono ?_
    rintro e w1 ⟨rfl, hb1⟩
    rw [HZ0.out]
    replace HW := Lib.hid (below_next HW.out hb1)
    obtain ⟨p0, p1, p2, p3, p4, p5, p6⟩ := (HXA.out.later hb1)
    replace HXA := Lib.hid (HXA.out.later hb1)
    obtain ⟨q0, q1, q2, q3, q4, q5, q6⟩ := (HXB.out.later hb1)
    replace HXB := Lib.hid (HXB.out.later hb1)
    replace HRA := Lib.hid (HRA.out.later hb1)
    replace HRB := Lib.hid (HRB.out.later hb1)
    clear hb1
    go_wp2_with fail
    go_ret
    exact ⟨by rw [F.out]; rfl, HW.out⟩
  by_cases e1 : a.mux = b.mux
  rotate_left
  · have q : (a.mux == b.mux) = false := by simpa using e1
    have F : Hid (S = false) := by show _ = _; rw [← HS.out]; simp [e1]
    clear e1
    go_enter Tryd.func17, Tryd.ntmps17
    go_wp2_with fail
    refine (equalInt_any a.places b.places a.pA b.pA a.pc b.pc _ A1 B1 HRA.out.pl HRB.out.pl).mono ?_
    rintro e w1 ⟨rfl, hb1⟩
    rw [HZ0.out]
    replace HW := Lib.hid (below_next HW.out hb1)
    obtain ⟨p0, p1, p2, p3, p4, p5, p6⟩ := (HXA.out.later hb1)
    replace HXA := Lib.hid (HXA.out.later hb1)
    obtain ⟨q0, q1, q2, q3, q4, q5, q6⟩ := (HXB.out.later hb1)
    replace HXB := Lib.hid (HXB.out.later hb1)
    replace HRA := Lib.hid (HRA.out.later hb1)
    replace HRB := Lib.hid (HRB.out.later hb1)
    clear hb1
    go_wp2_with fail
    go_ret
    exact ⟨by rw [F.out]; rfl, HW.out⟩
  have g1 : (a.mux == b.mux) = true := by simpa using e1
  have E1 := Lib.hid e1
  clear e1
  by_cases e2 : a.ato = b.ato
  rotate_left
  · have q : (a.ato == b.ato) = false := by simpa using e2
    have F : Hid (S = false) := by show _ = _; rw [← HS.out]; simp [e2]
    clear e2
    go_enter Tryd.func17, Tryd.ntmps17
    go_wp2_with fail
    refine (equalInt_any a.places b.places a.pA b.pA a.pc b.pc _ A1 B1 HRA.out.pl HRB.out.pl).mono ?_
    rintro e w1 ⟨rfl, hb1⟩
    rw [HZ0.out]
    replace HW := Lib.hid (below_next HW.out hb1)
    obtain ⟨p0, p1, p2, p3, p4, p5, p6⟩ := (HXA.out.later hb1)
    replace HXA := Lib.hid (HXA.out.later hb1)
    obtain ⟨q0, q1, q2, q3, q4, q5, q6⟩ := (HXB.out.later hb1)
    replace HXB := Lib.hid (HXB.out.later hb1)
    replace HRA := Lib.hid (HRA.out.later hb1)
    replace HRB := Lib.hid (HRB.out.later hb1)
    clear hb1
    go_wp2_with fail
    go_ret
    exact ⟨by rw [F.out]; rfl, HW.out⟩
  have g2 : (a.ato == b.ato) = true := by simpa using e2
  have E2 := Lib.hid e2
  clear e2
  obtain ⟨z3, hz3⟩ : ∃ z, decide (a.chans = b.chans) = z := ⟨_, rfl⟩
  have HZ3 := Lib.hid hz3
  clear hz3
  cases z3
  · have F : Hid (S = false) := by show _ = _; rw [← HS.out, HZ3.out]; simp
    go_enter Tryd.func17, Tryd.ntmps17
    go_wp2_with fail
    refine (equalInt_any a.places b.places a.pA b.pA a.pc b.pc _ A1 B1 HRA.out.pl HRB.out.pl).mono ?_
    rintro e w1 ⟨rfl, hb1⟩
    rw [HZ0.out]
    replace HW := Lib.hid (below_next HW.out hb1)
    obtain ⟨p0, p1, p2, p3, p4, p5, p6⟩ := (HXA.out.later hb1)
    replace HXA := Lib.hid (HXA.out.later hb1)
    obtain ⟨q0, q1, q2, q3, q4, q5, q6⟩ := (HXB.out.later hb1)
    replace HXB := Lib.hid (HXB.out.later hb1)
    replace HRA := Lib.hid (HRA.out.later hb1)
    replace HRB := Lib.hid (HRB.out.later hb1)
    clear hb1
    go_wp2_with fail
    refine (equalCh_any a.chans b.chans a.cA b.cA a.cc b.cc _ A2 B2 HRA.out.ch HRB.out.ch).mono ?_
    rintro e w1 ⟨rfl, hb1⟩
    rw [HZ3.out]
    replace HW := Lib.hid (below_next HW.out hb1)
    obtain ⟨p0, p1, p2, p3, p4, p5, p6⟩ := (HXA.out.later hb1)
    replace HXA := Lib.hid (HXA.out.later hb1)
    obtain ⟨q0, q1, q2, q3, q4, q5, q6⟩ := (HXB.out.later hb1)
    replace HXB := Lib.hid (HXB.out.later hb1)
    replace HRA := Lib.hid (HRA.out.later hb1)
    replace HRB := Lib.hid (HRB.out.later hb1)
    clear hb1
    go_wp2_with fail
    go_ret
    exact ⟨by rw [F.out]; rfl, HW.out⟩
  by_cases e4 : a.start = b.start
  rotate_left
  · have q : (a.start == b.start) = false := by simpa using e4
    have F : Hid (S = false) := by show _ = _; rw [← HS.out]; simp [e4]
    clear e4
    go_enter Tryd.func17, Tryd.ntmps17
    go_wp2_with fail
    refine (equalInt_any a.places b.places a.pA b.pA a.pc b.pc _ A1 B1 HRA.out.pl HRB.out.pl).mono ?_
    rintro e w1 ⟨rfl, hb1⟩
    rw [HZ0.out]
    replace HW := Lib.hid (below_next HW.out hb1)
    obtain ⟨p0, p1, p2, p3, p4, p5, p6⟩ := (HXA.out.later hb1)
    replace HXA := Lib.hid (HXA.out.later hb1)
    obtain ⟨q0, q1, q2, q3, q4, q5, q6⟩ := (HXB.out.later hb1)
    replace HXB := Lib.hid (HXB.out.later hb1)
    replace HRA := Lib.hid (HRA.out.later hb1)
    replace HRB := Lib.hid (HRB.out.later hb1)
    clear hb1
    go_wp2_with fail
    refine (equalCh_any a.chans b.chans a.cA b.cA a.cc b.cc _ A2 B2 HRA.out.ch HRB.out.ch).mono ?_
    rintro e w1 ⟨rfl, hb1⟩
    rw [HZ3.out]
    replace HW := Lib.hid (below_next HW.out hb1)
    obtain ⟨p0, p1, p2, p3, p4, p5, p6⟩ := (HXA.out.later hb1)
    replace HXA := Lib.hid (HXA.out.later hb1)
    obtain ⟨q0, q1, q2, q3, q4, q5, q6⟩ := (HXB.out.later hb1)
    replace HXB := Lib.hid (HXB.out.later hb1)
    replace HRA := Lib.hid (HRA.out.later hb1)
    replace HRB := Lib.hid (HRB.out.later hb1)
    clear hb1
    go_wp2_with fail
    go_ret
    exact ⟨by rw [F.out]; rfl, HW.out⟩
  have g4 : (a.start == b.start) = true := by simpa using e4
  have E4 := Lib.hid e4
  clear e4
  obtain ⟨z5, hz5⟩ : ∃ z, decide (a.body = b.body) = z := ⟨_, rfl⟩
  have HZ5 := Lib.hid hz5
  clear hz5
  cases z5
  · have F : Hid (S = false) := by show _ = _; rw [← HS.out, HZ5.out]; simp
    go_enter Tryd.func17, Tryd.ntmps17
    go_wp2_with fail
    refine (equalInt_any a.places b.places a.pA b.pA a.pc b.pc _ A1 B1 HRA.out.pl HRB.out.pl).mono ?_
    rintro e w1 ⟨rfl, hb1⟩
    rw [HZ0.out]
    replace HW := Lib.hid (below_next HW.out hb1)
    obtain ⟨p0, p1, p2, p3, p4, p5, p6⟩ := (HXA.out.later hb1)
    replace HXA := Lib.hid (HXA.out.later hb1)
    obtain ⟨q0, q1, q2, q3, q4, q5, q6⟩ := (HXB.out.later hb1)
    replace HXB := Lib.hid (HXB.out.later hb1)
    replace HRA := Lib.hid (HRA.out.later hb1)
    replace HRB := Lib.hid (HRB.out.later hb1)
    clear hb1
    go_wp2_with fail
    refine (equalCh_any a.chans b.chans a.cA b.cA a.cc b.cc _ A2 B2 HRA.out.ch HRB.out.ch).mono ?_
    rintro e w1 ⟨rfl, hb1⟩
    rw [HZ3.out]
    replace HW := Lib.hid (below_next HW.out hb1)
    obtain ⟨p0, p1, p2, p3, p4, p5, p6⟩ := (HXA.out.later hb1)
    replace HXA := Lib.hid (HXA.out.later hb1)
    obtain ⟨q0, q1, q2, q3, q4, q5, q6⟩ := (HXB.out.later hb1)
    replace HXB := Lib.hid (HXB.out.later hb1)
    replace HRA := Lib.hid (HRA.out.later hb1)
    replace HRB := Lib.hid (HRB.out.later hb1)
    clear hb1
    go_wp2_with fail
    refine (equalIns_any a.body b.body a.bA b.bA a.bc b.bc _ A4 B4 HRA.out.bo HRB.out.bo).mono ?_
    rintro e w1 ⟨rfl, hb1⟩
    rw [HZ5.out]
    replace HW := Lib.hid (below_next HW.out hb1)
    obtain ⟨p0, p1, p2, p3, p4, p5, p6⟩ := (HXA.out.later hb1)
    replace HXA := Lib.hid (HXA.out.later hb1)
    obtain ⟨q0, q1, q2, q3, q4, q5, q6⟩ := (HXB.out.later hb1)
    replace HXB := Lib.hid (HXB.out.later hb1)
    replace HRA := Lib.hid (HRA.out.later hb1)
    replace HRB := Lib.hid (HRB.out.later hb1)
    clear hb1
    go_wp2_with fail
    go_ret
    exact ⟨by rw [F.out]; rfl, HW.out⟩
  have F : Hid (fnsEq a.funcs b.funcs = S) := by show _ = _; rw [← HS.out, HZ0.out, HZ3.out, HZ5.out, E1.out, E2.out, E4.out]; simp
  go_enter Tryd.func17, Tryd.ntmps17
  go_wp2_with fail
  refine (equalInt_any a.places b.places a.pA b.pA a.pc b.pc _ A1 B1 HRA.out.pl HRB.out.pl).mono ?_
  rintro e w1 ⟨rfl, hb1⟩
  rw [HZ0.out]
  replace HW := Lib.hid (below_next HW.out hb1)
  obtain ⟨p0, p1, p2, p3, p4, p5, p6⟩ := (HXA.out.later hb1)
  replace HXA := Lib.hid (HXA.out.later hb1)
  obtain ⟨q0, q1, q2, q3, q4, q5, q6⟩ := (HXB.out.later hb1)
  replace HXB := Lib.hid (HXB.out.later hb1)
  replace HRA := Lib.hid (HRA.out.later hb1)
  replace HRB := Lib.hid (HRB.out.later hb1)
  clear hb1
  go_wp2_with fail
  refine (equalCh_any a.chans b.chans a.cA b.cA a.cc b.cc _ A2 B2 HRA.out.ch HRB.out.ch).mono ?_
  rintro e w1 ⟨rfl, hb1⟩
  rw [HZ3.out]
  replace HW := Lib.hid (below_next HW.out hb1)
  obtain ⟨p0, p1, p2, p3, p4, p5, p6⟩ := (HXA.out.later hb1)
  replace HXA := Lib.hid (HXA.out.later hb1)
  obtain ⟨q0, q1, q2, q3, q4, q5, q6⟩ := (HXB.out.later hb1)
  replace HXB := Lib.hid (HXB.out.later hb1)
  replace HRA := Lib.hid (HRA.out.later hb1)
  replace HRB := Lib.hid (HRB.out.later hb1)
  clear hb1
  go_wp2_with fail
  refine (equalIns_any a.body b.body a.bA b.bA a.bc b.bc _ A4 B4 HRA.out.bo HRB.out.bo).mono ?_
  rintro e w1 ⟨rfl, hb1⟩
  rw [HZ5.out]
  replace HW := Lib.hid (below_next HW.out hb1)
  obtain ⟨p0, p1, p2, p3, p4, p5, p6⟩ := (HXA.out.later hb1)
  replace HXA := Lib.hid (HXA.out.later hb1)
  obtain ⟨q0, q1, q2, q3, q4, q5, q6⟩ := (HXB.out.later hb1)
  replace HXB := Lib.hid (HXB.out.later hb1)
  replace HRA := Lib.hid (HRA.out.later hb1)
  replace HRB := Lib.hid (HRB.out.later hb1)
  clear hb1
  go_wp2_with fail
  refine (equalFns_any a.funcs b.funcs a.fA b.fA a.fc b.fc _ A3 B3 ⟨Below.refl _ _, HRA.out.fn, HRB.out.fn, HRA.out.lo, HRB.out.lo⟩).mono ?_
  rintro e w1 ⟨rfl, hb1⟩
  rw [F.out]
  replace HW := Lib.hid (below_next HW.out hb1)
  obtain ⟨p0, p1, p2, p3, p4, p5, p6⟩ := (HXA.out.later hb1)
  replace HXA := Lib.hid (HXA.out.later hb1)
  obtain ⟨q0, q1, q2, q3, q4, q5, q6⟩ := (HXB.out.later hb1)
  replace HXB := Lib.hid (HXB.out.later hb1)
  replace HRA := Lib.hid (HRA.out.later hb1)
  replace HRB := Lib.hid (HRB.out.later hb1)
  clear hb1
  go_wp2_with fail
  go_ret
  exact ⟨rfl, HW.out⟩
end Go.Proofs.YtbpbimkadiobfaaDoor
