/-
  A code's shape asked.
-/
import Derived.Test.YtbpbimkadiobfaaDoorCode5
namespace Go.Proofs.YtbpbimkadiobfaaDoor
open Go.RowKit Go.Stk

theorem min_four (n : Int) : ∀ (ats : Array TypeId) (ty : TypeId), Builtin.min_ ats ty #[.int .i64 4, .int .i64 n] = pure (.int .i64 (min 4 n)) := fun ats ty => by
  simp only [Builtin.min_, List.foldlM_cons, List.foldlM_nil, Builtin.min2]
  by_cases h : n < 4
  · simp [h, show min 4 n = n by omega]
  · simp [h, show min 4 n = 4 by omega]
/-- A channel, asked. -/
theorem chB_iff (x : Int × Int) : chB x = true ↔ tyB x.1 = true ∧ wB x.2 0 8 = true := by simp [chB]
/-- How far the functions are in form. -/
theorem all_bad {α : Type} {p : α → Bool} {l : List α} {k : Nat} {x : α} (hk : l[k]? = some x) (hp : p x = false) : l.all p = false := by
  rw [List.all_eq_false]
  exact ⟨x, List.mem_of_getElem? hk, by simp [hp]⟩
theorem all_next {α : Type} {p : α → Bool} {l : List α} {k : Nat} {x : α} (hk : l[k]? = some x) (h : (l.take k).all p = true) (hp : p x = true) : (l.take (k + 1)).all p = true := by
  rw [List.take_add_one, hk]
  simp only [List.all_append, h, Bool.true_and]
  simp [hp]
theorem blk3f {w : World} {b : Nat} {x y z : Value} {T : TypeId} (h : w.heap[b]? = some (.cells #[x, y, z] T (0, 0))) : w.cell? ⟨b, 0, none⟩ = some x := by rw [blk_cell h]; rfl
structure ShR (w wr : World) (c : Co) : Prop where
  bl : Below w.heap.size w wr
  rep : c.Rep wr
  box : Co.Box wr w.heap.size c
theorem ShR.later {w wr w' : World} {c : Co} (h : ShR w wr c) (hb : Below wr.heap.size wr w') : ShR w w' c := ⟨below_next h.bl hb, h.rep.later hb, h.box.later hb⟩
theorem shR_start (c : Co) (w : World) (h : c.Rep w) : ShR w (w.alloc (.cells #[.slice c.pA c.places.length c.pc, .int .i64 c.mux, .int .i64 c.ato, .slice c.cA c.chans.length c.cc, .slice c.fA c.funcs.length c.fc, .int .i64 c.start, .slice c.bA c.body.length c.bc] 31)) c :=
  ⟨below_alloc (Below.refl _ _) _, h.later (below_alloc (Below.refl _ _) _), Co.box_new w c _⟩
theorem fnsB_step {last : Int} {k n : Nat} {f : Fn} {r : List Fn} : fnsB last k n (f :: r) = (fnB last k n f && fnsB f.st (k + 1) n r) := rfl
set_option maxRecDepth 100000 in
set_option maxHeartbeats 4000000 in
theorem shape_any (c : Co) (w : World) (h : c.Rep w) : Calls Tryd.prog 27 #[c.agg] w (Ret w (.bool (shapeB c))) := by
  have hlp := h.lp
  have hlc := h.lc
  have hlf := h.lf
  have hlb := h.lb
  obtain ⟨S, hS⟩ : ∃ S, shapeB c = S := ⟨_, rfl⟩
  rw [hS]
  unfold shapeB at hS
  have S0 := Lib.hid (shR_start c w h)
  unfold Co.agg
  have HR := Lib.hid h
  clear h
  obtain ⟨pA, pc, places, mux, ato, cA, cc, chans, fA, fc, funcs, start, bA, bc, body⟩ := c
  dsimp only at hlp hlc hlf hlb hS S0 ⊢
  have HS := Lib.hid hS
  clear hS
  by_cases h1 : 128 < places.length
  · have d1 : decide (128 < (places.length : Int)) = true := decide_eq_true (by omega)
    have E : Hid (S = false) := by show _ = _; rw [← HS.out]; simp [show ¬ places.length ≤ 128 by omega]
    go_enter Tryd.func27, Tryd.ntmps27
    go_wp2_with fail
    go_ret
    exact ⟨by rw [E.out]; rfl, below_alloc (Below.refl _ _) _⟩
  have d1 : decide (128 < (places.length : Int)) = false := decide_eq_false (by omega)
  have k1 : places.length ≤ 128 := by omega
  obtain ⟨z2, hz2⟩ : ∃ z, wB mux 0 32 = z := ⟨_, rfl⟩
  have K2 := Lib.hid hz2
  cases z2
  · have E : Hid (S = false) := by show _ = _; rw [← HS.out]; simp [k1, K2.out]
    clear hz2
    go_enter Tryd.func27, Tryd.ntmps27
    go_wp2_with fail
    refine (within_any _ _ _ _).mono ?_
    rintro e w' ⟨rfl, rfl⟩
    rw [K2.out]
    go_wp2_with fail
    go_ret
    exact ⟨by rw [E.out]; rfl, below_alloc (Below.refl _ _) _⟩
  obtain ⟨p2, q2⟩ := (wB_iff _ _ _).1 hz2
  clear hz2
  obtain ⟨z3, hz3⟩ : ∃ z, wB ato 0 32 = z := ⟨_, rfl⟩
  have K3 := Lib.hid hz3
  cases z3
  · have E : Hid (S = false) := by show _ = _; rw [← HS.out]; simp [k1, K2.out, K3.out]
    clear hz3
    go_enter Tryd.func27, Tryd.ntmps27
    go_wp2_with fail
    refine (within_any _ _ _ _).mono ?_
    rintro e w' ⟨rfl, rfl⟩
    rw [K2.out]
    go_wp2_with fail
    refine (within_any _ _ _ _).mono ?_
    rintro e w' ⟨rfl, rfl⟩
    rw [K3.out]
    go_wp2_with fail
    go_ret
    exact ⟨by rw [E.out]; rfl, below_alloc (Below.refl _ _) _⟩
  obtain ⟨p3, q3⟩ := (wB_iff _ _ _).1 hz3
  clear hz3
  by_cases h4 : 32 < mux + ato + (chans.length : Int)
  · have d4 : decide (32 < mux + ato + (chans.length : Int)) = true := decide_eq_true (by omega)
    have E : Hid (S = false) := by show _ = _; rw [← HS.out]; simp [k1, K2.out, K3.out, show ¬ mux + ato + (chans.length : Int) ≤ 32 by omega]
    clear h4
    go_enter Tryd.func27, Tryd.ntmps27
    go_wp2_with fail
    refine (within_any _ _ _ _).mono ?_
    rintro e w' ⟨rfl, rfl⟩
    rw [K2.out]
    go_wp2_with fail
    refine (within_any _ _ _ _).mono ?_
    rintro e w' ⟨rfl, rfl⟩
    rw [K3.out]
    go_wp2_with fail
    go_ret
    exact ⟨by rw [E.out]; rfl, below_alloc (Below.refl _ _) _⟩
  have d4 : decide (32 < mux + ato + (chans.length : Int)) = false := decide_eq_false (by omega)
  have k4 : mux + ato + (chans.length : Int) ≤ 32 := by omega
  clear h4
  by_cases h5 : 16 < funcs.length
  · have d5 : decide (16 < (funcs.length : Int)) = true := decide_eq_true (by omega)
    have E : Hid (S = false) := by show _ = _; rw [← HS.out]; simp [k1, K2.out, K3.out, k4, show ¬ funcs.length ≤ 16 by omega]
    clear h5
    go_enter Tryd.func27, Tryd.ntmps27
    go_wp2_with fail
    refine (within_any _ _ _ _).mono ?_
    rintro e w' ⟨rfl, rfl⟩
    rw [K2.out]
    go_wp2_with fail
    refine (within_any _ _ _ _).mono ?_
    rintro e w' ⟨rfl, rfl⟩
    rw [K3.out]
    go_wp2_with fail
    go_ret
    exact ⟨by rw [E.out]; rfl, below_alloc (Below.refl _ _) _⟩
  have d5 : decide (16 < (funcs.length : Int)) = false := decide_eq_false (by omega)
  have k5 : funcs.length ≤ 16 := by omega
  clear h5
  by_cases h6 : 8192 < body.length
  · have d6 : decide (8192 < (body.length : Int)) = true := decide_eq_true (by omega)
    have E : Hid (S = false) := by show _ = _; rw [← HS.out]; simp [k1, K2.out, K3.out, k4, k5, show ¬ body.length ≤ 8192 by omega]
    clear h6
    go_enter Tryd.func27, Tryd.ntmps27
    go_wp2_with fail
    refine (within_any _ _ _ _).mono ?_
    rintro e w' ⟨rfl, rfl⟩
    rw [K2.out]
    go_wp2_with fail
    refine (within_any _ _ _ _).mono ?_
    rintro e w' ⟨rfl, rfl⟩
    rw [K3.out]
    go_wp2_with fail
    go_ret
    exact ⟨by rw [E.out]; rfl, below_alloc (Below.refl _ _) _⟩
  have d6 : decide (8192 < (body.length : Int)) = false := decide_eq_false (by omega)
  have k6 : body.length ≤ 8192 := by omega
  clear h6
  obtain ⟨z7, hz7⟩ : ∃ z, wB start 0 ((funcs.length : Int) - 1) = z := ⟨_, rfl⟩
  have K7 := Lib.hid hz7
  cases z7
  · have E : Hid (S = false) := by show _ = _; rw [← HS.out]; simp [k1, K2.out, K3.out, k4, k5, k6, K7.out]
    clear hz7
    go_enter Tryd.func27, Tryd.ntmps27
    go_wp2_with fail
    refine (within_any _ _ _ _).mono ?_
    rintro e w' ⟨rfl, rfl⟩
    rw [K2.out]
    go_wp2_with fail
    refine (within_any _ _ _ _).mono ?_
    rintro e w' ⟨rfl, rfl⟩
    rw [K3.out]
    go_wp2_with fail
    refine (within_any _ _ _ _).mono ?_
    rintro e w' ⟨rfl, rfl⟩
    rw [K7.out]
    go_wp2_with fail
    go_ret
    exact ⟨by rw [E.out]; rfl, below_alloc (Below.refl _ _) _⟩
  obtain ⟨p7, q7⟩ := (wB_iff _ _ _).1 hz7
  clear hz7
  obtain ⟨f0, hf0⟩ : ∃ f, funcs[start.toNat]? = some f := ⟨_, List.getElem?_eq_getElem (by omega)⟩
  obtain ⟨sn, hsn⟩ : ∃ sn : Nat, start = (sn : Int) := ⟨start.toNat, by omega⟩
  have HF0 := Lib.hid hf0
  have hf1 : funcs[sn]? = some f0 := by rw [← hf0, hsn]; rfl
  have HF1 := Lib.hid hf1
  obtain ⟨fb, fo, efA, g0, g1, g2⟩ := fn_at S0.out.rep.fn sn f0 hf1
  dsimp only at efA
  subst efA hsn
  have s0 : (0 : Int) ≤ (sn : Int) := by omega
  have s1 : (sn : Int) < (funcs.length : Int) := by omega
  clear hf0 hf1 g0 g2
  by_cases h8 : f0.pa = 0
  rotate_left
  · have d8 : (f0.pa != 0) = true := by simpa using h8
    have E : Hid (S = false) := by show _ = _; rw [← HS.out]; simp [k1, K2.out, K3.out, k4, k5, k6, K7.out, HF1.out, h8]
    clear h8
    go_enter Tryd.func27, Tryd.ntmps27
    go_wp2_with fail
    refine (within_any _ _ _ _).mono ?_
    rintro e w' ⟨rfl, rfl⟩
    rw [K2.out]
    go_wp2_with fail
    refine (within_any _ _ _ _).mono ?_
    rintro e w' ⟨rfl, rfl⟩
    rw [K3.out]
    go_wp2_with fail
    refine (within_any _ _ _ _).mono ?_
    rintro e w' ⟨rfl, rfl⟩
    rw [K7.out]
    go_wp2_with fail
    go_ret
    exact ⟨by rw [E.out]; rfl, below_alloc (Below.refl _ _) _⟩
  have d8 : (f0.pa != 0) = false := by simpa using h8
  have R0 : Hid (S = (chans.all chB && (fnsB (-1) 0 body.length funcs && places.all tyB))) := by show _ = _; rw [← HS.out]; simp [k1, K2.out, K3.out, k4, k5, k6, K7.out, HF1.out, h8]
  clear h8
  go_enter Tryd.func27, Tryd.ntmps27
  go_wp2_with fail
  refine (within_any _ _ _ _).mono ?_
  rintro e w' ⟨rfl, rfl⟩
  rw [K2.out]
  go_wp2_with fail
  refine (within_any _ _ _ _).mono ?_
  rintro e w' ⟨rfl, rfl⟩
  rw [K3.out]
  go_wp2_with fail
  refine (within_any _ _ _ _).mono ?_
  rintro e w' ⟨rfl, rfl⟩
  rw [K7.out]
  go_wp2_with fail
  clear g1 s0 s1 d1 d4 d5 d6 d8 HF0 HF1
  go_loopw [71] (fun iv wr => ∃ k : Nat, k ≤ chans.length ∧ iv = .int .i64 k ∧ Hid ((chans.take k).all chB = true) ∧ Hid (ShR w wr ⟨pA, pc, places, mux, ato, cA, cc, chans, some ⟨fb, fo, none⟩, fc, funcs, sn, bA, bc, body⟩)) (fun iv _ => chans.length - (intOf iv).toNat)
  case atStart => exact ⟨0, Nat.zero_le _, rfl, rfl, S0⟩
  case round =>
    clear S0
    obtain ⟨k, hk, rfl, hP, hQ⟩ := hrel
    by_cases hlt : k < chans.length
    · obtain ⟨x, hx⟩ : ∃ x, chans[k]? = some x := ⟨_, List.getElem?_eq_getElem hlt⟩
      obtain ⟨b1, o1, ecA, c1, c2⟩ := ch_at hQ.out.rep.ch k x hx
      dsimp only at ecA
      subst ecA
      have HN := Lib.hid (all_next (p := chB) hx)
      have HA := Lib.hid (all_bad (p := chB) hx)
      have hb2 := hQ.out.later (below_alloc (Below.refl wr.heap.size wr) (.cells #[.int .i64 x.1, .int .i64 x.2] 70))
      have HQ2 := Lib.hid hb2
      clear hx hb2
      obtain ⟨z, hz⟩ : ∃ z, tyB x.1 = z := ⟨_, rfl⟩
      have HZ := Lib.hid hz
      clear hz
      cases z
      · have E : Hid (S = false) := by show _ = _; rw [R0.out, HA.out (by simp [chB, HZ.out])]; rfl
        go_wp2_with fail
        refine (typ_any _ _).mono ?_
        rintro e w' ⟨rfl, rfl⟩
        rw [HZ.out]
        go_wp2_with fail
        go_ret
        exact ⟨by rw [E.out]; rfl, HQ2.out.bl⟩
      · obtain ⟨y, hy⟩ : ∃ y, wB x.2 0 8 = y := ⟨_, rfl⟩
        have HY := Lib.hid hy
        clear hy
        cases y
        · have E : Hid (S = false) := by show _ = _; rw [R0.out, HA.out (by simp [chB, HY.out])]; rfl
          go_wp2_with fail
          refine (typ_any _ _).mono ?_
          rintro e w' ⟨rfl, rfl⟩
          rw [HZ.out]
          go_wp2_with fail
          refine (within_any _ _ _ _).mono ?_
          rintro e w' ⟨rfl, rfl⟩
          rw [HY.out]
          go_wp2_with fail
          go_ret
          exact ⟨by rw [E.out]; rfl, HQ2.out.bl⟩
        · have HP2 := Lib.hid (HN.out hP.out (by simp [chB, HZ.out, HY.out]))
          clear HN HA hP
          go_wp2_with fail
          refine (typ_any _ _).mono ?_
          rintro e w' ⟨rfl, rfl⟩
          rw [HZ.out]
          go_wp2_with fail
          refine (within_any _ _ _ _).mono ?_
          rintro e w' ⟨rfl, rfl⟩
          rw [HY.out]
          go_wp2_with fail
          go_roundw
          case rel => exact ⟨k + 1, by omega, by go_num, HP2, HQ2⟩
          case measure => simp [intOf]; omega
    · have R1 : Hid (S = (fnsB (-1) 0 body.length funcs && places.all tyB)) := by
        have h1 := hP.out
        rw [List.take_of_length_le (by omega)] at h1
        show _ = _
        rw [R0.out, h1]
        rfl
      obtain ⟨q0, q1, q2, q3, q4, q5, q6⟩ := hQ.out.box
      dsimp only at q4
      clear R0 hP q0 q1 q2 q3 q5 q6
      go_wp2_with fail
      clear q4
      go_loopw [5, 89] (fun lv iv wr => ∃ (k : Nat) (last : Int), k ≤ funcs.length ∧ iv = .int .i64 k ∧ lv = .int .i64 last ∧ Hid (fnsB (-1) 0 body.length funcs = fnsB last k body.length (funcs.drop k)) ∧ Hid (ShR w wr ⟨pA, pc, places, mux, ato, cA, cc, chans, some ⟨fb, fo, none⟩, fc, funcs, sn, bA, bc, body⟩)) (fun _ iv _ => funcs.length - (intOf iv).toNat)
      case atStart => exact ⟨0, -1, Nat.zero_le _, rfl, rfl, rfl, hQ⟩
      case round =>
        clear hQ
        obtain ⟨j, last, hj, rfl, rfl, hP, hQ⟩ := hrel
        by_cases hjl : j < funcs.length
        · obtain ⟨x, hx⟩ : ∃ x, funcs[j]? = some x := ⟨_, List.getElem?_eq_getElem hjl⟩
          obtain ⟨b1, o1, efA, c1, c2, c3⟩ := fn_at hQ.out.rep.fn j x hx
          obtain ⟨hlo, hll⟩ := hQ.out.rep.lo x (List.mem_of_getElem? hx)
          dsimp only at efA
          simp only [Option.some.injEq, Addr.mk.injEq, and_true] at efA
          obtain ⟨rfl, rfl⟩ := efA
          have HD : Hid (fnsB (-1) 0 body.length funcs = (fnB last j body.length x && fnsB x.st (j + 1) body.length (funcs.drop (j + 1)))) := by
            show _ = _
            rw [hP.out, List.drop_eq_getElem_cons hjl, (List.getElem?_eq_some_iff.1 hx).2]
            rfl
          obtain ⟨st, pa, lA, lc, locals⟩ := x
          dsimp only at c1 c2 c3 hlo hll
          have hb2 := hQ.out.later (below_alloc (Below.refl wr.heap.size wr) (.cells #[.int .i64 st, .int .i64 pa, .slice lA locals.length lc] 26))
          have HQ2 := Lib.hid hb2
          have HLO := Lib.hid (hlo.later (below_alloc (Below.refl wr.heap.size wr) (.cells #[.int .i64 st, .int .i64 pa, .slice lA locals.length lc] 26)))
          clear hx hb2 hlo hP
          have hmn := min_four (locals.length : Int)
          have BAD : Hid (fnB last j body.length ⟨st, pa, lA, lc, locals⟩ = false → S = false) := fun hf => by
            rw [R1.out, HD.out, hf]; rfl
          by_cases t1 : st ≤ last
          · have E := Lib.hid (BAD.out (by simp [fnB, t1]))
            have d1 : decide (st ≤ last) = true := decide_eq_true t1
            clear BAD t1
            obtain ⟨q0, q1, q2, q3, q4, q5, q6⟩ := HQ2.out.box
            dsimp only at q6
            go_wp2_with fail
            go_ret
            exact ⟨by rw [E.out]; rfl, HQ2.out.bl⟩
          have d1 : decide (st ≤ last) = false := decide_eq_false t1
          by_cases t2 : j = 0 ∧ st ≠ 0
          · have E := Lib.hid (BAD.out (by simp [fnB, t1, t2.1, t2.2]))
            obtain ⟨hj0, hst⟩ := t2
            have dj : ((j : Int) == 0) = true := by rw [hj0]; rfl
            have d2 : (st != 0) = true := by simpa using hst
            clear BAD t1 hst hj0
            go_wp2_with fail
            go_ret
            exact ⟨by rw [E.out]; rfl, HQ2.out.bl⟩
          have T2 : Hid (¬ j = 0 ∨ st = 0) := by
            by_cases hj0 : j = 0
            · by_cases hs : st = 0
              · exact .inr hs
              · exact absurd ⟨hj0, hs⟩ t2
            · exact .inl hj0
          obtain ⟨q0, q1, q2, q3, q4, q5, q6⟩ := HQ2.out.box
          dsimp only at q6
          clear q0 q1 q2 q3 q4 q5
          have REST : ∀ (dj : ((j : Int) == 0) = false ∨ (((j : Int) == 0) = true ∧ (st != 0) = false)), True := fun _ => trivial
          clear REST
          have hcase : ((j : Int) == 0) = false ∨ (((j : Int) == 0) = true ∧ (st != 0) = false) := by
            by_cases hj0 : j = 0
            · have : st = 0 := by
                by_cases hs : st = 0
                · exact hs
                · exact absurd ⟨hj0, hs⟩ t2
              exact .inr ⟨by simp [hj0], by simp [this]⟩
            · exact .inl (by simp; omega)
          clear t2
          rcases hcase with dj | ⟨dj, ds⟩
          all_goals
            by_cases t3 : (body.length : Int) ≤ st
            · have E := Lib.hid (BAD.out (by simp [fnB, t1, show ¬ st < (body.length : Int) by omega]))
              have d3 : decide ((body.length : Int) ≤ st) = true := decide_eq_true t3
              clear BAD t1 t3
              go_wp2_with fail
              go_ret
              exact ⟨by rw [E.out]; rfl, HQ2.out.bl⟩
            have d3 : decide ((body.length : Int) ≤ st) = false := decide_eq_false t3
            have t3' : st < (body.length : Int) := by omega
            obtain ⟨z, hz⟩ : ∃ z, wB pa 0 (min 4 (locals.length : Int)) = z := ⟨_, rfl⟩
            have HZ := Lib.hid hz
            clear hz
            cases z
            · have E := Lib.hid (BAD.out (by simp [fnB, t1, t3', HZ.out]))
              clear BAD t1 t3 t3'
              go_wp2_with fail
              refine (within_any _ _ _ _).mono ?_
              rintro e w' ⟨rfl, rfl⟩
              rw [HZ.out]
              go_wp2_with fail
              go_ret
              exact ⟨by rw [E.out]; rfl, HQ2.out.bl⟩
            by_cases t5 : 32 < locals.length
            · have E := Lib.hid (BAD.out (by simp [fnB, t1, t3', HZ.out, show ¬ locals.length ≤ 32 by omega]))
              have d5 : decide (32 < (locals.length : Int)) = true := decide_eq_true (by omega)
              clear BAD t1 t3 t3' t5
              go_wp2_with fail
              refine (within_any _ _ _ _).mono ?_
              rintro e w' ⟨rfl, rfl⟩
              rw [HZ.out]
              go_wp2_with fail
              go_ret
              exact ⟨by rw [E.out]; rfl, HQ2.out.bl⟩
            have d5 : decide (32 < (locals.length : Int)) = false := decide_eq_false (by omega)
            have t5' : locals.length ≤ 32 := by omega
            have HC := Lib.hid (allTyp_any locals lA lc _ (by omega) HLO.out)
            obtain ⟨y, hy⟩ : ∃ y, locals.all tyB = y := ⟨_, rfl⟩
            rw [hy] at HC
            have HY := Lib.hid hy
            clear hy
            cases y
            · have E := Lib.hid (BAD.out (by simp [fnB, t1, t3', HZ.out, t5', HY.out]))
              clear BAD t1 t3 t3' t5 t5'
              go_wp2_with fail
              refine (within_any _ _ _ _).mono ?_
              rintro e w' ⟨rfl, rfl⟩
              rw [HZ.out]
              go_wp2_with fail
              refine HC.out.mono ?_
              rintro e w' ⟨rfl, hb3⟩
              have HB3 := Lib.hid (HQ2.out.later hb3)
              have HB3x := Lib.hid hb3
              clear hb3
              go_wp2_with fail
              go_ret
              exact ⟨by rw [E.out]; rfl, HB3.out.bl⟩
            have HN : Hid (fnsB (-1) 0 body.length funcs = fnsB st (j + 1) body.length (funcs.drop (j + 1))) := by
              show _ = _
              rw [HD.out, show fnB last j body.length ⟨st, pa, lA, lc, locals⟩ = true by simp [fnB, t1, T2.out, t3', HZ.out, t5', HY.out]]
              rfl
            have FB := Lib.hid (blk3f (blk_new wr (.cells #[.int .i64 st, .int .i64 pa, .slice lA locals.length lc] 26)))
            clear BAD HD t1 t3 t3' t5 t5'
            go_wp2_with fail
            refine (within_any _ _ _ _).mono ?_
            rintro e w' ⟨rfl, rfl⟩
            rw [HZ.out]
            go_wp2_with fail
            refine HC.out.mono ?_
            rintro e w' ⟨rfl, hb3⟩
            have HB3 := Lib.hid (HQ2.out.later hb3)
            have HB3x := Lib.hid hb3
            clear hb3
            have u0 := cell_later HB3x.out FB.out
            go_wp2_with fail
            go_roundw
            case rel => exact ⟨j + 1, st, by omega, by go_num, rfl, HN, HB3⟩
            case measure => simp [intOf]; omega
        · have R2 : Hid (S = places.all tyB) := by
            have h1 := hP.out
            rw [List.drop_eq_nil_of_le (by omega)] at h1
            show _ = _
            rw [R1.out, h1]
            rfl
          obtain ⟨bl, rep, bx⟩ := hQ.out
          have HC := Lib.hid (allTyp_any places pA pc wr (by omega) rep.pl)
          have HBL := Lib.hid bl
          obtain ⟨c0, _, _, _, _, _, _⟩ := bx
          dsimp only at c0
          clear hP hQ R1 rep bl
          go_wp2_with fail
          refine HC.out.mono ?_
          rintro e w' ⟨rfl, hb3⟩
          have HB3 := Lib.hid hb3
          clear hb3
          go_wp2_with fail
          go_ret
          exact ⟨by rw [R2.out]; rfl, below_next HBL.out HB3.out⟩
end Go.Proofs.YtbpbimkadiobfaaDoor
