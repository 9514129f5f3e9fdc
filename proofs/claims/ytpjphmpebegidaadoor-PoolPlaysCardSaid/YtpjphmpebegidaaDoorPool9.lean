/-
  A pool made: the walk.
-/
import Derived.Test.YtpjphmpebegidaaDoorPool8
namespace Go.Proofs.YtpjphmpebegidaaDoor
open Go.RowKit Go.Stk
attribute [local go_sem ↓] Go.wp_at_zero Go.wp_at_succ

set_option maxRecDepth 100000 in
set_option maxHeartbeats 4000000 in
theorem new_ok (np : Nat) (xs : List Int) (A : Option Addr) (c : Nat) (w : World) (er en ea : Addr) (hE : Errs w er en ea) (hx : RI w A xs) (h1 : 1 ≤ np) (h2 : np ≤ 256) (h3 : xs.length ≤ 8) : Calls Tryd.prog 18 #[.int .i64 np, .slice A xs.length c] w (fun e w' => (newOk np xs = true ∧ Made w np xs e w') ∨ (newOk np xs = false ∧ Ret w (.tuple #[.pointer none, errV er]) e w')) := by
  have HE := Lib.hid hE
  have HX := Lib.hid hx
  clear hE hx
  have mkP := make_pages np h2
  have d1 : decide ((np : Int) < 1) = false := decide_eq_false (by omega)
  have d2 : decide (256 < (np : Int)) = false := decide_eq_false (by omega)
  have d3 : decide (8 < (xs.length : Int)) = false := decide_eq_false (by omega)
  have i1 : (np : Int) ≤ 256 := by omega
  have i2 : (xs.length : Int) ≤ 8 := by omega
  go_enter Tryd.func18, Tryd.ntmps18
  go_wp2_with fail
  have H0 := Lib.hid (newr_start w np xs h2)
  have hsz : w.heap.size + 1 < 9223372036854775807 ∨ True := .inr trivial
  generalize (w.alloc (.cells (ints (List.replicate (np * 16) 0)).toArray 74)).alloc (.cells #[.slice (some ⟨w.heap.size, 0, none⟩) np np, .slice none 0 0] 72) = w0 at H0 ⊢
  obtain ⟨b, hb⟩ : ∃ b, b = w.heap.size + 1 := ⟨_, rfl⟩
  obtain ⟨g, hg⟩ : ∃ g, g = w.heap.size := ⟨_, rfl⟩
  rw [← hb, ← hg] at H0
  rw [← hb]
  clear hb hg mkP
  go_loopw [7, 28] (fun av kv wr => ∃ (k : Nat) (L : PLay) (ys : List Nat) (at_ : Nat), k ≤ xs.length ∧ kv = .int .i64 k ∧ av = .int .i64 at_ ∧ Hid (NewR w wr b g np xs k L ys at_)) (fun _ kv _ => xs.length - (intOf kv).toNat)
  case atStart => exact ⟨0, _, _, 0, Nat.zero_le _, rfl, rfl, H0⟩
  case round =>
    obtain ⟨k, L, ys, at_, hk, rfl, rfl, hP⟩ := hrel
    by_cases hlt : k < xs.length
    · obtain ⟨b1, o1, rfl, c1⟩ := (HX.out.later hP.out.bl).at k hlt
      obtain ⟨n, en⟩ : ∃ n, xs.getD k 0 = n := ⟨_, rfl⟩
      rw [en] at c1
      have EN := Lib.hid en
      have hle := hP.out.le
      clear en
      by_cases hbad : n < 0 ∨ (np : Int) - (at_ : Int) < n
      · have HBAD := Lib.hid (hP.out.bad hlt n EN.out hbad)
        have hr := (HE.out.later hP.out.bl).r
        have hb := hP.out.bl
        by_cases h0 : n < 0
        · go_wp2_with fail
          go_quiet (fail)
          go_wp2_with fail
          go_ret2
          exact .inr ⟨HBAD.out, rfl, below_drewN1 hb _⟩
        · go_wp2_with fail
          go_quiet (fail)
          go_wp2_with fail
          go_ret2
          exact .inr ⟨HBAD.out, rfl, below_drewN1 hb _⟩
      · obtain ⟨m, rfl⟩ : ∃ m : Nat, n = (m : Int) := ⟨n.toNat, by omega⟩
        have hbad' : (m : Int) ≤ (np : Int) - (at_ : Int) := by omega
        have hm : m ≤ 256 := by omega
        have hsum : at_ + m ≤ np := by omega
        clear hbad
        obtain ⟨p0, p1, p2, p3, AV, cv, ev⟩ := hP.out.cells
        rw [ev] at p1
        have EV := Lib.hid ev
        clear ev
        have mkB := make_one (P := Tryd.prog) 63 4 (.bool false) 1 Tryd.underlying63 infoBool3 rfl (by omega) m (by omega)
        have mkI := make_one (P := Tryd.prog) 37 3 (.int .i64 0) 8 Tryd.underlying37 infoInt3 rfl (by omega) m (by omega)
        have d4 : decide ((m : Int) < 0) = false := decide_eq_false (by omega)
        have d5 : decide ((np : Int) - (at_ : Int) < (m : Int)) = false := decide_eq_false (by omega)
        obtain ⟨e, he⟩ : ∃ e, e = at_ + m := ⟨_, rfl⟩
        have hw : IntKind.i64.wrap ((at_ : Int) + (m : Int)) = (e : Int) := by rw [IntKind.wrap_i64]; omega
        have w1 : 0 ≤ (e : Int) ∧ (e : Int) ≤ (np : Int) := by omega
        have w2 : max (e : Int) 0 = (e : Int) := by omega
        have w3 : at_ ≤ e := by omega
        have w4 : e - at_ = m := by omega
        obtain ⟨pa, hpa⟩ : ∃ pa : Addr, pa = if e = at_ then ⟨g, 0, none⟩ else ⟨g, at_ * 16, none⟩ := ⟨_, rfl⟩
        have w5 : (if e = at_ then some (⟨g, 0, none⟩ : Addr) else some ⟨g, at_ * 16, none⟩) = some pa := by rw [hpa]; split <;> rfl
        have HPA := Lib.hid hpa
        have HEA := Lib.hid he
        clear hpa he
        go_wp2_with fail
        have q0 : ∀ (o : Obj), (wr.alloc o).cell? ⟨b, 0, none⟩ = some (.slice (some ⟨g, 0, none⟩) np np) := fun o => cell_later (below_alloc (Below.refl _ _) _) p0
        have q1 : ∀ (o : Obj), (wr.alloc o).cell? ⟨b, 1, none⟩ = some (.slice AV k cv) := fun o => cell_later (below_alloc (Below.refl _ _) _) p1
        have q2 : ∀ (o o2 : Obj), ((wr.alloc o).alloc o2).cell? ⟨b, 0, none⟩ = some (.slice (some ⟨g, 0, none⟩) np np) := fun o o2 => cell_later (below_alloc (below_alloc (Below.refl _ _) _) _) p0
        have q4 : ∀ (o o2 : Obj), ((wr.alloc o).alloc o2).cell? ⟨b, 1, none⟩ = some (.slice AV k cv) := fun o o2 => cell_later (below_alloc (below_alloc (Below.refl _ _) _) _) p1
        have q5 : ∀ (o o2 o3 : Obj), (((wr.alloc o).alloc o2).alloc o3).cell? ⟨b, 1, none⟩ = some (.slice AV k cv) := fun o o2 o3 => cell_later (below_alloc (below_alloc (below_alloc (Below.refl _ _) _) _) _) p1
        have q6 : ∀ (o o2 o3 o4 : Obj), ((((wr.alloc o).alloc o2).alloc o3).alloc o4).cell? ⟨b, 1, none⟩ = some (.slice AV k cv) := fun o o2 o3 o4 => cell_later (below_alloc (below_alloc (below_alloc (below_alloc (Below.refl _ _) _) _) _) _) p1
        go_region_law
          ((refine step_append_row (by rfl) _ _ _ 24 _ 1 8 (by rfl) Tryd.underlying52 infoPtr3 (by rfl) (by omega) L.av k (L.als.map fun l => .pointer (some ⟨l.ab, 0, none⟩)) (by rw [EV.out]; rfl) (hP.out.row (new4 wr _ _ _ _).2.2.2.2) (some ⟨wr.heap.size + 1 + 1 + 1, 0, none⟩) 1 1 [.pointer (some ⟨wr.heap.size + 1 + 1, 0, none⟩)] (by rfl) (by rfl) (by simp) (by omega) (rd_blk (T := 24) (new4 wr _ _ _ _).2.2.2.1 (by simp [maxLen])) (by simp [Value.oneCell']) (by simp only [maxLen]; omega) (by omega) ?_; intro v1 w9 hrow3 hkk hb3; obtain ⟨A3, c3, rfl, _⟩ := hrow3.form; have q3 := hkk.cell (a := ⟨b, 1, none⟩) (cell_later (new4 wr _ _ _ _).2.2.2.2 p1) hP.out.notB; have p5 := (hkk.frozen (a := ⟨b, 1, none⟩) (Nat.lt_of_lt_of_le p3 (new4 wr _ _ _ _).2.2.2.2.size) hP.out.notB).trans (hP.out.freeB (new4 wr _ _ _ _).2.2.2.2)))
        all_goals
          go_wp2
          go_roundw
          case rel =>
            first
              | exact ⟨k + 1, _, _, e, by omega, by go_num, rfl, Lib.hid (hP.out.push hlt m e EN.out HEA.out hsum (new4 wr _ _ _ _).2.2.2.2 ⟨wr.heap.size + 1 + 1, wr.heap.size, wr.heap.size + 1, pa⟩ HPA.out (new4 wr _ _ _ _).2.2.1 (new4 wr _ _ _ _).1 (new4 wr _ _ _ _).2.1 (by simp; omega) hkk _ hrow3 hb3)⟩
              | exact ⟨k + 1, _, _, e, by omega, by go_num, rfl, Lib.hid (hP.out.push hlt m e EN.out HEA.out hsum (new4 wr _ _ _ _).2.2.2.2 ⟨wr.heap.size + 1 + 1, wr.heap.size + 1, wr.heap.size, pa⟩ HPA.out (new4 wr _ _ _ _).2.2.1 (new4 wr _ _ _ _).2.1 (new4 wr _ _ _ _).1 (by simp; omega) hkk _ hrow3 hb3)⟩
          case measure => simp [intOf]; omega
    · have HK : Hid (k = xs.length) := by show _ = _; omega
      have HF := Lib.hid (hP.out.fin HK.out h1 h2 h3)
      have hb0 := hP.out.b
      clear hP HK
      go_wp2_with fail
      go_ret2
      rw [← hb0]
      exact .inl HF.out
end Go.Proofs.YtpjphmpebegidaaDoor
