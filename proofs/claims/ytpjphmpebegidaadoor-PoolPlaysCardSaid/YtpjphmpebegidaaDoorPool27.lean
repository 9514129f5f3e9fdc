/-
  The model's arena turned: Alloc.
-/
import Derived.Test.YtpjphmpebegidaaDoorPool26
namespace Go.Proofs.YtpjphmpebegidaaDoor
open Go.RowKit Go.Stk
attribute [local go_sem ↓] Go.wp_at_zero Go.wp_at_succ

theorem firstF_is {t : List Bool} {need f : Nat} (h : Fits t need f) (hm : ∀ g, g < f → ¬ Fits t need g) : firstF t need = some f := by
  cases he : firstF t need with
  | none => exact absurd h (firstF_none he f)
  | some g =>
    have := firstF_some he
    rcases Nat.lt_trichotomy g f with h1 | h1 | h1
    · exact absurd this.1 (hm g h1)
    · rw [h1]
    · exact absurd h (this.2 f h1)
theorem firstF_no {t : List Bool} {need : Nat} (h : ∀ f, ¬ Fits t need f) : firstF t need = none := by
  cases he : firstF t need with
  | none => rfl
  | some g => exact absurd (firstF_some he).1 (h g)
def MAl (w : World) (p n : Nat) (rv : Value) (H : List MRun) (t : List Bool) (v : Int) (e : Ending) (w' : World) : Prop :=
  (v < 1 ∧ e = .returned (.tuple #[.int .i64 0, .int .i64 1]) ∧ Below w.heap.size w w') ∨
  (1 ≤ v ∧ firstF t (needOf v) = none ∧ e = .returned (.tuple #[.int .i64 0, .int .i64 14]) ∧ Below w.heap.size w w') ∨
  ∃ f b, 1 ≤ v ∧ firstF t (needOf v) = some f ∧ MPost w p n rv H (.tuple #[.int .i64 (16 * (f : Int)), .int .i64 0]) (H ++ [⟨f, needOf v, b, List.replicate (16 * needOf v) 0⟩]) e w'
theorem MRep.push {w wa w9 : World} {p n f m b : Nat} {rv rv' : Value} {H : List MRun} (h : MRep w p n rv H) (ha : Below w.heap.size w wa) (hb : w.heap.size ≤ b) (hb2 : wa.heap[b]? = some (.cells (ints (List.replicate (16 * m) 0)).toArray 3 (0, 0)))
    (hk : Kept (blk rv) wa w9) (hg : ∀ g ∈ blk rv', g ∈ blk rv ∨ wa.heap.size ≤ g) (hrow : Row w9 60 3 rv' (H.length + 1) (mcells H ++ [.int .i64 f, .int .i64 m, .slice (some ⟨b, 0, none⟩) (16 * m) (16 * m)])) (v : Value) :
    MPost w p n rv H v (H ++ [⟨f, m, b, List.replicate (16 * m) 0⟩]) (.returned v) (w9.setCell ⟨p, 1, none⟩ rv') := by
  obtain ⟨n1, n2, n3, n4⟩ := h.nd'
  have hlt := h.lt
  have hltb := blk_lt hb2
  have hin : ∀ g ∈ blk rv, g < w.heap.size := fun g hg => hlt g (by simp [mfp, hg])
  have hkk : Kept (blk rv) w w9 := ((Kept.ofBelow ha []).mono (by simp)).trans hk fun i hi => .inl hi
  have e1 : (H ++ [(⟨f, m, b, List.replicate (16 * m) 0⟩ : MRun)]).length = H.length + 1 := by simp
  have e2 : mcells (H ++ [(⟨f, m, b, List.replicate (16 * m) 0⟩ : MRun)]) = mcells H ++ [.int .i64 f, .int .i64 m, .slice (some ⟨b, 0, none⟩) (16 * m) (16 * m)] := by rw [mcells_append]; rfl
  have hmem : ∀ g ∈ H.map MRun.b, g < w.heap.size := fun g hg => hlt g (by simp only [mfp, List.mem_cons, List.mem_append]; exact .inr (.inr hg))
  have hp := hlt p (by simp [mfp])
  refine h.put hkk (by rw [e1, e2]; exact hrow) (fun r hr => ?_) ((mfp_nodup _ _ _).2 ⟨fun hx => ?_, fun hx => ?_, ?_, fun g hg2 hx => ?_⟩) (fun g hg2 => ?_) v
  · simp only [List.mem_append, List.mem_singleton] at hr
    rcases hr with hr | rfl
    · exact hkk.heap (h.words r hr) fun hx => n4 _ hx (List.mem_map.2 ⟨r, hr, rfl⟩)
    · exact hk.heap hb2 fun hx => by have : b < w.heap.size := hin _ hx; omega
  · rcases hg p hx with h1 | h1
    · exact n1 h1
    · have := ha.size; omega
  · simp only [List.map_append, List.mem_append, List.map_cons, List.map_nil, List.mem_singleton] at hx
    rcases hx with hx | hx
    · exact n2 hx
    · have hx : p = b := hx
      omega
  · rw [List.map_append, List.nodup_append]
    refine ⟨n3, by simp, fun a ha2 c hc e => ?_⟩
    simp at hc
    have := hmem a ha2
    omega
  · simp only [List.map_append, List.mem_append, List.map_cons, List.map_nil, List.mem_singleton] at hx
    rcases hg g hg2 with h1 | h1
    · rcases hx with hx | hx
      · exact n4 g h1 hx
      · have := hin g h1; omega
    · rcases hx with hx | hx
      · have := hmem g hx; have := ha.size; omega
      · omega
  · simp only [mfp, List.mem_cons, List.mem_append, List.map_append, List.map_cons, List.map_nil, List.not_mem_nil, or_false] at hg2 ⊢
    rcases hg2 with rfl | h1 | h1 | rfl
    · exact .inl (.inl rfl)
    · rcases hg g h1 with h2 | h2
      · exact .inl (.inr (.inl h2))
      · exact .inr (Nat.le_trans ha.size h2)
    · exact .inl (.inr (.inr h1))
    · exact .inr hb
theorem made_ints (m : Nat) : madeCells #[.int .i64 0] m = (ints (List.replicate m 0)).toArray := by
  apply Array.ext'
  simp only [ints, madeCells, List.map_replicate]
  rw [List.eq_replicate_iff]
  simp [Nat.mod_one]
theorem new2 (w : World) (o o2 : Obj) : ((w.alloc o).alloc o2).heap[w.heap.size]? = some o ∧ ((w.alloc o).alloc o2).heap[w.heap.size + 1]? = some o2 ∧ Below w.heap.size w ((w.alloc o).alloc o2) :=
  ⟨blk_alloc (blk_new w o) o2, blk_new2 w o o2, below_alloc (below_alloc (Below.refl _ _) _) _⟩
theorem new2d (w : World) (o o2 : Obj) : ((w.alloc o).alloc o2).drew.heap[w.heap.size]? = some o ∧ ((w.alloc o).alloc o2).drew.heap[w.heap.size + 1]? = some o2 ∧ Below w.heap.size w ((w.alloc o).alloc o2).drew :=
  ⟨(new2 w o o2).1, (new2 w o o2).2.1, (new2 w o o2).2.2.drew⟩
theorem new2N (w : World) (o o2 : Obj) (n : Nat) : (((w.alloc o).alloc o2).drewN n).heap[w.heap.size]? = some o ∧ (((w.alloc o).alloc o2).drewN n).heap[w.heap.size + 1]? = some o2 ∧ Below w.heap.size w (((w.alloc o).alloc o2).drewN n) :=
  ⟨(new2 w o o2).1, (new2 w o o2).2.1, below_next (new2 w o o2).2.2 (below_drewN0 _ _)⟩
theorem arm2 {wr WA w9 : World} {rv : Value} {b : Nat} {o : Obj} (hb : Below wr.heap.size wr WA) (hkk : Kept (blk rv) WA w9) (hn : WA.heap[b]? = some o) : Below wr.heap.size wr WA ∧ Kept (blk rv) WA w9 ∧ WA.heap[b]? = some o := ⟨hb, hkk, hn⟩
set_option maxRecDepth 100000 in
set_option maxHeartbeats 4000000 in
theorem malloc_any {w : World} {p n : Nat} {rv : Value} {H : List MRun} (h : MRep w p n rv H) (hn : n ≤ 256) (hH : H.length ≤ 256) (hrg : ∀ r ∈ H, r.f + r.m ≤ 256) (t : List Bool) (ht : t.length = n) (hT : ∀ x, x < n → t[x]? = some (mIn H (x : Int))) (v : Int) :
    Calls Tryd.prog 36 #[.pointer (some ⟨p, 0, none⟩), .int .i64 v] w (MAl w p n rv H t v) := by
  obtain ⟨A, c, rfl, hnc, hcm, hnil, hxl⟩ := h.row.form
  have HM := Lib.hid h
  have HR := Lib.hid hrg
  have HT := Lib.hid hT
  have HL := Lib.hid ht
  obtain ⟨p0, p1, _, p3, p4⟩ := h.hc
  clear h hrg hxl hnil hT ht
  have hn' : (n : Int) ≤ 256 := by omega
  by_cases h1 : v < 1
  · have d1 : decide (v < 1) = true := decide_eq_true h1
    go_enter Tryd.func36, Tryd.ntmps36
    go_wp2_with fail
    go_ret2
    exact .inl ⟨h1, rfl, Below.refl _ _⟩
  · have d1 : decide (v < 1) = false := decide_eq_false h1
    by_cases h2 : 16 * (n : Int) < v
    · have d2 : decide (16 * (n : Int) < v) = true := decide_eq_true h2
      go_enter Tryd.func36, Tryd.ntmps36
      go_wp2_with fail
      go_ret2
      refine .inr (.inl ⟨by omega, firstF_no fun f hf => ?_, rfl, Below.refl _ _⟩)
      have := hf.1
      rw [HL.out] at this
      unfold needOf at this
      omega
    · have d2 : decide (16 * (n : Int) < v) = false := decide_eq_false h2
      obtain ⟨need, hneed⟩ : ∃ need, need = needOf v := ⟨_, rfl⟩
      have hq : (v + 15).tdiv 16 = (need : Int) := by rw [Int.tdiv_eq_ediv_of_nonneg (by omega), hneed]; unfold needOf; omega
      have hn0 : 1 ≤ need := by rw [hneed]; unfold needOf; omega
      have hnn : need ≤ n := by rw [hneed]; unfold needOf; omega
      have NE := Lib.hid hneed
      have v0 : 1 ≤ v := by omega
      have v1 : v ≤ 4096 := by omega
      clear hneed h1 h2
      go_enter Tryd.func36, Tryd.ntmps36
      go_wp2_with fail
      go_loopw [7] (fun fv wr => ∃ f : Nat, f ≤ n + 1 ∧ fv = .int .i64 f ∧ Hid (Below w.heap.size w wr ∧ ∀ g, g < f → ¬ Fits t need g)) (fun fv _ => n + 1 - (intOf fv).toNat)
      case atStart => exact ⟨0, Nat.zero_le _, rfl, Below.refl _ _, fun g hg => absurd hg (Nat.not_lt_zero _)⟩
      case round =>
        obtain ⟨f, hf, rfl, hP⟩ := hrel
        have p0' := cell_later hP.out.1 p0
        have p1' := cell_later hP.out.1 p1
        by_cases hfn : f + need ≤ n
        · have hfn' : (f : Int) + (need : Int) ≤ (n : Int) := by omega
          go_wp2_with fail
          go_loopw [8, 9] (fun bv kv wr2 => ∃ (b : Bool) (k : Nat), f ≤ k ∧ k ≤ f + need ∧ bv = .bool b ∧ kv = .int .i64 k ∧ Hid (Below w.heap.size w wr2 ∧ (b = true ↔ ∀ x : Nat, f ≤ x → x < k → mIn H (x : Int) = false))) (fun _ kv _ => f + need - (intOf kv).toNat)
          case atStart => exact ⟨true, f, Nat.le_refl _, by omega, rfl, rfl, hP.out.1, by simp; intro x h1 h2; omega⟩
          case round =>
            obtain ⟨b, k, hk1, hk2, rfl, rfl, hQ⟩ := hrel
            by_cases hkn : k < f + need
            · have hkn' : (k : Int) < (f : Int) + (need : Int) := by omega
              cases b with
              | false =>
                go_wp2_with fail
                go_roundw
                case rel => exact ⟨false, k + 1, by omega, by omega, rfl, by go_num, hQ.out.1, by
                  simp only [Bool.false_eq_true, false_iff]
                  intro hx
                  exact absurd (hQ.out.2.2 fun x h1 h2 => hx x h1 (by omega)) (by simp)⟩
                case measure => simp [intOf]; omega
              | true =>
                have HI := Lib.hid (in_any (HM.out.later hQ.out.1) hH HR.out (k : Int))
                cases hm : mIn H (k : Int) with
                | false =>
                  rw [hm] at HI
                  have HMM := Lib.hid hm
                  clear hm
                  go_wp2_with fail
                  refine HI.out.mono ?_
                  rintro e w3 ⟨rfl, hb3⟩
                  go_wp2_with fail
                  go_roundw
                  case rel => exact ⟨true, k + 1, by omega, by omega, rfl, by go_num, below_next hQ.out.1 hb3, by
                    simp only [true_iff]
                    intro x h1 h2
                    by_cases hxk : x = k
                    · rw [hxk]; exact HMM.out
                    · exact hQ.out.2.1 (by simp) x h1 (by omega)⟩
                  case measure => simp [intOf]; omega
                | true =>
                  rw [hm] at HI
                  have HMM := Lib.hid hm
                  clear hm
                  go_wp2_with fail
                  refine HI.out.mono ?_
                  rintro e w3 ⟨rfl, hb3⟩
                  go_wp2_with fail
                  go_roundw
                  case rel => exact ⟨false, k + 1, by omega, by omega, rfl, by go_num, below_next hQ.out.1 hb3, by
                    simp only [Bool.false_eq_true, false_iff]
                    intro hx
                    have := hx k hk1 (by omega)
                    rw [HMM.out] at this
                    cases this⟩
                  case measure => simp [intOf]; omega
            · obtain rfl : k = f + need := by omega
              cases b with
              | false =>
                go_wp2_with fail
                go_roundw
                case rel => exact ⟨f + 1, by omega, by go_num, hQ.out.1, fun g hg hfit => by
                  by_cases hgf : g = f
                  · subst hgf
                    refine absurd (hQ.out.2.2 fun x h1 h2 => ?_) (by simp)
                    have h3 := hfit.2 x h1 h2
                    rw [HT.out x (by omega)] at h3
                    exact Option.some.inj h3
                  · exact hP.out.2 g (by omega) hfit⟩
                case measure => simp [intOf]; omega
              | true =>
                have hfit : Fits t need f := ⟨by rw [HL.out]; exact hfn, fun x h1 h2 => by rw [HT.out x (by omega), hQ.out.2.1 (by simp) x h1 h2]⟩
                have FF := Lib.hid (firstF_is hfit hP.out.2)
                have HM2 := Lib.hid (HM.out.later hQ.out.1)
                have HB2 := Lib.hid hQ.out.1
                have r1 := cell_later hQ.out.1 p1
                obtain ⟨_, _, _, r3, r4⟩ := HM2.out.hc
                have hmk := make_one (P := Tryd.prog) 37 3 (.int .i64 0) 8 Tryd.underlying37 infoInt3 rfl (by decide) (16 * need) (by omega)
                rw [show ((16 * need : Nat) : Int) = 16 * (need : Int) by omega] at hmk
                clear hfit hQ hP
                go_wp2_with fail
                have q1 : ∀ (o : Obj), (wr.alloc o).cell? ⟨p, 1, none⟩ = some (.slice A H.length c) := fun o => cell_later (below_alloc (Below.refl _ _) _) r1
                have q2 : ∀ (o o2 : Obj), ((wr.alloc o).alloc o2).cell? ⟨p, 1, none⟩ = some (.slice A H.length c) := fun o o2 => cell_later (below_alloc (below_alloc (Below.refl _ _) _) _) r1
                have wr16 : IntKind.i64.wrap (16 * (need : Int)) = 16 * (need : Int) := IntWalk.i64_in _ (by omega)
                have hpb : p ∉ blk (.slice A H.length c) := HM2.out.nd'.1
                have HPB := Lib.hid hpb
                clear hpb
                go_region_law
                  ((refine step_append_row (by rfl) _ _ _ 60 _ 3 40 (by rfl) Tryd.underlying55 infoRun (by rfl) (by omega) (.slice A H.length c) H.length (mcells H) (by rfl) (HM2.out.later (by first | exact (new2 wr _ _).2.2 | exact (new2d wr _ _).2.2 | exact (new2N wr _ _ _).2.2)).row (some ⟨wr.heap.size + 1, 0, none⟩) 1 1 [.int .i64 f, .int .i64 need, .slice (some ⟨wr.heap.size, 0, none⟩) (16 * need) (16 * need)] (by rfl) (by rfl) (by simp) (by omega) (rd_blk (T := 60) (by first | exact (new2 wr _ _).2.1 | exact (new2d wr _ _).2.1 | exact (new2N wr _ _ _).2.1) (by simp [maxLen])) (by simp [Value.oneCell']) (by simp only [maxLen]; omega) (by omega) ?_; intro v1 w9 hrow3 hkk hb3; have K8 := arm2 (b := wr.heap.size) (by first | exact (new2 wr _ _).2.2 | exact (new2d wr _ _).2.2 | exact (new2N wr _ _ _).2.2) hkk (by first | exact (new2 wr _ _).1 | exact (new2d wr _ _).1 | exact (new2N wr _ _ _).1); obtain ⟨A3, c3, rfl, _⟩ := hrow3.form; have q3 := hkk.cell (a := ⟨p, 1, none⟩) (cell_later K8.1 r1) HPB.out; have p5 := ((hkk.frozen (a := ⟨p, 1, none⟩) (Nat.lt_of_lt_of_le r4 K8.1.size) HPB.out).trans (K8.1.frozen (p := ⟨p, 1, none⟩) r4)).trans r3))
                all_goals
                  have FIN := Lib.hid (HM2.out.push (f := f) (m := need) K8.1 (Nat.le_refl _) (by rw [← made_ints]; exact K8.2.2) hkk hb3 hrow3 (.tuple #[.int .i64 (16 * (f : Int)), .int .i64 0]))
                  have f64 : (f : Int) ≤ 256 := by omega
                  clear hrow3 hkk hb3 K8
                  go_wp2_with fail
                  go_ret2
                  exact .inr (.inr ⟨f, wr.heap.size, v0, by rw [← NE.out]; exact FF.out, by rw [← NE.out]; exact FIN.out.base HB2.out⟩)
        · go_wp2_with fail
          go_ret2
          refine .inr (.inl ⟨v0, firstF_no fun g hg => ?_, rfl, hP.out.1⟩)
          rw [← NE.out] at hg
          have h3 := hg.1
          rw [HL.out] at h3
          exact hP.out.2 g (by omega) hg
end Go.Proofs.YtpjphmpebegidaaDoor
