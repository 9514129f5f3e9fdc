/-
  A code read.
-/
import Derived.Test.YtbpbimkadiobfaaDoorGet2
namespace Go.Proofs.YtbpbimkadiobfaaDoor
open Go.RowKit Go.Stk
attribute [local go_sem ↓] Go.wp_at_zero Go.wp_at_succ

theorem row_rs {w : World} {T : TypeId} {k : Nat} {A : Option Addr} {n c : Nat} {xs : List Value} (h : Row w T k (.slice A n c) n xs) : Rs w A xs := fun hp => by
  have hl := h.1
  obtain ⟨g, cap, e, _, _, _, _, hcell, _⟩ := h.mid (by
    rcases Nat.eq_zero_or_pos n with h0 | h0
    · subst h0; rw [Nat.zero_mul] at hl; omega
    · exact h0)
  injection e with e1 e2 e3
  exact ⟨g, 0, e1, fun j hj => by rw [Nat.zero_add]; exact hcell j _ (List.getElem?_eq_getElem hj)⟩
theorem got_rs {w : World} {o : Nat} {xs : List Int} (h : Got w o xs) : Rs w (some ⟨o, 0, none⟩) (ints xs) := fun _ => ⟨o, 0, rfl, fun j hj => by rw [Nat.zero_add, blk_cell h]; simp⟩
theorem Los.keptX {B : Nat} {w w' : World} {v : Value} {fs : List Fn} (h : Los B w v fs) {X : Nat → Prop} (hk : KeptX X w w') (hX : ∀ j, B ≤ j → j < w.heap.size → X j) : Los B w' v fs := fun f hf => by
  obtain ⟨lo, h1, h2, h3, h4, h5⟩ := h f hf
  exact ⟨lo, h1, h2, (hk.block lo (hX lo h4 (blk_lt h3))).trans h3, h4, h5⟩
theorem deb1 {l : List Int} (hB : Byt l) : 0 ≤ deb (l.take 1) ∧ deb (l.take 1) < 256 := by
  have h1 := deb_lt (l := l.take 1) fun y hy => hB y (List.mem_of_mem_take hy)
  have h2 : (256 : Int) ^ (l.take 1).length ≤ 256 ^ 1 := pow_mono (by rw [List.length_take]; omega)
  omega
theorem blk7 {w : World} {b : Nat} {x0 x1 x2 x3 x4 x5 x6 : Value} {T : TypeId} (h : w.heap[b]? = some (.cells #[x0, x1, x2, x3, x4, x5, x6] T (0, 0))) : w.cell? ⟨b, 0, none⟩ = some x0 ∧ w.cell? ⟨b, 1, none⟩ = some x1 ∧ w.cell? ⟨b, 2, none⟩ = some x2 ∧ w.cell? ⟨b, 3, none⟩ = some x3 ∧ w.cell? ⟨b, 4, none⟩ = some x4 ∧ w.cell? ⟨b, 5, none⟩ = some x5 ∧ w.cell? ⟨b, 6, none⟩ = some x6 :=
  ⟨by rw [blk_cell h]; rfl, by rw [blk_cell h]; rfl, by rw [blk_cell h]; rfl, by rw [blk_cell h]; rfl, by rw [blk_cell h]; rfl, by rw [blk_cell h]; rfl, by rw [blk_cell h]; rfl⟩
theorem blk3b {w : World} {b : Nat} {x y z : Value} {T : TypeId} (h : w.heap[b]? = some (.cells #[x, y, z] T (0, 0))) : w.cell? ⟨b, 0, none⟩ = some x ∧ w.cell? ⟨b, 1, none⟩ = some y ∧ w.cell? ⟨b, 2, none⟩ = some z ∧ b < w.heap.size :=
  ⟨by rw [blk_cell h]; rfl, by rw [blk_cell h]; rfl, by rw [blk_cell h]; rfl, blk_lt h⟩
set_option maxRecDepth 100000 in
set_option maxHeartbeats 4000000 in
theorem codeRead (b g : Nat) (l : List Int) (hB : Byt l) (w : World) (h : RdO w b g l) (hm : l.length ≤ 1000000) :
    Calls Tryd.prog 47 #[.pointer (some ⟨b, 0, none⟩)] w (CodeR w b l) := by
  have HB := Lib.hid hB
  obtain ⟨w0, hw0⟩ : ∃ W, w.alloc (.cells #[.slice none 0 0, .int .i64 0, .int .i64 0, .slice none 0 0, .slice none 0 0, .int .i64 0, .slice none 0 0] 31) = W := ⟨_, rfl⟩
  have hb0 : Below w.heap.size w w0 := by rw [← hw0]; exact below_alloc (Below.refl _ _) _
  have HR := Lib.hid (h.later hb0)
  have HB0 := Lib.hid hb0
  have HZ0 : Hid (w0.heap[w.heap.size]? = some (.cells #[.slice none 0 0, .int .i64 0, .int .i64 0, .slice none 0 0, .slice none 0 0, .int .i64 0, .slice none 0 0] 31 (0, 0))) := by show _ = _; rw [← hw0]; exact blk_new _ _
  have HW0 : Hid (w.heap.size + 1 = w0.heap.size) := by show _ = _; rw [← hw0]; simp
  have hgb : g < w.heap.size ∧ b < w.heap.size ∧ g ≠ b := by obtain ⟨_, _, h1, _, _, _, h5, h6⟩ := h; exact ⟨h6, blk_lt h1, h5⟩
  have HGB := Lib.hid hgb
  clear h hB hb0 hgb
  by_cases h28 : 28 ≤ l.length
  · have HN := Lib.hid (getNums_ok 7 b g l HB.out w0 HR.out (by omega) (by omega))
    go_enter Tryd.func47, Tryd.ntmps47
    go_wp2_with fail
    refine HN.out.mono ?_
    rintro e w1 ⟨o7, rfl, ho7, hg7, hr1, hk1⟩
    obtain ⟨H, hH⟩ : ∃ H, deb4s 7 l = H := ⟨_, rfl⟩
    rw [hH] at hg7
    have hHl : H.length = 7 := by rw [← hH, deb4s_len]
    have hHb : ∀ j, 0 ≤ H.getD j 0 ∧ H.getD j 0 < 4294967296 := fun j => by
      by_cases hj : j < H.length
      · have hm := deb4s_bd HB.out 7 (H[j]) (by rw [hH]; exact List.getElem_mem hj)
        simpa [hj] using hm
      · simp [hj]
    have i0 := hg7.at' 0 (by omega)
    have i1 := hg7.at' 1 (by omega)
    have i2 := hg7.at' 2 (by omega)
    have i6 := hg7.at' 6 (by omega)
    obtain ⟨h0, hh0⟩ : ∃ x, H.getD 0 0 = x := ⟨_, rfl⟩
    obtain ⟨h1, hh1⟩ : ∃ x, H.getD 1 0 = x := ⟨_, rfl⟩
    obtain ⟨h2, hh2⟩ : ∃ x, H.getD 2 0 = x := ⟨_, rfl⟩
    obtain ⟨h6, hh6⟩ : ∃ x, H.getD 6 0 = x := ⟨_, rfl⟩
    rw [hh0] at i0
    rw [hh1] at i1
    rw [hh2] at i2
    rw [hh6] at i6
    have hb0 := hHb 0
    rw [hh0] at hb0
    obtain ⟨n0, rfl⟩ : ∃ n : Nat, h0 = n := ⟨h0.toNat, by omega⟩
    have hn32 : (n0 : Int) < 4294967296 := hb0.2
    have hh0' := hh0
    have HHS := Lib.hid (And.intro hh0 (And.intro hh1 (And.intro hh2 hh6)))
    clear hh0 hh1 hh2 hh6 hb0
    have HHB := Lib.hid hHb
    have HHL := Lib.hid hHl
    have HH := Lib.hid hH
    have HG7 := Lib.hid hg7
    have HR1 := Lib.hid hr1
    have HK1 := Lib.hid hk1
    have HRZ : Hid (w1.heap[w.heap.size]? = some (.cells #[.slice none 0 0, .int .i64 0, .int .i64 0, .slice none 0 0, .slice none 0 0, .int .i64 0, .slice none 0 0] 31 (0, 0))) := HK1.out.heap HZ0.out (by have := HGB.out.2.1; simp; omega)
    clear hHb hHl hH hg7 hr1 hk1 hh0'
    have HKW := Lib.hid (fun (W : World) (hW : Below w1.heap.size w1 W) => (((Kept.ofBelow HB0.out [b]).trans HK1.out (fun i hi => .inl hi)).trans (Kept.ofBelow hW []) (by simp) : Kept [b] w W))
    go_upto_region 2 with fail
    go_cut [4] (fun s4 wx => ∃ bc po : Nat, s4 = .pointer (some ⟨bc, 0, none⟩) ∧ 4 * n0 ≤ l.length - 28 ∧ Hid (Cd1 w wx b g bc po o7 (l.drop (28 + 4 * n0)) n0 h1 h2 h6 (deb4s n0 (l.drop 28)) H))
    case first =>
     by_cases hp0 : 4 * n0 ≤ l.length - 28
     · have HS := Lib.hid (fun (W : World) (hW : Below w1.heap.size w1 W) => getNums_ok n0 b g (l.drop 28) (HB.out.drop _) W (HR1.out.later hW) (by rw [List.length_drop]; omega) (by rw [List.length_drop]; omega))
       have HO7 : Hid (o7 ≠ b) := fun e => by have := HGB.out.2.1; have := HB0.out.size; omega
       refine wp_region_held_drew (S := fun W => W.cell? ⟨o7, 0, none⟩ = some (.int .i64 n0) ∧ W.cell? ⟨o7, 1, none⟩ = some (.int .i64 h1) ∧ W.cell? ⟨o7, 2, none⟩ = some (.int .i64 h2) ∧ W.cell? ⟨o7, 6, none⟩ = some (.int .i64 h6)) (by kernel_rfl) (by go_keep) (fun hHeld => ?_)
       refine wpAnyH_take (i := 0) (v := .slice (some ⟨o7, 0, none⟩) 7 7) rfl (by kernel_rfl) (by kernel_rfl) (by kernel_rfl) (fun c a w => hq_body c a _ _ w) (Or.inl ⟨by rfl, ?_⟩) (by assumption) ?_
       · intro w hSw; (try dsimp only at hSw); go_simp
       simp only [Act.put]
       refine wpAnyH_take (i := 1) (v := .pointer (some ⟨o7, 1, none⟩)) rfl (by kernel_rfl) (by kernel_rfl) (by kernel_rfl) (fun c a w => hq_body c a _ _ w) (Or.inl ⟨by rfl, ?_⟩) (by assumption) ?_
       · intro w hSw; (try dsimp only at hSw); go_simp
       simp only [Act.put]
       refine wpAnyH_take (i := 2) (v := .int .i64 h1) rfl (by kernel_rfl) (by kernel_rfl) (by kernel_rfl) (fun c a w => hq_body c a _ _ w) (Or.inl ⟨by rfl, ?_⟩) (by assumption) ?_
       · intro w hSw; (try dsimp only at hSw); go_simp
       simp only [Act.put]
       refine wpAnyH_take (i := 3) (v := .slice (some ⟨o7, 0, none⟩) 7 7) rfl (by kernel_rfl) (by kernel_rfl) (by kernel_rfl) (fun c a w => hq_body c a _ _ w) (Or.inl ⟨by rfl, ?_⟩) (by assumption) ?_
       · intro w hSw; (try dsimp only at hSw); go_simp
       simp only [Act.put]
       refine wpAnyH_take (i := 4) (v := .pointer (some ⟨o7, 2, none⟩)) rfl (by kernel_rfl) (by kernel_rfl) (by kernel_rfl) (fun c a w => hq_body c a _ _ w) (Or.inl ⟨by rfl, ?_⟩) (by assumption) ?_
       · intro w hSw; (try dsimp only at hSw); go_simp
       simp only [Act.put]
       refine wpAnyH_take (i := 5) (v := .int .i64 h2) rfl (by kernel_rfl) (by kernel_rfl) (by kernel_rfl) (fun c a w => hq_body c a _ _ w) (Or.inl ⟨by rfl, ?_⟩) (by assumption) ?_
       · intro w hSw; (try dsimp only at hSw); go_simp
       simp only [Act.put]
       refine wpAnyH_take (i := 6) (v := .slice (some ⟨o7, 0, none⟩) 7 7) rfl (by kernel_rfl) (by kernel_rfl) (by kernel_rfl) (fun c a w => hq_body c a _ _ w) (Or.inl ⟨by rfl, ?_⟩) (by assumption) ?_
       · intro w hSw; (try dsimp only at hSw); go_simp
       simp only [Act.put]
       refine wpAnyH_take (i := 7) (v := .pointer (some ⟨o7, 6, none⟩)) rfl (by kernel_rfl) (by kernel_rfl) (by kernel_rfl) (fun c a w => hq_body c a _ _ w) (Or.inl ⟨by rfl, ?_⟩) (by assumption) ?_
       · intro w hSw; (try dsimp only at hSw); go_simp
       simp only [Act.put]
       refine wpAnyH_take (i := 8) (v := .int .i64 h6) rfl (by kernel_rfl) (by kernel_rfl) (by kernel_rfl) (fun c a w => hq_body c a _ _ w) (Or.inl ⟨by rfl, ?_⟩) (by assumption) ?_
       · intro w hSw; (try dsimp only at hSw); go_simp
       simp only [Act.put]
       refine wpAnyH_take (i := 9) (v := .pointer (some ⟨b, 0, none⟩)) rfl (by kernel_rfl) (by kernel_rfl) (by kernel_rfl) (fun c a w => hq_body c a _ _ w) (Or.inl ⟨by rfl, ?_⟩) (by assumption) ?_
       · intro w hSw; (try dsimp only at hSw); go_simp
       simp only [Act.put]
       refine wpAnyH_take (i := 10) (v := .slice (some ⟨o7, 0, none⟩) 7 7) rfl (by kernel_rfl) (by kernel_rfl) (by kernel_rfl) (fun c a w => hq_body c a _ _ w) (Or.inl ⟨by rfl, ?_⟩) (by assumption) ?_
       · intro w hSw; (try dsimp only at hSw); go_simp
       simp only [Act.put]
       refine wpAnyH_take (i := 11) (v := .pointer (some ⟨o7, 0, none⟩)) rfl (by kernel_rfl) (by kernel_rfl) (by kernel_rfl) (fun c a w => hq_body c a _ _ w) (Or.inl ⟨by rfl, ?_⟩) (by assumption) ?_
       · intro w hSw; (try dsimp only at hSw); go_simp
       simp only [Act.put]
       refine wpAnyH_take (i := 12) (v := .int .i64 n0) rfl (by kernel_rfl) (by kernel_rfl) (by kernel_rfl) (fun c a w => hq_body c a _ _ w) (Or.inl ⟨by rfl, ?_⟩) (by assumption) ?_
       · intro w hSw; (try dsimp only at hSw); go_simp
       simp only [Act.put]
       refine wpAnyH_ready (rs := [13, 15]) (by kernel_rfl) (by simp) ?_
       refine AllReadyH.cons rfl (fun K hK => ?_) ?_
       · go_simp
         refine (HS.out _ (below_drew2 (Below.refl _ _))).mono ?_
         rintro e w2 ⟨po, rfl, hpo, hgo, hro, hko⟩
         have j0 := hko.cell (a := ⟨o7, 0, none⟩) (by simpa using i0) (by simpa using HO7.out)
         have j1 := hko.cell (a := ⟨o7, 1, none⟩) (by simpa using i1) (by simpa using HO7.out)
         have j2 := hko.cell (a := ⟨o7, 2, none⟩) (by simpa using i2) (by simpa using HO7.out)
         have j6 := hko.cell (a := ⟨o7, 6, none⟩) (by simpa using i6) (by simpa using HO7.out)
         refine hK.out _ _ ⟨j0, j1, j2, j6⟩ (fun hHeld2 => ?_)
         clear hK K
         have HF : Hid (Cd1 w (w2.alloc (.cells #[.slice (some ⟨po, 0, none⟩) n0 n0, .int .i64 h1, .int .i64 h2, .slice none 0 0, .slice none 0 0, .int .i64 h6, .slice none 0 0] 31)) b g w2.heap.size po o7 (l.drop (28 + 4 * n0)) n0 h1 h2 h6 (deb4s n0 (l.drop 28)) H) := by
           have hb2 : Below w2.heap.size w2 (w2.alloc (.cells #[.slice (some ⟨po, 0, none⟩) n0 n0, .int .i64 h1, .int .i64 h2, .slice none 0 0, .slice none 0 0, .int .i64 h6, .slice none 0 0] 31)) := below_alloc (Below.refl _ _) _
           have hk2 : Kept [b] w w2 := (HKW.out _ (below_drew2 (Below.refl _ _))).trans hko (fun i hi => .inl hi)
           have s1 := (HKW.out _ (Below.refl _ _)).size
           have s2 : w1.heap.size ≤ w2.heap.size := hko.size
           have s3 := blk_lt hgo
           have s4 := blk_lt HG7.out
           have s0 := HB0.out.size
           have s7 := HGB.out
           have s8 := ho7
           have s9 := HW0.out
           have s6 := HK1.out.size
           have hpo2 : w1.heap.size ≤ po := hpo
           clear hpo
           rw [← List.drop_drop]
           exact ⟨blk_new _ _, blk_later hb2 hgo, hro.later hb2, hk2.next hb2, blk_later hb2 (hko.heap (k := o7) HG7.out (by simpa using HO7.out)), ⟨by omega, by omega, by omega, by omega, by omega⟩, blk_later hb2 (hko.heap (k := w.heap.size) HRZ.out (by simp; omega))⟩
         refine wpAnyH_take (i := 14) (v := .agg #[.slice (some ⟨po, 0, none⟩) n0 n0, .int .i64 h1, .int .i64 h2, .slice none 0 0, .slice none 0 0, .int .i64 h6, .slice none 0 0]) rfl (by kernel_rfl) (by kernel_rfl) (by kernel_rfl) (fun c a w => hq_body c a _ _ w) (Or.inl ⟨by rfl, ?_⟩) (by assumption) ?_
         · (intro w hSw; go_simp)
         simp only [Act.put]
         refine wpAnyH_ready (rs := [15]) (by kernel_rfl) (by simp) ?_
         refine AllReadyH.cons rfl (fun K hK => ?_) AllReadyH.nil
         go_simp
         refine hK.out _ _ (by go_keep) (fun hHeld3 => ?_)
         clear hK K
         refine wpAnyH_ready (rs := [16]) (by kernel_rfl) (by simp) ?_
         refine AllReadyH.cons rfl (fun K hK => ?_) AllReadyH.nil
         go_simp
         refine hK.out _ _ (by go_keep) (fun hHeld4 => ?_)
         clear hK K
         refine wpAnyH_done (by kernel_rfl) ?_ _
         go_wp2_with fail
         go_meet
         exact ⟨_, po, rfl, hp0, HF.out⟩
       refine AllReadyH.cons rfl (fun K hK => ?_) AllReadyH.nil
       go_simp
       refine hK.out _ _ (by go_keep) (fun hHeld2 => ?_)
       clear hK K
       refine wpAnyH_ready (rs := [13]) (by kernel_rfl) (by simp) ?_
       refine AllReadyH.cons rfl (fun K hK => ?_) AllReadyH.nil
       go_simp
       refine (HS.out _ (by first | exact below_drew2 (below_alloc (Below.refl _ _) _) | exact below_alloc (below_drew2 (Below.refl _ _)) _)).mono ?_
       rintro e w2 ⟨po, rfl, hpo, hgo, hro, hko⟩
       have j0 := hko.cell (a := ⟨o7, 0, none⟩) (cell_later (by first | exact below_drew2 (below_alloc (Below.refl _ _) _) | exact below_alloc (below_drew2 (Below.refl _ _)) _) i0) (by simpa using HO7.out)
       have j1 := hko.cell (a := ⟨o7, 1, none⟩) (cell_later (by first | exact below_drew2 (below_alloc (Below.refl _ _) _) | exact below_alloc (below_drew2 (Below.refl _ _)) _) i1) (by simpa using HO7.out)
       have j2 := hko.cell (a := ⟨o7, 2, none⟩) (cell_later (by first | exact below_drew2 (below_alloc (Below.refl _ _) _) | exact below_alloc (below_drew2 (Below.refl _ _)) _) i2) (by simpa using HO7.out)
       have j6 := hko.cell (a := ⟨o7, 6, none⟩) (cell_later (by first | exact below_drew2 (below_alloc (Below.refl _ _) _) | exact below_alloc (below_drew2 (Below.refl _ _)) _) i6) (by simpa using HO7.out)
       have hbne : w1.heap.size ≠ b := fun e => by have := HGB.out.2.1; have := HB0.out.size; have := HK1.out.size; omega
       have hbc := hko.heap (k := w1.heap.size) (blk_new w1 (.cells #[.slice none 0 0, .int .i64 0, .int .i64 0, .slice none 0 0, .slice none 0 0, .int .i64 0, .slice none 0 0] 31)) (by simpa using hbne)
       refine hK.out _ _ ⟨j0, j1, j2, j6⟩ (fun hHeld2 => ?_)
       clear hK K
       have z0 : w2.cell? ⟨w1.heap.size, 0, none⟩ = some (.slice none 0 0) := by rw [blk_cell hbc]; rfl
       have z1 : w2.cell? ⟨w1.heap.size, 1, none⟩ = some (.int .i64 0) := by rw [blk_cell hbc]; rfl
       have z2 : w2.cell? ⟨w1.heap.size, 2, none⟩ = some (.int .i64 0) := by rw [blk_cell hbc]; rfl
       have z3 : w2.cell? ⟨w1.heap.size, 3, none⟩ = some (.slice none 0 0) := by rw [blk_cell hbc]; rfl
       have z4 : w2.cell? ⟨w1.heap.size, 4, none⟩ = some (.slice none 0 0) := by rw [blk_cell hbc]; rfl
       have z5 : w2.cell? ⟨w1.heap.size, 5, none⟩ = some (.int .i64 0) := by rw [blk_cell hbc]; rfl
       have z6 : w2.cell? ⟨w1.heap.size, 6, none⟩ = some (.slice none 0 0) := by rw [blk_cell hbc]; rfl
       have y0 := blk_free hbc 0
       have y1 := blk_free hbc 1
       have y2 := blk_free hbc 2
       have y3 := blk_free hbc 3
       have y4 := blk_free hbc 4
       have y5 := blk_free hbc 5
       have y6 := blk_free hbc 6
       refine wpAnyH_take (i := 14) (v := .agg #[.slice (some ⟨po, 0, none⟩) n0 n0, .int .i64 h1, .int .i64 h2, .slice none 0 0, .slice none 0 0, .int .i64 h6, .slice none 0 0]) rfl (by kernel_rfl) (by kernel_rfl) (by kernel_rfl) (fun c a w => hq_body c a _ _ w) (Or.inl ⟨by rfl, ?_⟩) (by assumption) ?_
       · (intro w hSw; go_simp)
       simp only [Act.put]
       refine wpAnyH_ready (rs := [16]) (by kernel_rfl) (by simp) ?_
       refine AllReadyH.cons rfl (fun K hK => ?_) AllReadyH.nil
       go_simp
       have hno : w1.heap.size ≠ o7 := fun e => by have := blk_lt HG7.out; omega
       refine hK.out _ _ (by go_keep) (fun hHeld4 => ?_)
       clear hK K
       have HF : Hid (Cd1 w (((((((w2.setCell ⟨w1.heap.size, 0, none⟩ (.slice (some ⟨po, 0, none⟩) n0 n0)).setCell ⟨w1.heap.size, 1, none⟩ (.int .i64 h1)).setCell ⟨w1.heap.size, 2, none⟩ (.int .i64 h2)).setCell ⟨w1.heap.size, 3, none⟩ (.slice none 0 0)).setCell ⟨w1.heap.size, 4, none⟩ (.slice none 0 0)).setCell ⟨w1.heap.size, 5, none⟩ (.int .i64 h6)).setCell ⟨w1.heap.size, 6, none⟩ (.slice none 0 0)) b g w1.heap.size po o7 (l.drop (28 + 4 * n0)) n0 h1 h2 h6 (deb4s n0 (l.drop 28)) H) := by
         have hb2 : Below w1.heap.size w1 (w1.alloc (.cells #[.slice none 0 0, .int .i64 0, .int .i64 0, .slice none 0 0, .slice none 0 0, .int .i64 0, .slice none 0 0] 31)).drew := below_drew2 (below_alloc (Below.refl _ _) _)
         have hk2 : Kept [b] w w2 := (HKW.out _ hb2).trans hko (fun i hi => .inl hi)
         have e0 := blk_set hbc 0 (.slice (some ⟨po, 0, none⟩) n0 n0)
         have e1 := blk_set e0 1 (.int .i64 h1)
         have e2 := blk_set e1 2 (.int .i64 h2)
         have e3 := blk_set e2 3 (.slice none 0 0)
         have e4 := blk_set e3 4 (.slice none 0 0)
         have e5 := blk_set e4 5 (.int .i64 h6)
         have e6 := blk_set e5 6 (.slice none 0 0)
         have hk1 : Kept [w1.heap.size] w2 w2 := Kept.refl _ _
         have hks := (((((((hk1.set ⟨w1.heap.size, 0, none⟩ (.slice (some ⟨po, 0, none⟩) n0 n0) (.inl (by simp))).set ⟨w1.heap.size, 1, none⟩ (.int .i64 h1) (.inl (by simp))).set ⟨w1.heap.size, 2, none⟩ (.int .i64 h2) (.inl (by simp))).set ⟨w1.heap.size, 3, none⟩ (.slice none 0 0) (.inl (by simp))).set ⟨w1.heap.size, 4, none⟩ (.slice none 0 0) (.inl (by simp))).set ⟨w1.heap.size, 5, none⟩ (.int .i64 h6) (.inl (by simp))).set ⟨w1.heap.size, 6, none⟩ (.slice none 0 0) (.inl (by simp)))
         have s1 := (HKW.out _ (Below.refl _ _)).size
         have s3 := blk_lt hgo
         have s4 := blk_lt HG7.out
         have s0 := HB0.out.size
         have s5 := HGB.out
         have s6 := HK1.out.size
         have s9 := HW0.out
         have hpo2 : w1.heap.size + 1 ≤ po := by
           have : (w1.alloc (.cells #[.slice none 0 0, .int .i64 0, .int .i64 0, .slice none 0 0, .slice none 0 0, .int .i64 0, .slice none 0 0] 31)).heap.size ≤ po := hpo
           simpa using this
         rw [← List.drop_drop]
         refine ⟨by simpa using e6, hks.heap hgo (by simp; omega), hro.kept hks (by simp; omega) (by simp; omega), hk2.trans hks (fun i hi => .inr (by simp at hi; omega)), hks.heap (hko.heap (k := o7) (blk_later hb2 HG7.out) (by simpa using HO7.out)) (by simp; omega), ⟨by omega, by omega, by omega, by omega, by omega⟩, hks.heap (hko.heap (k := w.heap.size) (blk_later hb2 HRZ.out) (by simp; omega)) (by simp; omega)⟩
       refine wpAnyH_done (by kernel_rfl) ?_ _
       go_wp2_with fail
       go_meet
       exact ⟨_, po, rfl, hp0, HF.out⟩
     · have HS := Lib.hid (fun (W : World) (hW : Below w1.heap.size w1 W) => getNums_short (n0 : Int) b g (l.drop 28) W (HR1.out.later hW) (by rw [List.length_drop]; omega) hn32)
       have HP1 : Hid (parse l = none) := by
         show _ = _
         unfold parse rdInts
         rw [if_neg (by omega)]
         simp only [HH.out]
         unfold parse1 rdInts
         rw [HHS.out.1, if_pos (by simp only [Int.toNat_natCast, List.length_drop]; omega)]
       refine wp_region_held_drew (S := fun W => W.cell? ⟨o7, 0, none⟩ = some (.int .i64 n0) ∧ W.cell? ⟨o7, 1, none⟩ = some (.int .i64 h1) ∧ W.cell? ⟨o7, 2, none⟩ = some (.int .i64 h2) ∧ W.cell? ⟨o7, 6, none⟩ = some (.int .i64 h6)) (by kernel_rfl) (by go_keep) (fun hHeld => ?_)
       refine wpAnyH_take (i := 0) (v := .slice (some ⟨o7, 0, none⟩) 7 7) rfl (by kernel_rfl) (by kernel_rfl) (by kernel_rfl) (fun c a w => hq_body c a _ _ w) (Or.inl ⟨by rfl, ?_⟩) (by assumption) ?_
       · intro w hSw; (try dsimp only at hSw); go_simp
       simp only [Act.put]
       refine wpAnyH_take (i := 1) (v := .pointer (some ⟨o7, 1, none⟩)) rfl (by kernel_rfl) (by kernel_rfl) (by kernel_rfl) (fun c a w => hq_body c a _ _ w) (Or.inl ⟨by rfl, ?_⟩) (by assumption) ?_
       · intro w hSw; (try dsimp only at hSw); go_simp
       simp only [Act.put]
       refine wpAnyH_take (i := 2) (v := .int .i64 h1) rfl (by kernel_rfl) (by kernel_rfl) (by kernel_rfl) (fun c a w => hq_body c a _ _ w) (Or.inl ⟨by rfl, ?_⟩) (by assumption) ?_
       · intro w hSw; (try dsimp only at hSw); go_simp
       simp only [Act.put]
       refine wpAnyH_take (i := 3) (v := .slice (some ⟨o7, 0, none⟩) 7 7) rfl (by kernel_rfl) (by kernel_rfl) (by kernel_rfl) (fun c a w => hq_body c a _ _ w) (Or.inl ⟨by rfl, ?_⟩) (by assumption) ?_
       · intro w hSw; (try dsimp only at hSw); go_simp
       simp only [Act.put]
       refine wpAnyH_take (i := 4) (v := .pointer (some ⟨o7, 2, none⟩)) rfl (by kernel_rfl) (by kernel_rfl) (by kernel_rfl) (fun c a w => hq_body c a _ _ w) (Or.inl ⟨by rfl, ?_⟩) (by assumption) ?_
       · intro w hSw; (try dsimp only at hSw); go_simp
       simp only [Act.put]
       refine wpAnyH_take (i := 5) (v := .int .i64 h2) rfl (by kernel_rfl) (by kernel_rfl) (by kernel_rfl) (fun c a w => hq_body c a _ _ w) (Or.inl ⟨by rfl, ?_⟩) (by assumption) ?_
       · intro w hSw; (try dsimp only at hSw); go_simp
       simp only [Act.put]
       refine wpAnyH_take (i := 6) (v := .slice (some ⟨o7, 0, none⟩) 7 7) rfl (by kernel_rfl) (by kernel_rfl) (by kernel_rfl) (fun c a w => hq_body c a _ _ w) (Or.inl ⟨by rfl, ?_⟩) (by assumption) ?_
       · intro w hSw; (try dsimp only at hSw); go_simp
       simp only [Act.put]
       refine wpAnyH_take (i := 7) (v := .pointer (some ⟨o7, 6, none⟩)) rfl (by kernel_rfl) (by kernel_rfl) (by kernel_rfl) (fun c a w => hq_body c a _ _ w) (Or.inl ⟨by rfl, ?_⟩) (by assumption) ?_
       · intro w hSw; (try dsimp only at hSw); go_simp
       simp only [Act.put]
       refine wpAnyH_take (i := 8) (v := .int .i64 h6) rfl (by kernel_rfl) (by kernel_rfl) (by kernel_rfl) (fun c a w => hq_body c a _ _ w) (Or.inl ⟨by rfl, ?_⟩) (by assumption) ?_
       · intro w hSw; (try dsimp only at hSw); go_simp
       simp only [Act.put]
       refine wpAnyH_take (i := 9) (v := .pointer (some ⟨b, 0, none⟩)) rfl (by kernel_rfl) (by kernel_rfl) (by kernel_rfl) (fun c a w => hq_body c a _ _ w) (Or.inl ⟨by rfl, ?_⟩) (by assumption) ?_
       · intro w hSw; (try dsimp only at hSw); go_simp
       simp only [Act.put]
       refine wpAnyH_take (i := 10) (v := .slice (some ⟨o7, 0, none⟩) 7 7) rfl (by kernel_rfl) (by kernel_rfl) (by kernel_rfl) (fun c a w => hq_body c a _ _ w) (Or.inl ⟨by rfl, ?_⟩) (by assumption) ?_
       · intro w hSw; (try dsimp only at hSw); go_simp
       simp only [Act.put]
       refine wpAnyH_take (i := 11) (v := .pointer (some ⟨o7, 0, none⟩)) rfl (by kernel_rfl) (by kernel_rfl) (by kernel_rfl) (fun c a w => hq_body c a _ _ w) (Or.inl ⟨by rfl, ?_⟩) (by assumption) ?_
       · intro w hSw; (try dsimp only at hSw); go_simp
       simp only [Act.put]
       refine wpAnyH_take (i := 12) (v := .int .i64 n0) rfl (by kernel_rfl) (by kernel_rfl) (by kernel_rfl) (fun c a w => hq_body c a _ _ w) (Or.inl ⟨by rfl, ?_⟩) (by assumption) ?_
       · intro w hSw; (try dsimp only at hSw); go_simp
       simp only [Act.put]
       have PAN : ∀ W, Kept [b] w W → CodeR w b l (.panicked shortP) W := fun W hW => ⟨hW, .inr ⟨HP1.out, rfl⟩⟩
       have KW := HKW.out
       refine wpAnyH_ready (rs := [13, 15]) (by kernel_rfl) (by simp) ?_
       refine AllReadyH.cons rfl (fun K hK => ?_) ?_
       · go_simp
         refine (HS.out _ (below_drew2 (Below.refl _ _))).mono ?_
         rintro e w2 ⟨rfl, rfl⟩
         exact ⟨rfl, PAN _ (KW _ (below_drew2 (Below.refl _ _)))⟩
       refine AllReadyH.cons rfl (fun K hK => ?_) ?_
       · go_simp
         refine hK.out _ _ ?_ (fun hHeld2 => ?_)
         · go_keep
         clear hK K

         refine wpAnyH_ready (rs := [13]) (by kernel_rfl) (by simp) ?_
         refine AllReadyH.cons rfl (fun K hK => ?_) ?_
         · go_simp
           refine (HS.out _ (by first | exact below_drew2 (below_alloc (Below.refl _ _) _) | exact below_alloc (below_drew2 (Below.refl _ _)) _)).mono ?_
           rintro e w2 ⟨rfl, rfl⟩
           exact ⟨rfl, PAN _ (KW _ (by first | exact below_drew2 (below_alloc (Below.refl _ _) _) | exact below_alloc (below_drew2 (Below.refl _ _)) _))⟩
         exact AllReadyH.nil
       exact AllReadyH.nil
    case rest =>
      obtain ⟨bc, po, rfl, hp0, hcd⟩ := hcut
      obtain ⟨wB, rfl⟩ : ∃ W, W = wc := ⟨_, rfl⟩
      have HPE : Hid (parse l = match many pCh (H.getD 3 0).toNat (l.drop (28 + 4 * n0)) with
          | none => none
          | some (cs, l3) => match many pFn (H.getD 4 0).toNat l3 with
            | none => none
            | some (fs, l4) => match many pIns (H.getD 5 0).toNat l4 with
              | none => none
              | some (bo, l5) => if l5 = [] then some ⟨deb4s n0 (l.drop 28), h1, h2, cs, fs, h6, bo⟩ else none) := by
        show _ = _
        unfold parse rdInts
        rw [if_neg (by omega)]
        simp only [HH.out]
        unfold parse1 rdInts
        rw [HHS.out.1, if_neg (by simp only [Int.toNat_natCast, List.length_drop]; omega), HHS.out.2.1, HHS.out.2.2.1, HHS.out.2.2.2]
        simp only [Int.toNat_natCast, List.drop_drop]
        rfl
      clear HN HKW HR1 HK1 HG7 i0 i1 i2 i6 ho7 hw0 HR
      have i3 := hcd.out.hh.at' 3 (by rw [HHL.out]; omega)
      obtain ⟨h3, hh3⟩ : ∃ x, H.getD 3 0 = x := ⟨_, rfl⟩
      rw [hh3] at i3
      have hb3 := HHB.out 3
      rw [hh3] at hb3
      obtain ⟨n3, rfl⟩ : ∃ n : Nat, h3 = n := ⟨h3.toNat, by omega⟩
      have hn3 : (n3 : Int) < 4294967296 := hb3.2
      have HH3 := Lib.hid hh3
      have hbcl := blk_lt hcd.out.hd
      clear hh3 hb3
      have HL0 : Hid (Lp wB wB b g bc (l.drop (28 + 4 * n0)) #[.slice (some ⟨po, 0, none⟩) n0 n0, .int .i64 h1, .int .i64 h2, .slice none 0 0, .slice none 0 0, .int .i64 h6, .slice none 0 0] 70 2 (.slice none 0 0) 0 (ccells [])) := by
        have s0 := hcd.out.kb.size
        have hg := HGB.out
        have hne := hcd.out.ne
        exact ⟨KeptX.refl _ _, hcd.out.hd, hcd.out.rd, by simpa [ccells] using Row.empty _ _ _ _, by simp [blk], hbcl, by omega, by omega, by omega, by omega⟩
      go_wp2_with fail
      go_loopw [26] (fun iv wr => ∃ (k : Nat) (v : Value) (cs : List (Int × Int)) (l' : List Int), k ≤ n3 ∧ iv = .int .i64 k ∧ Hid (many pCh k (l.drop (28 + 4 * n0)) = some (cs, l') ∧ Byt l' ∧ l'.length + 8 * k ≤ 1000000 ∧ Lp wB wr b g bc l' #[.slice (some ⟨po, 0, none⟩) n0 n0, .int .i64 h1, .int .i64 h2, v, .slice none 0 0, .int .i64 h6, .slice none 0 0] 70 2 v k (ccells cs))) (fun iv _ => n3 - (intOf iv).toNat)
      case atStart => exact ⟨0, _, [], _, Nat.zero_le _, rfl, rfl, HB.out.drop _, by rw [List.length_drop]; omega, HL0.out⟩
      case round =>
        clear HL0 i3
        obtain ⟨k, v, cs, l', hk, rfl, hP⟩ := hrel
        obtain ⟨A, cp, rfl, hnc, hcm, _, _⟩ := hP.out.2.2.2.row.form
        by_cases hlt : k < n3
        · have q3 : wr.cell? ⟨bc, 3, none⟩ = some (.slice A k cp) := by rw [blk_cell hP.out.2.2.2.hd]; rfl
          have p3 := blk_free hP.out.2.2.2.hd 3
          have hKB := Lib.hid (hP.out.2.2.2.kb hcd.out.kb (Nat.le_of_lt hcd.out.ne.1))
          have PAN : Hid (l'.length < 8 → ∀ W, Kept [b] w W → CodeR w b l (.panicked shortP) W) := fun hs W hW => ⟨hW, .inr ⟨by rw [HPE.out, HH3.out]; simp only [Int.toNat_natCast]; rw [many_none k n3 hP.out.1 (pCh_none hs) hlt], rfl⟩⟩
          have HRD := Lib.hid (fun (W : World) (hW : Below wr.heap.size wr W) => hP.out.2.2.2.rd.later hW)
          go_wp2_with fail
          go_region_law (first
            | ((refine step_num (by rfl) _ _ (by rfl) (by rfl) hP.out.2.1 (HRD.out _ (below_drew2 (Below.refl _ _))) (fun hlt => And.intro rfl (PAN.out (by omega) _ (hKB.out.drew))) ?_; intro hge1 w2 hr2 hk2; have q3b := hk2.cell (a := ⟨bc, 3, none⟩) (v := .slice A k cp) (by simpa using q3) (by simp; exact fun e => hP.out.2.2.2.sz.2.2.1 e.symm)))
            | ((refine step_num (by rfl) _ _ (by rfl) (by rfl) (hP.out.2.1.drop 4) hr2 (fun hlt => And.intro rfl (PAN.out (by rw [List.length_drop] at hlt; omega) _ (hKB.out.drew.trans hk2 (fun i hi => .inl hi)))) ?_; intro hge2 w3 hr3 hk3; have q3c := hk3.cell (a := ⟨bc, 3, none⟩) (v := .slice A k cp) q3b (by simp; exact fun e => hP.out.2.2.2.sz.2.2.1 e.symm); have q3d : ∀ (cs : Array Value) (T : TypeId), (w3.alloc (.cells cs T)).cell? ⟨bc, 3, none⟩ = some (.slice A k cp) := fun cs T => cell_later (below_alloc (Below.refl _ _) _) q3c; have hL3 := Lib.hid (((hP.out.2.2.2.later (below_drew2 (Below.refl _ _))).read hk2 hr2).read hk3 hr3)))
            | ((refine step_append_row (by rfl) _ _ _ 70 _ 2 16 (by rfl) Tryd.underlying28 infoCh (by rfl) (by omega) (.slice A k cp) k (ccells cs) (by rfl) (hL3.out.row.kept (Kept.ofBelow (below_alloc (Below.refl _ _) _) []) (by simp)) (some ⟨w3.heap.size, 0, none⟩) 1 1 [.int .i64 (deb (l'.take 4)), .int .i64 (deb ((l'.drop 4).take 4))] (by rfl) (by rfl) (by simp) (by omega) (rd_blkW (T := 70) (blk_new w3 _) (by simp [maxLen])) (by simp [Value.oneCell']) (by have := hP.out.2.2.1; simp only [maxLen]; omega) (by have := hP.out.2.2.1; omega) ?_; intro v1 w4 hrow4 hkk hb4; obtain ⟨A3, c3, rfl, _⟩ := hrow4.form; have q4 := hkk.cell (a := ⟨bc, 3, none⟩) (q3d _ _) (fun hx => by have := hP.out.2.2.2.own bc hx; have := hP.out.2.2.2.sz.1; omega); have p4 := (hkk.frozen (a := ⟨bc, 3, none⟩) (by have := hL3.out.sz.1; have := hL3.out.kx.size; simp; omega) (fun hx => by have := hP.out.2.2.2.own bc hx; have := hP.out.2.2.2.sz.1; omega)).trans (frozen_then (below_alloc (Below.refl _ _) _) (blk_lt hL3.out.hd) (blk_free hL3.out.hd 3)); have hN := Lib.hid (hL3.out.push (xs' := ccells (cs ++ [(deb (l'.take 4), deb ((l'.drop 4).take 4))])) (below_alloc (Below.refl _ _) _) hkk (by rw [← ccells_snoc]; exact hrow4) hb4 3))))
          all_goals
            have HNX : Hid (many pCh (k + 1) (l.drop (28 + 4 * n0)) = some (cs ++ [(deb (l'.take 4), deb ((l'.drop 4).take 4))], (l'.drop 4).drop 4) ∧ Byt ((l'.drop 4).drop 4) ∧ ((l'.drop 4).drop 4).length + 8 * (k + 1) ≤ 1000000) := by
              have h8 : 8 ≤ l'.length := by rw [List.length_drop] at hge2; omega
              have hl8 := hP.out.2.2.1
              refine ⟨?_, (hP.out.2.1.drop 4).drop 4, by rw [List.length_drop, List.length_drop]; omega⟩
              have hs := many_snoc k hP.out.1 (pCh_some h8)
              rw [List.drop_drop]
              exact hs
            clear hr2 hk2 q3b hr3 hk3 q3c q3d hrow4 hkk hb4 q4 p4
            go_wp2_with fail
            go_roundw
            case rel => exact ⟨k + 1, _, _, _, by omega, by go_num, HNX.out.1, HNX.out.2.1, HNX.out.2.2, hN.out⟩
            case measure => simp [intOf]; omega
        · obtain rfl : k = n3 := by omega
          have hl2 := hP.out.2.2.2
          have HC2 := Lib.hid (cd2_of hcd.out HGB.out.2.1 hl2)
          have HPE2 : Hid (parse l = match many pFn (H.getD 4 0).toNat l' with
            | none => none
            | some (fs, l4) => match many pIns (H.getD 5 0).toNat l4 with
              | none => none
              | some (bo, l5) => if l5 = [] then some ⟨deb4s n0 (l.drop 28), h1, h2, cs, fs, h6, bo⟩ else none) := by
            show _ = _
            rw [HPE.out, HH3.out]
            simp only [Int.toNat_natCast, hP.out.1]
          have i4 := HC2.out.hh.at' 4 (by rw [HHL.out]; omega)
          obtain ⟨h4, hh4⟩ : ∃ x, H.getD 4 0 = x := ⟨_, rfl⟩
          rw [hh4] at i4
          have hb4 := HHB.out 4
          rw [hh4] at hb4
          obtain ⟨n4, rfl⟩ : ∃ n : Nat, h4 = n := ⟨h4.toNat, by omega⟩
          have hn4 : (n4 : Int) < 4294967296 := hb4.2
          have HH4 := Lib.hid hh4
          clear hh4 hb4
          have HL2 : Hid (Lp wr wr b g bc l' #[.slice (some ⟨po, 0, none⟩) n0 n0, .int .i64 h1, .int .i64 h2, .slice A k cp, .slice none 0 0, .int .i64 h6, .slice none 0 0] 26 3 (.slice none 0 0) 0 (fcells [])) := by
            have s0 := hl2.sz
            have s1 := hl2.kx.size
            exact ⟨KeptX.refl _ _, hl2.hd, hl2.rd, by simpa [fcells] using Row.empty _ _ _ _, by simp [blk], by omega, by omega, by omega, by omega, by omega⟩
          have HBY := Lib.hid hP.out.2.1
          have HLL : Hid (l'.length ≤ 1000000) := by have := hP.out.2.2.1; show _ ≤ _; omega
          have HLK : Hid (8 * k ≤ 1000000) := by have := hP.out.2.2.1; show _ ≤ _; omega
          clear hl2 hP
          obtain ⟨wC, rfl⟩ : ∃ W, W = wr := ⟨_, rfl⟩
          obtain ⟨V3, hV3⟩ : ∃ V : Value, V = .slice A k cp := ⟨_, rfl⟩
          rw [← hV3] at HL2 HC2
          have HV3 := Lib.hid hV3
          clear hV3
          go_wp2_with fail
          go_loopw [42] (fun iv wr => ∃ (k : Nat) (v : Value) (fs : List Fn) (l2 : List Int), k ≤ n4 ∧ iv = .int .i64 k ∧ Hid (many pFn k l' = some (fs.map Fn.pf, l2) ∧ Byt l2 ∧ l2.length + 12 * k ≤ 1000000 ∧ Lp wC wr b g bc l2 #[.slice (some ⟨po, 0, none⟩) n0 n0, .int .i64 h1, .int .i64 h2, V3, v, .int .i64 h6, .slice none 0 0] 26 3 v k (fcells fs) ∧ Los wC.heap.size wr v fs)) (fun iv _ => n4 - (intOf iv).toNat)
          case atStart => exact ⟨0, _, [], _, Nat.zero_le _, rfl, rfl, HBY.out, by have := HLL.out; omega, HL2.out, fun f hf => by simp at hf⟩
          case round =>
            clear HL2 i4
            obtain ⟨kk, v, fs, l2, hk, rfl, hP⟩ := hrel
            obtain ⟨A2, cp2, rfl, hnc, hcm, _, _⟩ := hP.out.2.2.2.1.row.form
            by_cases hlt : kk < n4
            · have hLp := Lib.hid hP.out.2.2.2.1
              have q4 : wr.cell? ⟨bc, 4, none⟩ = some (.slice A2 kk cp2) := by rw [blk_cell hLp.out.hd]; rfl
              have hKB := Lib.hid (HC2.out.keep hLp.out.kx).kb
              have PAN : Hid (pFn l2 = none → ∀ W, Kept [b] w W → CodeR w b l (.panicked shortP) W) := fun hs W hW => ⟨hW, .inr ⟨by rw [HPE2.out, HH4.out]; simp only [Int.toNat_natCast]; rw [many_none kk n4 hP.out.1 hs hlt], rfl⟩⟩
              have hbb : b ≠ bc := hLp.out.sz.2.2.1
              by_cases h12 : 12 ≤ l2.length
              · have hne := Lib.hid hbb
                clear hbb
                go_wp2_with fail
                refine (num_ok b g l2 hP.out.2.1 wr hLp.out.rd (by omega)).mono ?_
                rintro e w2 ⟨rfl, hr2, hk2⟩
                have hL2 := Lib.hid (hLp.out.read hk2 hr2)
                have hT2 := Lib.hid (hP.out.2.2.2.2.kept hk2 (fun j hj => by simp at hj; subst hj; exact .inl hLp.out.sz.2.1))
                have hB2 := Lib.hid (hKB.out.trans hk2 (fun i hi => .inl hi))
                clear hr2 hk2
                go_wp2_with fail
                refine (num_ok b g (l2.drop 4) (hP.out.2.1.drop 4) w2 hL2.out.rd (by rw [List.length_drop]; omega)).mono ?_
                rintro e w3 ⟨rfl, hr3, hk3⟩
                have hL3 := Lib.hid (hL2.out.read hk3 hr3)
                have hT3 := Lib.hid (hT2.out.kept hk3 (fun j hj => by simp at hj; subst hj; exact .inl hLp.out.sz.2.1))
                have hB3 := Lib.hid (hB2.out.trans hk3 (fun i hi => .inl hi))
                clear hr3 hk3 q4
                have hb4 : Below w3.heap.size w3 (w3.alloc (.cells #[.int .i64 (deb (l2.take 4)), .int .i64 (deb ((l2.drop 4).take 4)), .slice none 0 0] 26)) := below_alloc (Below.refl _ _) _
                have hL4 := Lib.hid (hL3.out.later hb4)
                have hT4 := Lib.hid (hT3.out.kept (Kept.ofBelow hb4 []) (by simp))
                have hB4 := Lib.hid (hB3.out.next hb4)
                have hX4 := Lib.hid (blk_new w3 (.cells #[.int .i64 (deb (l2.take 4)), .int .i64 (deb ((l2.drop 4).take 4)), .slice none 0 0] 26))
                clear hb4
                go_wp2_with fail
                refine (num_ok b g ((l2.drop 4).drop 4) ((hP.out.2.1.drop 4).drop 4) _ hL4.out.rd (by rw [List.length_drop, List.length_drop]; omega)).mono ?_
                rintro e w5 ⟨rfl, hr5, hk5⟩
                have hd3 := deb4 ((hP.out.2.1.drop 4).drop 4)
                obtain ⟨D3, hD3⟩ : ∃ D, deb (((l2.drop 4).drop 4).take 4) = D := ⟨_, rfl⟩
                rw [hD3] at hd3 ⊢
                obtain ⟨m, rfl⟩ : ∃ m : Nat, D3 = m := ⟨D3.toNat, by omega⟩
                have hm32 : (m : Int) < 4294967296 := hd3.2
                have HD3 : Hid (deb ((l2.drop 8).take 4) = m) := by show _ = _; rw [← hD3, List.drop_drop]
                clear hD3 hd3
                have hL5 := Lib.hid (hL4.out.read hk5 hr5)
                have hT5 := Lib.hid (hT4.out.kept hk5 (fun j hj => by simp at hj; subst hj; exact .inl hLp.out.sz.2.1))
                have hB5 := Lib.hid (hB4.out.trans hk5 (fun i hi => .inl hi))
                have hX5 := Lib.hid (hk5.heap hX4.out (by have := hL3.out.sz.2.1; have := hL3.out.kx.size; simp; omega))
                have hx3 : wC.heap.size ≤ w3.heap.size := hL3.out.kx.size
                have hx5 : w3.heap.size < w5.heap.size := blk_lt hX5.out
                have hnv : Hid (w3.heap.size ∉ blk (.slice A2 kk cp2)) := fun hx => by have := hL3.out.row.lt _ hx; omega
                have hv5 : Hid (∀ j ∈ blk (.slice A2 kk cp2), j < w3.heap.size) := hL3.out.row.lt
                clear hr5 hk5
                go_wp2_with fail
                by_cases hfew : 12 + 4 * m ≤ l2.length
                · refine (getNums_ok m b g (((l2.drop 4).drop 4).drop 4) (((hP.out.2.1.drop 4).drop 4).drop 4) w5 hL5.out.rd (by simp only [List.length_drop]; omega) (by have := hP.out.2.2.1; simp only [List.length_drop]; omega)).mono ?_
                  rintro e w6 ⟨lo, rfl, hlo, hg6, hr6, hk6⟩
                  have hL6 := Lib.hid (hL5.out.read hk6 hr6)
                  have hT6 := Lib.hid (hT5.out.kept hk6 (fun j hj => by simp at hj; subst hj; exact .inl hLp.out.sz.2.1))
                  have hB6 := Lib.hid (hB5.out.trans hk6 (fun i hi => .inl hi))
                  have hX6 := Lib.hid (hk6.heap hX5.out (by have := hL3.out.sz.2.1; simp; omega))
                  have hG6 := Lib.hid hg6
                  obtain ⟨y0, y1, y2, y3⟩ := blk3b hX6.out
                  have x2 := blk_free hX6.out 2
                  have hs6 : w3.heap.size < w6.heap.size := blk_lt hX6.out
                  have q4 : w6.cell? ⟨bc, 4, none⟩ = some (.slice A2 kk cp2) := by rw [blk_cell hL6.out.hd]; rfl
                  have hbc3 : w3.heap.size ≠ bc := by have := hL3.out.sz.1; omega
                  have hbc3' : bc ≠ w3.heap.size := fun e => hbc3 e.symm
                  have hk7 : Kept [w3.heap.size] w6 (w6.setCell ⟨w3.heap.size, 2, none⟩ (.slice (some ⟨lo, 0, none⟩) m m)) := (Kept.refl _ _).set _ _ (.inl (by simp))
                  have hL7 := Lib.hid (hL6.out.box hk7 hx3 hnv.out)
                  have hlo3 : lo ≠ w3.heap.size := by omega
                  have hT7 : Hid (Los wC.heap.size (w6.setCell ⟨w3.heap.size, 2, none⟩ (.slice (some ⟨lo, 0, none⟩) m m)) (.slice A2 kk cp2) fs) := fun f hf => by
                    obtain ⟨l9, z1, z2, z3, z4, z5⟩ := hT6.out f hf
                    have z6 := hT3.out.lt f hf l9 z1
                    exact ⟨l9, z1, z2, hk7.heap z3 (by simp; omega), z4, z5⟩
                  have hG7 := Lib.hid (hk7.heap hG6.out (by simpa using hlo3))
                  have hB7 := Lib.hid (hB6.out.trans hk7 (fun i hi => .inr (by simp at hi; have := HC2.out.kb.size; omega)))
                  have hlv : Hid (lo ∉ blk (.slice A2 kk cp2)) := fun hx => by have := hv5.out lo hx; omega
                  clear hr6 hk6 hg6 hk7
                  have q7 : (w6.setCell ⟨w3.heap.size, 2, none⟩ (.slice (some ⟨lo, 0, none⟩) m m)).cell? ⟨bc, 4, none⟩ = some (.slice A2 kk cp2) := by rw [blk_cell hL7.out.hd]; rfl
                  have e7 := blk_set hX6.out 2 (.slice (some ⟨lo, 0, none⟩) m m)
                  have r0 : (w6.setCell ⟨w3.heap.size, 2, none⟩ (.slice (some ⟨lo, 0, none⟩) m m)).cell? ⟨w3.heap.size, 0, none⟩ = some (.int .i64 (deb (l2.take 4))) := by rw [blk_cell e7]; rfl
                  have r1 : (w6.setCell ⟨w3.heap.size, 2, none⟩ (.slice (some ⟨lo, 0, none⟩) m m)).cell? ⟨w3.heap.size, 1, none⟩ = some (.int .i64 (deb ((l2.drop 4).take 4))) := by rw [blk_cell e7]; rfl
                  have r2 : (w6.setCell ⟨w3.heap.size, 2, none⟩ (.slice (some ⟨lo, 0, none⟩) m m)).cell? ⟨w3.heap.size, 2, none⟩ = some (.slice (some ⟨lo, 0, none⟩) m m) := by rw [blk_cell e7]; rfl
                  clear e7
                  go_upto_region 11 with fail
                  clear q4 y0 y1 y2 y3 x2 hs6 hB6 hX6 hT6 hL6 hG6
                  generalize w6.setCell ⟨w3.heap.size, 2, none⟩ (.slice (some ⟨lo, 0, none⟩) m m) = w7 at hL7 hT7 hG7 hB7 q7 r0 r1 r2 ⊢
                  go_wp2_with (at_builtin; refine append_row (by rfl) _ _ _ 26 _ 3 40 (by rfl) Tryd.underlying27 infoFn (by rfl) (by omega) (.slice A2 kk cp2) kk (fcells fs) (by rfl) (hL7.out.row.kept (Kept.ofBelow (below_alloc (Below.refl _ _) _) []) (by simp)) (some ⟨w7.heap.size, 0, none⟩) 1 1 [.int .i64 (deb (l2.take 4)), .int .i64 (deb ((l2.drop 4).take 4)), .slice (some ⟨lo, 0, none⟩) m m] (by rfl) (by rfl) (by simp) (by omega) (rd_blkW (T := 26) (blk_new w7 _) (by simp [maxLen])) (by simp [Value.oneCell']) (by have := hP.out.2.2.1; simp only [maxLen]; omega) (by have := hP.out.2.2.1; omega) ?_; intro v1 w8 hrow8 hkk8 hb8; obtain ⟨A3, c3, rfl, _⟩ := hrow8.form; have q8 := hkk8.cell (a := ⟨bc, 4, none⟩) (cell_later (below_alloc (Below.refl _ _) _) q7) (fun hx => by have := hLp.out.own bc hx; have := hLp.out.sz.1; omega); have p8 := (hkk8.frozen (a := ⟨bc, 4, none⟩) (by have := hL7.out.sz.1; have := hL7.out.kx.size; simp; omega) (fun hx => by have := hLp.out.own bc hx; have := hLp.out.sz.1; omega)).trans (frozen_then (below_alloc (Below.refl _ _) _) (blk_lt hL7.out.hd) (blk_free hL7.out.hd 4)))
                  have hd12 : ((l2.drop 4).drop 4).drop 4 = l2.drop 12 := by rw [List.drop_drop, List.drop_drop]
                  have HN : Hid (many pFn (kk + 1) l' = some ((fs ++ [(⟨deb (l2.take 4), deb ((l2.drop 4).take 4), some ⟨lo, 0, none⟩, m, deb4s m (l2.drop 12)⟩ : Fn)]).map Fn.pf, (l2.drop 12).drop (4 * m)) ∧ Byt ((l2.drop 12).drop (4 * m)) ∧ ((l2.drop 12).drop (4 * m)).length + 12 * (kk + 1) ≤ 1000000 ∧
                      Lp wC (w8.setCell ⟨bc, 4, none⟩ (.slice A3 (kk + 1) c3)) b g bc ((l2.drop 12).drop (4 * m)) #[.slice (some ⟨po, 0, none⟩) n0 n0, .int .i64 h1, .int .i64 h2, V3, .slice A3 (kk + 1) c3, .int .i64 h6, .slice none 0 0] 26 3 (.slice A3 (kk + 1) c3) (kk + 1) (fcells (fs ++ [(⟨deb (l2.take 4), deb ((l2.drop 4).take 4), some ⟨lo, 0, none⟩, m, deb4s m (l2.drop 12)⟩ : Fn)])) ∧
                      Los wC.heap.size (w8.setCell ⟨bc, 4, none⟩ (.slice A3 (kk + 1) c3)) (.slice A3 (kk + 1) c3) (fs ++ [(⟨deb (l2.take 4), deb ((l2.drop 4).take 4), some ⟨lo, 0, none⟩, m, deb4s m (l2.drop 12)⟩ : Fn)])) := by
                    have hL7' := hL7.out
                    have hG7' := hG7.out
                    rw [hd12] at hL7' hG7'
                    have hrow9 : Row w8 26 3 (.slice A3 (kk + 1) c3) (kk + 1) (fcells (fs ++ [(⟨deb (l2.take 4), deb ((l2.drop 4).take 4), some ⟨lo, 0, none⟩, m, deb4s m (l2.drop 12)⟩ : Fn)])) := by
                      rw [← fcells_snoc]
                      show Row _ _ _ _ _ (fcells fs ++ [.int .i64 _, .int .i64 _, .slice (some ⟨lo, 0, none⟩) (deb4s m (l2.drop 12)).length m])
                      rw [deb4s_len]
                      exact hrow8
                    refine ⟨?_, (hP.out.2.1.drop 12).drop _, by have := hP.out.2.2.1; simp only [List.length_drop]; omega, hL7'.push (below_alloc (Below.refl _ _) _) hkk8 hrow9 hb8 4, ?_⟩
                    · rw [List.map_append]
                      exact many_snoc kk hP.out.1 (pFn_some HD3.out hfew)
                    · exact hT7.out.push (f := ⟨deb (l2.take 4), deb ((l2.drop 4).take 4), some ⟨lo, 0, none⟩, m, deb4s m (l2.drop 12)⟩) (lo := lo) rfl (by show m = (deb4s m (l2.drop 12)).length ∧ (deb4s m (l2.drop 12)).length ≤ 1000000; rw [deb4s_len]; exact ⟨rfl, by have := hP.out.2.2.1; omega⟩) hG7' (by omega) hlv.out (below_alloc (Below.refl _ _) _) hkk8 hb8 hLp.out.sz.1 4 _
                  clear hrow8 hkk8 hb8 q8 p8 q7 r0 r1 r2
                  go_roundw
                  case rel => exact ⟨kk + 1, _, _, _, by omega, by go_num, HN.out⟩
                  case measure => simp [intOf]; omega
                · refine (getNums_short (m : Int) b g (((l2.drop 4).drop 4).drop 4) w5 hL5.out.rd (by simp only [List.length_drop]; omega) hm32).mono ?_
                  rintro e w6 ⟨rfl, rfl⟩
                  exact And.intro rfl (PAN.out (pFn_few (by rw [HD3.out]; simp; omega)) _ hB5.out)
              · have PAN2 := Lib.hid (PAN.out (pFn_short (by omega)))
                have hne := Lib.hid hbb
                clear hbb
                go_wp2_with fail
                by_cases h4 : 4 ≤ l2.length
                · refine (num_ok b g l2 hP.out.2.1 wr hLp.out.rd h4).mono ?_
                  rintro e w2 ⟨rfl, hr2, hk2⟩
                  have hR2 := Lib.hid hr2
                  have hB2 := Lib.hid (hKB.out.trans hk2 (fun i hi => .inl hi))
                  clear hr2 hk2
                  go_wp2_with fail
                  by_cases h8 : 8 ≤ l2.length
                  · refine (num_ok b g (l2.drop 4) (hP.out.2.1.drop 4) w2 hR2.out (by rw [List.length_drop]; omega)).mono ?_
                    rintro e w3 ⟨rfl, hr3, hk3⟩
                    have hR3 := Lib.hid hr3
                    have hB3 := Lib.hid (hB2.out.trans hk3 (fun i hi => .inl hi))
                    clear hr3 hk3
                    go_wp2_with fail
                    refine (num_short b g ((l2.drop 4).drop 4) _ (hR3.out.later (below_alloc (Below.refl _ _) _)) (by simp only [List.length_drop]; omega)).mono ?_
                    rintro e w4 ⟨rfl, rfl⟩
                    exact And.intro rfl (PAN2.out _ (hB3.out.next (below_alloc (Below.refl _ _) _)))
                  · refine (num_short b g (l2.drop 4) w2 hR2.out (by rw [List.length_drop]; omega)).mono ?_
                    rintro e w3 ⟨rfl, rfl⟩
                    exact And.intro rfl (PAN2.out _ hB2.out)
                · refine (num_short b g l2 wr hLp.out.rd (by omega)).mono ?_
                  rintro e w2 ⟨rfl, rfl⟩
                  exact And.intro rfl (PAN2.out _ hKB.out)
            · obtain rfl : kk = n4 := by omega
              have hl2 := hP.out.2.2.2.1
              have HPE3 : Hid (parse l = match many pIns (H.getD 5 0).toNat l2 with
                | none => none
                | some (bo, l5) => if l5 = [] then some ⟨deb4s n0 (l.drop 28), h1, h2, cs, fs.map Fn.pf, h6, bo⟩ else none) := by
                show _ = _
                rw [HPE2.out, HH4.out]
                simp only [Int.toNat_natCast, hP.out.1]
              have HC3 := Lib.hid (HC2.out.keep hl2.kx)
              have i5 := HC3.out.hh.at' 5 (by rw [HHL.out]; omega)
              obtain ⟨h5, hh5⟩ : ∃ x, H.getD 5 0 = x := ⟨_, rfl⟩
              rw [hh5] at i5
              have hb5 := HHB.out 5
              rw [hh5] at hb5
              obtain ⟨n5, rfl⟩ : ∃ n : Nat, h5 = n := ⟨h5.toNat, by omega⟩
              have hn5 : (n5 : Int) < 4294967296 := hb5.2
              have HH5 := Lib.hid hh5
              clear hh5 hb5
              obtain ⟨V4, hV4⟩ : ∃ V : Value, V = .slice A2 kk cp2 := ⟨_, rfl⟩
              have HL3 : Hid (Lp wr wr b g bc l2 #[.slice (some ⟨po, 0, none⟩) n0 n0, .int .i64 h1, .int .i64 h2, V3, V4, .int .i64 h6, .slice none 0 0] 34 5 (.slice none 0 0) 0 (icells [])) := by
                have s0 := hl2.sz
                have s1 := hl2.kx.size
                rw [hV4]
                exact ⟨KeptX.refl _ _, hl2.hd, hl2.rd, by simpa [icells] using Row.empty _ _ _ _, by simp [blk], by omega, by omega, by omega, by omega, by omega⟩
              have HBY2 := Lib.hid hP.out.2.1
              have HLL2 : Hid (l2.length ≤ 1000000 ∧ 12 * kk ≤ 1000000) := by have := hP.out.2.2.1; exact ⟨by omega, by omega⟩
              have HFN : Hid (Row wr 26 3 V4 kk (fcells fs) ∧ Los wC.heap.size wr V4 fs ∧ (∀ j ∈ blk V4, wC.heap.size ≤ j) ∧ bc < wC.heap.size ∧ b < wC.heap.size) := by rw [hV4]; exact ⟨hl2.row, hP.out.2.2.2.2, hl2.own, hl2.sz.1, hl2.sz.2.1⟩
              have HML := Lib.hid (many_len kk hP.out.1)
              have HV4 := Lib.hid hV4
              rw [← hV4] at hP
              have HWCD : Hid (wC.heap.size ≤ wr.heap.size) := hl2.kx.size
              clear hl2 hP hV4
              obtain ⟨wD, rfl⟩ : ∃ W, W = wr := ⟨_, rfl⟩
              go_wp2_with fail
              go_loopw [64] (fun iv wr => ∃ (k : Nat) (v : Value) (is : List Ins) (l3 : List Int), k ≤ n5 ∧ iv = .int .i64 k ∧ Hid (many pIns k l2 = some (is, l3) ∧ Byt l3 ∧ l3.length + 25 * k ≤ 1000000 ∧ Lp wD wr b g bc l3 #[.slice (some ⟨po, 0, none⟩) n0 n0, .int .i64 h1, .int .i64 h2, V3, V4, .int .i64 h6, v] 34 5 v k (icells is))) (fun iv _ => n5 - (intOf iv).toNat)
              case atStart => exact ⟨0, _, [], _, Nat.zero_le _, rfl, rfl, HBY2.out, by have := HLL2.out.1; omega, HL3.out⟩
              case round =>
                clear HL3 i5
                obtain ⟨k5, v, is, l3, hk, rfl, hP⟩ := hrel
                obtain ⟨A5, cp5, rfl, hnc, hcm, _, _⟩ := hP.out.2.2.2.row.form
                have hLp := Lib.hid hP.out.2.2.2
                by_cases hlt : k5 < n5
                · have q6 : wr.cell? ⟨bc, 6, none⟩ = some (.slice A5 k5 cp5) := by rw [blk_cell hLp.out.hd]; rfl
                  have p6 := blk_free hLp.out.hd 6
                  have hKB := Lib.hid (HC3.out.keep hLp.out.kx).kb
                  have PAN : Hid (l3.length < 25 → ∀ W, Kept [b] w W → CodeR w b l (.panicked shortP) W) := fun hs W hW => ⟨hW, .inr ⟨by rw [HPE3.out, HH5.out]; simp only [Int.toNat_natCast]; rw [many_none k5 n5 hP.out.1 (pIns_none hs) hlt], rfl⟩⟩
                  have HRD := Lib.hid (fun (W : World) (hW : Below wr.heap.size wr W) => hLp.out.rd.later hW)
                  have hbne : Hid (b ≠ bc) := hLp.out.sz.2.2.1
                  have HBT := Lib.hid hP.out.2.1
                  have HL25 : Hid (l3.length + 25 * k5 ≤ 1000000) := hP.out.2.2.1
                  have HMI : Hid (many pIns k5 l2 = some (is, l3)) := hP.out.1
                  obtain ⟨D1, hD1⟩ : ∃ D, deb (l3.take 1) = D := ⟨_, rfl⟩
                  obtain ⟨D2, hD2⟩ : ∃ D, deb ((l3.drop 1).take 8) = D := ⟨_, rfl⟩
                  obtain ⟨D3, hD3⟩ : ∃ D, deb ((l3.drop 9).take 4) = D := ⟨_, rfl⟩
                  obtain ⟨D4, hD4⟩ : ∃ D, deb ((l3.drop 13).take 8) = D := ⟨_, rfl⟩
                  obtain ⟨D5, hD5⟩ : ∃ D, deb ((l3.drop 21).take 4) = D := ⟨_, rfl⟩
                  have hd1 := deb1 HBT.out
                  rw [hD1] at hd1
                  have hw1 : IntKind.i64.wrap D1 = D1 := wrap_i64_small hd1.1 (by omega)
                  have hw1b : wrap64 D1 = D1 := by unfold wrap64; omega
                  obtain ⟨E2, hE2⟩ : ∃ E, wrap64 D2 = E := ⟨_, rfl⟩
                  have hE2b : IntKind.i64.wrap D2 = E2 := by rw [IntKind.wrap_i64]; unfold wrap64 at hE2; omega
                  have HD1 := Lib.hid hD1
                  have HD2 := Lib.hid hD2
                  have HD3 := Lib.hid hD3
                  have HD4 := Lib.hid hD4
                  have HD5 := Lib.hid hD5
                  have HE2 := Lib.hid hE2
                  clear hD1 hD2 hD3 hD4 hD5 hd1 hP
                  go_wp2_with fail
                  go_region_law (first
                    | ((refine step_get2 (l := l3) (l2 := l3.drop 1) (D := D1) (by rfl) _ _ _ (by rfl) 1 (by omega) (by rfl) (by rfl) HD1.out rfl HBT.out (HRD.out _ (below_drew2 (Below.refl _ _))) (fun hlt => And.intro rfl (PAN.out (by omega) _ (hKB.out.drew))) ?_; intro hge1 w2 hr2 hk2; have q6_2 := hk2.cell (a := ⟨bc, 6, none⟩) (v := .slice A5 k5 cp5) (by simpa using q6) (by simp; exact fun e => hbne.out e.symm); have hkb2 := (hKB.out.drew).trans hk2 (fun i hi => .inl hi); have hL2 := Lib.hid ((hLp.out.later (below_drew2 (Below.refl _ _))).read hk2 hr2)))
                    | ((refine step_get2 (l := (l3.drop 1)) (l2 := l3.drop 9) (D := D2) (by rfl) _ _ _ (by rfl) 8 (by omega) (by rfl) (by rfl) HD2.out (List.drop_drop ..) (HBT.out.drop 1) hr2 (fun hlt => And.intro rfl (PAN.out (by simp only [List.length_drop] at hlt; omega) _ hkb2)) ?_; intro hge2 w3 hr3 hk3; have q6_3 := hk3.cell (a := ⟨bc, 6, none⟩) (v := .slice A5 k5 cp5) q6_2 (by simp; exact fun e => hbne.out e.symm); have hkb3 := (hkb2).trans hk3 (fun i hi => .inl hi); have hL3 := Lib.hid (hL2.out.read hk3 hr3)))
                    | ((refine step_num2 (l := (l3.drop 9)) (l2 := l3.drop 13) (D := D3) (by rfl) _ _ (by rfl) (by rfl) HD3.out (List.drop_drop ..) (HBT.out.drop 9) hr3 (fun hlt => And.intro rfl (PAN.out (by simp only [List.length_drop] at hlt; omega) _ hkb3)) ?_; intro hge3 w4 hr4 hk4; have q6_4 := hk4.cell (a := ⟨bc, 6, none⟩) (v := .slice A5 k5 cp5) q6_3 (by simp; exact fun e => hbne.out e.symm); have hkb4 := (hkb3).trans hk4 (fun i hi => .inl hi); have hL4 := Lib.hid (hL3.out.read hk4 hr4)))
                    | ((refine step_get2 (l := (l3.drop 13)) (l2 := l3.drop 21) (D := D4) (by rfl) _ _ _ (by rfl) 8 (by omega) (by rfl) (by rfl) HD4.out (List.drop_drop ..) (HBT.out.drop 13) hr4 (fun hlt => And.intro rfl (PAN.out (by simp only [List.length_drop] at hlt; omega) _ hkb4)) ?_; intro hge4 w5 hr5 hk5; have q6_5 := hk5.cell (a := ⟨bc, 6, none⟩) (v := .slice A5 k5 cp5) q6_4 (by simp; exact fun e => hbne.out e.symm); have hkb5 := (hkb4).trans hk5 (fun i hi => .inl hi); have hL5 := Lib.hid (hL4.out.read hk5 hr5)))
                    | ((refine step_num2 (l := (l3.drop 21)) (l2 := l3.drop 25) (D := D5) (by rfl) _ _ (by rfl) (by rfl) HD5.out (List.drop_drop ..) (HBT.out.drop 21) hr5 (fun hlt => And.intro rfl (PAN.out (by simp only [List.length_drop] at hlt; omega) _ hkb5)) ?_; intro hge5 w6 hr6 hk6; have q6_6 := hk6.cell (a := ⟨bc, 6, none⟩) (v := .slice A5 k5 cp5) q6_5 (by simp; exact fun e => hbne.out e.symm); have hkb6 := (hkb5).trans hk6 (fun i hi => .inl hi); have hL6 := Lib.hid (hL5.out.read hk6 hr6); have q6d : ∀ (cs : Array Value) (T : TypeId), (w6.alloc (.cells cs T)).cell? ⟨bc, 6, none⟩ = some (.slice A5 k5 cp5) := fun cs T => cell_later (below_alloc (Below.refl _ _) _) q6_6))
                    | ((refine step_append_row (by rfl) _ _ _ 34 _ 5 40 (by rfl) Tryd.underlying29 infoIn (by rfl) (by omega) (.slice A5 k5 cp5) k5 (icells is) (by rfl) (hL6.out.row.kept (Kept.ofBelow (below_alloc (Below.refl _ _) _) []) (by simp)) (some ⟨w6.heap.size, 0, none⟩) 1 1 [.int .i64 D1, .int .i64 E2, .int .i64 D3, .int .u64 D4, .int .i64 D5] (by rfl) (by rfl) (by simp) (by omega) (rd_blkW (T := 34) (blk_new w6 _) (by simp [maxLen])) (by simp [Value.oneCell']) (by have := HL25.out; simp only [maxLen]; omega) (by have := HL25.out; omega) ?_; intro v1 w7 hrow7 hkk hb7; obtain ⟨A3, c3, rfl, _⟩ := hrow7.form; have q7 := hkk.cell (a := ⟨bc, 6, none⟩) (q6d _ _) (fun hx => by have := hLp.out.own bc hx; have := hLp.out.sz.1; omega); have p7 := (hkk.frozen (a := ⟨bc, 6, none⟩) (by have := hL6.out.sz.1; have := hL6.out.kx.size; simp; omega) (fun hx => by have := hLp.out.own bc hx; have := hLp.out.sz.1; omega)).trans (frozen_then (below_alloc (Below.refl _ _) _) (blk_lt hL6.out.hd) (blk_free hL6.out.hd 6)); have hN := Lib.hid (hL6.out.push (xs' := icells (is ++ [(⟨D1, E2, D3, D4, D5⟩ : Ins)])) (below_alloc (Below.refl _ _) _) hkk (by rw [← icells_snoc]; exact hrow7) hb7 6))))
                  all_goals
                    have HNX : Hid (many pIns (k5 + 1) l2 = some (is ++ [(⟨D1, E2, D3, D4, D5⟩ : Ins)], l3.drop 25) ∧ Byt (l3.drop 25) ∧ (l3.drop 25).length + 25 * (k5 + 1) ≤ 1000000) := by
                      have h25 : 25 ≤ l3.length := by simp only [List.length_drop] at hge5; omega
                      refine ⟨?_, HBT.out.drop 25, by have := HL25.out; rw [List.length_drop]; omega⟩
                      have hs := many_snoc k5 HMI.out (pIns_some h25)
                      rw [HD1.out, HD2.out, HE2.out, HD3.out, HD4.out, HD5.out] at hs
                      exact hs
                    clear hr2 hr3 hr4 hr5 hr6 hk2 hk3 hk4 hk5 hk6 hrow7 hkk hb7 q7 p7 q6_2 q6_3 q6_4 q6_5 q6_6 q6d hkb2 hkb3 hkb4 hkb5 hkb6 hge1 hge2 hge3 hge4 hge5
                    go_wp2_with fail
                    go_roundw
                    case rel => exact ⟨k5 + 1, _, _, _, by omega, by go_num, HNX.out.1, HNX.out.2.1, HNX.out.2.2, hN.out⟩
                    case measure => simp [intOf]; omega
                · obtain rfl : k5 = n5 := by omega
                  have HPE4 : Hid (parse l = if l3 = [] then some ⟨deb4s n0 (l.drop 28), h1, h2, cs, fs.map Fn.pf, h6, is⟩ else none) := by
                    show _ = _
                    rw [HPE3.out, HH5.out]
                    simp only [Int.toNat_natCast, hP.out.1]
                  have HC4 := Lib.hid (HC3.out.keep hLp.out.kx)
                  have hll : l3.length + 25 * k5 ≤ 1000000 := hP.out.2.2.1
                  obtain ⟨ro, rc, g1, g2, g3, g4, g5⟩ := hLp.out.rd
                  have f0 : wr.cell? ⟨b, 0, none⟩ = some (.slice (some ⟨g, ro, none⟩) l3.length rc) := by rw [blk_cell g1]; rfl
                  have HIL := Lib.hid (many_len k5 hP.out.1)
                  clear hP g1 g2 g3 g4 g5
                  by_cases h0 : l3.length = 0
                  · have hl0 : l3 = [] := List.eq_nil_of_length_eq_zero h0
                    have d0 : decide (0 < (l3.length : Int)) = false := decide_eq_false (by omega)
                    have q0 : wr.cell? ⟨bc, 0, none⟩ = some (.slice (some ⟨po, 0, none⟩) n0 n0) := by rw [blk_cell hLp.out.hd]; rfl
                    have q1 : wr.cell? ⟨bc, 1, none⟩ = some (.int .i64 h1) := by rw [blk_cell hLp.out.hd]; rfl
                    have q2 : wr.cell? ⟨bc, 2, none⟩ = some (.int .i64 h2) := by rw [blk_cell hLp.out.hd]; rfl
                    have q3 : wr.cell? ⟨bc, 3, none⟩ = some (.slice A k cp) := by rw [blk_cell hLp.out.hd, ← HV3.out]; rfl
                    have q4 : wr.cell? ⟨bc, 4, none⟩ = some (.slice A2 kk cp2) := by rw [blk_cell hLp.out.hd, ← HV4.out]; rfl
                    have q5 : wr.cell? ⟨bc, 5, none⟩ = some (.int .i64 h6) := by rw [blk_cell hLp.out.hd]; rfl
                    have q6 : wr.cell? ⟨bc, 6, none⟩ = some (.slice A5 k5 cp5) := by rw [blk_cell hLp.out.hd]; rfl
                    have z0 : wr.cell? ⟨w.heap.size, 0, none⟩ = some (.slice none 0 0) := by rw [blk_cell HC4.out.rz]; rfl
                    have z1 : wr.cell? ⟨w.heap.size, 1, none⟩ = some (.int .i64 0) := by rw [blk_cell HC4.out.rz]; rfl
                    have z2 : wr.cell? ⟨w.heap.size, 2, none⟩ = some (.int .i64 0) := by rw [blk_cell HC4.out.rz]; rfl
                    have z3 : wr.cell? ⟨w.heap.size, 3, none⟩ = some (.slice none 0 0) := by rw [blk_cell HC4.out.rz]; rfl
                    have z4 : wr.cell? ⟨w.heap.size, 4, none⟩ = some (.slice none 0 0) := by rw [blk_cell HC4.out.rz]; rfl
                    have z5 : wr.cell? ⟨w.heap.size, 5, none⟩ = some (.int .i64 0) := by rw [blk_cell HC4.out.rz]; rfl
                    have z6 : wr.cell? ⟨w.heap.size, 6, none⟩ = some (.slice none 0 0) := by rw [blk_cell HC4.out.rz]; rfl
                    have y0 := blk_free HC4.out.rz 0
                    have y1 := blk_free HC4.out.rz 1
                    have y2 := blk_free HC4.out.rz 2
                    have y3 := blk_free HC4.out.rz 3
                    have y4 := blk_free HC4.out.rz 4
                    have y5 := blk_free HC4.out.rz 5
                    have y6 := blk_free HC4.out.rz 6
                    have HL0 := Lib.hid hl0
                    clear hl0
                    have HFIN : Hid (CodeR w b l (.returned (.agg #[.slice (some ⟨po, 0, none⟩) n0 n0, .int .i64 h1, .int .i64 h2, .slice A k cp, .slice A2 kk cp2, .int .i64 h6, .slice A5 k5 cp5])) (((((((wr.setCell ⟨w.heap.size, 0, none⟩ (.slice (some ⟨po, 0, none⟩) n0 n0)).setCell ⟨w.heap.size, 1, none⟩ (.int .i64 h1)).setCell ⟨w.heap.size, 2, none⟩ (.int .i64 h2)).setCell ⟨w.heap.size, 3, none⟩ (.slice A k cp)).setCell ⟨w.heap.size, 4, none⟩ (.slice A2 kk cp2)).setCell ⟨w.heap.size, 5, none⟩ (.int .i64 h6)).setCell ⟨w.heap.size, 6, none⟩ (.slice A5 k5 cp5))) := by
                      have hks := ((((((((Kept.refl [w.heap.size] wr).set ⟨w.heap.size, 0, none⟩ (.slice (some ⟨po, 0, none⟩) n0 n0) (.inl (by simp))).set ⟨w.heap.size, 1, none⟩ (.int .i64 h1) (.inl (by simp))).set ⟨w.heap.size, 2, none⟩ (.int .i64 h2) (.inl (by simp))).set ⟨w.heap.size, 3, none⟩ (.slice A k cp) (.inl (by simp))).set ⟨w.heap.size, 4, none⟩ (.slice A2 kk cp2) (.inl (by simp))).set ⟨w.heap.size, 5, none⟩ (.int .i64 h6) (.inl (by simp))).set ⟨w.heap.size, 6, none⟩ (.slice A5 k5 cp5) (.inl (by simp)))
                      have hwB : w.heap.size < wC.heap.size := blk_lt HC2.out.rz
                      have hCD : wC.heap.size ≤ wD.heap.size := HWCD.out
                      have hcl : cs.length = k := by
                        have h1 := HC4.out.ch.1
                        rw [ccells, flat_len (k := 2) (fun _ => rfl)] at h1
                        omega
                      have hfl : fs.length = kk := by have := HML.out; rwa [List.length_map] at this
                      have hil := HIL.out
                      have hnn := HC4.out.ne
                      have hfn1 := row_keptX HFN.out.1 hLp.out.kx fun j hj => ⟨HFN.out.1.lt j hj, by have := HFN.out.2.2.1 j hj; have := HFN.out.2.2.2.1; omega, by have := HFN.out.2.2.1 j hj; have := HFN.out.2.2.2.2; omega⟩
                      have hlo1 := HFN.out.2.1.keptX hLp.out.kx fun j hj hj2 => ⟨hj2, by have := HFN.out.2.2.2.1; omega, by have := HFN.out.2.2.2.2; omega⟩
                      refine ⟨HC4.out.kb.trans hks (fun i hi => .inr (by simp at hi; omega)), .inl ⟨⟨some ⟨po, 0, none⟩, n0, deb4s n0 (l.drop 28), h1, h2, A, cp, cs, A2, cp2, fs, h6, A5, cp5, is⟩, by rw [HPE4.out, HL0.out, if_pos rfl]; rfl, ?_, ?_⟩⟩
                      · show Ending.returned _ = Ending.returned (.agg #[.slice (some ⟨po, 0, none⟩) (deb4s n0 (l.drop 28)).length n0, .int .i64 h1, .int .i64 h2, .slice A cs.length cp, .slice A2 fs.length cp2, .int .i64 h6, .slice A5 is.length cp5])
                        rw [deb4s_len, hcl, hfl, hil]
                      · intro W' hW'
                        have hsz := hks.size
                        have hkx : KeptX (fun j => w.heap.size < j ∧ j < wr.heap.size) wr W' := ⟨hW'.os.trans hks.os, hW'.tape.trans hks.tape, hW'.output.trans hks.output, Nat.le_trans hks.size hW'.size, fun j hj => (hW'.block j ⟨by omega, by omega⟩).trans (hks.block j hj.2 (by simp; omega))⟩
                        refine ⟨got_rs ((hkx.block po ⟨by omega, blk_lt HC4.out.ps⟩).trans HC4.out.ps), ?_, ?_, fun f hf => ?_, ?_, ?_, ?_, ?_, ?_, ?_⟩
                        · have h1 := row_keptX HC4.out.ch hkx fun j hj => ⟨(HC4.out.cne j hj).1, HC4.out.ch.lt j hj⟩
                          rw [HV3.out] at h1
                          exact row_rs h1
                        · have h1 := row_keptX hfn1 hkx fun j hj => ⟨by have := HFN.out.2.2.1 j hj; omega, hfn1.lt j hj⟩
                          rw [HV4.out] at h1
                          exact row_rs h1
                        · obtain ⟨lo, a1, a2, a3, a4, a5⟩ := hlo1 f hf
                          rw [a1]
                          exact ⟨got_rs ((hkx.block lo ⟨by omega, blk_lt a3⟩).trans a3), by omega⟩
                        · exact row_rs (row_keptX hLp.out.row hkx fun j hj => ⟨by have := hLp.out.own j hj; omega, hLp.out.row.lt j hj⟩)
                        · show (deb4s n0 (l.drop 28)).length ≤ _; rw [deb4s_len]; omega
                        · show cs.length ≤ _; have := HLK.out; omega
                        · show fs.length ≤ _; have := HLL2.out.2; omega
                        · show is.length ≤ _; omega
                        · show (deb4s n0 (l.drop 28)).length ≤ n0; rw [deb4s_len]; exact Nat.le_refl _
                    have e0 := blk_set HC4.out.rz 0 (.slice (some ⟨po, 0, none⟩) n0 n0)
                    have e1 := blk_set e0 1 (.int .i64 h1)
                    have e2 := blk_set e1 2 (.int .i64 h2)
                    have e3 := blk_set e2 3 (.slice A k cp)
                    have e4 := blk_set e3 4 (.slice A2 kk cp2)
                    have e5 := blk_set e4 5 (.int .i64 h6)
                    have e6 := blk_set e5 6 (.slice A5 k5 cp5)
                    simp only [List.setIfInBounds_toArray, List.set] at e6
                    obtain ⟨r0, r1, r2, r3, r4, r5, r6⟩ := blk7 e6
                    clear e0 e1 e2 e3 e4 e5 e6
                    go_wp2_with fail
                    exact bodyPost_ret (v := .agg #[.slice (some ⟨po, 0, none⟩) n0 n0, .int .i64 h1, .int .i64 h2, .slice A k cp, .slice A2 kk cp2, .int .i64 h6, .slice A5 k5 cp5]) (by simp [results, Tryd.results47, go_sem, r0, r1, r2, r3, r4, r5, r6]) rfl HFIN.out
                  · have d0 : decide (0 < (l3.length : Int)) = true := decide_eq_true (by omega)
                    have hpos : 0 < l3.length := by omega
                    have HPA : Hid (CodeR w b l (.panicked shortP) wr) := ⟨HC4.out.kb, .inr ⟨by rw [HPE4.out, if_neg (fun e => h0 (by rw [e]; rfl))], rfl⟩⟩
                    clear hLp HC4 HPE4 HIL hll
                    go_upto_region 18 with fail
                    clear f0 d0 hpos
                    go_wp2_with fail
                    exact And.intro rfl HPA.out
  · have HS := Lib.hid (getNums_short 7 b g l w0 HR.out (by omega) (by omega))
    have HPA : Hid (CodeR w b l (.panicked shortP) w0) := ⟨Kept.ofBelow HB0.out _, .inr ⟨by unfold parse rdInts; rw [if_pos (by omega)], rfl⟩⟩
    go_enter Tryd.func47, Tryd.ntmps47
    go_wp2_with fail
    refine HS.out.mono ?_
    rintro e w1 ⟨rfl, rfl⟩
    exact And.intro rfl HPA.out
end Go.Proofs.YtbpbimkadiobfaaDoor
