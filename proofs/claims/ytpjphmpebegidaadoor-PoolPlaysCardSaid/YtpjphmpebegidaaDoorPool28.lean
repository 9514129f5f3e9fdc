/-
  The model's dump.
-/
import Derived.Test.YtpjphmpebegidaaDoorPool26
import Derived.Test.YtpjphmpebegidaaDoorPool21
import Derived.Laws.CopyOwn
namespace Go.Proofs.YtpjphmpebegidaaDoor
open Go.RowKit Go.Stk
attribute [local go_sem ↓] Go.wp_at_zero Go.wp_at_succ

theorem sizeInt : (Tryd.prog.info? 3).map (·.size) = some 1 := by kernel_rfl
def dumpL (n : Nat) (H : List MRun) : List Int := H.foldl (fun X r => splice X (16 * r.f) r.ws) (List.replicate (16 * n) 0)
theorem dumpL_next {n : Nat} {H : List MRun} {k : Nat} {r : MRun} (hk : H[k]? = some r) : dumpL n (H.take (k + 1)) = splice (dumpL n (H.take k)) (16 * r.f) r.ws := by
  unfold dumpL
  rw [List.take_add_one, hk]
  simp [List.foldl_append]
theorem splice_ints (X Y : List Int) (o : Nat) : ints (splice X o Y) = splice (ints X) o (ints Y) := by simp [ints, splice, List.map_take, List.map_drop]
theorem fold_len {N : Nat} : ∀ (H : List MRun) (X : List Int), X.length = N → (∀ r ∈ H, 16 * r.f + r.ws.length ≤ N) → (H.foldl (fun X r => splice X (16 * r.f) r.ws) X).length = N
  | [], X, h, _ => h
  | r :: H, X, h, hr => fold_len H _ (by rw [length_splice _ _ _ (by rw [h]; exact hr r (by simp)), h]) fun s hs => hr s (by simp [hs])
theorem dumpL_len {n : Nat} (H : List MRun) (h : ∀ r ∈ H, r.f + r.m ≤ n ∧ r.ws.length = 16 * r.m) : (dumpL n H).length = 16 * n :=
  fold_len H _ (by simp) fun r hr => by have := h r hr; omega
theorem copy_src {W : World} {b : Nat} {T : TypeId} {xs : List Int} (h : W.heap[b]? = some (.cells (ints xs).toArray T (0, 0))) : ∀ j v, (ints xs)[j]? = some v → W.cell? ((⟨b, 0, none⟩ : Addr).add j) = some v := by
  intro j v hj
  rw [Go.WideShapes.add_plain, blk_cell h]
  simpa using hj
theorem ones (l : List Int) : ∀ u ∈ ints l, u.oneCell' = true := fun u hu => by
  obtain ⟨n, _, rfl⟩ := List.mem_map.1 hu
  rfl
theorem made_ints2 (m : Nat) : madeCells #[.int .i64 0] m = (ints (List.replicate m 0)).toArray := by
  apply Array.ext'
  simp only [ints, madeCells, List.map_replicate]
  rw [List.eq_replicate_iff]
  simp [Nat.mod_one]
set_option maxRecDepth 100000 in
set_option maxHeartbeats 2000000 in
theorem mdump_any {w : World} {p n : Nat} {rv : Value} {H : List MRun} (h : MRep w p n rv H) (hn : n ≤ 256) (hH : H.length ≤ 256) (hrg : ∀ r ∈ H, 0 < r.m ∧ r.f + r.m ≤ n ∧ r.ws.length = 16 * r.m) : Calls Tryd.prog 32 #[.pointer (some ⟨p, 0, none⟩)] w (Listed w (dumpL n H)) := by
  obtain ⟨A, c, rfl, hnc, hcm, hnil, hxl⟩ := h.row.form
  obtain ⟨p0, p1, _, _, p4⟩ := h.hc
  have HM := Lib.hid h
  have HR := Lib.hid hrg
  clear h hrg hxl hnil
  have hn' : (n : Int) ≤ 256 := by omega
  have hmk := make_one (P := Tryd.prog) 37 3 (.int .i64 0) 8 Tryd.underlying37 infoInt3 rfl (by decide) (16 * n) (by omega)
  rw [show ((16 * n : Nat) : Int) = 16 * (n : Int) by omega] at hmk
  have hb1 : Below w.heap.size w (w.alloc (.cells (madeCells #[.int .i64 0] (16 * n)) 3)) := below_alloc (Below.refl _ _) _
  have p1' := cell_later hb1 p1
  have H0 : Hid (Below w.heap.size w (w.alloc (.cells (madeCells #[.int .i64 0] (16 * n)) 3)) ∧ (w.alloc (.cells (madeCells #[.int .i64 0] (16 * n)) 3)).heap[w.heap.size]? = some (.cells (ints (dumpL n (H.take 0))).toArray 3 (0, 0))) :=
    ⟨hb1, by rw [blk_new, made_ints2]; rfl⟩
  clear hb1
  go_enter Tryd.func32, Tryd.ntmps32
  go_wp2_with fail
  clear hmk p1'
  generalize w.alloc (.cells (madeCells #[.int .i64 0] (16 * n)) 3) = w1 at H0 ⊢
  go_loopw [17] (fun kv wr => ∃ k : Nat, k ≤ H.length ∧ kv = .int .i64 k ∧ Hid (Below w.heap.size w wr ∧ wr.heap[w.heap.size]? = some (.cells (ints (dumpL n (H.take k))).toArray 3 (0, 0)))) (fun kv _ => H.length - (intOf kv).toNat)
  case atStart => exact ⟨0, Nat.zero_le _, rfl, H0⟩
  case round =>
    obtain ⟨k, hk, rfl, hP⟩ := hrel
    by_cases hlt : k < H.length
    · obtain ⟨r, hr⟩ : ∃ r, H[k]? = some r := ⟨_, List.getElem?_eq_getElem hlt⟩
      obtain ⟨g, rfl, c0, c1, c2⟩ := (HM.out.later hP.out.1).cat hr
      obtain ⟨hm0, hfm, hwl⟩ := HR.out r (List.mem_of_getElem? hr)
      have hw := (HM.out.later hP.out.1).words r (List.mem_of_getElem? hr)
      have HK := Lib.hid hr
      have HW := Lib.hid hw
      have HWL := Lib.hid hwl
      clear hr hw hwl
      obtain ⟨F, hF⟩ : ∃ F, F = 16 * r.f := ⟨_, rfl⟩
      have e1 : IntKind.i64.wrap (16 * (r.f : Int)) = (F : Int) := by rw [IntWalk.i64_in _ (by omega)]; omega
      have f0 : (F : Int) ≤ 16 * (n : Int) := by omega
      have f1 : (0 : Int) ≤ (F : Int) := by omega
      obtain ⟨AD, hAD⟩ : ∃ A : Option Addr, (if 16 * n = F then some ⟨w.heap.size, 0, none⟩ else some ⟨w.heap.size, F, none⟩) = A := ⟨_, rfl⟩
      have HAD : Hid (AD = some ⟨w.heap.size, F, none⟩) := by show _ = _; rw [← hAD, if_neg (by omega)]
      have hl := dumpL_len (n := n) (H.take k) fun r hr => (HR.out r (List.mem_of_mem_take hr)).2
      have HFIT := Lib.hid (show F + (ints r.ws).length ≤ (ints (dumpL n (H.take k))).length by rw [ints_length, ints_length, HWL.out, hl]; omega)
      have HLN := Lib.hid (show (ints r.ws).length = Nat.min (16 * r.m) (16 * n - F) by rw [ints_length, HWL.out]; show _ = min _ _; omega)
      have HPG := Lib.hid hP.out.2
      have HPB := Lib.hid hP.out.1
      have HN : Hid (splice (ints (dumpL n (H.take k))) F (ints r.ws) = ints (dumpL n (H.take (k + 1)))) := by
        show _ = _
        rw [dumpL_next HK.out, splice_ints, ← hF]
      clear hF hl hP
      go_wp2_with fail
      go_region_law (refine step_copy_splice rfl (.tmp 25) (.tmp 27) 37 37 rfl 3 Tryd.underlying37 sizeInt AD (some ⟨r.b, 0, none⟩) (16 * n - F) (16 * n - F) (16 * r.m) (16 * r.m) (by rfl) (by rfl) w.heap.size F (ints (dumpL n (H.take k))) 3 (blk_later (by repeat (first | exact Below.refl _ _ | refine below_alloc ?_ _ | refine below_drew1 ?_ | refine below_drewN1 ?_ _)) HPG.out) (ints r.ws) HLN.out (fun _ => ⟨HAD.out, _, rfl, copy_src (blk_later (by repeat (first | exact Below.refl _ _ | refine below_alloc ?_ _ | refine below_drew1 ?_ | refine below_drewN1 ?_ _)) HW.out)⟩) HFIT.out (ones _) w.heap.size w (below_next HPB.out (by repeat (first | exact Below.refl _ _ | refine below_alloc ?_ _ | refine below_drew1 ?_ | refine below_drewN1 ?_ _))) (Nat.le_refl _) ?_; intro w4 hg4 hb4)
      all_goals
        have hg5 := hg4.out
        rw [HN.out] at hg5
        have HG5 := Lib.hid hg5
        clear hg5 hg4
        go_wp2_with fail
        go_roundw
        case rel => exact ⟨k + 1, by omega, by go_num, hb4, HG5.out⟩
        case measure => simp [intOf]; omega
    · go_wp2_with fail
      go_ret
      have h2 := hP.out.2
      rw [List.take_of_length_le (by omega)] at h2
      have hl := dumpL_len (n := n) H fun r hr => (HR.out r hr).2
      refine ⟨w.heap.size, 16 * n, by rw [hl]; rfl, by omega, by simp only [maxLen]; omega, rd_blk (T := 3) h2 (by simp [ints, maxLen]; omega), Nat.le_refl _, hP.out.1⟩
end Go.Proofs.YtpjphmpebegidaaDoor
