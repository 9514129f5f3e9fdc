/-
  The model's arena in memory; what its calls that only read answer.
-/
import Derived.Test.YtpjphmpebegidaaDoorPool24
import Derived.Test.YtpjphmpebegidaaDoorPool22
namespace Go.Proofs.YtpjphmpebegidaaDoor
open Go.RowKit Go.Stk
attribute [local go_sem ↓] Go.wp_at_zero Go.wp_at_succ

def MRun.cells (r : MRun) : List Value := [.int .i64 r.f, .int .i64 r.m, .slice (some ⟨r.b, 0, none⟩) (16 * r.m) (16 * r.m)]
def mcells (H : List MRun) : List Value := H.flatMap MRun.cells
theorem mcells_len (H : List MRun) : (mcells H).length = H.length * 3 := flat_len (f := MRun.cells) (k := 3) (fun _ => rfl) H
def mfp (p : Nat) (rv : Value) (H : List MRun) : List Nat := p :: (blk rv ++ H.map MRun.b)
/-- A model's arena at p: its share, its runs, each run's words in a block of its own. -/
structure MRep (w : World) (p n : Nat) (rv : Value) (H : List MRun) : Prop where
  hd : w.heap[p]? = some (.cells #[.int .i64 n, rv] 57 (0, 0))
  row : Row w 60 3 rv H.length (mcells H)
  words : ∀ r ∈ H, w.heap[r.b]? = some (.cells (ints r.ws).toArray 3 (0, 0))
  nd : (mfp p rv H).Nodup
theorem MRep.kept {w w' : World} {p n : Nat} {rv : Value} {H : List MRun} (h : MRep w p n rv H) {fp : List Nat} (hk : Kept fp w w') (hd : ∀ g ∈ mfp p rv H, g ∉ fp) : MRep w' p n rv H :=
  ⟨hk.heap h.hd (hd _ (by simp [mfp])), h.row.kept hk fun g hg => hd g (by simp [mfp, hg]), fun r hr => hk.heap (h.words r hr) (hd _ (by simp only [mfp, List.mem_cons, List.mem_append, List.mem_map]; exact .inr (.inr ⟨r, hr, rfl⟩))), h.nd⟩
theorem MRep.later {w w' : World} {p n : Nat} {rv : Value} {H : List MRun} (h : MRep w p n rv H) (hb : Below w.heap.size w w') : MRep w' p n rv H := h.kept (Kept.ofBelow hb []) (by simp)
theorem MRep.lt {w : World} {p n : Nat} {rv : Value} {H : List MRun} (h : MRep w p n rv H) : ∀ g ∈ mfp p rv H, g < w.heap.size := by
  intro g hg
  simp only [mfp, List.mem_cons, List.mem_append, List.mem_map] at hg
  rcases hg with rfl | hg | ⟨r, hr, rfl⟩
  · exact blk_lt h.hd
  · exact h.row.lt g hg
  · exact blk_lt (h.words r hr)
theorem MRep.hc {w : World} {p n : Nat} {rv : Value} {H : List MRun} (h : MRep w p n rv H) : w.cell? ⟨p, 0, none⟩ = some (.int .i64 n) ∧ w.cell? ⟨p, 1, none⟩ = some rv ∧ w.frozen? ⟨p, 0, none⟩ = false ∧ w.frozen? ⟨p, 1, none⟩ = false ∧ p < w.heap.size :=
  ⟨by rw [blk_cell h.hd]; rfl, by rw [blk_cell h.hd]; rfl, blk_free h.hd _, blk_free h.hd _, blk_lt h.hd⟩
theorem MRep.cat {w : World} {p n c : Nat} {A : Option Addr} {H : List MRun} (h : MRep w p n (.slice A H.length c) H) {k : Nat} {r : MRun} (hk : H[k]? = some r) : ∃ g, A = some ⟨g, 0, none⟩ ∧ w.cell? ⟨g, k * 3, none⟩ = some (.int .i64 r.f) ∧ w.cell? ⟨g, k * 3 + 1, none⟩ = some (.int .i64 r.m) ∧ w.cell? ⟨g, k * 3 + 2, none⟩ = some (.slice (some ⟨r.b, 0, none⟩) (16 * r.m) (16 * r.m)) := by
  have hl := (List.getElem?_eq_some_iff.1 hk).1
  obtain ⟨g, cap, ev, _, _, _, _, hcell, _⟩ := h.row.mid (by omega)
  injection ev with e1 e2 e3
  have hget : ∀ j, j < 3 → (mcells H)[k * 3 + j]? = (MRun.cells r)[j]? := fun j hj => by
    have := flat_get (f := MRun.cells) (k := 3) (fun _ => rfl) H k j hj
    unfold mcells
    rw [this, hk]; rfl
  exact ⟨g, e1, hcell (k * 3 + 0) _ (by rw [hget 0 (by omega)]; rfl), hcell (k * 3 + 1) _ (by rw [hget 1 (by omega)]; rfl), hcell (k * 3 + 2) _ (by rw [hget 2 (by omega)]; rfl)⟩

/-- Is a page in a run? -/
def mIn (H : List MRun) (q : Int) : Bool := H.any fun r => decide ((r.f : Int) ≤ q ∧ q < (r.f : Int) + (r.m : Int))
def FindR (w : World) (H : List MRun) (q : Int) (e : Ending) (w' : World) : Prop := Below w.heap.size w w' ∧
  ((∃ (k : Nat) (r : MRun), H[k]? = some r ∧ 16 * (r.f : Int) = q ∧ e = .returned (.int .i64 k)) ∨ ((∀ r ∈ H, 16 * (r.f : Int) ≠ q) ∧ e = .returned (.int .i64 (-1))))
def WordR (w : World) (H : List MRun) (q : Int) (e : Ending) (w' : World) : Prop := Below w.heap.size w w' ∧
  ((∃ (k : Nat) (r : MRun), H[k]? = some r ∧ 16 * (r.f : Int) ≤ q ∧ q < 16 * ((r.f : Int) + (r.m : Int)) ∧ e = .returned (.tuple #[.int .i64 k, .int .i64 (q - 16 * (r.f : Int)), .bool true])) ∨
   ((∀ r ∈ H, ¬ (16 * (r.f : Int) ≤ q ∧ q < 16 * ((r.f : Int) + (r.m : Int)))) ∧ e = .returned (.tuple #[.int .i64 0, .int .i64 0, .bool false])))
theorem take_all {H : List MRun} {P : MRun → Prop} {k : Nat} {r : MRun} (h : ∀ s ∈ H.take k, P s) (hk : H[k]? = some r) (hr : P r) : ∀ s ∈ H.take (k + 1), P s := by
  intro s hs
  rw [List.take_add_one, hk] at hs
  simp at hs
  rcases hs with hs | rfl
  · exact h s hs
  · exact hr
set_option maxRecDepth 100000 in
set_option maxHeartbeats 1000000 in
theorem in_any {w : World} {p n : Nat} {rv : Value} {H : List MRun} (h : MRep w p n rv H) (hH : H.length ≤ 256) (hrg : ∀ r ∈ H, r.f + r.m ≤ 256) (q : Int) : Calls Tryd.prog 41 #[.pointer (some ⟨p, 0, none⟩), .int .i64 q] w (Ret w (.bool (mIn H q))) := by
  obtain ⟨A, c, rfl, hnc, hcm, hnil, hxl⟩ := h.row.form
  obtain ⟨p0, p1, _, _, _⟩ := h.hc
  have HM := Lib.hid h
  have HR := Lib.hid hrg
  clear h hrg hxl hnil
  go_enter Tryd.func41, Tryd.ntmps41
  go_wp2_with fail
  go_loopw [12] (fun kv wr => ∃ k : Nat, k ≤ H.length ∧ kv = .int .i64 k ∧ Hid (Below w.heap.size w wr ∧ ∀ r ∈ H.take k, ¬ ((r.f : Int) ≤ q ∧ q < (r.f : Int) + (r.m : Int)))) (fun kv _ => H.length - (intOf kv).toNat)
  case atStart => exact ⟨0, Nat.zero_le _, rfl, Below.refl _ _, by simp⟩
  case round =>
    obtain ⟨k, hk, rfl, hP⟩ := hrel
    by_cases hlt : k < H.length
    · obtain ⟨r, hr⟩ : ∃ r, H[k]? = some r := ⟨_, List.getElem?_eq_getElem hlt⟩
      obtain ⟨g, rfl, c0, c1, c2⟩ := (HM.out.later hP.out.1).cat hr
      have hfm := HR.out r (List.mem_of_getElem? hr)
      have HK := Lib.hid hr
      clear hr
      by_cases h1 : (r.f : Int) ≤ q
      · have d1 : decide ((r.f : Int) ≤ q) = true := decide_eq_true h1
        by_cases h2 : q < (r.f : Int) + (r.m : Int)
        · have d2 : decide (q < (r.f : Int) + (r.m : Int)) = true := decide_eq_true h2
          go_wp2_with fail
          go_ret
          refine ⟨?_, below_alloc hP.out.1 _⟩
          rw [show mIn H q = true from List.any_eq_true.2 ⟨r, List.mem_of_getElem? HK.out, decide_eq_true ⟨h1, h2⟩⟩]; rfl
        · have d2 : decide (q < (r.f : Int) + (r.m : Int)) = false := decide_eq_false h2
          go_wp2_with fail
          go_roundw
          case rel => exact ⟨k + 1, by omega, by go_num, below_alloc hP.out.1 _, take_all hP.out.2 HK.out fun hc => h2 hc.2⟩
          case measure => simp [intOf]; omega
      · have d1 : decide ((r.f : Int) ≤ q) = false := decide_eq_false h1
        go_wp2_with fail
        go_roundw
        case rel => exact ⟨k + 1, by omega, by go_num, below_alloc hP.out.1 _, take_all hP.out.2 HK.out fun hc => h1 hc.1⟩
        case measure => simp [intOf]; omega
    · go_wp2_with fail
      go_ret
      refine ⟨?_, hP.out.1⟩
      have h2 := hP.out.2
      rw [List.take_of_length_le (by omega)] at h2
      rw [show mIn H q = false from List.any_eq_false.2 fun r hr => by simpa using h2 r hr]; rfl
set_option maxRecDepth 100000 in
set_option maxHeartbeats 1000000 in
theorem find_any {w : World} {p n : Nat} {rv : Value} {H : List MRun} (h : MRep w p n rv H) (hH : H.length ≤ 256) (hrg : ∀ r ∈ H, r.f + r.m ≤ 256) (q : Int) : Calls Tryd.prog 31 #[.pointer (some ⟨p, 0, none⟩), .int .i64 q] w (FindR w H q) := by
  obtain ⟨A, c, rfl, hnc, hcm, hnil, hxl⟩ := h.row.form
  obtain ⟨p0, p1, _, _, _⟩ := h.hc
  have HM := Lib.hid h
  have HR := Lib.hid hrg
  clear h hrg hxl hnil
  go_enter Tryd.func31, Tryd.ntmps31
  go_wp2_with fail
  go_loopw [12] (fun kv wr => ∃ k : Nat, k ≤ H.length ∧ kv = .int .i64 k ∧ Hid (Below w.heap.size w wr ∧ ∀ r ∈ H.take k, 16 * (r.f : Int) ≠ q)) (fun kv _ => H.length - (intOf kv).toNat)
  case atStart => exact ⟨0, Nat.zero_le _, rfl, Below.refl _ _, by simp⟩
  case round =>
    obtain ⟨k, hk, rfl, hP⟩ := hrel
    by_cases hlt : k < H.length
    · obtain ⟨r, hr⟩ : ∃ r, H[k]? = some r := ⟨_, List.getElem?_eq_getElem hlt⟩
      obtain ⟨g, rfl, c0, c1, c2⟩ := (HM.out.later hP.out.1).cat hr
      have hfm := HR.out r (List.mem_of_getElem? hr)
      have HK := Lib.hid hr
      clear hr
      by_cases h1 : 16 * (r.f : Int) = q
      · have d1 : ((16 * (r.f : Int)) == q) = true := by simpa using h1
        go_wp2_with fail
        go_ret
        exact ⟨below_alloc hP.out.1 _, .inl ⟨k, r, HK.out, h1, rfl⟩⟩
      · have d1 : ((16 * (r.f : Int)) == q) = false := by simpa using h1
        go_wp2_with fail
        go_roundw
        case rel => exact ⟨k + 1, by omega, by go_num, below_alloc hP.out.1 _, take_all hP.out.2 HK.out h1⟩
        case measure => simp [intOf]; omega
    · go_wp2_with fail
      go_ret
      have h2 := hP.out.2
      rw [List.take_of_length_le (by omega)] at h2
      exact ⟨hP.out.1, .inr ⟨h2, rfl⟩⟩
set_option maxRecDepth 100000 in
set_option maxHeartbeats 1000000 in
theorem word_any {w : World} {p n : Nat} {rv : Value} {H : List MRun} (h : MRep w p n rv H) (hH : H.length ≤ 256) (hrg : ∀ r ∈ H, r.f + r.m ≤ 256) (q : Int) : Calls Tryd.prog 38 #[.pointer (some ⟨p, 0, none⟩), .int .i64 q] w (WordR w H q) := by
  obtain ⟨A, c, rfl, hnc, hcm, hnil, hxl⟩ := h.row.form
  obtain ⟨p0, p1, _, _, _⟩ := h.hc
  have HM := Lib.hid h
  have HR := Lib.hid hrg
  clear h hrg hxl hnil
  go_enter Tryd.func38, Tryd.ntmps38
  go_wp2_with fail
  go_loopw [14] (fun kv wr => ∃ k : Nat, k ≤ H.length ∧ kv = .int .i64 k ∧ Hid (Below w.heap.size w wr ∧ ∀ r ∈ H.take k, ¬ (16 * (r.f : Int) ≤ q ∧ q < 16 * ((r.f : Int) + (r.m : Int))))) (fun kv _ => H.length - (intOf kv).toNat)
  case atStart => exact ⟨0, Nat.zero_le _, rfl, Below.refl _ _, by simp⟩
  case round =>
    obtain ⟨k, hk, rfl, hP⟩ := hrel
    by_cases hlt : k < H.length
    · obtain ⟨r, hr⟩ : ∃ r, H[k]? = some r := ⟨_, List.getElem?_eq_getElem hlt⟩
      obtain ⟨g, rfl, c0, c1, c2⟩ := (HM.out.later hP.out.1).cat hr
      have hfm := HR.out r (List.mem_of_getElem? hr)
      have HK := Lib.hid hr
      clear hr
      by_cases h1 : 16 * (r.f : Int) ≤ q
      · have d1 : decide (16 * (r.f : Int) ≤ q) = true := decide_eq_true h1
        by_cases h2 : q < 16 * ((r.f : Int) + (r.m : Int))
        · have d2 : decide (q < 16 * ((r.f : Int) + (r.m : Int))) = true := decide_eq_true h2
          go_wp2_with fail
          go_quiet (fail)
          go_wp2_with fail
          go_ret3
          exact ⟨by first | exact below_alloc hP.out.1 _ | exact below_next (below_alloc hP.out.1 _) (below_drewN0 _ _), .inl ⟨k, r, HK.out, h1, h2, rfl⟩⟩
        · have d2 : decide (q < 16 * ((r.f : Int) + (r.m : Int))) = false := decide_eq_false h2
          go_wp2_with fail
          go_roundw
          case rel => exact ⟨k + 1, by omega, by go_num, below_alloc hP.out.1 _, take_all hP.out.2 HK.out fun hc => h2 hc.2⟩
          case measure => simp [intOf]; omega
      · have d1 : decide (16 * (r.f : Int) ≤ q) = false := decide_eq_false h1
        go_wp2_with fail
        go_roundw
        case rel => exact ⟨k + 1, by omega, by go_num, below_alloc hP.out.1 _, take_all hP.out.2 HK.out fun hc => h1 hc.1⟩
        case measure => simp [intOf]; omega
    · go_wp2_with fail
      go_ret3
      have h2 := hP.out.2
      rw [List.take_of_length_le (by omega)] at h2
      exact ⟨hP.out.1, .inr ⟨h2, rfl⟩⟩
set_option maxRecDepth 100000 in
set_option maxHeartbeats 1000000 in
theorem mused_any {w : World} {p n : Nat} {rv : Value} {H : List MRun} (h : MRep w p n rv H) (hH : H.length ≤ 256) (hs : (H.map MRun.m).sum ≤ 256) : Calls Tryd.prog 30 #[.pointer (some ⟨p, 0, none⟩)] w (Ret w (.int .i64 ((H.map MRun.m).sum : Nat))) := by
  obtain ⟨A, c, rfl, hnc, hcm, hnil, hxl⟩ := h.row.form
  obtain ⟨p0, p1, _, _, _⟩ := h.hc
  have HM := Lib.hid h
  clear h hxl hnil
  have hle : ∀ k, ((H.take k).map MRun.m).sum ≤ (H.map MRun.m).sum := fun k => by
    conv => rhs; rw [← List.take_append_drop k H]
    rw [List.map_append, List.sum_append]; omega
  have HS := Lib.hid (fun k => Nat.le_trans (hle k) hs)
  clear hs hle
  go_enter Tryd.func30, Tryd.ntmps30
  go_wp2_with fail
  go_loopw [3, 11] (fun sv kv wr => ∃ k s : Nat, k ≤ H.length ∧ kv = .int .i64 k ∧ sv = .int .i64 s ∧ Hid (Below w.heap.size w wr ∧ s = ((H.take k).map MRun.m).sum)) (fun _ kv _ => H.length - (intOf kv).toNat)
  case atStart => exact ⟨0, 0, Nat.zero_le _, rfl, rfl, Below.refl _ _, by simp⟩
  case round =>
    obtain ⟨k, s, hk, rfl, rfl, hP⟩ := hrel
    by_cases hlt : k < H.length
    · obtain ⟨r, hr⟩ : ∃ r, H[k]? = some r := ⟨_, List.getElem?_eq_getElem hlt⟩
      obtain ⟨g, rfl, c0, c1, c2⟩ := (HM.out.later hP.out.1).cat hr
      have hn : ((H.take (k + 1)).map MRun.m).sum = s + r.m := by rw [List.take_add_one, hr]; simp [hP.out.2]
      have h1 := HS.out (k + 1)
      rw [hn] at h1
      have HN := Lib.hid hn
      clear hr hn
      go_wp2_with fail
      go_roundw
      case rel => exact ⟨k + 1, s + r.m, by omega, by go_num, by go_num, below_alloc hP.out.1 _, HN.out.symm⟩
      case measure => simp [intOf]; omega
    · go_wp2_with fail
      go_ret
      have h2 := hP.out.2
      rw [List.take_of_length_le (by omega)] at h2
      exact ⟨by rw [h2]; rfl, hP.out.1⟩
end Go.Proofs.YtpjphmpebegidaaDoor
