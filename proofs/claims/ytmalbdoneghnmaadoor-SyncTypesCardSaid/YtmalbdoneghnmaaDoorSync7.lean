/-
  What goroutines share: New.
-/
import Derived.Test.YtmalbdoneghnmaaDoorSync6
namespace Go.Proofs.YtmalbdoneghnmaaDoor
open Go.RowKit Go.Stk
attribute [local go_sem ↓] Go.wp_at_zero Go.wp_at_succ

/-- Channels' cells. -/
def ccells (l : List (Int × Int)) : List Value := l.flatMap fun x => [.int .i64 x.1, .int .i64 x.2]
theorem ccells_at {l : List (Int × Int)} {i : Nat} {x : Int × Int} (h : l[i]? = some x) : (ccells l)[i * 2]? = some (.int .i64 x.1) ∧ (ccells l)[i * 2 + 1]? = some (.int .i64 x.2) := by
  have h0 := flat_get (f := fun x : Int × Int => [Value.int .i64 x.1, .int .i64 x.2]) (k := 2) (fun _ => rfl) l i 0 (by omega)
  have h1 := flat_get (f := fun x : Int × Int => [Value.int .i64 x.1, .int .i64 x.2]) (k := 2) (fun _ => rfl) l i 1 (by omega)
  rw [h] at h0 h1
  exact ⟨h0, h1⟩
theorem ccells_len (l : List (Int × Int)) : (ccells l).length = l.length * 2 := flat_len (k := 2) (fun _ => rfl) l
def okType (t : Int) : Bool := decide (1 ≤ t) && decide (t ≤ 3)
def okChan (x : Int × Int) : Bool := okType x.1 && (decide (0 ≤ x.2) && decide (x.2 ≤ 8))
/-- May a state be of this? -/
def newOk (ps : List Int) (m : Int) (cs : List (Int × Int)) (a : Int) : Bool :=
  decide (ps.length ≤ 128) && (decide (0 ≤ m) && decide (m ≤ 32)) && (decide (0 ≤ a) && decide (a ≤ 32)) && decide (cs.length ≤ 32) && ps.all okType && cs.all okChan
def newSt (ps : List Int) (m : Int) (cs : List (Int × Int)) (a : Int) : St := ⟨ps.map fun t => ⟨t, 0, 0⟩, List.replicate m.toNat false, cs.map fun x => ⟨x.1, x.2, []⟩, List.replicate a.toNat 0⟩
/-- A state is handed out. -/
def Made (w : World) (S : St) (e : Ending) (w' : World) : Prop := ∃ L, e = .returned (.tuple #[.pointer (some ⟨L.b, 0, none⟩), .nilIface]) ∧ Rep w' L S ∧ (∀ g, L.own g → w.heap.size ≤ g) ∧ Below w.heap.size w w'

theorem new_early (ps : List Int) (m : Int) (cs : List (Int × Int)) (a : Int) (A C : Option Addr) (ca cc : Nat) (w : World) (er et : Addr) (hE : Errs w er et)
    (hb : 128 < ps.length ∨ m < 0 ∨ 32 < m ∨ a < 0 ∨ 32 < a ∨ 32 < cs.length) :
    Calls Tryd.prog 9 #[.slice A ps.length ca, .int .i64 m, .slice C cs.length cc, .int .i64 a] w (Ret w (.tuple #[.pointer none, errV er])) := by
  have hr := hE.r
  clear hE
  have HB := Lib.hid hb
  clear hb
  go_enter Tryd.func9, Tryd.ntmps9
  go_wp2_with fail
  all_goals
    first
      | (exfalso
         have := HB.out
         omega)
      | (go_simp
         go_quiet (fail)
         go_wp2_with fail
         go_ret2
         exact ⟨rfl, below_drewN0 _ _⟩)
/-- What stands behind the makes, in either order. -/
structure Start (w W : World) (m a : Nat) (B : Nat) (L : Lay) : Prop where
  b : L.b = B
  rep : Rep W L ⟨[], List.replicate m false, [], List.replicate a 0⟩
  own : ∀ g, L.own g → w.heap.size ≤ g
  below : Below w.heap.size w W
theorem blk_self {g n x : Nat} (h : x ∈ blk (.slice (some ⟨g, 0, none⟩) n n)) : x = g := by
  cases n <;> simp [blk] at h
  exact h
theorem start1 (w : World) (m a : Nat) (hm : m ≤ 32) (ha : a ≤ 32) : ∃ L, Start w (((w.alloc (.cells (madeCells #[.bool false] m) 4)).alloc (.cells (madeCells #[.int .i64 0] a) 3)).alloc (.cells #[.slice none 0 0, .slice (some ⟨w.heap.size, 0, none⟩) m m, .slice none 0 0, .slice (some ⟨w.heap.size + 1, 0, none⟩) a a] 79)).drew m a (w.heap.size + 1 + 1) L := by
  refine ⟨⟨w.heap.size + 1 + 1, .slice none 0 0, .slice (some ⟨w.heap.size, 0, none⟩) m m, .slice none 0 0, .slice (some ⟨w.heap.size + 1, 0, none⟩) a a, []⟩, rfl, ?_, ?_, ?_⟩
  · refine Rep.init ?_ ?_ ?_ (by omega) (by omega) (by omega) (by simp only [maxLen]; omega) (by simp only [maxLen]; omega)
    · have := blk_new ((w.alloc (.cells (madeCells #[.bool false] m) 4)).alloc (.cells (madeCells #[.int .i64 0] a) 3)) (.cells #[.slice none 0 0, .slice (some ⟨w.heap.size, 0, none⟩) m m, .slice none 0 0, .slice (some ⟨w.heap.size + 1, 0, none⟩) a a] 79)
      simp only [World.size_alloc] at this
      exact this
    · exact blk_alloc (blk_alloc (blk_new w _) _) _
    · exact blk_alloc (blk_new2 w _ _) _
  · rintro g (rfl | h | h | h | h | ⟨v, hv, h⟩)
    · simp; omega
    · simp [blk] at h
    · rw [blk_self h]; omega
    · simp [blk] at h
    · rw [blk_self h]; omega
    · simp at hv
  · exact (below_alloc (below_alloc (below_alloc (Below.refl _ _) _) _) _).drew
theorem start2 (w : World) (m a : Nat) (hm : m ≤ 32) (ha : a ≤ 32) : ∃ L, Start w (((w.alloc (.cells (madeCells #[.int .i64 0] a) 3)).alloc (.cells (madeCells #[.bool false] m) 4)).alloc (.cells #[.slice none 0 0, .slice (some ⟨w.heap.size + 1, 0, none⟩) m m, .slice none 0 0, .slice (some ⟨w.heap.size, 0, none⟩) a a] 79)).drew m a (w.heap.size + 1 + 1) L := by
  refine ⟨⟨w.heap.size + 1 + 1, .slice none 0 0, .slice (some ⟨w.heap.size + 1, 0, none⟩) m m, .slice none 0 0, .slice (some ⟨w.heap.size, 0, none⟩) a a, []⟩, rfl, ?_, ?_, ?_⟩
  · refine Rep.init ?_ ?_ ?_ (by omega) (by omega) (by omega) (by simp only [maxLen]; omega) (by simp only [maxLen]; omega)
    · have := blk_new ((w.alloc (.cells (madeCells #[.int .i64 0] a) 3)).alloc (.cells (madeCells #[.bool false] m) 4)) (.cells #[.slice none 0 0, .slice (some ⟨w.heap.size + 1, 0, none⟩) m m, .slice none 0 0, .slice (some ⟨w.heap.size, 0, none⟩) a a] 79)
      simp only [World.size_alloc] at this
      exact this
    · exact blk_alloc (blk_new2 w _ _) _
    · exact blk_alloc (blk_alloc (blk_new w _) _) _
  · rintro g (rfl | h | h | h | h | ⟨v, hv, h⟩)
    · simp; omega
    · simp [blk] at h
    · rw [blk_self h]; omega
    · simp [blk] at h
    · rw [blk_self h]; omega
    · simp at hv
  · exact (below_alloc (below_alloc (below_alloc (Below.refl _ _) _) _) _).drew

/-- The places so far. -/
structure P1 (w wr : World) (m a B : Nat) (ps : List Int) (k : Nat) (L : Lay) : Prop where
  b : L.b = B
  rep : Rep wr L ⟨(ps.take k).map fun t => ⟨t, 0, 0⟩, List.replicate m false, [], List.replicate a 0⟩
  own : ∀ g, L.own g → w.heap.size ≤ g
  ok : (ps.take k).all okType = true
theorem P1.later {w wr w' : World} {m a B k : Nat} {ps : List Int} {L : Lay} (h : P1 w wr m a B ps k L) (hb : Below wr.heap.size wr w') : P1 w w' m a B ps k L := ⟨h.b, h.rep.later hb, h.own, h.ok⟩
theorem P1.cells {w wr : World} {m a B k : Nat} {ps : List Int} {L : Lay} (h : P1 w wr m a B ps k L) (hk : k ≤ ps.length) : wr.cell? ⟨B, 0, none⟩ = some L.vp ∧ wr.frozen? ⟨B, 0, none⟩ = false ∧ B < wr.heap.size ∧ ∃ A c, L.vp = .slice A k c := by
  have hf := h.rep.fields.1
  have hz := blk_free h.rep.blk0 0
  have hl := blk_lt h.rep.blk0
  obtain ⟨A, c, e, _⟩ := h.rep.places.form
  rw [h.b] at hf hz hl
  exact ⟨hf, hz, hl, A, c, by rw [e]; simp; omega⟩
theorem P1.row {w wr W : World} {m a B k : Nat} {ps : List Int} {L : Lay} (h : P1 w wr m a B ps k L) (hk : k ≤ ps.length) (hb : Below wr.heap.size wr W) : Row W 37 3 L.vp k (vcells ((ps.take k).map fun t => (⟨t, 0, 0⟩ : Val))) := by
  have := (h.rep.later hb).places
  simpa [Nat.min_eq_left hk] using this
theorem P1.notB {w wr : World} {m a B k : Nat} {ps : List Int} {L : Lay} (h : P1 w wr m a B ps k L) : B ∉ blk L.vp := h.b ▸ h.rep.sep.bp
theorem P1.freeB {w wr W : World} {m a B k : Nat} {ps : List Int} {L : Lay} (h : P1 w wr m a B ps k L) (hb : Below wr.heap.size wr W) : W.frozen? ⟨B, 0, none⟩ = false := by
  rw [← h.b]; exact blk_free (h.rep.later hb).blk0 0
theorem P1.next {w wr w2 w3 : World} {m a B k : Nat} {ps : List Int} {L : Lay} (h : P1 w wr m a B ps k L) (hw : w.heap.size ≤ wr.heap.size) (hk : k < ps.length) (t : Int) (ht : ps.getD k 0 = t) (ok : okType t = true) (hb : Below wr.heap.size wr w2) (hkk : Kept (blk L.vp) w2 w3) (u : Value)
    (hr : Row w3 37 3 u (k + 1) (vcells ((ps.take k).map fun t => (⟨t, 0, 0⟩ : Val)) ++ [.int .i64 t, .int .i64 0, .int .u64 0])) (hu : ∀ g ∈ blk u, g ∈ blk L.vp ∨ w2.heap.size ≤ g) : P1 w (w3.setCell ⟨B, 0, none⟩ u) m a B ps (k + 1) { L with vp := u } := by
  have hB := h.b
  subst hB
  have e : (ps.take (k + 1)).map (fun t => (⟨t, 0, 0⟩ : Val)) = (ps.take k).map (fun t => (⟨t, 0, 0⟩ : Val)) ++ [⟨t, 0, 0⟩] := by
    rw [List.take_succ_eq_append_getElem hk, List.map_append]
    simp [hk] at ht
    simp [ht]
  have hl : ((ps.take k).map fun t => (⟨t, 0, 0⟩ : Val)).length = k := by simp; omega
  have hrep := (h.rep.later hb).addPlace ⟨t, 0, 0⟩ hkk u (by rw [← vcells_snoc]; simp only [hl]; exact hr) hu
  refine ⟨rfl, by rw [e]; exact hrep, ?_, ?_⟩
  · rintro g (hg | hg | hg | hg | hg | hg)
    · exact h.own g (.inl hg)
    · rcases hu g hg with h1 | h1
      · exact h.own g (.inr (.inl h1))
      · exact Nat.le_trans hw (Nat.le_trans hb.size h1)
    · exact h.own g (.inr (.inr (.inl hg)))
    · exact h.own g (.inr (.inr (.inr (.inl hg))))
    · exact h.own g (.inr (.inr (.inr (.inr (.inl hg)))))
    · exact h.own g (.inr (.inr (.inr (.inr (.inr hg)))))
  · rw [List.take_succ_eq_append_getElem hk, List.all_append, h.ok]
    simp [hk] at ht
    simp [ht, ok]
theorem P1.nextBelow {w wr w2 w3 : World} {m a B k : Nat} {ps : List Int} {L : Lay} (h : P1 w wr m a B ps k L) (hw : Below w.heap.size w wr) (hb : Below wr.heap.size wr w2) (hkk : Kept (blk L.vp) w2 w3) (u : Value) : Below w.heap.size w (w3.setCell ⟨B, 0, none⟩ u) := by
  have h1 := below_next hw hb
  have h2 : Below w.heap.size w2 w3 := hkk.below (fun i hi => h.own i (.inr (.inl hi))) h1.size
  exact (h1.trans h2).setCell (by have := h.own L.b (.inl rfl); rw [h.b] at this; exact this) u
theorem below_drewN1 {w W : World} (h : Below w.heap.size w W) (n : Nat) : Below w.heap.size w (W.drewN n) := ⟨h.os, h.tape, h.output, h.size, h.block⟩
theorem valZero_ok (t : Int) (w : World) (h : okType t = true) : Calls Tryd.prog 24 #[.int .i64 t] w (Ret w (.agg #[.int .i64 t, .int .i64 0, .int .u64 0])) := by
  have := valZero_any t w
  simp [okType] at h
  rwa [show (zeroOf t).agg = .agg #[.int .i64 t, .int .i64 0, .int .u64 0] by simp [zeroOf, Val.agg, show ¬ (t < 1 ∨ 3 < t) by omega]] at this
theorem valZero_no (t : Int) (w : World) (h : okType t = false) : Calls Tryd.prog 24 #[.int .i64 t] w (Ret w (.agg #[.int .i64 0, .int .i64 0, .int .u64 0])) := by
  have := valZero_any t w
  simp [okType] at h
  rwa [show (zeroOf t).agg = .agg #[.int .i64 0, .int .i64 0, .int .u64 0] by simp [zeroOf, Val.agg, show t < 1 ∨ 3 < t by omega]] at this
/-- The channels so far. -/
structure P2 (w wr : World) (m a B : Nat) (ps : List Int) (cs : List (Int × Int)) (k : Nat) (L : Lay) : Prop where
  b : L.b = B
  rep : Rep wr L ⟨ps.map fun t => ⟨t, 0, 0⟩, List.replicate m false, (cs.take k).map fun x => ⟨x.1, x.2, []⟩, List.replicate a 0⟩
  own : ∀ g, L.own g → w.heap.size ≤ g
  ok : (cs.take k).all okChan = true
theorem P2.later {w wr w' : World} {m a B k : Nat} {ps : List Int} {cs : List (Int × Int)} {L : Lay} (h : P2 w wr m a B ps cs k L) (hb : Below wr.heap.size wr w') : P2 w w' m a B ps cs k L := ⟨h.b, h.rep.later hb, h.own, h.ok⟩
theorem P2.cells {w wr : World} {m a B k : Nat} {ps : List Int} {cs : List (Int × Int)} {L : Lay} (h : P2 w wr m a B ps cs k L) (hk : k ≤ cs.length) : wr.cell? ⟨B, 2, none⟩ = some L.vc ∧ wr.frozen? ⟨B, 2, none⟩ = false ∧ B < wr.heap.size ∧ ∃ A c, L.vc = .slice A k c := by
  have hf := h.rep.fields.2.2.1
  have hz := blk_free h.rep.blk0 2
  have hl := blk_lt h.rep.blk0
  obtain ⟨A, c, e, _⟩ := h.rep.chans.form
  rw [h.b] at hf hz hl
  exact ⟨hf, hz, hl, A, c, by rw [e]; simp; omega⟩
theorem P2.row {w wr W : World} {m a B k : Nat} {ps : List Int} {cs : List (Int × Int)} {L : Lay} (h : P2 w wr m a B ps cs k L) (hk : k ≤ cs.length) (hb : Below wr.heap.size wr W) : Row W 81 3 L.vc k (qcells ((cs.take k).map fun x => (⟨x.1, x.2, []⟩ : Ch)) L.hs) := by
  have := (h.rep.later hb).chans
  simpa [Nat.min_eq_left hk] using this
theorem P2.notB {w wr : World} {m a B k : Nat} {ps : List Int} {cs : List (Int × Int)} {L : Lay} (h : P2 w wr m a B ps cs k L) : B ∉ blk L.vc := h.b ▸ h.rep.sep.bc
theorem P2.freeB {w wr W : World} {m a B k : Nat} {ps : List Int} {cs : List (Int × Int)} {L : Lay} (h : P2 w wr m a B ps cs k L) (hb : Below wr.heap.size wr W) : W.frozen? ⟨B, 2, none⟩ = false := by
  rw [← h.b]; exact blk_free (h.rep.later hb).blk0 2
theorem P2.next {w wr w2 w3 : World} {m a B k : Nat} {ps : List Int} {cs : List (Int × Int)} {L : Lay} (h : P2 w wr m a B ps cs k L) (hw : w.heap.size ≤ wr.heap.size) (t room : Int) (hk : cs[k]? = some (t, room)) (ok : okChan (t, room) = true) (hb : Below wr.heap.size wr w2) (hkk : Kept (blk L.vc) w2 w3) (u : Value)
    (hr : Row w3 81 3 u (k + 1) (qcells ((cs.take k).map fun x => (⟨x.1, x.2, []⟩ : Ch)) L.hs ++ [.int .i64 t, .int .i64 room, .slice none 0 0])) (hu : ∀ g ∈ blk u, g ∈ blk L.vc ∨ w2.heap.size ≤ g) : P2 w (w3.setCell ⟨B, 2, none⟩ u) m a B ps cs (k + 1) { L with vc := u, hs := L.hs ++ [.slice none 0 0] } := by
  have hB := h.b
  subst hB
  have hlt : k < cs.length := (List.getElem?_eq_some_iff.1 hk).1
  have hke : cs[k] = (t, room) := (List.getElem?_eq_some_iff.1 hk).2
  have e : (cs.take (k + 1)).map (fun x => (⟨x.1, x.2, []⟩ : Ch)) = (cs.take k).map (fun x => (⟨x.1, x.2, []⟩ : Ch)) ++ [⟨t, room, []⟩] := by
    rw [List.take_succ_eq_append_getElem hlt, List.map_append, hke]
    rfl
  have hl : ((cs.take k).map fun x => (⟨x.1, x.2, []⟩ : Ch)).length = k := by simp; omega
  have hrep := (h.rep.later hb).addChan t room hkk u (by simp only [hl]; exact hr) hu
  refine ⟨rfl, by rw [e]; exact hrep, ?_, ?_⟩
  · rintro g (hg | hg | hg | hg | hg | ⟨v, hv, hg⟩)
    · exact h.own g (.inl hg)
    · exact h.own g (.inr (.inl hg))
    · exact h.own g (.inr (.inr (.inl hg)))
    · rcases hu g hg with h1 | h1
      · exact h.own g (.inr (.inr (.inr (.inl h1))))
      · exact Nat.le_trans hw (Nat.le_trans hb.size h1)
    · exact h.own g (.inr (.inr (.inr (.inr (.inl hg)))))
    · have hv2 : v ∈ L.hs ++ [.slice none 0 0] := hv
      simp only [List.mem_append, List.mem_singleton] at hv2
      rcases hv2 with hv | rfl
      · exact h.own g (.inr (.inr (.inr (.inr (.inr ⟨v, hv, hg⟩)))))
      · simp [blk] at hg
  · rw [List.take_succ_eq_append_getElem hlt, List.all_append, h.ok, hke]
    simp [ok]
theorem P2.nextBelow {w wr w2 w3 : World} {m a B k : Nat} {ps : List Int} {cs : List (Int × Int)} {L : Lay} (h : P2 w wr m a B ps cs k L) (hw : Below w.heap.size w wr) (hb : Below wr.heap.size wr w2) (hkk : Kept (blk L.vc) w2 w3) (u : Value) : Below w.heap.size w (w3.setCell ⟨B, 2, none⟩ u) := by
  have h1 := below_next hw hb
  have h2 : Below w.heap.size w2 w3 := hkk.below (fun i hi => h.own i (.inr (.inr (.inr (.inl hi))))) h1.size
  exact (h1.trans h2).setCell (by have := h.own L.b (.inl rfl); rw [h.b] at this; exact this) u
theorem newOk_no {ps : List Int} {m a : Int} {cs : List (Int × Int)} {k : Nat} {x : Int × Int} (hx : cs[k]? = some x) (h : okChan x = false) : newOk ps m cs a = false := by
  have : cs.all okChan = false := by
    rw [Bool.eq_false_iff]
    intro h2
    have := List.all_eq_true.1 h2 x (List.mem_of_getElem? hx)
    rw [h] at this
    cases this
  simp [newOk, this]
theorem two_later {wr w1 : World} {a b : Value} {T : TypeId} (hb1 : Below (wr.alloc (.cells #[a, b] T)).heap.size (wr.alloc (.cells #[a, b] T)) w1) : w1.cell? ⟨wr.heap.size, 0, none⟩ = some a ∧ w1.cell? ⟨wr.heap.size, 1, none⟩ = some b ∧ wr.heap.size < w1.heap.size := by
  have h := blk_later hb1 (blk_new wr _)
  exact ⟨by rw [blk_cell h]; rfl, by rw [blk_cell h]; rfl, blk_lt h⟩
/-- What New comes to. -/
def NewEnd (w : World) (ps : List Int) (m : Int) (cs : List (Int × Int)) (a : Int) (er : Addr) (e : Ending) (w' : World) : Prop :=
  (newOk ps m cs a = true ∧ Made w (newSt ps m cs a) e w') ∨ (newOk ps m cs a = false ∧ Ret w (.tuple #[.pointer none, errV er]) e w')

set_option maxRecDepth 100000 in
set_option maxHeartbeats 4000000 in
theorem new_any (ps : List Int) (m a : Nat) (cs : List (Int × Int)) (A C : Option Addr) (ca cc : Nat) (w : World) (er et : Addr) (hE : Errs w er et) (hp : RI w A ps) (hC : Rd w C (ccells cs))
    (h1 : ps.length ≤ 128) (h2 : m ≤ 32) (h3 : a ≤ 32) (h4 : cs.length ≤ 32) :
    Calls Tryd.prog 9 #[.slice A ps.length ca, .int .i64 m, .slice C cs.length cc, .int .i64 a] w (NewEnd w ps m cs a er) := by
  have HE := Lib.hid hE
  have HP := Lib.hid hp
  have HC := Lib.hid hC
  clear hE hp hC
  have mkB := make_one (P := Tryd.prog) 69 4 (.bool false) 1 Tryd.underlying69 infoBool rfl (by omega) m (by omega)
  have mkI := make_one (P := Tryd.prog) 22 3 (.int .i64 0) 8 Tryd.underlying22 infoInt rfl (by omega) a (by omega)
  have d1 : decide (128 < (ps.length : Int)) = false := decide_eq_false (by omega)
  have d2 : decide ((m : Int) < 0) = false := decide_eq_false (by omega)
  have d3 : decide (32 < (m : Int)) = false := decide_eq_false (by omega)
  have d4 : decide ((a : Int) < 0) = false := decide_eq_false (by omega)
  have d5 : decide (32 < (a : Int)) = false := decide_eq_false (by omega)
  have d6 : decide (32 < (cs.length : Int)) = false := decide_eq_false (by omega)
  have fld : ∀ (x y z : Value) (w : World), (Instr.field 37 (.agg #[x, y, z]) 0).run Tryd.prog w = .ok x w := fun _ _ _ _ => by kernel_rfl
  have i1 : (ps.length : Int) ≤ 128 := by omega
  have i2 : (m : Int) ≤ 32 := by omega
  have i3 : (a : Int) ≤ 32 := by omega
  have i4 : (cs.length : Int) ≤ 32 := by omega
  go_enter Tryd.func9, Tryd.ntmps9
  go_wp2_with fail
  go_region
  all_goals
    first
      | (obtain ⟨W, hW⟩ : ∃ W, (((w.alloc (.cells (madeCells #[.bool false] m) 4)).alloc (.cells (madeCells #[.int .i64 0] a) 3)).alloc (.cells #[.slice none 0 0, .slice (some ⟨w.heap.size, 0, none⟩) m m, .slice none 0 0, .slice (some ⟨w.heap.size + 1, 0, none⟩) a a] 79)).drew = W := ⟨_, rfl⟩
         rw [hW]
         obtain ⟨L0, h⟩ := start1 w m a h2 h3
         rw [hW] at h
         have HS := Lib.hid h
         clear h hW)
      | (obtain ⟨W, hW⟩ : ∃ W, (((w.alloc (.cells (madeCells #[.int .i64 0] a) 3)).alloc (.cells (madeCells #[.bool false] m) 4)).alloc (.cells #[.slice none 0 0, .slice (some ⟨w.heap.size + 1, 0, none⟩) m m, .slice none 0 0, .slice (some ⟨w.heap.size, 0, none⟩) a a] 79)).drew = W := ⟨_, rfl⟩
         rw [hW]
         obtain ⟨L0, h⟩ := start2 w m a h2 h3
         rw [hW] at h
         have HS := Lib.hid h
         clear h hW)
    obtain ⟨B, hB⟩ : ∃ B, B = w.heap.size + 1 + 1 := ⟨_, rfl⟩
    rw [← hB] at HS ⊢
    clear hB mkB mkI
    have HB0 := HS.out.below
    go_wp2_with fail
    go_loopw [49] (fun i wr => ∃ (k : Nat) (L : Lay), k ≤ ps.length ∧ i = .int .i64 k ∧ Below w.heap.size w wr ∧ Hid (P1 w wr m a B ps k L)) (fun i _ => ps.length - (intOf i).toNat)
    case atStart => exact ⟨0, L0, Nat.zero_le _, rfl, HB0, ⟨HS.out.b, by simpa using HS.out.rep, HS.out.own, by simp⟩⟩
    case round =>
      obtain ⟨k, L, hk, rfl, hb, hP⟩ := hrel
      by_cases hlt : k < ps.length
      · obtain ⟨b1, o1, rfl, c1⟩ := (HP.out.later hb).at k hlt
        obtain ⟨t, et'⟩ : ∃ t, ps.getD k 0 = t := ⟨_, rfl⟩
        rw [et'] at c1
        have ET := Lib.hid et'
        clear et'
        by_cases ht : okType t = true
        · have ht0 : (t == 0) = false := by
            simp [okType] at ht
            simp; omega
          have HT := Lib.hid ht
          clear ht
          go_wp2_with fail
          refine (valZero_ok t _ HT.out).mono ?_
          rintro e w1 ⟨rfl, hb1⟩
          have hb2 := below_next hb hb1
          have HP1 := Lib.hid (hP.out.later hb1)
          have hsz := Nat.le_trans hb.size hb1.size
          obtain ⟨p1, p2, p3, AP, cp, ev⟩ := HP1.out.cells hk
          rw [ev] at p1
          have EV := Lib.hid ev
          clear ev
          have q0 : ∀ (n : Nat) (o : Obj) (c : Array Value) (t : TypeId), (((w1.alloc o).drewN n).alloc (.cells c t)).cell? ⟨B, 0, none⟩ = some (.slice AP k cp) := fun n o c t => cell_later (below_alloc (below_drewN1 (below_alloc (Below.refl _ _) _) _) _) p1
          have q1 : ∀ (o : Obj) (c : Array Value) (t : TypeId), (((w1.alloc o).drew).alloc (.cells c t)).cell? ⟨B, 0, none⟩ = some (.slice AP k cp) := fun o c t => cell_later (below_alloc (below_drew1 (below_alloc (Below.refl _ _) _)) _) p1
          have q2 : ∀ (o o2 : Obj), ((w1.alloc o).alloc o2).cell? ⟨B, 0, none⟩ = some (.slice AP k cp) := fun o o2 => cell_later (below_alloc (below_alloc (Below.refl _ _) _) _) p1
          go_wp2_with fail
          go_region_law
            ((refine step_append_row (by rfl) _ _ _ 37 _ 3 24 (by rfl) Tryd.underlying68 infoVal (by rfl) (by omega) L.vp k (vcells ((ps.take k).map fun t => (⟨t, 0, 0⟩ : Val))) (by rw [EV.out]; rfl) (HP1.out.row hk (by repeat (first | exact Below.refl _ _ | refine below_alloc ?_ _ | refine below_drew1 ?_ | refine below_drewN1 ?_ _))) (some ⟨w1.heap.size + 1, 0, none⟩) 1 1 [.int .i64 t, .int .i64 0, .int .u64 0] (by rfl) (by rfl) (by simp) (by omega) (rd_blk (T := 37) (by exact blk_new2 w1 _ _) (by simp [maxLen])) (by simp [Value.oneCell']) (by simp only [maxLen]; omega) (by omega) ?_; intro v1 w3 hrow3 hkk hb3; obtain ⟨A3, c3, rfl, _⟩ := hrow3.form; have q3 := hkk.cell (a := ⟨B, 0, none⟩) (cell_later (by repeat (first | exact Below.refl _ _ | refine below_alloc ?_ _ | refine below_drew1 ?_ | refine below_drewN1 ?_ _)) p1) HP1.out.notB; have p5 := (hkk.frozen (a := ⟨B, 0, none⟩) (by simp; omega) HP1.out.notB).trans (HP1.out.freeB (by repeat (first | exact Below.refl _ _ | refine below_alloc ?_ _ | refine below_drew1 ?_ | refine below_drewN1 ?_ _)))))
          all_goals
            go_wp2
            go_roundw
            case rel => exact ⟨k + 1, _, by omega, by go_num, HP1.out.nextBelow hb2 (by repeat (first | exact Below.refl _ _ | refine below_alloc ?_ _ | refine below_drew1 ?_ | refine below_drewN1 ?_ _)) hkk _, HP1.out.next hsz hlt t ET.out HT.out (by repeat (first | exact Below.refl _ _ | refine below_alloc ?_ _ | refine below_drew1 ?_ | refine below_drewN1 ?_ _)) hkk _ hrow3 hb3⟩
            case measure => simp [intOf]; omega
        · have HT := Lib.hid (Bool.eq_false_iff.2 ht)
          have HBAD : Hid (newOk ps m cs a = false) := by
            have hm : t ∈ ps := by
              have h1 := ET.out
              rw [← h1]
              simp [hlt]
            have : ps.all okType = false := by
              rw [Bool.eq_false_iff]
              intro h
              exact ht (List.all_eq_true.1 h t hm)
            show newOk ps m cs a = false
            simp [newOk, this]
          clear ht
          go_wp2_with fail
          refine (valZero_no t _ HT.out).mono ?_
          rintro e w1 ⟨rfl, hb1⟩
          have hb2 := below_next hb hb1
          have hr : ∀ o, (w1.alloc o).cell? ⟨0, 0, none⟩ = some (.iface 127 (.pointer (some er))) := fun o => (HE.out.later (below_alloc hb2 o)).r
          go_wp2_with fail
          go_simp
          go_quiet (fail)
          go_wp2_with fail
          go_ret2
          exact .inr ⟨HBAD.out, rfl, by repeat (first | exact hb2 | refine below_alloc ?_ _ | refine below_drew1 ?_ | refine below_drewN1 ?_ _)⟩
      · have HK : Hid (k = ps.length) := by show _ = _; omega
        have HPS := Lib.hid (show ps.all okType = true by
          have h1 := hP.out.ok
          rwa [HK.out, List.take_length] at h1)
        have HP2 : Hid (P2 w wr m a B ps cs 0 L) := by
          have h1 := hP.out
          rw [HK.out] at h1
          exact ⟨h1.b, by have := h1.rep; rw [List.take_length] at this; simpa using this, h1.own, by simp⟩
        go_wp2_with fail
        clear hP HK hlt hk
        obtain ⟨w0, rfl⟩ : ∃ w0 : World, w0 = wr := ⟨_, rfl⟩
        go_loopw [72] (fun i wr => ∃ (k : Nat) (L : Lay), k ≤ cs.length ∧ i = .int .i64 k ∧ Below w.heap.size w wr ∧ Hid (P2 w wr m a B ps cs k L)) (fun i _ => cs.length - (intOf i).toNat)
        case atStart => exact ⟨0, L, Nat.zero_le _, rfl, hb, HP2⟩
        case round =>
          obtain ⟨k, L, hk, rfl, hb, hP⟩ := hrel
          by_cases hlt : k < cs.length
          · obtain ⟨⟨t, room⟩, hx⟩ : ∃ x, cs[k]? = some x := ⟨_, List.getElem?_eq_getElem hlt⟩
            have hcc := ccells_at hx
            obtain ⟨b1, o1, rfl, hcell⟩ := (HC.out.later hb).2 (by rw [ccells_len]; omega)
            have c1 := hcell (k * 2) (by rw [ccells_len]; omega)
            have c2 := hcell (k * 2 + 1) (by rw [ccells_len]; omega)
            rw [(List.getElem?_eq_some_iff.1 hcc.1).2] at c1
            rw [(List.getElem?_eq_some_iff.1 hcc.2).2, ← Nat.add_assoc] at c2
            have HX := Lib.hid hx
            clear hx hcc hcell
            by_cases ht : okType t = true
            · have ht0 : (t == 0) = false := by
                simp [okType] at ht
                simp; omega
              by_cases hr : 0 ≤ room ∧ room ≤ 8
              · have r0 : decide (room < 0) = false := decide_eq_false (by omega)
                have r1 : decide (8 < room) = false := decide_eq_false (by omega)
                have HT := Lib.hid ht
                have HOK := Lib.hid (show okChan (t, room) = true by simp [okChan, ht, hr])
                clear ht hr
                go_wp2_with fail
                refine (valZero_ok t _ HT.out).mono ?_
                rintro e w1 ⟨rfl, hb1⟩
                have hb2 := below_next (below_alloc hb _) hb1
                obtain ⟨v0, v1, vz⟩ := two_later hb1
                have HPW := Lib.hid (hP.out.later (below_next (below_alloc (Below.refl _ _) _) hb1))
                have hsz := hb2.size
                obtain ⟨p1, p2, p3, AP, cp, ev⟩ := HPW.out.cells hk
                rw [ev] at p1
                have EV := Lib.hid ev
                clear ev
                have q0 : ∀ (n : Nat) (c : Array Value) (t : TypeId), ((w1.drewN n).alloc (.cells c t)).cell? ⟨B, 2, none⟩ = some (.slice AP k cp) := fun n c t => cell_later (below_alloc (below_drewN1 (Below.refl _ _) _) _) p1
                have q1 : ∀ (c : Array Value) (t : TypeId), ((w1.drew).alloc (.cells c t)).cell? ⟨B, 2, none⟩ = some (.slice AP k cp) := fun c t => cell_later (below_alloc (below_drew1 (Below.refl _ _)) _) p1
                have q2 : ∀ (o : Obj), (w1.alloc o).cell? ⟨B, 2, none⟩ = some (.slice AP k cp) := fun o => cell_later (below_alloc (Below.refl _ _) _) p1
                go_wp2_with fail
                go_region_law
                  ((refine step_append_row (by rfl) _ _ _ 81 _ 3 40 (by rfl) Tryd.underlying77 infoQueue (by rfl) (by omega) L.vc k (qcells ((cs.take k).map fun x => (⟨x.1, x.2, []⟩ : Ch)) L.hs) (by rw [EV.out]; rfl) (HPW.out.row hk (by repeat (first | exact Below.refl _ _ | refine below_alloc ?_ _ | refine below_drew1 ?_ | refine below_drewN1 ?_ _))) (some ⟨w1.heap.size, 0, none⟩) 1 1 [.int .i64 t, .int .i64 room, .slice none 0 0] (by rfl) (by rfl) (by simp) (by omega) (rd_blk (T := 81) (by exact blk_new w1 _) (by simp [maxLen])) (by simp [Value.oneCell']) (by simp only [maxLen]; omega) (by omega) ?_; intro v1' w3 hrow3 hkk hb3; obtain ⟨A3, c3, rfl, _⟩ := hrow3.form; have q3 := hkk.cell (a := ⟨B, 2, none⟩) (cell_later (by repeat (first | exact Below.refl _ _ | refine below_alloc ?_ _ | refine below_drew1 ?_ | refine below_drewN1 ?_ _)) p1) HPW.out.notB; have p5 := (hkk.frozen (a := ⟨B, 2, none⟩) (by simp; omega) HPW.out.notB).trans (HPW.out.freeB (by repeat (first | exact Below.refl _ _ | refine below_alloc ?_ _ | refine below_drew1 ?_ | refine below_drewN1 ?_ _)))))
                all_goals
                  go_wp2
                  go_roundw
                  case rel => exact ⟨k + 1, _, by omega, by go_num, HPW.out.nextBelow hb2 (by repeat (first | exact Below.refl _ _ | refine below_alloc ?_ _ | refine below_drew1 ?_ | refine below_drewN1 ?_ _)) hkk _, HPW.out.next hsz t room HX.out HOK.out (by repeat (first | exact Below.refl _ _ | refine below_alloc ?_ _ | refine below_drew1 ?_ | refine below_drewN1 ?_ _)) hkk _ hrow3 hb3⟩
                  case measure => simp [intOf]; omega
              · have HBAD : Hid (newOk ps m cs a = false) := newOk_no HX.out (by simp only [okChan, Bool.and_eq_false_iff, decide_eq_false_iff_not]; right; omega)
                have HT := Lib.hid ht
                clear ht
                by_cases hr1 : room < 0
                · have r0 : decide (room < 0) = true := decide_eq_true hr1
                  clear hr
                  go_wp2_with fail
                  refine (valZero_ok t _ HT.out).mono ?_
                  rintro e w1 ⟨rfl, hb1⟩
                  have hb2 := below_next (below_alloc hb _) hb1
                  obtain ⟨v0, v1, vz⟩ := two_later hb1
                  have hr := (HE.out.later hb2).r
                  go_wp2_with fail
                  go_simp
                  go_quiet (fail)
                  go_wp2_with fail
                  go_ret2
                  exact .inr ⟨HBAD.out, rfl, by repeat (first | exact hb2 | refine below_alloc ?_ _ | refine below_drew1 ?_ | refine below_drewN1 ?_ _)⟩
                · have r0 : decide (room < 0) = false := decide_eq_false hr1
                  have r1 : decide (8 < room) = true := decide_eq_true (by omega)
                  clear hr
                  go_wp2_with fail
                  refine (valZero_ok t _ HT.out).mono ?_
                  rintro e w1 ⟨rfl, hb1⟩
                  have hb2 := below_next (below_alloc hb _) hb1
                  obtain ⟨v0, v1, vz⟩ := two_later hb1
                  have hr := (HE.out.later hb2).r
                  go_wp2_with fail
                  go_simp
                  go_quiet (fail)
                  go_wp2_with fail
                  go_ret2
                  exact .inr ⟨HBAD.out, rfl, by repeat (first | exact hb2 | refine below_alloc ?_ _ | refine below_drew1 ?_ | refine below_drewN1 ?_ _)⟩
            · have HBAD : Hid (newOk ps m cs a = false) := newOk_no HX.out (by simp only [okChan, Bool.and_eq_false_iff]; left; exact Bool.eq_false_iff.2 ht)
              have HT := Lib.hid (Bool.eq_false_iff.2 ht)
              clear ht
              go_wp2_with fail
              refine (valZero_no t _ HT.out).mono ?_
              rintro e w1 ⟨rfl, hb1⟩
              have hb2 := below_next (below_alloc hb _) hb1
              obtain ⟨v0, v1, vz⟩ := two_later hb1
              have hr := (HE.out.later hb2).r
              go_wp2_with fail
              go_simp
              go_quiet (fail)
              go_wp2_with fail
              go_ret2
              exact .inr ⟨HBAD.out, rfl, by repeat (first | exact hb2 | refine below_alloc ?_ _ | refine below_drew1 ?_ | refine below_drewN1 ?_ _)⟩
          · have HK : Hid (k = cs.length) := by show _ = _; omega
            have HEND : Hid (newOk ps m cs a = true ∧ ∃ L, L.b = B ∧ Rep wr L (newSt ps m cs a) ∧ ∀ g, L.own g → w.heap.size ≤ g) := by
              have h1 := hP.out
              rw [HK.out] at h1
              have h5 := h1.ok
              have h6 := h1.rep
              rw [List.take_length] at h5 h6
              refine ⟨?_, L, h1.b, by simpa [newSt] using h6, h1.own⟩
              have e1 := HPS.out
              simp only [newOk, e1, h5, Bool.and_true, Bool.and_eq_true, decide_eq_true_eq]
              omega
            go_wp2_with fail
            go_ret2
            obtain ⟨hok, L2, e2, hr2, ho2⟩ := HEND.out
            exact .inl ⟨hok, L2, by rw [e2]; rfl, hr2, ho2, hb⟩
end Go.Proofs.YtmalbdoneghnmaaDoor
