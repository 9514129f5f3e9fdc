/-
  A pool made.
-/
import Derived.Test.YtpjphmpebegidaaDoorPool7
namespace Go.Proofs.YtpjphmpebegidaaDoor
open Go.RowKit Go.Stk
attribute [local go_sem ↓] Go.wp_at_zero Go.wp_at_succ

/-- Counts, as the program's numbers. -/
def ints' (ys : List Nat) : List Int := ys.map Int.ofNat
theorem madePages (m : Nat) : madeCells (Value.cells (.agg #[.int .i64 0, .int .i64 0, .int .i64 0, .int .i64 0, .int .i64 0, .int .i64 0, .int .i64 0, .int .i64 0, .int .i64 0, .int .i64 0, .int .i64 0, .int .i64 0, .int .i64 0, .int .i64 0, .int .i64 0, .int .i64 0])) (m * 16) = (ints (List.replicate (m * 16) 0)).toArray := by
  have hc : Value.cells (.agg #[.int .i64 0, .int .i64 0, .int .i64 0, .int .i64 0, .int .i64 0, .int .i64 0, .int .i64 0, .int .i64 0, .int .i64 0, .int .i64 0, .int .i64 0, .int .i64 0, .int .i64 0, .int .i64 0, .int .i64 0, .int .i64 0]) = Array.replicate 16 (.int .i64 0) := rfl
  rw [hc]
  apply Array.ext
  · simp [size_madeCells, ints]
  · intro j h1 h2
    have : j % 16 < 16 := Nat.mod_lt _ (by omega)
    simp only [madeCells, Array.getElem_map, Array.getElem_range, Array.size_replicate]
    rw [getElem!_pos _ _ (by simpa using this)]
    simp [ints]
theorem info_page3 : (Tryd.prog.info? 74).map (fun i => (i.zero, i.size, i.bytes)) = some (some (.agg #[.int .i64 0, .int .i64 0, .int .i64 0, .int .i64 0, .int .i64 0, .int .i64 0, .int .i64 0, .int .i64 0, .int .i64 0, .int .i64 0, .int .i64 0, .int .i64 0, .int .i64 0, .int .i64 0, .int .i64 0, .int .i64 0]), 16, 128) := by kernel_rfl
theorem make_pages (m : Nat) (h : m ≤ 256) (W : World) : (Instr.makeSlice 62 (.int .i64 (m : Int)) (.int .i64 (m : Int))).run Tryd.prog W = .ok (.slice (some ⟨W.heap.size, 0, none⟩) m m) (W.alloc (.cells (ints (List.replicate (m * 16) 0)).toArray 74)) := by
  obtain ⟨i, hi, hzz⟩ := Option.map_eq_some_iff.1 info_page3
  simp only [Prod.mk.injEq] at hzz
  obtain ⟨hz, hs, hb⟩ := hzz
  have hr := run_make (P := Tryd.prog) W _ _ i _ Tryd.underlying62 hi hz .i64 .i64 m m (by omega) (by omega) (by rw [hb]; omega) (by omega)
  simp only [Int.toNat_natCast, hs] at hr
  rw [madePages] at hr
  exact hr

def okSh (left : Int) : List Int → Bool
  | [] => true
  | n :: r => decide (0 ≤ n) && (decide (n ≤ left) && okSh (left - n) r)
def newOk (np : Int) (xs : List Int) : Bool := decide (1 ≤ np) && (decide (np ≤ 256) && (decide (xs.length ≤ 8) && okSh np xs))
def newAr (off n : Nat) : Ar := ⟨off, n, List.replicate n 0, List.replicate n false⟩
def newArs : Nat → List Nat → List Ar
  | _, [] => []
  | off, n :: r => newAr off n :: newArs (off + n) r
theorem newArs_snoc (off : Nat) (ys : List Nat) (n : Nat) : newArs off (ys ++ [n]) = newArs off ys ++ [newAr (off + ys.sum) n] := by
  induction ys generalizing off with
  | nil => simp [newArs]
  | cons y r ih => simp [newArs, ih, Nat.add_assoc]
theorem newArs_len (off : Nat) (ys : List Nat) : (newArs off ys).length = ys.length := by
  induction ys generalizing off with
  | nil => rfl
  | cons y r ih => simp [newArs, ih]
def newPS (np : Nat) (ys : List Nat) : PS := ⟨np, List.replicate (np * 16) 0, newArs 0 ys⟩
/-- The arenas so far. -/
structure NewR (w wr : World) (b g : Nat) (np : Nat) (xs : List Int) (k : Nat) (L : PLay) (ys : List Nat) (at_ : Nat) : Prop where
  b : L.pb = b
  g : L.gb = g
  sum : ys.sum = at_
  rep : PRep wr L (newPS np ys)
  own : ∀ g, L.own g → w.heap.size ≤ g
  bl : Below w.heap.size w wr
  pre : xs.take k = ints' ys
  len : ys.length = k
  le : at_ ≤ np
  ok : okSh np xs = okSh ((np : Int) - (at_ : Int)) (xs.drop k)
theorem newr_start (w : World) (np : Nat) (xs : List Int) (h : np ≤ 256) : NewR w ((w.alloc (.cells (ints (List.replicate (np * 16) 0)).toArray 74)).alloc (.cells #[.slice (some ⟨w.heap.size, 0, none⟩) np np, .slice none 0 0] 72)) (w.heap.size + 1) w.heap.size np xs 0 ⟨w.heap.size + 1, w.heap.size, .slice none 0 0, []⟩ [] 0 := by
  refine ⟨rfl, rfl, rfl, ?_, ?_, below_alloc (below_alloc (Below.refl _ _) _) _, rfl, rfl, Nat.zero_le _, by simp⟩
  · refine ⟨blk_new2 w _ _, blk_alloc (blk_new w _) _, by simp [newPS], h, ⟨rfl, .inl ⟨rfl, none, rfl⟩⟩, rfl, fun i a l ha hl => by simp at hl, ?_⟩
    constructor <;> simp [blk]
  · rintro g (h | h | h | ⟨l, hl, h⟩)
    · simp at h; omega
    · simp at h; omega
    · simp [blk] at h
    · simp at hl
theorem NewR.bad {w wr : World} {b g np k at_ : Nat} {xs : List Int} {L : PLay} {ys : List Nat} (h : NewR w wr b g np xs k L ys at_) (hk : k < xs.length) (n : Int) (hn : xs.getD k 0 = n) (hb : n < 0 ∨ (np : Int) - (at_ : Int) < n) : newOk np xs = false := by
  have h1 := h.ok
  have hd : xs.drop k = n :: xs.drop (k + 1) := by
    rw [List.drop_eq_getElem_cons hk]
    simp [hk] at hn
    rw [hn]
  have : okSh np xs = false := by
    rw [h1, hd]
    rcases hb with hb | hb
    · simp [okSh, show ¬ 0 ≤ n by omega]
    · simp [okSh, show ¬ n ≤ (np : Int) - (at_ : Int) by omega]
  simp [newOk, this]
/-- What New answers, if it may. -/
def Made (w : World) (np : Nat) (xs : List Int) (e : Ending) (w' : World) : Prop := ∃ L ys, e = .returned (.tuple #[.pointer (some ⟨L.pb, 0, none⟩), .nilIface]) ∧ PRep w' L (newPS np ys) ∧ (∀ g, L.own g → w.heap.size ≤ g) ∧ Below w.heap.size w w' ∧ xs = ints' ys ∧ ys.sum ≤ np
theorem below_drewN1 {w W : World} (h : Below w.heap.size w W) (n : Nat) : Below w.heap.size w (W.drewN n) := ⟨h.os, h.tape, h.output, h.size, h.block⟩
theorem infoBool3 : (Tryd.prog.info? 4).map (fun i => (i.zero, i.size, i.bytes)) = some (some (.bool false), 1, 1) := by kernel_rfl
theorem infoInt3 : (Tryd.prog.info? 3).map (fun i => (i.zero, i.size, i.bytes)) = some (some (.int .i64 0), 1, 8) := by kernel_rfl
theorem infoPtr3 : (Tryd.prog.info? 24).map (fun i => (i.zero, i.size, i.bytes)) = some (some (.pointer none), 1, 8) := by kernel_rfl
theorem NewR.cells {w wr : World} {b g np k at_ : Nat} {xs : List Int} {L : PLay} {ys : List Nat} (h : NewR w wr b g np xs k L ys at_) : wr.cell? ⟨b, 0, none⟩ = some (.slice (some ⟨g, 0, none⟩) np np) ∧ wr.cell? ⟨b, 1, none⟩ = some L.av ∧ wr.frozen? ⟨b, 1, none⟩ = false ∧ b < wr.heap.size ∧ ∃ A c, L.av = .slice A k c := by
  have hp := h.rep.pool
  obtain ⟨A, c, e, _⟩ := h.rep.arow.form
  have hl : L.als.length = k := by rw [h.rep.alen, ← h.len]; exact newArs_len _ _
  rw [h.b, h.g] at hp
  refine ⟨by rw [blk_cell hp]; rfl, by rw [blk_cell hp]; rfl, blk_free hp 1, blk_lt hp, A, c, by rw [e, hl]⟩
theorem new4 (w : World) (o1 o2 o3 o4 : Obj) : (((((w.alloc o1).alloc o2).alloc o3).alloc o4).drew).heap[w.heap.size]? = some o1 ∧ (((((w.alloc o1).alloc o2).alloc o3).alloc o4).drew).heap[w.heap.size + 1]? = some o2 ∧ (((((w.alloc o1).alloc o2).alloc o3).alloc o4).drew).heap[w.heap.size + 1 + 1]? = some o3 ∧ (((((w.alloc o1).alloc o2).alloc o3).alloc o4).drew).heap[w.heap.size + 1 + 1 + 1]? = some o4 ∧ Below w.heap.size w (((((w.alloc o1).alloc o2).alloc o3).alloc o4).drew) := by
  have h3 : ((w.alloc o1).alloc o2).heap.size = w.heap.size + 1 + 1 := by simp
  have h4 : (((w.alloc o1).alloc o2).alloc o3).heap.size = w.heap.size + 1 + 1 + 1 := by simp
  refine ⟨blk_alloc (blk_alloc (blk_alloc (blk_new w _) _) _) _, blk_alloc (blk_alloc (blk_new2 w _ _) _) _, blk_alloc ?_ _, ?_, (below_alloc (below_alloc (below_alloc (below_alloc (Below.refl _ _) _) _) _) _).drew⟩
  · have := blk_new ((w.alloc o1).alloc o2) o3
    rwa [h3] at this
  · have := blk_new (((w.alloc o1).alloc o2).alloc o3) o4
    rwa [h4] at this
theorem NewR.row {w wr W : World} {b g np k at_ : Nat} {xs : List Int} {L : PLay} {ys : List Nat} (h : NewR w wr b g np xs k L ys at_) (hb : Below wr.heap.size wr W) : Row W 24 1 L.av k (L.als.map fun l => .pointer (some ⟨l.ab, 0, none⟩)) := by
  have hl : L.als.length = k := by rw [h.rep.alen, ← h.len]; exact newArs_len _ _
  have := (h.rep.later hb).arow
  rwa [hl] at this
theorem NewR.notB {w wr : World} {b g np k at_ : Nat} {xs : List Int} {L : PLay} {ys : List Nat} (h : NewR w wr b g np xs k L ys at_) : b ∉ blk L.av := h.b ▸ h.rep.sep.pv
theorem NewR.freeB {w wr W : World} {b g np k at_ : Nat} {xs : List Int} {L : PLay} {ys : List Nat} (h : NewR w wr b g np xs k L ys at_) (hb : Below wr.heap.size wr W) : W.frozen? ⟨b, 1, none⟩ = false := by
  rw [← h.b]; exact blk_free (h.rep.later hb).pool 1
theorem rd_blk {w : World} {b : Nat} {cs : List Value} {T : TypeId} (h : w.heap[b]? = some (.cells cs.toArray T (0, 0))) (hl : cs.length ≤ maxLen) : Rd w (some ⟨b, 0, none⟩) cs :=
  ⟨hl, fun _ => ⟨b, 0, rfl, fun j hj => by rw [blk_cell h]; simp [hj]⟩⟩
theorem below_drew1 {w W : World} (h : Below w.heap.size w W) : Below w.heap.size w W.drew := h.drew
theorem NewR.fin {w wr : World} {b g np k at_ : Nat} {xs : List Int} {L : PLay} {ys : List Nat} (h : NewR w wr b g np xs k L ys at_) (hk : k = xs.length) (h1 : 1 ≤ np) (h2 : np ≤ 256) (h3 : xs.length ≤ 8) : newOk np xs = true ∧ Made w np xs (.returned (.tuple #[.pointer (some ⟨L.pb, 0, none⟩), .nilIface])) wr := by
  have hp := h.pre
  rw [hk, List.take_length] at hp
  have ho := h.ok
  rw [hk, List.drop_length] at ho
  refine ⟨?_, L, ys, rfl, h.rep, h.own, h.bl, hp, by rw [h.sum]; exact h.le⟩
  simp [newOk, ho, okSh]
  omega
theorem ints_zero (m : Nat) : madeCells #[.int .i64 0] m = (ints (List.replicate m 0)).toArray := by
  rw [madeCells_rep]
  simp [ints]
theorem bcells_zero (m : Nat) : madeCells #[.bool false] m = (bcells (List.replicate m false)).toArray := by
  rw [madeCells_rep]
  simp [bcells]
/-- One arena more. -/
theorem NewR.push {w wr W w3 : World} {b g np k at_ : Nat} {xs : List Int} {L : PLay} {ys : List Nat} (h : NewR w wr b g np xs k L ys at_) (hlt : k < xs.length) (n e : Nat) (hn : xs.getD k 0 = (n : Int)) (he : e = at_ + n) (hle : at_ + n ≤ np) (hb : Below wr.heap.size wr W) (l : AL)
    (hpa : l.pa = if e = at_ then ⟨g, 0, none⟩ else ⟨g, at_ * 16, none⟩)
    (h1 : W.heap[l.ab]? = some (.cells #[.slice (some l.pa) n n, .slice (some ⟨l.rb, 0, none⟩) n n, .slice (some ⟨l.tb, 0, none⟩) n n] 65 (0, 0)))
    (h2 : W.heap[l.rb]? = some (.cells (madeCells #[.int .i64 0] n) 3 (0, 0))) (h3 : W.heap[l.tb]? = some (.cells (madeCells #[.bool false] n) 4 (0, 0)))
    (hnew : wr.heap.size ≤ l.ab ∧ wr.heap.size ≤ l.rb ∧ wr.heap.size ≤ l.tb ∧ l.ab ≠ l.rb ∧ l.ab ≠ l.tb ∧ l.rb ≠ l.tb)
    (hkk : Kept (blk L.av) W w3) (u : Value) (hr : Row w3 24 1 u (k + 1) (L.als.map (fun l => .pointer (some ⟨l.ab, 0, none⟩)) ++ [.pointer (some ⟨l.ab, 0, none⟩)])) (hu : ∀ g ∈ blk u, g ∈ blk L.av ∨ W.heap.size ≤ g) :
    NewR w (w3.setCell ⟨b, 1, none⟩ u) b g np xs (k + 1) { L with av := u, als := L.als ++ [l] } (ys ++ [n]) e := by
  have hB := h.b
  have hG := h.g
  subst hB hG
  have hx : xs.drop k = (n : Int) :: xs.drop (k + 1) := by
    rw [List.drop_eq_getElem_cons hlt]
    simp [hlt] at hn
    rw [hn]
  have hlen : L.als.length = k := by rw [h.rep.alen, ← h.len]; exact newArs_len _ _
  have hal : (newArs 0 ys).length = k := by rw [newArs_len]; exact h.len
  have r := h.rep
  have s := r.sep
  have hW := r.later hb
  have hlw : ∀ g, L.own g → g < wr.heap.size := r.lt
  have avw : ∀ g ∈ blk L.av, g < wr.heap.size := fun g hg => hlw g (.inr (.inr (.inl hg)))
  have own' : ∀ g ∈ l.bl, wr.heap.size ≤ g := by
    intro g hg
    simp [AL.bl] at hg
    rcases hg with rfl | rfl | rfl
    · exact hnew.1
    · exact hnew.2.1
    · exact hnew.2.2.1
  have hnl : ∀ g ∈ l.bl, g < W.heap.size := by
    intro g hg
    simp [AL.bl] at hg
    rcases hg with rfl | rfl | rfl
    · exact blk_lt h1
    · exact blk_lt h2
    · exact blk_lt h3
  have nav : ∀ g ∈ l.bl, g ∉ blk L.av := fun g hg hx => by have := own' g hg; have := avw g hx; omega
  have pbne : ∀ g ∈ l.bl, g ≠ L.pb := fun g hg hx => by have h1 := own' g hg; have h2 := hlw L.pb (.inl rfl); omega
  have gbne : ∀ g ∈ l.bl, g ≠ L.gb := fun g hg hx => by have h1 := own' g hg; have h2 := hlw L.gb (.inr (.inl rfl)); omega
  have uo : ∀ g ∈ blk u, g ≠ L.pb ∧ g ≠ L.gb ∧ g ∉ l.bl ∧ (∀ k ∈ L.als, g ∉ k.bl) := by
    intro g hg
    rcases hu g hg with h5 | h5
    · exact ⟨fun hx => s.pv (hx ▸ h5), fun hx => s.gv (hx ▸ h5), fun hx => nav g hx h5, fun k hk => s.vl k hk g h5⟩
    · have hsz := hb.size
      refine ⟨fun hx => ?_, fun hx => ?_, fun hx => ?_, fun k hk hx => ?_⟩
      · have := hlw L.pb (.inl rfl); omega
      · have := hlw L.gb (.inr (.inl rfl)); omega
      · have := hnl g hx; omega
      · have := hlw g (.inr (.inr (.inr ⟨k, hk, hx⟩))); omega
  have p3 : w3.heap[L.pb]? = _ := hkk.heap hW.pool s.pv
  have k4 : Kept [L.pb] w3 (w3.setCell ⟨L.pb, 1, none⟩ u) := (Kept.refl _ _).set _ _ (.inl (by simp))
  have kAll : Kept (L.pb :: blk L.av) W (w3.setCell ⟨L.pb, 1, none⟩ u) := (hkk.mono (by simp; exact fun a h => .inr h)).set _ _ (.inl (by simp))
  refine ⟨rfl, rfl, by simp [h.sum, he], ?_, ?_, ?_, ?_, by simp [h.len], by omega, ?_⟩
  · refine ⟨?_, ?_, by simp [newPS], r.hnp, ?_, ?_, ?_, ?_⟩
    · show (w3.setCell ⟨L.pb, 1, none⟩ u).heap[L.pb]? = _
      rw [blk_set p3]
      rfl
    · exact kAll.heap hW.pages (by simp; exact ⟨Ne.symm s.pg, s.gv⟩)
    · have := (hr.kept k4 (fun g hg => by simpa using (uo g hg).1))
      simpa [hlen] using this
    · simp [newPS, newArs_len, hlen, h.len]
    · intro i a l2 ha hl2
      simp only [newPS, newArs_snoc, Nat.zero_add, h.sum] at ha
      by_cases hi : i < k
      · rw [List.getElem?_append_left (by omega)] at ha
        rw [List.getElem?_append_left (by omega)] at hl2
        obtain ⟨q1, q2⟩ := hW.ar i a l2 ha hl2
        refine ⟨q1.kept kAll fun g hg hx => ?_, q2⟩
        have hm := List.mem_of_getElem? hl2
        simp at hx
        rcases hx with rfl | hx
        · exact s.pl l2 hm hg
        · exact s.vl l2 hm g hx hg
      · have hik : i = k := by
          have := (List.getElem?_eq_some_iff.1 hl2).1
          simp at this
          omega
        subst hik
        rw [List.getElem?_append_right (by omega)] at ha
        rw [List.getElem?_append_right (by omega)] at hl2
        simp [hal] at ha
        simp [hlen] at hl2
        subst ha hl2
        refine ⟨⟨?_, ?_, ?_, by simp [newAr], by simp [newAr], ?_⟩, by simpa [newAr, newPS] using hle⟩
        · exact kAll.heap h1 (by simp; exact ⟨pbne _ (by simp [AL.bl]), nav _ (by simp [AL.bl])⟩)
        · have := kAll.heap h2 (by simp; exact ⟨pbne _ (by simp [AL.bl]), nav _ (by simp [AL.bl])⟩)
          rw [ints_zero] at this
          exact this
        · have := kAll.heap h3 (by simp; exact ⟨pbne _ (by simp [AL.bl]), nav _ (by simp [AL.bl])⟩)
          rw [bcells_zero] at this
          exact this
        · intro h0
          have h0 : 0 < n := h0
          rw [hpa, if_neg (by omega)]
          rfl
    · refine ⟨s.pg, fun hx => (uo _ hx).1 rfl, fun hx => (uo _ hx).2.1 rfl, ?_, ?_, ?_, ?_, ?_, ?_, ?_⟩
      · intro l2 hm hx
        simp at hm
        rcases hm with hm | rfl
        · exact s.pl l2 hm hx
        · exact pbne _ hx rfl
      · intro l2 hm hx
        simp at hm
        rcases hm with hm | rfl
        · exact s.gl l2 hm hx
        · exact gbne _ hx rfl
      · intro l2 hm g hg hx
        simp at hm
        rcases hm with hm | rfl
        · exact (uo g hg).2.2.2 l2 hm hx
        · exact (uo g hg).2.2.1 hx
      · intro l2 hm
        simp at hm
        rcases hm with hm | rfl
        · exact s.ar l2 hm
        · exact hnew.2.2.2.1
      · intro l2 hm
        simp at hm
        rcases hm with hm | rfl
        · exact s.at' l2 hm
        · exact hnew.2.2.2.2.1
      · intro l2 hm
        simp at hm
        rcases hm with hm | rfl
        · exact s.rt l2 hm
        · exact hnew.2.2.2.2.2
      · intro i j li lj hi hj hij g hg hx
        have hik := (List.getElem?_eq_some_iff.1 hi).1
        have hjk := (List.getElem?_eq_some_iff.1 hj).1
        simp at hik hjk
        by_cases hi2 : i < k
        · rw [List.getElem?_append_left (by omega)] at hi
          by_cases hj2 : j < k
          · rw [List.getElem?_append_left (by omega)] at hj
            exact s.ll i j li lj hi hj hij g hg hx
          · rw [List.getElem?_append_right (by omega)] at hj
            have : j - L.als.length = 0 := by omega
            simp [this] at hj
            subst hj
            have h5 := own' g hx
            have h6 := hlw g (.inr (.inr (.inr ⟨li, List.mem_of_getElem? hi, hg⟩)))
            omega
        · rw [List.getElem?_append_right (by omega)] at hi
          have : i - L.als.length = 0 := by omega
          simp [this] at hi
          subst hi
          rw [List.getElem?_append_left (by omega)] at hj
          have h5 := own' g hg
          have h6 := hlw g (.inr (.inr (.inr ⟨lj, List.mem_of_getElem? hj, hx⟩)))
          omega
  · rintro g (hg | hg | hg | ⟨l2, hm, hg⟩)
    · exact h.own g (.inl hg)
    · exact h.own g (.inr (.inl hg))
    · rcases hu g hg with h5 | h5
      · exact h.own g (.inr (.inr (.inl h5)))
      · exact Nat.le_trans h.bl.size (Nat.le_trans hb.size h5)
    · simp at hm
      rcases hm with hm | rfl
      · exact h.own g (.inr (.inr (.inr ⟨l2, hm, hg⟩)))
      · exact Nat.le_trans h.bl.size (own' g hg)
  · have q1 := below_next h.bl hb
    have q2 : Below w.heap.size W (w3.setCell ⟨L.pb, 1, none⟩ u) := kAll.below (fun i hi => by simp at hi; rcases hi with rfl | hi; exact h.own _ (.inl rfl); exact h.own i (.inr (.inr (.inl hi)))) q1.size
    exact q1.trans q2
  · rw [List.take_succ_eq_append_getElem hlt, h.pre]
    simp [hlt] at hn
    simp [ints', hn]
  · rw [h.ok, hx]
    simp [okSh]
    rw [show ((np : Int) - (at_ : Int) - (n : Int)) = (np : Int) - (e : Int) by omega]
    simp
    omega
end Go.Proofs.YtpjphmpebegidaaDoor
