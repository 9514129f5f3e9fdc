/-
  A copy of bytes with marked room behind; whether list and room stand as they stood.
-/
import Derived.Test.YtbpbimkadiobfaaDoorRForm
import Derived.Test.YtbpbimkadiobfaaDoorCuts
import Derived.Deep.CutBlock
import Derived.Deep.DeepCutAuto
import Derived.Deep.RegionHeld
namespace Go.Proofs.YtbpbimkadiobfaaDoor
open Go.RowKit Go.Stk

def marksB : List Int := [201, 202, 203, 204, 205, 206]
theorem infoByte3 : (Tryd.prog.info? 5).map (fun i => (i.zero, i.size, i.bytes)) = some (some (.int .u8 0), 1, 1) := by kernel_rfl
/-- The row at g: the bytes, and the six marks behind. -/
def MarkedB (w : World) (g : Nat) (xs : List Int) : Prop := Rs w (some ⟨g, 0, none⟩) (bys (xs ++ marksB))
theorem MarkedB.later {w w1 : World} {g : Nat} {xs : List Int} (h : MarkedB w g xs) (hb : Below w.heap.size w w1) : MarkedB w1 g xs := Rs.later h hb
theorem MarkedB.at' {w : World} {g : Nat} {xs : List Int} (h : MarkedB w g xs) (j : Nat) (hj : j < (xs ++ marksB).length) : w.cell? ⟨g, j, none⟩ = some (.int .u8 (xs ++ marksB)[j]) := by
  obtain ⟨b, off, e, hc⟩ := h (by rw [bys_len]; omega)
  injection e with e
  injection e with e1 e2 _
  subst e1 e2
  have := hc j (by rw [bys_len]; exact hj)
  rw [Nat.zero_add] at this
  rw [this]
  simp only [bys, List.getElem_map]
theorem MarkedB.rs {w : World} {g : Nat} {xs : List Int} (h : MarkedB w g xs) : Rs w (some ⟨g, 0, none⟩) (bys xs) := fun hp => by
  rw [bys_len] at hp
  refine ⟨g, 0, rfl, fun j hj => ?_⟩
  rw [bys_len] at hj
  rw [Nat.zero_add, h.at' j (by simp; omega)]
  simp [bys, hj]
/-- A copy: marked, in memory of the call's own. -/
def CopiedB (w : World) (xs : List Int) (e : Ending) (w' : World) : Prop := ∃ g c, e = .returned (.slice (some ⟨g, 0, none⟩) xs.length c) ∧ xs.length + 6 ≤ c ∧ c ≤ maxLen ∧ g < w'.heap.size ∧ MarkedB w' g xs ∧ Below w.heap.size w w'
set_option maxHeartbeats 1000000 in
theorem bytes_any (xs : List Int) (A : Option Addr) (c : Nat) (w : World) (hx : Rs w A (bys xs)) (hnil : A = none → c = 0) (hl : xs.length ≤ 200000) :
    Calls Tryd.prog 24 #[.slice A xs.length c] w (CopiedB w xs) := by
  have hmk := make_room (P := Tryd.prog) 47 5 (.int .u8 0) 1 Tryd.underlying47 infoByte3 rfl (by decide) (xs.length + 6) (by omega)
  rw [show ((xs.length + 6 : Nat) : Int) = (xs.length : Int) + 6 by omega] at hmk
  go_enter Tryd.func24, Tryd.ntmps24
  have hW : ∀ W : World, W = w.alloc (.cells (madeCells #[.int .u8 0] (xs.length + 6)) 5) → Below w.heap.size w W := fun W h => by rw [h]; exact (Below.refl _ _).alloc (Nat.le_refl _) _
  have ho : (w.alloc (.cells (madeCells #[.int .u8 0] (xs.length + 6)) 5)).ownsRow w.heap.size 5 1 (.slice (some ⟨w.heap.size, 0, none⟩) 0 (xs.length + 6)) 0 [] := by
    have := own_room w w.heap.size 5 (madeCells #[.int .u8 0] (xs.length + 6)) (Nat.le_refl _) (by simp [size_madeCells, maxLen]; omega)
    simpa [size_madeCells] using this
  have HO := Lib.hid ho
  have HB := Lib.hid (hW _ rfl)
  clear ho hW
  go_wp2_with (first | (at_builtin; have tok := HO; refine append_list (w0 := w) w.heap.size rfl _ _ 47 5 (.int .u8 0) 1 rfl Tryd.underlying47 infoByte3 rfl (by decide) _ [] (bys xs) A c rfl (by rw [bys_len]; rfl) ?c1 HO.out HB.out ?c2 ?c3 hnil ?c4 ?_))
  case c1 => exact ones_bys xs
  case c2 => exact HB.out.size
  case c3 => exact (hx.later HB.out).rd (by rw [bys_len]; simp only [maxLen]; omega)
  case c4 => simp [bys_len]; omega
  intro v1 w1 hown hb1 _
  clear hmk HO HB
  replace hown : w1.ownsRow w.heap.size 5 1 v1 (bys xs).length (bys xs) := by simpa using hown
  go_wp2_with (first | (at_builtin; refine append_list (w0 := w) w.heap.size rfl _ _ 47 5 (.int .u8 0) 1 rfl Tryd.underlying47 infoByte3 rfl (by decide) v1 (bys xs) (bys marksB) (some ⟨w1.heap.size, 0, none⟩) 6 rfl rfl ?d1 (hown.alloc _) (hb1.alloc hb1.size _) ?d2 ?d3 (by intro h; cases h) ?d4 ?_))
  case d1 => exact ones_bys marksB
  case d2 => have := hb1.size; simp; omega
  case d3 => exact rd_blkW (T := 5) (cs := bys marksB) (blk_new w1 _) (by decide)
  case d4 => simp [marksB, bys_len]; omega
  intro v2 w2 hown2 hb2 _
  clear hown hb1
  obtain ⟨g, cap, e, hg, hgl⟩ := hown2.form (by simp [marksB, bys_len])
  subst e
  have hcap := own_cap hown2
  have hM : Hid (MarkedB w2 g xs) := fun hp => ⟨g, 0, rfl, fun j hj => by
    have hj' : j < (bys xs ++ bys marksB).length := by rw [bys_len] at hj; simpa [bys_len] using hj
    rw [Nat.zero_add, own_cells hown2 j hj']
    simp [bys]⟩
  have hc1 : xs.length + 6 ≤ cap := by have := hcap.1; simp [marksB, bys_len] at this; omega
  have hc2 := hcap.2
  have HGL : Hid (g < w2.heap.size) := cell_lt (hM.out.at' 0 (by simp [marksB]))
  clear hcap hown2 hgl
  unfold maxLen at hc2
  go_wp2_with fail
  go_ret
  exact ⟨g, cap, rfl, hc1, by simp only [maxLen]; exact hc2, HGL.out, hM.out, hb2⟩
end Go.Proofs.YtbpbimkadiobfaaDoor

/-
  The document's reader of numbers.
-/
namespace Go.Proofs.YtbpbimkadiobfaaDoor
open Go.RowKit Go.Stk

/-- Where the reader stands; whether all was there. -/
structure RS where
  at_ : Nat
  fine : Bool
def nV (l0 : List Int) (s : RS) (n : Nat) : Int := if l0.length - s.at_ < n then 0 else wrap64 (deb ((l0.drop s.at_).take n))
def nS (l0 : List Int) (s : RS) (n : Nat) : RS := if l0.length - s.at_ < n then ⟨s.at_, false⟩ else ⟨s.at_ + n, s.fine⟩
/-- Where bytes lie; none: there are none. -/
def adr (l0 : List Int) (A : Option Addr) : Option Addr := if l0 = [] then none else A
theorem adr_of {l0 : List Int} {A : Option Addr} {a : Addr} (hn : 0 < (bys l0).length) (h : A = some a) : adr l0 A = some a := by
  unfold adr
  rw [if_neg (fun e => by subst e; simp [bys] at hn)]
  exact h
theorem adr_lt {w : World} {l0 : List Int} {A : Option Addr} (hr : Rs w A (bys l0)) (a : Addr) (h : adr l0 A = some a) : a.block < w.heap.size := by
  unfold adr at h
  by_cases h0 : l0 = []
  · rw [if_pos h0] at h; cases h
  · rw [if_neg h0] at h
    have hp : 0 < (bys l0).length := by rw [bys_len]; exact List.length_pos_iff.2 h0
    obtain ⟨b, o, e, hc⟩ := hr hp
    rw [h] at e
    injection e with e
    subst e
    exact cell_lt (hc 0 hp)
/-- A reader at b, of the bytes l0. -/
structure RD (w : World) (b : Nat) (A : Option Addr) (l0 : List Int) (s : RS) : Prop where
  bx : ∃ cp, w.heap[b]? = some (.cells #[.slice A l0.length cp, .int .i64 s.at_, .bool s.fine] 91 (0, 0))
  rs : Rs w A (bys l0)
  le : s.at_ ≤ l0.length
  ne : ∀ a, adr l0 A = some a → a.block ≠ b ∧ a.block < w.heap.size
theorem RD.kept {w w' : World} {b : Nat} {A : Option Addr} {l0 : List Int} {s : RS} (h : RD w b A l0 s) {fp : List Nat} (hk : Kept fp w w') (hb : b ∉ fp) (hg : ∀ a, adr l0 A = some a → a.block ∉ fp) : RD w' b A l0 s := by
  obtain ⟨⟨cp, h1⟩, h2, h3, h4⟩ := h
  refine ⟨⟨cp, hk.heap h1 hb⟩, fun hn => ?_, h3, fun a ha => ⟨(h4 a ha).1, Nat.lt_of_lt_of_le (h4 a ha).2 hk.size⟩⟩
  obtain ⟨b1, o1, e1, hc⟩ := h2 hn
  exact ⟨b1, o1, e1, fun j hj => hk.cell (a := ⟨b1, o1 + j, none⟩) (hc j hj) (show b1 ∉ fp from hg _ (adr_of hn e1))⟩
theorem RD.later {w w' : World} {b : Nat} {A : Option Addr} {l0 : List Int} {s : RS} (h : RD w b A l0 s) (hb : Below w.heap.size w w') : RD w' b A l0 s := h.kept (Kept.ofBelow hb []) (by simp) (by simp)
set_option maxRecDepth 100000 in
set_option maxHeartbeats 1000000 in
theorem rnum_ok (n : Nat) (hn : n ≤ 8) (b : Nat) (A : Option Addr) (l0 : List Int) (hB : Byt l0) (hm : l0.length ≤ 1000000) (s : RS) (w : World) (h : RD w b A l0 s) (hl : n ≤ l0.length - s.at_) :
    Calls Tryd.prog 49 #[.pointer (some ⟨b, 0, none⟩), .int .i64 n] w fun e w' => e = .returned (.int .i64 (wrap64 (deb ((l0.drop s.at_).take n)))) ∧ RD w' b A l0 ⟨s.at_ + n, s.fine⟩ ∧ Kept [b] w w' := by
  have HD := Lib.hid h
  obtain ⟨⟨cp, h1⟩, h2, h3, h4⟩ := h
  obtain ⟨t, fine⟩ := s
  dsimp only at h1 h3 hl ⊢
  have f0 : w.cell? ⟨b, 0, none⟩ = some (.slice A l0.length cp) := by rw [blk_cell h1]; rfl
  have f1 : w.cell? ⟨b, 1, none⟩ = some (.int .i64 t) := by rw [blk_cell h1]; rfl
  have p1 := blk_free h1 1
  have HR := Lib.hid h2
  have HB := Lib.hid hB
  have H1 := Lib.hid h1
  have d1 : decide ((l0.length : Int) - (t : Int) < n) = false := decide_eq_false (by omega)
  clear h1 h2 h4 hB
  go_enter Tryd.func49, Tryd.ntmps49
  go_wp2_with fail
  go_quiet (fail)
  go_wp2_with fail
  generalize hw1 : w.drewN nq = w1
  have hb1 : Below w.heap.size w w1 := by rw [← hw1]; exact below_dN w nq
  have g0 := cell_later hb1 f0
  have g1 := cell_later hb1 f1
  have HK1 := Lib.hid (Kept.ofBelow hb1 [b])
  have HBX := Lib.hid hb1
  have H11 := Lib.hid (Kept.heap (Kept.ofBelow hb1 []) H1.out (by simp))
  have hq1 := blk_free H11.out 1
  clear f0 f1 p1 hw1 hb1 d1
  go_loopw [5, 6] (fun uv iv wr => ∃ k : Nat, k ≤ n ∧ iv = .int .i64 k ∧ uv = .int .u64 (deb (((l0.drop t)).take k)) ∧ Hid (Below w1.heap.size w1 wr)) (fun _ iv _ => n - (intOf iv).toNat)
  case atStart => exact ⟨0, Nat.zero_le _, rfl, rfl, Below.refl _ _⟩
  case round =>
    obtain ⟨k, hk, rfl, rfl, HBW⟩ := hrel
    have i0 := cell_later HBW.out g0
    have i1 := cell_later HBW.out g1
    by_cases hlt : k < n
    · obtain ⟨x, hx⟩ : ∃ x, (l0.drop t)[k]? = some x := ⟨_, List.getElem?_eq_getElem (by rw [List.length_drop]; omega)⟩
      obtain ⟨b1, o1, rfl, hc⟩ := HR.out (by rw [bys_len]; omega)
      have c1 : w.cell? ⟨b1, o1 + (t + k), none⟩ = some (.int .u8 x) := by
        rw [hc (t + k) (by rw [bys_len]; omega)]
        rw [List.getElem?_drop] at hx
        simp [bys, (List.getElem?_eq_some_iff.1 hx).2]
      have HX := Lib.hid (or_next (HB.out.drop t) (by omega) hx)
      have c2 := cell_later HBW.out (cell_later HBX.out c1)
      have l1 : (0 : Int) ≤ (t : Int) + (k : Int) := by omega
      have l2 : (t : Int) + (k : Int) < (l0.length : Int) := by omega
      clear hx hc c1
      go_wp2_with fail
      have kw1 : IntKind.i64.wrap ((t : Int) + (k : Int)) = (t : Int) + (k : Int) := IntWalk.i64_in _ (by omega)
      have kw2 : ((t : Int) + (k : Int)).toNat = t + k := by omega
      refine wp_region_quiet_lit (by kernel_rfl) (by kernel_rfl) ?_
      repeat (first | go_big_quiet_step (fail) | quiet_step (fail))
      refine wpQuiet_nil ?_
      intro _ hw'
      obtain ⟨nq, hw''⟩ := hw'
      subst hw''
      clear kw1 kw2
      have HBN := Lib.hid (below_next HBW.out (below_dN wr nq))
      go_wp2_with fail
      go_roundw
      case rel => exact ⟨k + 1, by omega, by go_num, by rw [HX.out], HBN⟩
      case measure => simp [intOf]; omega
    · obtain rfl : k = n := by omega
      have pw := blk_free (Kept.heap (Kept.ofBelow HBW.out []) H11.out (by simp)) 1
      have FIN : Hid (RD (wr.setCell ⟨b, 1, none⟩ (.int .i64 ((t : Int) + (k : Int)))) b A l0 ⟨t + k, fine⟩ ∧ Kept [b] w (wr.setCell ⟨b, 1, none⟩ (.int .i64 ((t : Int) + (k : Int))))) := by
        have h2q := (HD.out.later HBX.out).later HBW.out
        obtain ⟨⟨cp2, e1⟩, e2, e3, e4⟩ := h2q
        have hks : Kept [b] wr (wr.setCell ⟨b, 1, none⟩ (.int .i64 ((t : Int) + (k : Int)))) := (Kept.refl _ _).set _ _ (.inl (by simp))
        refine ⟨⟨⟨cp2, by rw [blk_set e1]; simp⟩, fun hn => ?_, by simp only; omega, fun a ha => ⟨(e4 a ha).1, Nat.lt_of_lt_of_le (e4 a ha).2 hks.size⟩⟩, (HK1.out.trans (Kept.ofBelow HBW.out [b]) (fun i hi => .inl hi)).trans hks (fun i hi => .inl hi)⟩
        obtain ⟨b1, o1, e5, hc⟩ := e2 hn
        exact ⟨b1, o1, e5, fun j hj => hks.cell (a := ⟨b1, o1 + j, none⟩) (hc j hj) (by simpa using (e4 _ (adr_of hn e5)).1)⟩
      go_wp2_with fail
      go_ret
      exact ⟨rfl, FIN.out⟩
theorem rnum_no (n : Nat) (_hn : n ≤ 8) (b : Nat) (A : Option Addr) (l0 : List Int) (hm : l0.length ≤ 1000000) (s : RS) (w : World) (h : RD w b A l0 s) (hl : l0.length - s.at_ < n) :
    Calls Tryd.prog 49 #[.pointer (some ⟨b, 0, none⟩), .int .i64 n] w fun e w' => e = .returned (.int .i64 0) ∧ RD w' b A l0 ⟨s.at_, false⟩ ∧ Kept [b] w w' := by
  have HD := Lib.hid h
  obtain ⟨⟨cp, h1⟩, h2, h3, h4⟩ := h
  obtain ⟨t, fine⟩ := s
  dsimp only at h1 h3 hl ⊢
  have f0 : w.cell? ⟨b, 0, none⟩ = some (.slice A l0.length cp) := by rw [blk_cell h1]; rfl
  have f1 : w.cell? ⟨b, 1, none⟩ = some (.int .i64 t) := by rw [blk_cell h1]; rfl
  have f2 : w.cell? ⟨b, 2, none⟩ = some (.bool fine) := by rw [blk_cell h1]; rfl
  have p2 := blk_free h1 2
  have H1 := Lib.hid h1
  have d1 : decide ((l0.length : Int) - (t : Int) < n) = true := decide_eq_true (by omega)
  have FIN : Hid (∀ q, RD ((w.drewN q).setCell ⟨b, 2, none⟩ (.bool false)) b A l0 ⟨t, false⟩ ∧ Kept [b] w ((w.drewN q).setCell ⟨b, 2, none⟩ (.bool false))) := fun q => by
    have hq := below_dN w q
    have h2q := HD.out.later hq
    obtain ⟨⟨cp2, e1⟩, e2, e3, e4⟩ := h2q
    have hks : Kept [b] (w.drewN q) ((w.drewN q).setCell ⟨b, 2, none⟩ (.bool false)) := (Kept.refl _ _).set _ _ (.inl (by simp))
    refine ⟨⟨⟨cp2, by rw [blk_set e1]; rfl⟩, fun hn => ?_, h3, fun a ha => ⟨(e4 a ha).1, Nat.lt_of_lt_of_le (e4 a ha).2 hks.size⟩⟩, (Kept.ofBelow hq [b]).trans hks (fun i hi => .inl hi)⟩
    obtain ⟨b1, o1, e5, hc⟩ := e2 hn
    exact ⟨b1, o1, e5, fun j hj => hks.cell (a := ⟨b1, o1 + j, none⟩) (hc j hj) (by simpa using (e4 _ (adr_of hn e5)).1)⟩
  clear h1 h2 h4
  go_enter Tryd.func49, Tryd.ntmps49
  go_wp2_with fail
  go_quiet (fail)
  go_wp2_with fail
  go_ret
  exact ⟨rfl, FIN.out _⟩
theorem rnum_any (n : Nat) (hn : n ≤ 8) (b : Nat) (A : Option Addr) (l0 : List Int) (hB : Byt l0) (hm : l0.length ≤ 1000000) (s : RS) (w : World) (h : RD w b A l0 s) :
    Calls Tryd.prog 49 #[.pointer (some ⟨b, 0, none⟩), .int .i64 n] w fun e w' => e = .returned (.int .i64 (nV l0 s n)) ∧ RD w' b A l0 (nS l0 s n) ∧ Kept [b] w w' := by
  unfold nV nS
  by_cases hl : l0.length - s.at_ < n
  · rw [if_pos hl, if_pos hl]
    exact rnum_no n hn b A l0 hm s w h hl
  · rw [if_neg hl, if_neg hl]
    exact rnum_ok n hn b A l0 hB hm s w h (by omega)
end Go.Proofs.YtbpbimkadiobfaaDoor

/-
  The document's reading of a code, in plain words: it answers what parse does.
-/
namespace Go.Proofs.YtbpbimkadiobfaaDoor
open Go.RowKit Go.Stk

/-- A loop that reads as long as all was there. -/
def lpR {α : Type} (el : RS → α × RS) : Nat → RS → List α → List α × RS
  | 0, s, xs => (xs, s)
  | m + 1, s, xs => if s.fine = true then lpR el m (el s).2 (xs ++ [(el s).1]) else (xs, s)
theorem lpR_bad {α : Type} {el : RS → α × RS} : ∀ (m : Nat) {s : RS} {xs : List α}, s.fine = false → lpR el m s xs = (xs, s)
  | 0, _, _, _ => rfl
  | m + 1, s, xs, h => by rw [lpR, h]; rfl
theorem lpR_next {α : Type} {el : RS → α × RS} {m : Nat} {s : RS} {xs : List α} (h : s.fine = true) : lpR el (m + 1) s xs = lpR el m (el s).2 (xs ++ [(el s).1]) := by rw [lpR, if_pos h]
def elN (l0 : List Int) (s : RS) : Int × RS := (nV l0 s 4, nS l0 s 4)
def elC (l0 : List Int) (s : RS) : (Int × Int) × RS := ((nV l0 s 4, nV l0 (nS l0 s 4) 4), nS l0 (nS l0 s 4) 4)
def elF (l0 : List Int) (s : RS) : (Int × Int × List Int) × RS :=
  let s2 := nS l0 (nS l0 s 4) 4
  let r := lpR (elN l0) (nV l0 s2 4).toNat (nS l0 s2 4) []
  ((nV l0 s 4, nV l0 (nS l0 s 4) 4, r.1), r.2)
def elI (l0 : List Int) (s : RS) : Ins × RS :=
  let s1 := nS l0 s 1
  let s2 := nS l0 s1 8
  let s3 := nS l0 s2 4
  let s4 := nS l0 s3 8
  (⟨nV l0 s 1, nV l0 s1 8, nV l0 s2 4, IntKind.u64.wrap (nV l0 s3 8), nV l0 s4 4⟩, nS l0 s4 4)
def hR (l0 : List Int) : Nat → List Int × RS
  | 0 => ([], ⟨0, true⟩)
  | k + 1 => ((hR l0 k).1 ++ [nV l0 (hR l0 k).2 4], nS l0 (hR l0 k).2 4)
def codeH (l0 h : List Int) (s : RS) : Pc × RS :=
  let p := lpR (elN l0) (h.getD 0 0).toNat s []
  let c := lpR (elC l0) (h.getD 3 0).toNat p.2 []
  let f := lpR (elF l0) (h.getD 4 0).toNat c.2 []
  let i := lpR (elI l0) (h.getD 5 0).toNat f.2 []
  (⟨p.1, h.getD 1 0, h.getD 2 0, c.1, f.1, h.getD 6 0, i.1⟩, i.2)
def codeR (l0 : List Int) : Pc × RS := codeH l0 (hR l0 7).1 (hR l0 7).2
/-- The reader stands ahead of l. -/
def Okr (l0 : List Int) (s : RS) (l : List Int) : Prop := s.fine = true ∧ s.at_ ≤ l0.length ∧ l0.drop s.at_ = l
theorem nS_bad {l0 : List Int} {s : RS} {n : Nat} (h : s.fine = false) : (nS l0 s n).fine = false := by unfold nS; split <;> simp [h]
theorem nS_fine {l0 : List Int} {s : RS} {n : Nat} (h : (nS l0 s n).fine = true) : s.fine = true ∧ (nS l0 s n).at_ = s.at_ + n := by
  unfold nS at h ⊢
  split at h
  · cases h
  · exact ⟨h, by rw [if_neg (by assumption)]⟩
theorem okr_ok {l0 l : List Int} {s : RS} (h : Okr l0 s l) {n : Nat} (hn : n ≤ l.length) : nV l0 s n = wrap64 (deb (l.take n)) ∧ Okr l0 (nS l0 s n) (l.drop n) := by
  obtain ⟨h1, h2, rfl⟩ := h
  rw [List.length_drop] at hn
  unfold nV nS
  rw [if_neg (by omega), if_neg (by omega)]
  exact ⟨rfl, h1, by simp only; omega, by simp only [List.drop_drop]⟩
theorem okr_no {l0 l : List Int} {s : RS} (h : Okr l0 s l) {n : Nat} (hn : l.length < n) : (nS l0 s n).fine = false := by
  obtain ⟨h1, h2, rfl⟩ := h
  rw [List.length_drop] at hn
  unfold nS
  rw [if_pos (by omega)]
theorem okr_byt {l0 l : List Int} {s : RS} (h : Okr l0 s l) (hB : Byt l0) : Byt l := by
  obtain ⟨_, _, rfl⟩ := h
  exact hB.drop _
theorem wrap64_4 {l : List Int} (hB : Byt l) : wrap64 (deb (l.take 4)) = deb (l.take 4) := by
  have := deb4 hB
  unfold wrap64
  omega
theorem wrap64_1 {l : List Int} (hB : Byt l) : wrap64 (deb (l.take 1)) = deb (l.take 1) := by
  have := deb1 hB
  unfold wrap64
  omega
theorem u64_wrap64 {x : Int} (h0 : 0 ≤ x) (h1 : x < 18446744073709551616) : IntKind.u64.wrap (wrap64 x) = x := by
  rw [wrap_u64_eq]
  unfold wrap64
  omega
theorem deb8 {l : List Int} (hB : Byt l) : 0 ≤ deb (l.take 8) ∧ deb (l.take 8) < 18446744073709551616 := by
  have h1 := deb_lt (l := l.take 8) fun y hy => hB y (List.mem_of_mem_take hy)
  have h2 : (256 : Int) ^ (l.take 8).length ≤ 256 ^ 8 := pow_mono (by rw [List.length_take]; omega)
  have h3 : (256 : Int) ^ 8 = 18446744073709551616 := by decide
  omega
/-- An element's reader answers as the plain one does. -/
structure Mt {α : Type} (l0 : List Int) (f : List Int → Option (α × List Int)) (el : RS → α × RS) : Prop where
  ok : ∀ {s : RS} {l : List Int} {x : α} {l1 : List Int}, Okr l0 s l → f l = some (x, l1) → (el s).1 = x ∧ Okr l0 (el s).2 l1
  no : ∀ {s : RS} {l : List Int}, Okr l0 s l → f l = none → (el s).2.fine = false
section
variable {α : Type} {l0 : List Int} {f : List Int → Option (α × List Int)} {el : RS → α × RS} (hM : Mt l0 f el)
include hM
theorem lpR_ok : ∀ (m : Nat) {s : RS} {l l1 : List Int} {xs ys : List α}, Okr l0 s l → many f m l = some (ys, l1) → (lpR el m s xs).1 = xs ++ ys ∧ Okr l0 (lpR el m s xs).2 l1
  | 0, s, l, l1, xs, ys, h, hm => by
    simp only [many, Option.some.injEq, Prod.mk.injEq] at hm
    obtain ⟨rfl, rfl⟩ := hm
    simpa [lpR] using h
  | m + 1, s, l, l1, xs, ys, h, hm => by
    rw [many] at hm
    cases hl : f l with
    | none => rw [hl] at hm; cases hm
    | some p =>
      obtain ⟨y, l3⟩ := p
      rw [hl] at hm
      simp only at hm
      cases hr : many f m l3 with
      | none => rw [hr] at hm; cases hm
      | some q =>
        obtain ⟨zs, l4⟩ := q
        rw [hr] at hm
        simp only [Option.some.injEq, Prod.mk.injEq] at hm
        obtain ⟨rfl, rfl⟩ := hm
        obtain ⟨h1, h2⟩ := hM.ok h hl
        rw [lpR_next h.1, h1]
        obtain ⟨h3, h4⟩ := lpR_ok m (xs := xs ++ [y]) h2 hr
        exact ⟨by rw [h3]; simp, h4⟩
theorem lpR_no : ∀ (m : Nat) {s : RS} {l : List Int} {xs : List α}, Okr l0 s l → many f m l = none → (lpR el m s xs).2.fine = false
  | 0, s, l, xs, h, hm => by simp [many] at hm
  | m + 1, s, l, xs, h, hm => by
    rw [many] at hm
    rw [lpR_next h.1]
    cases hl : f l with
    | none => rw [lpR_bad m (hM.no h hl)]; exact hM.no h hl
    | some p =>
      obtain ⟨y, l3⟩ := p
      rw [hl] at hm
      simp only at hm
      cases hr : many f m l3 with
      | none => exact lpR_no m (hM.ok h hl).2 hr
      | some q => rw [hr] at hm; cases hm
end
def f4 (l : List Int) : Option (Int × List Int) := if l.length < 4 then none else some (deb (l.take 4), l.drop 4)
theorem many_f4 : ∀ (m : Nat) (l : List Int), many f4 m l = rdInts m l
  | 0, l => by simp [many, rdInts, deb4s]
  | m + 1, l => by
    rw [many]
    unfold f4
    by_cases h : l.length < 4
    · rw [if_pos h, rdInts, if_pos (by omega)]
    · rw [if_neg h]
      simp only
      rw [show (many (fun l => if l.length < 4 then none else some (deb (l.take 4), l.drop 4)) m (l.drop 4)) = many f4 m (l.drop 4) from rfl, many_f4 m]
      unfold rdInts
      by_cases h2 : (l.drop 4).length < 4 * m
      · rw [if_pos h2]
        rw [List.length_drop] at h2
        rw [if_pos (by omega)]
      · rw [if_neg h2]
        rw [List.length_drop] at h2
        rw [if_neg (by omega)]
        simp only [deb4s, List.drop_drop]
        rw [show 4 + 4 * m = 4 * (m + 1) by omega]
section
variable {l0 : List Int} (hB : Byt l0)
include hB
theorem mt_n : Mt l0 f4 (elN l0) := by
  constructor
  · intro s l x l1 h hf
    unfold f4 at hf
    by_cases hl : l.length < 4
    · rw [if_pos hl] at hf; cases hf
    · rw [if_neg hl] at hf
      simp only [Option.some.injEq, Prod.mk.injEq] at hf
      obtain ⟨rfl, rfl⟩ := hf
      obtain ⟨h1, h2⟩ := okr_ok h (n := 4) (by omega)
      exact ⟨by show nV l0 s 4 = _; rw [h1, wrap64_4 (okr_byt h hB)], h2⟩
  · intro s l h hf
    unfold f4 at hf
    by_cases hl : l.length < 4
    · exact okr_no h hl
    · rw [if_neg hl] at hf; cases hf
theorem mt_c : Mt l0 pCh (elC l0) := by
  constructor
  · intro s l x l1 h hf
    by_cases hl : l.length < 8
    · rw [pCh_none hl] at hf; cases hf
    · rw [pCh_some (by omega)] at hf
      simp only [Option.some.injEq, Prod.mk.injEq] at hf
      obtain ⟨rfl, rfl⟩ := hf
      obtain ⟨h1, h2⟩ := okr_ok h (n := 4) (by omega)
      obtain ⟨h3, h4⟩ := okr_ok h2 (n := 4) (by rw [List.length_drop]; omega)
      rw [List.drop_drop] at h4
      have hb := okr_byt h hB
      exact ⟨by show (nV l0 s 4, nV l0 (nS l0 s 4) 4) = _; rw [h1, h3, wrap64_4 hb, wrap64_4 (hb.drop 4)], h4⟩
  · intro s l h hf
    by_cases hl : l.length < 8
    · show (nS l0 (nS l0 s 4) 4).fine = false
      by_cases h4 : l.length < 4
      · exact nS_bad (okr_no h h4)
      · exact okr_no (okr_ok h (n := 4) (by omega)).2 (by rw [List.length_drop]; omega)
    · rw [pCh_some (by omega)] at hf; cases hf
theorem mt_f : Mt l0 pFn (elF l0) := by
  have key : ∀ {s : RS} {l : List Int}, Okr l0 s l → 12 ≤ l.length → nV l0 s 4 = deb (l.take 4) ∧ nV l0 (nS l0 s 4) 4 = deb ((l.drop 4).take 4) ∧ nV l0 (nS l0 (nS l0 s 4) 4) 4 = deb ((l.drop 8).take 4) ∧ Okr l0 (nS l0 (nS l0 (nS l0 s 4) 4) 4) (l.drop 12) := by
    intro s l h hl
    have hb := okr_byt h hB
    obtain ⟨h1, h2⟩ := okr_ok h (n := 4) (by omega)
    obtain ⟨h3, h4⟩ := okr_ok h2 (n := 4) (by rw [List.length_drop]; omega)
    obtain ⟨h5, h6⟩ := okr_ok h4 (n := 4) (by rw [List.length_drop, List.length_drop]; omega)
    rw [List.drop_drop] at h5 h6
    rw [List.drop_drop] at h6
    exact ⟨by rw [h1, wrap64_4 hb], by rw [h3, wrap64_4 (hb.drop 4)], by rw [h5, wrap64_4 (hb.drop 8)], h6⟩
  constructor
  · intro s l x l1 h hf
    by_cases hl : l.length < 12
    · rw [pFn_short hl] at hf; cases hf
    · obtain ⟨k1, k2, k3, k4⟩ := key h (by omega)
      unfold pFn at hf
      rw [if_neg hl, ← many_f4] at hf
      cases hr : many f4 (deb ((l.drop 8).take 4)).toNat (l.drop 12) with
      | none => rw [hr] at hf; cases hf
      | some q =>
        obtain ⟨ls, l2⟩ := q
        rw [hr] at hf
        simp only [Option.some.injEq, Prod.mk.injEq] at hf
        obtain ⟨rfl, rfl⟩ := hf
        obtain ⟨h7, h8⟩ := lpR_ok (mt_n hB) _ (xs := []) k4 hr
        unfold elF
        simp only [k1, k2, k3]
        exact ⟨by rw [h7]; rfl, h8⟩
  · intro s l h hf
    show (lpR (elN l0) (nV l0 (nS l0 (nS l0 s 4) 4) 4).toNat (nS l0 (nS l0 (nS l0 s 4) 4) 4) []).2.fine = false
    by_cases hl : l.length < 12
    · have hb : (nS l0 (nS l0 (nS l0 s 4) 4) 4).fine = false := by
        by_cases h4 : l.length < 4
        · exact nS_bad (nS_bad (okr_no h h4))
        · have h2 := (okr_ok h (n := 4) (by omega)).2
          by_cases h8 : l.length < 8
          · exact nS_bad (okr_no h2 (by rw [List.length_drop]; omega))
          · have h3 := (okr_ok h2 (n := 4) (by rw [List.length_drop]; omega)).2
            exact okr_no h3 (by rw [List.length_drop, List.length_drop]; omega)
      rw [lpR_bad _ hb]
      exact hb
    · obtain ⟨k1, k2, k3, k4⟩ := key h (by omega)
      unfold pFn at hf
      rw [if_neg hl, ← many_f4] at hf
      rw [k3]
      cases hr : many f4 (deb ((l.drop 8).take 4)).toNat (l.drop 12) with
      | none => exact lpR_no (mt_n hB) _ k4 hr
      | some q => rw [hr] at hf; cases hf
theorem mt_i : Mt l0 pIns (elI l0) := by
  constructor
  · intro s l x l1 h hf
    by_cases hl : l.length < 25
    · rw [pIns_none hl] at hf; cases hf
    · rw [pIns_some (by omega)] at hf
      simp only [Option.some.injEq, Prod.mk.injEq] at hf
      obtain ⟨rfl, rfl⟩ := hf
      have hb := okr_byt h hB
      obtain ⟨h1, h2⟩ := okr_ok h (n := 1) (by omega)
      obtain ⟨h3, h4⟩ := okr_ok h2 (n := 8) (by simp only [List.length_drop]; omega)
      obtain ⟨h5, h6⟩ := okr_ok h4 (n := 4) (by simp only [List.length_drop]; omega)
      obtain ⟨h7, h8⟩ := okr_ok h6 (n := 8) (by simp only [List.length_drop]; omega)
      obtain ⟨h9, h10⟩ := okr_ok h8 (n := 4) (by simp only [List.length_drop]; omega)
      simp only [List.drop_drop] at h5 h7 h9 h10
      have e8 := deb8 (hb.drop 13)
      unfold elI
      simp only
      exact ⟨by rw [h1, h3, h5, h7, h9, wrap64_1 hb, wrap64_4 (hb.drop 9), wrap64_4 (hb.drop 21), u64_wrap64 e8.1 e8.2], h10⟩
  · intro s l h hf
    by_cases hl : l.length < 25
    · show (nS l0 (nS l0 (nS l0 (nS l0 (nS l0 s 1) 8) 4) 8) 4).fine = false
      by_cases c1 : l.length < 1
      · exact nS_bad (nS_bad (nS_bad (nS_bad (okr_no h c1))))
      have h2 := (okr_ok h (n := 1) (by omega)).2
      by_cases c2 : l.length < 9
      · exact nS_bad (nS_bad (nS_bad (okr_no h2 (by simp only [List.length_drop]; omega))))
      have h3 := (okr_ok h2 (n := 8) (by simp only [List.length_drop]; omega)).2
      by_cases c3 : l.length < 13
      · exact nS_bad (nS_bad (okr_no h3 (by simp only [List.length_drop]; omega)))
      have h4 := (okr_ok h3 (n := 4) (by simp only [List.length_drop]; omega)).2
      by_cases c4 : l.length < 21
      · exact nS_bad (okr_no h4 (by simp only [List.length_drop]; omega))
      have h5 := (okr_ok h4 (n := 8) (by simp only [List.length_drop]; omega)).2
      exact okr_no h5 (by simp only [List.length_drop]; omega)
    · rw [pIns_some (by omega)] at hf; cases hf
end
theorem hR_len (l0 : List Int) : ∀ k, (hR l0 k).1.length = k
  | 0 => rfl
  | k + 1 => by simp [hR, hR_len l0 k]
theorem hR_ok {l0 : List Int} (hB : Byt l0) : ∀ k, 4 * k ≤ l0.length → hR l0 k = (deb4s k l0, ⟨4 * k, true⟩)
  | 0, _ => rfl
  | k + 1, h => by
    rw [hR, hR_ok hB k (by omega)]
    simp only
    have ho : Okr l0 ⟨4 * k, true⟩ (l0.drop (4 * k)) := ⟨rfl, by simp only; omega, rfl⟩
    obtain ⟨h1, _⟩ := okr_ok ho (n := 4) (by rw [List.length_drop]; omega)
    rw [h1, wrap64_4 (hB.drop _), deb4s_snoc]
    unfold nS
    rw [if_neg (by simp only; omega)]
    simp only
    rw [show 4 * k + 4 = 4 * (k + 1) by omega]
theorem hR_fine {l0 : List Int} : ∀ k, (hR l0 k).2.fine = true → (hR l0 k).2.at_ = 4 * k
  | 0, _ => rfl
  | k + 1, h => by
    have := nS_fine (l0 := l0) (s := (hR l0 k).2) (n := 4) h
    have h2 := hR_fine k this.1
    show (nS l0 (hR l0 k).2 4).at_ = _
    omega
theorem hR_le {l0 : List Int} : ∀ k, (hR l0 k).2.at_ ≤ l0.length
  | 0 => Nat.zero_le _
  | k + 1 => by
    show (nS l0 (hR l0 k).2 4).at_ ≤ _
    have := hR_le (l0 := l0) k
    unfold nS
    split <;> simp only <;> omega
theorem fin_bad {α : Type} {x : α} {s : RS} {n : Nat} (h : s.fine = false) : (if s.fine = true ∧ s.at_ = n then some x else none) = none := by rw [if_neg (by rw [h]; simp)]
theorem codeH_bad {l0 h : List Int} {s : RS} (hs : s.fine = false) : (codeH l0 h s).2.fine = false := by
  unfold codeH
  simp only [lpR_bad _ hs]
  exact hs
theorem codeH_parse {l0 : List Int} (hB : Byt l0) (h l : List Int) (s : RS) (ho : Okr l0 s l) : parse1 h l = if (codeH l0 h s).2.fine = true ∧ (codeH l0 h s).2.at_ = l0.length then some (codeH l0 h s).1 else none := by
  unfold parse1 codeH
  generalize (h.getD 0 0).toNat = m0
  generalize (h.getD 3 0).toNat = m3
  generalize (h.getD 4 0).toNat = m4
  generalize (h.getD 5 0).toNat = m5
  rw [← many_f4]
  cases hp : many f4 m0 l with
  | none =>
    have hb := lpR_no (mt_n hB) m0 (xs := []) ho hp
    simp only
    generalize lpR (elN l0) m0 s [] = P at hb ⊢
    simp only [lpR_bad _ hb]
    exact (fin_bad hb).symm
  | some q =>
    obtain ⟨pl, l2⟩ := q
    obtain ⟨p1, p2⟩ := lpR_ok (mt_n hB) m0 (xs := []) ho hp
    simp only
    generalize lpR (elN l0) m0 s [] = P at p1 p2 ⊢
    rw [p1]
    cases hc : many pCh m3 l2 with
    | none =>
      have hb := lpR_no (mt_c hB) m3 (xs := []) p2 hc
      simp only
      generalize lpR (elC l0) m3 P.2 [] = C at hb ⊢
      simp only [lpR_bad _ hb]
      exact (fin_bad hb).symm
    | some q =>
      obtain ⟨cs, l3⟩ := q
      obtain ⟨c1, c2⟩ := lpR_ok (mt_c hB) m3 (xs := []) p2 hc
      simp only
      generalize lpR (elC l0) m3 P.2 [] = C at c1 c2 ⊢
      rw [c1]
      cases hfn : many pFn m4 l3 with
      | none =>
        have hb := lpR_no (mt_f hB) m4 (xs := []) c2 hfn
        simp only
        generalize lpR (elF l0) m4 C.2 [] = F at hb ⊢
        simp only [lpR_bad _ hb]
        exact (fin_bad hb).symm
      | some q =>
        obtain ⟨fs, l4⟩ := q
        obtain ⟨f1, f2⟩ := lpR_ok (mt_f hB) m4 (xs := []) c2 hfn
        simp only
        generalize lpR (elF l0) m4 C.2 [] = F at f1 f2 ⊢
        rw [f1]
        cases hi : many pIns m5 l4 with
        | none =>
          have hb := lpR_no (mt_i hB) m5 (xs := []) f2 hi
          simp only
          exact (fin_bad hb).symm
        | some q =>
          obtain ⟨bo, l5⟩ := q
          obtain ⟨i1, j1, j2, j3⟩ := lpR_ok (mt_i hB) m5 (xs := []) f2 hi
          simp only
          generalize lpR (elI l0) m5 F.2 [] = I at i1 j1 j2 j3 ⊢
          rw [i1]
          by_cases h5 : l5 = []
          · rw [if_pos h5, if_pos ⟨j1, by subst h5; have := congrArg List.length j3; rw [List.length_drop] at this; simp at this; omega⟩]
            rfl
          · rw [if_neg h5, if_neg (fun hx => h5 (by rw [← j3, hx.2]; simp))]
theorem codeR_parse {l0 : List Int} (hB : Byt l0) : parse l0 = if (codeR l0).2.fine = true ∧ (codeR l0).2.at_ = l0.length then some (codeR l0).1 else none := by
  unfold parse codeR
  by_cases h7 : l0.length < 28
  · have hb : (hR l0 7).2.fine = false := by
      cases hx : (hR l0 7).2.fine with
      | false => rfl
      | true => have h1 := hR_fine 7 hx; have h2 := hR_le (l0 := l0) 7; omega
    rw [fin_bad (codeH_bad hb), rdInts, if_pos (by omega)]
  · rw [hR_ok hB 7 (by omega), rdInts, if_neg (by omega)]
    exact codeH_parse hB _ _ _ ⟨rfl, by simp only; omega, rfl⟩
end Go.Proofs.YtbpbimkadiobfaaDoor

/-
  The document's reading of a code: the walk.
-/
namespace Go.Proofs.YtbpbimkadiobfaaDoor
open Go.RowKit Go.Stk
attribute [local go_sem ↓] Go.wp_at_zero Go.wp_at_succ

theorem nV_bd {l0 : List Int} (hB : Byt l0) (s : RS) : 0 ≤ nV l0 s 4 ∧ nV l0 s 4 < 4294967296 := by
  unfold nV
  split
  · omega
  · rw [wrap64_4 (hB.drop _)]; exact deb4 (hB.drop _)
theorem hR_bd {l0 : List Int} (hB : Byt l0) : ∀ k, ∀ x ∈ (hR l0 k).1, 0 ≤ x ∧ x < 4294967296
  | 0, x, h => by simp [hR] at h
  | k + 1, x, h => by
    rw [hR] at h
    rcases List.mem_append.1 h with h | h
    · exact hR_bd hB k x h
    · simp at h; subst h; exact nV_bd hB _
theorem hR_getD {l0 : List Int} (hB : Byt l0) (j : Nat) : 0 ≤ (hR l0 7).1.getD j 0 ∧ (hR l0 7).1.getD j 0 < 4294967296 := by
  by_cases hj : j < (hR l0 7).1.length
  · have := hR_bd hB 7 _ (List.getElem_mem hj)
    simpa [hj] using this
  · simp [hj]
theorem below_kept {w w1 w2 : World} {fp : List Nat} (h : Below w.heap.size w w1) (hk : Kept fp w1 w2) (hf : ∀ i ∈ fp, w.heap.size ≤ i) : Below w.heap.size w w2 := h.trans (hk.below hf h.size)
/-- The head's seven numbers, at o. -/
def Hd (w : World) (o : Nat) (xs : List Int) : Prop := w.heap[o]? = some (.cells (ints xs).toArray 92 (0, 0))
theorem Hd.at' {w : World} {o : Nat} {xs : List Int} (h : Hd w o xs) (j : Nat) (hj : j < xs.length) : w.cell? ⟨o, j, none⟩ = some (.int .i64 (xs.getD j 0)) := by
  rw [blk_cell h]
  simp [ints, hj]
/-- What stands while the head is read: the result's box at r, the reader at r + 1, the head at r + 2. -/
structure H0 (w wr : World) (A : Option Addr) (l0 : List Int) (s : RS) (xs : List Int) : Prop where
  bl : Below w.heap.size w wr
  rz : wr.heap[w.heap.size]? = some (.cells #[.slice none 0 0, .int .i64 0, .int .i64 0, .slice none 0 0, .slice none 0 0, .int .i64 0, .slice none 0 0] 31 (0, 0))
  rd : RD wr (w.heap.size + 1) A l0 s
  hd : Hd wr (w.heap.size + 1 + 1) xs
  al : ∀ a, adr l0 A = some a → a.block < w.heap.size
/-- What stands behind the head: the code's box at bc. -/
structure Dn (w wr : World) (A : Option Addr) (l0 : List Int) (bc : Nat) (s : RS) (H : List Int) (cs : Array Value) : Prop where
  bl : Below w.heap.size w wr
  rz : wr.heap[w.heap.size]? = some (.cells #[.slice none 0 0, .int .i64 0, .int .i64 0, .slice none 0 0, .slice none 0 0, .int .i64 0, .slice none 0 0] 31 (0, 0))
  rd : RD wr (w.heap.size + 1) A l0 s
  hd : Hd wr (w.heap.size + 1 + 1) H
  al : ∀ a, adr l0 A = some a → a.block < w.heap.size
  ne : w.heap.size + 1 + 1 < bc
  cb : wr.heap[bc]? = some (.cells cs 31 (0, 0))
theorem Dn.kept {w wr w' : World} {A : Option Addr} {l0 : List Int} {bc : Nat} {s : RS} {H : List Int} {cs : Array Value} (h : Dn w wr A l0 bc s H cs) {fp : List Nat} (hk : Kept fp wr w') (hf : ∀ j ∈ fp, w.heap.size + 1 + 1 < j ∧ j ≠ bc) : Dn w w' A l0 bc s H cs := by
  have hne := h.ne
  have n0 : ∀ j, j ≤ w.heap.size + 1 + 1 → j ∉ fp := fun j hj hx => by have := (hf j hx).1; omega
  exact ⟨below_kept h.bl hk (fun i hi => by have := (hf i hi).1; omega), hk.heap h.rz (n0 _ (by omega)), h.rd.kept hk (n0 _ (by omega)) (fun a ha => n0 _ (by have := h.al a ha; omega)), hk.heap h.hd (n0 _ (by omega)), h.al, hne, hk.heap h.cb (fun hx => (hf bc hx).2 rfl)⟩
theorem Dn.later {w wr w' : World} {A : Option Addr} {l0 : List Int} {bc : Nat} {s : RS} {H : List Int} {cs : Array Value} (h : Dn w wr A l0 bc s H cs) (hb : Below wr.heap.size wr w') : Dn w w' A l0 bc s H cs := h.kept (Kept.ofBelow hb []) (by simp)
theorem Dn.read {w wr w' : World} {A : Option Addr} {l0 : List Int} {bc : Nat} {s s' : RS} {H : List Int} {cs : Array Value} (h : Dn w wr A l0 bc s H cs) (hk : Kept [w.heap.size + 1] wr w') (hr : RD w' (w.heap.size + 1) A l0 s') : Dn w w' A l0 bc s' H cs := by
  have hne := h.ne
  exact ⟨below_kept h.bl hk (by simp), hk.heap h.rz (by simp), hr, hk.heap h.hd (by simp), h.al, hne, hk.heap h.cb (by simp; omega)⟩
theorem Dn.put {w wr : World} {A : Option Addr} {l0 : List Int} {bc : Nat} {s : RS} {H : List Int} {cs : Array Value} (h : Dn w wr A l0 bc s H cs) (i : Nat) (v : Value) : Dn w (wr.setCell ⟨bc, i, none⟩ v) A l0 bc s H (cs.setIfInBounds i v) := by
  have hne := h.ne
  have hk : Kept [bc] wr (wr.setCell ⟨bc, i, none⟩ v) := (Kept.refl _ _).set _ _ (.inl (by simp))
  exact ⟨below_kept h.bl hk (by simp; omega), hk.heap h.rz (by simp; omega), h.rd.kept hk (by simp; omega) (fun a ha => by have := h.al a ha; simp; omega), hk.heap h.hd (by simp; omega), h.al, hne, blk_set h.cb i v⟩
/-- A row that is done. -/
structure RowD (w wr : World) (bc : Nat) (e : TypeId) (k : Nat) (v : Value) (n : Nat) (xs : List Value) : Prop where
  row : Row wr e k v n xs
  ne : ∀ j ∈ blk v, w.heap.size + 1 + 1 < j ∧ j ≠ bc
/-- What a loop may write: the code's box, the reader, memory of its own. -/
def Kw (w wB wr : World) (bc : Nat) : Prop := KeptX (fun j => j < wB.heap.size ∧ j ≠ bc ∧ j ≠ w.heap.size + 1) wB wr
theorem RowD.keep {w wB wr : World} {bc : Nat} {e : TypeId} {k : Nat} {v : Value} {n : Nat} {xs : List Value} (h : RowD w wB bc e k v n xs) (hk : Kw w wB wr bc) : RowD w wr bc e k v n xs :=
  ⟨row_keptX h.row hk fun j hj => ⟨h.row.lt j hj, (h.ne j hj).2, by have := (h.ne j hj).1; omega⟩, h.ne⟩
/-- A loop that grows a row. -/
structure Lw (w wB wr : World) (A : Option Addr) (l0 : List Int) (bc : Nat) (s : RS) (H : List Int) (cs : Array Value) (e : TypeId) (k : Nat) (v : Value) (n : Nat) (xs : List Value) : Prop where
  kx : Kw w wB wr bc
  dn : Dn w wr A l0 bc s H cs
  row : Row wr e k v n xs
  own : ∀ j ∈ blk v, wB.heap.size ≤ j
  sz : bc < wB.heap.size
section
variable {w wB wr : World} {A : Option Addr} {l0 : List Int} {bc : Nat} {s : RS} {H : List Int} {cs : Array Value} {e : TypeId} {k : Nat} {v : Value} {n : Nat} {xs : List Value}
theorem Lw.start (h : Dn w wB A l0 bc s H cs) (e : TypeId) (k : Nat) : Lw w wB wB A l0 bc s H cs e k (.slice none 0 0) 0 [] := ⟨KeptX.refl _ _, h, Row.empty _ _ _ _, by simp [blk], blk_lt h.cb⟩
variable (h : Lw w wB wr A l0 bc s H cs e k v n xs)
include h
theorem Lw.later {w' : World} (hb : Below wr.heap.size wr w') : Lw w wB w' A l0 bc s H cs e k v n xs :=
  ⟨kx_kept h.kx (Kept.ofBelow hb []) (fun j hj => ⟨hj.1, by simp⟩), h.dn.later hb, h.row.kept (Kept.ofBelow hb []) (by simp), h.own, h.sz⟩
theorem Lw.read {w' : World} {s' : RS} (hk : Kept [w.heap.size + 1] wr w') (hr : RD w' (w.heap.size + 1) A l0 s') : Lw w wB w' A l0 bc s' H cs e k v n xs := by
  have h1 := h.dn.ne
  have h2 := h.sz
  exact ⟨kx_kept h.kx hk (fun j hj => ⟨hj.1, by simpa using hj.2.2⟩), h.dn.read hk hr, h.row.kept hk (fun j hj => by have := h.own j hj; simp; omega), h.own, h.sz⟩
theorem Lw.push {w2 w3 : World} {v' : Value} {n' : Nat} {xs' : List Value} (hb : Below wr.heap.size wr w2) (hk : Kept (blk v) w2 w3) (hr : Row w3 e k v' n' xs') (hg : ∀ j ∈ blk v', j ∈ blk v ∨ w2.heap.size ≤ j) (i : Nat) :
    Lw w wB (w3.setCell ⟨bc, i, none⟩ v') A l0 bc s H (cs.setIfInBounds i v') e k v' n' xs' := by
  have h2 := h.later hb
  have h1 := h.dn.ne
  have hs := h.sz
  have s1 := h2.kx.size
  have hown : ∀ j ∈ blk v', wB.heap.size ≤ j := fun j hj => by
    rcases hg j hj with h1 | h1
    · exact h.own j h1
    · omega
  have hks : Kept [bc] w3 (w3.setCell ⟨bc, i, none⟩ v') := (Kept.refl _ _).set _ _ (.inl (by simp))
  have hd3 := h2.dn.kept hk (fun j hj => by have := h.own j hj; omega)
  exact ⟨kx_kept (kx_kept h2.kx hk fun j hj => ⟨hj.1, fun hx => by have := h.own j hx; omega⟩) hks (fun j hj => ⟨hj.1, by simpa using hj.2.1⟩), hd3.put i v', hr.kept hks (fun j hj => by have := hown j hj; simp; omega), hown, hs⟩
theorem Lw.box {w' : World} {x : Nat} (hk : Kept [x] wr w') (hx : wB.heap.size ≤ x) (hxv : x ∉ blk v) : Lw w wB w' A l0 bc s H cs e k v n xs := by
  have h1 := h.dn.ne
  have hs := h.sz
  exact ⟨kx_kept h.kx hk (fun j hj => ⟨hj.1, by have := hj.1; simp; omega⟩), h.dn.kept hk (by simp; omega), h.row.kept hk (fun j hj hm => by simp at hm; subst hm; exact hxv hj), h.own, hs⟩
theorem Lw.done : RowD w wr bc e k v n xs := ⟨h.row, fun j hj => by have := h.own j hj; have := h.dn.ne; have := h.sz; omega⟩
theorem Lw.cell (i : Nat) (u : Value) (hc : cs[i]? = some u) : wr.cell? ⟨bc, i, none⟩ = some u := (blk_cell h.dn.cb i).trans hc
theorem Lw.free (i : Nat) : wr.frozen? ⟨bc, i, none⟩ = false := blk_free h.dn.cb i
end
/-- A box at x, the round's own, beside the row. -/
structure Xw (w wB wr : World) (A : Option Addr) (l0 : List Int) (bc : Nat) (s : RS) (H : List Int) (cs : Array Value) (e : TypeId) (k : Nat) (v : Value) (n : Nat) (xs : List Value) (T : TypeId) (x : Nat) (ec : Array Value) : Prop where
  lw : Lw w wB wr A l0 bc s H cs e k v n xs
  en : wr.heap[x]? = some (.cells ec T (0, 0))
  hx : wB.heap.size ≤ x ∧ ∀ j ∈ blk v, j < x
section
variable {w wB wr : World} {A : Option Addr} {l0 : List Int} {bc : Nat} {s : RS} {H : List Int} {cs : Array Value} {e : TypeId} {k : Nat} {v : Value} {n : Nat} {xs : List Value} {T : TypeId} {x : Nat} {ec : Array Value}
theorem Lw.xw (h : Lw w wB wr A l0 bc s H cs e k v n xs) (ec : Array Value) (T : TypeId) : Xw w wB (wr.alloc (.cells ec T)) A l0 bc s H cs e k v n xs T wr.heap.size ec :=
  ⟨h.later (below_alloc (Below.refl _ _) _), blk_new _ _, h.kx.size, h.row.lt⟩
variable (h : Xw w wB wr A l0 bc s H cs e k v n xs T x ec)
include h
theorem Xw.later {w' : World} (hb : Below wr.heap.size wr w') : Xw w wB w' A l0 bc s H cs e k v n xs T x ec := ⟨h.lw.later hb, blk_later hb h.en, h.hx⟩
theorem Xw.read {w' : World} {s' : RS} (hk : Kept [w.heap.size + 1] wr w') (hr : RD w' (w.heap.size + 1) A l0 s') : Xw w wB w' A l0 bc s' H cs e k v n xs T x ec := by
  have h1 := h.lw.dn.ne
  have h2 := h.lw.sz
  have h3 := h.hx.1
  exact ⟨h.lw.read hk hr, hk.heap h.en (by simp; omega), h.hx⟩
theorem Xw.put (i : Nat) (u : Value) : Xw w wB (wr.setCell ⟨x, i, none⟩ u) A l0 bc s H cs e k v n xs T x (ec.setIfInBounds i u) := by
  have hk : Kept [x] wr (wr.setCell ⟨x, i, none⟩ u) := (Kept.refl _ _).set _ _ (.inl (by simp))
  exact ⟨h.lw.box hk h.hx.1 (fun hx => by have := h.hx.2 x hx; omega), blk_set h.en i u, h.hx⟩
theorem Xw.cell (i : Nat) (u : Value) (hc : ec[i]? = some u) : wr.cell? ⟨x, i, none⟩ = some u := (blk_cell h.en i).trans hc
theorem Xw.free (i : Nat) : wr.frozen? ⟨x, i, none⟩ = false := blk_free h.en i
end
/-- The functions' locals, each a row of its own, in blocks from B to N. -/
def LosR (B N : Nat) (w : World) (v : Value) (fs : List Fn) : Prop := ∀ f ∈ fs, Row w 3 1 (.slice f.lA f.locals.length f.lc) f.locals.length (ints f.locals) ∧ f.locals.length ≤ 1000000 ∧ ∀ j ∈ blk (.slice f.lA f.locals.length f.lc), B ≤ j ∧ j < N ∧ j ∉ blk v
theorem LosR.kept {B N : Nat} {w w' : World} {v : Value} {fs : List Fn} (h : LosR B N w v fs) {fp : List Nat} (hk : Kept fp w w') (hfp : ∀ j ∈ fp, j < B ∨ N ≤ j ∨ j ∈ blk v) : LosR B N w' v fs := fun f hf => by
  obtain ⟨h1, h2, h3⟩ := h f hf
  refine ⟨h1.kept hk fun j hj hx => ?_, h2, h3⟩
  obtain ⟨a1, a2, a3⟩ := h3 j hj
  rcases hfp j hx with b | b | b
  · omega
  · omega
  · exact a3 b
theorem LosR.keepX {B N : Nat} {w w' : World} {v : Value} {fs : List Fn} (h : LosR B N w v fs) {X : Nat → Prop} (hk : KeptX X w w') (hX : ∀ j, B ≤ j → j < N → X j) : LosR B N w' v fs := fun f hf => by
  obtain ⟨h1, h2, h3⟩ := h f hf
  exact ⟨row_keptX h1 hk fun j hj => hX j (h3 j hj).1 (h3 j hj).2.1, h2, h3⟩
/-- A function pushed. -/
theorem LosR.push {B N : Nat} {w w2 w3 : World} {v v' : Value} {fs : List Fn} (h : LosR B N w v fs) {f : Fn} (h1 : Row w 3 1 (.slice f.lA f.locals.length f.lc) f.locals.length (ints f.locals)) (h2 : f.locals.length ≤ 1000000) (h3 : ∀ j ∈ blk (.slice f.lA f.locals.length f.lc), B ≤ j ∧ j ∉ blk v)
    (hN : N ≤ w.heap.size) (hb : Below w.heap.size w w2) (hk : Kept (blk v) w2 w3) (hv : ∀ j ∈ blk v', j ∈ blk v ∨ w2.heap.size ≤ j) {bc : Nat} (hbc : bc < B) (i : Nat) (u : Value) : LosR B (w3.setCell ⟨bc, i, none⟩ u).heap.size (w3.setCell ⟨bc, i, none⟩ u) v' (fs ++ [f]) := by
  have hall : LosR B w.heap.size w v (fs ++ [f]) := fun g hg => by
    simp only [List.mem_append, List.mem_singleton] at hg
    rcases hg with hg | rfl
    · obtain ⟨a1, a2, a3⟩ := h g hg
      exact ⟨a1, a2, fun j hj => by have := a3 j hj; exact ⟨this.1, by omega, this.2.2⟩⟩
    · exact ⟨h1, h2, fun j hj => ⟨(h3 j hj).1, h1.lt j hj, (h3 j hj).2⟩⟩
  have hks : Kept [bc] w3 (w3.setCell ⟨bc, i, none⟩ u) := (Kept.refl _ _).set _ _ (.inl (by simp))
  have a1 := hall.kept (Kept.ofBelow hb []) (by simp)
  have a2 := a1.kept hk (fun j hj => .inr (.inr hj))
  have a3 := a2.kept hks (fun j hj => by simp at hj; subst hj; exact .inl hbc)
  have s1 := hb.size
  have s2 := hk.size
  have s3 := hks.size
  intro g hg
  obtain ⟨b1, b2, b3⟩ := a3 g hg
  refine ⟨b1, b2, fun j hj => ?_⟩
  obtain ⟨c1, c2, c3⟩ := b3 j hj
  refine ⟨c1, by omega, fun hx => ?_⟩
  rcases hv j hx with d | d
  · exact c3 d
  · omega
/-- The locals' row, in the box's third cell. -/
structure Fl (w wB wr : World) (A : Option Addr) (l0 : List Int) (bc : Nat) (s : RS) (H : List Int) (cs : Array Value) (v : Value) (n : Nat) (fs : List Fn) (x : Nat) (X1 X2 : Int) (vl : Value) (m : Nat) (ls : List Int) : Prop where
  xw : Xw w wB wr A l0 bc s H cs 26 3 v n (fcells fs) 26 x #[.int .i64 X1, .int .i64 X2, vl]
  lo : LosR wB.heap.size x wr v fs
  row : Row wr 3 1 vl m (ints ls)
  own : ∀ j ∈ blk vl, x < j
section
variable {w wB wr : World} {A : Option Addr} {l0 : List Int} {bc : Nat} {s : RS} {H : List Int} {cs : Array Value} {v : Value} {n : Nat} {fs : List Fn} {x : Nat} {X1 X2 : Int} {vl : Value} {m : Nat} {ls : List Int} (h : Fl w wB wr A l0 bc s H cs v n fs x X1 X2 vl m ls)
include h
theorem Fl.later {w' : World} (hb : Below wr.heap.size wr w') : Fl w wB w' A l0 bc s H cs v n fs x X1 X2 vl m ls :=
  ⟨h.xw.later hb, h.lo.kept (Kept.ofBelow hb []) (by simp), h.row.kept (Kept.ofBelow hb []) (by simp), h.own⟩
theorem Fl.read {w' : World} {s' : RS} (hk : Kept [w.heap.size + 1] wr w') (hr : RD w' (w.heap.size + 1) A l0 s') : Fl w wB w' A l0 bc s' H cs v n fs x X1 X2 vl m ls := by
  have h1 := h.xw.lw.dn.ne
  have h2 := h.xw.lw.sz
  have h3 := h.xw.hx.1
  exact ⟨h.xw.read hk hr, h.lo.kept hk (by simp; omega), h.row.kept hk (fun j hj => by have := h.own j hj; simp; omega), h.own⟩
theorem Fl.push {w2 w3 : World} {vl' : Value} {m' : Nat} {ls' : List Int} (hb : Below wr.heap.size wr w2) (hk : Kept (blk vl) w2 w3) (hr : Row w3 3 1 vl' m' (ints ls')) (hg : ∀ j ∈ blk vl', j ∈ blk vl ∨ w2.heap.size ≤ j) :
    Fl w wB (w3.setCell ⟨x, 2, none⟩ vl') A l0 bc s H cs v n fs x X1 X2 vl' m' ls' := by
  have h2 := h.later hb
  have hx := h.xw.hx
  have hne := h.xw.lw.dn.ne
  have hsz := h.xw.lw.sz
  have hxs := blk_lt h2.xw.en
  have hks : Kept [x] w3 (w3.setCell ⟨x, 2, none⟩ vl') := (Kept.refl _ _).set _ _ (.inl (by simp))
  have hown : ∀ j ∈ blk vl', x < j := fun j hj => by
    rcases hg j hj with h1 | h1
    · exact h.own j h1
    · omega
  have hl3 : Lw w wB w3 A l0 bc s H cs 26 3 v n (fcells fs) := by
    have hh := h2.xw.lw
    exact ⟨kx_kept hh.kx hk (fun j hj => ⟨hj.1, fun hq => by have := h.own j hq; omega⟩), hh.dn.kept hk (fun j hj => by have := h.own j hj; omega), hh.row.kept hk (fun j hj hq => by have := h.own j hq; have := hx.2 j hj; omega), hh.own, hh.sz⟩
  have hx3 : Xw w wB w3 A l0 bc s H cs 26 3 v n (fcells fs) 26 x #[.int .i64 X1, .int .i64 X2, vl] := ⟨hl3, hk.heap h2.xw.en (fun hq => by have := h.own x hq; omega), hx⟩
  refine ⟨hx3.put 2 vl', (h2.lo.kept hk (fun j hj => .inr (.inl (by have := h.own j hj; omega)))).kept hks (by simp), hr.kept hks (fun j hj => by have := hown j hj; simp; omega), hown⟩
end
theorem RD.cells {w : World} {b : Nat} {A : Option Addr} {l0 : List Int} {s : RS} (h : RD w b A l0 s) : w.cell? ⟨b, 1, none⟩ = some (.int .i64 s.at_) ∧ w.cell? ⟨b, 2, none⟩ = some (.bool s.fine) := by
  obtain ⟨cp, h1⟩ := h.bx
  exact ⟨by rw [blk_cell h1]; rfl, by rw [blk_cell h1]; rfl⟩
/-- A number read, as a step of a region that draws its order. -/
theorem step_rnum {ops : Array Oper} {o : Oper} {a : Act} {w : World} {K : Act → World → Prop} {Q : Exit → Act → World → Prop} {E : Prop} (hgd : o.guard = none) (x y : Operand) (ats : Array TypeId)
    (ho : o.op = .call { callee := .value (.func 49), args := #[x, y], argTypes := ats }) (n : Nat) (hn : n ≤ 8) {b : Nat} {A : Option Addr} {l0 : List Int} (hev : a.eval x = .pointer (some ⟨b, 0, none⟩)) (hevn : a.eval y = .int .i64 (n : Int)) (hB : Byt l0) (hm : l0.length ≤ 200000) {s : RS} (h : RD w b A l0 s)
    (hK : ∀ w', RD w' b A l0 (nS l0 s n) → Kept [b] w w' → K (a.put o.dst (.int .i64 (nV l0 s n))) w') : if Region.wanted o (yielded ops a.tmps) = true then Oper.wp Tryd.prog o a w K Q else E := by
  have heg : ∀ (xs : Array Value) (W : World), (callFunc 49 xs).run Tryd.prog W = .ok (.enter 49 xs) W := by intro xs W; simp [go_sem]
  have hrun0 : ∀ ev : Operand → Value, ev (.func 49) = .func (.func 49) #[] #[] → ev x = .pointer (some ⟨b, 0, none⟩) → ev y = .int .i64 (n : Int) → (execOp ev o).run Tryd.prog w = .ok (.enter 49 #[.pointer (some ⟨b, 0, none⟩), .int .i64 (n : Int)]) w := fun ev hf hev hevn => by
    unfold execOp
    simp only [ho]
    simp [go_sem, hf, hev, hevn, heg]
  refine step_call hgd _ _ ats ho _ (hrun0 a.eval rfl hev hevn) (rnum_any n hn b A l0 hB (by omega) s w h) ?_
  rintro e w' ⟨rfl, h1, h2⟩
  exact .inl ⟨_, rfl, hK w' h1 h2⟩
theorem ints_snoc (xs : List Int) (x : Int) : ints xs ++ [.int .i64 x] = ints (xs ++ [x]) := by simp [ints]
/-- What the document's Code answers. -/
def RCodeR (w : World) (l0 : List Int) (e : Ending) (w' : World) : Prop :=
  Below w.heap.size w w' ∧ ((∃ c : Co, parse l0 = some c.pl ∧ checkB c = true ∧ e = .returned (.tuple #[c.agg, .bool true]) ∧ c.Rep w') ∨
    ((∀ c : Co, parse l0 = some c.pl → checkB c = false) ∧ e = .returned (.tuple #[.agg #[.slice none 0 0, .int .i64 0, .int .i64 0, .slice none 0 0, .slice none 0 0, .int .i64 0, .slice none 0 0], .bool false])))
theorem put7 {w : World} {b : Nat} {T : TypeId} (h : w.heap[b]? = some (.cells #[.slice none 0 0, .int .i64 0, .int .i64 0, .slice none 0 0, .slice none 0 0, .int .i64 0, .slice none 0 0] T (0, 0))) (x0 x1 x2 x3 x4 x5 x6 : Value) :
    (((((((w.setCell ⟨b, 0, none⟩ x0).setCell ⟨b, 1, none⟩ x1).setCell ⟨b, 2, none⟩ x2).setCell ⟨b, 3, none⟩ x3).setCell ⟨b, 4, none⟩ x4).setCell ⟨b, 5, none⟩ x5).setCell ⟨b, 6, none⟩ x6).heap[b]? = some (.cells #[x0, x1, x2, x3, x4, x5, x6] T (0, 0)) ∧ Kept [b] w (((((((w.setCell ⟨b, 0, none⟩ x0).setCell ⟨b, 1, none⟩ x1).setCell ⟨b, 2, none⟩ x2).setCell ⟨b, 3, none⟩ x3).setCell ⟨b, 4, none⟩ x4).setCell ⟨b, 5, none⟩ x5).setCell ⟨b, 6, none⟩ x6) := by
  have e0 := blk_set h 0 x0
  have e1 := blk_set e0 1 x1
  have e2 := blk_set e1 2 x2
  have e3 := blk_set e2 3 x3
  have e4 := blk_set e3 4 x4
  have e5 := blk_set e4 5 x5
  have e6 := blk_set e5 6 x6
  simp only [List.setIfInBounds_toArray, List.set] at e6
  refine ⟨e6, ?_⟩
  have k : ∀ (W : World) (i : Nat) (u : Value), Kept [b] w W → Kept [b] w (W.setCell ⟨b, i, none⟩ u) := fun W i u hk => hk.set _ _ (.inl (by simp))
  exact k _ _ _ (k _ _ _ (k _ _ _ (k _ _ _ (k _ _ _ (k _ _ _ (k _ _ _ (Kept.refl _ _)))))))
set_option maxRecDepth 100000 in
set_option maxHeartbeats 4000000 in
theorem refCode_any (l0 : List Int) (hB : Byt l0) (hm : l0.length ≤ 200000) (A : Option Addr) (cp : Nat) (w : World) (hr : Rs w A (bys l0)) :
    Calls Tryd.prog 25 #[.slice A l0.length cp] w (RCodeR w l0) := by
  have HB := Lib.hid hB
  have hal := adr_lt hr
  go_enter Tryd.func25, Tryd.ntmps25
  go_wp2_with fail
  have HS0 : Hid (H0 w (((w.alloc (.cells #[.slice none 0 0, .int .i64 0, .int .i64 0, .slice none 0 0, .slice none 0 0, .int .i64 0, .slice none 0 0] 31)).alloc (.cells #[.slice A l0.length cp, .int .i64 0, .bool true] 91)).alloc (.cells #[.int .i64 0, .int .i64 0, .int .i64 0, .int .i64 0, .int .i64 0, .int .i64 0, .int .i64 0] 92)) A l0 (hR l0 0).2 ((hR l0 0).1 ++ List.replicate (7 - 0) 0)) := by
    have b1 : Below w.heap.size w (w.alloc (.cells #[.slice none 0 0, .int .i64 0, .int .i64 0, .slice none 0 0, .slice none 0 0, .int .i64 0, .slice none 0 0] 31)) := below_alloc (Below.refl _ _) _
    have b2 := below_alloc b1 (.cells #[.slice A l0.length cp, .int .i64 0, .bool true] 91)
    have b3 := below_alloc b2 (.cells #[.int .i64 0, .int .i64 0, .int .i64 0, .int .i64 0, .int .i64 0, .int .i64 0, .int .i64 0] 92)
    refine ⟨b3, ?_, ⟨⟨cp, ?_⟩, hr.later b3, Nat.zero_le _, fun a ha => ?_⟩, ?_, hal⟩
    · exact blk_later (below_alloc (below_alloc (Below.refl _ _) _) _) (blk_new w _)
    · exact blk_later (below_alloc (Below.refl _ _) _) (blk_new2 w _ _)
    · have := hal a ha; simp; omega
    · have h := blk_new ((w.alloc (.cells #[.slice none 0 0, .int .i64 0, .int .i64 0, .slice none 0 0, .slice none 0 0, .int .i64 0, .slice none 0 0] 31)).alloc (.cells #[.slice A l0.length cp, .int .i64 0, .bool true] 91)) (.cells #[.int .i64 0, .int .i64 0, .int .i64 0, .int .i64 0, .int .i64 0, .int .i64 0, .int .i64 0] 92)
      show _ = _
      simpa [hR, ints] using h
  generalize (((w.alloc (.cells #[.slice none 0 0, .int .i64 0, .int .i64 0, .slice none 0 0, .slice none 0 0, .int .i64 0, .slice none 0 0] 31)).alloc (.cells #[.slice A l0.length cp, .int .i64 0, .bool true] 91)).alloc (.cells #[.int .i64 0, .int .i64 0, .int .i64 0, .int .i64 0, .int .i64 0, .int .i64 0, .int .i64 0] 92)) = w0 at HS0 ⊢
  clear hB hr hal
  go_loopw [21] (fun iv wr => ∃ k : Nat, k ≤ 7 ∧ iv = .int .i64 k ∧ Hid (H0 w wr A l0 (hR l0 k).2 ((hR l0 k).1 ++ List.replicate (7 - k) 0))) (fun iv _ => 7 - (intOf iv).toNat)
  case atStart => exact ⟨0, Nat.zero_le _, rfl, HS0.out⟩
  case round =>
    clear HS0
    obtain ⟨k, hk, rfl, hP⟩ := hrel
    by_cases hlt : k < 7
    · go_wp2_with fail
      refine (rnum_any 4 (by omega) (w.heap.size + 1) A l0 HB.out (by omega) _ wr hP.out.rd).mono ?_
      rintro e w2 ⟨rfl, h1, h2⟩
      have h3 := h2.heap hP.out.hd (by simp)
      have p3 := blk_free h3 k
      obtain ⟨cv, c3⟩ : ∃ cv, w2.cell? ⟨w.heap.size + 1 + 1, k, none⟩ = some cv := by
        rw [blk_cell h3]
        exact ⟨_, List.getElem?_toArray ▸ List.getElem?_eq_getElem (by simp [hR_len]; omega)⟩
      have HN : Hid (H0 w (w2.setCell ⟨w.heap.size + 1 + 1, k, none⟩ (.int .i64 (nV l0 (hR l0 k).2 4))) A l0 (hR l0 (k + 1)).2 ((hR l0 (k + 1)).1 ++ List.replicate (7 - (k + 1)) 0)) := by
        have hks : Kept [w.heap.size + 1 + 1] w2 (w2.setCell ⟨w.heap.size + 1 + 1, k, none⟩ (.int .i64 (nV l0 (hR l0 k).2 4))) := (Kept.refl _ _).set _ _ (.inl (by simp))
        have hal := hP.out.al
        refine ⟨?_, hks.heap (h2.heap hP.out.rz (by simp)) (by simp; omega), h1.kept hks (by simp) (fun a ha => by have := hal a ha; simp; omega), ?_, hal⟩
        · exact below_kept (below_kept hP.out.bl h2 (by simp)) hks (by simp; omega)
        · show _ = _
          rw [blk_set h3]
          have hl := hR_len l0 k
          have hz := zeros_set (hR l0 k).1 (7 - k) (nV l0 (hR l0 k).2 4) (by omega)
          rw [hl] at hz
          rw [hR, show 7 - (k + 1) = 7 - k - 1 by omega, ← hz, List.setIfInBounds_toArray]
      clear h1 h2 h3
      go_wp2_with fail
      go_roundw
      case rel => exact ⟨k + 1, by omega, by go_num, HN⟩
      case measure => simp [intOf]; omega
    · have e7 : k = 7 := by omega
      obtain ⟨H, hH⟩ : ∃ H, (hR l0 7).1 = H := ⟨_, rfl⟩
      obtain ⟨s0, hs0⟩ : ∃ s, (hR l0 7).2 = s := ⟨_, rfl⟩
      have HHB : Hid (∀ j, 0 ≤ H.getD j 0 ∧ H.getD j 0 < 4294967296) := fun j => by rw [← hH]; exact hR_getD HB.out j
      have HHL : Hid (H.length = 7) := by show _ = _; rw [← hH]; exact hR_len l0 7
      have HF0 : Hid (s0.fine = true → s0.at_ = 28) := fun h => by rw [← hs0] at h ⊢; exact hR_fine 7 h
      have HRC : Hid (codeR l0 = codeH l0 H s0) := by show _ = _; unfold codeR; rw [hH, hs0]
      have hP1 := hP.out
      rw [e7, hH, hs0, Nat.sub_self, List.replicate_zero, List.append_nil] at hP1
      have HP1 := Lib.hid hP1
      have i1 := hP1.hd.at' 1 (by rw [HHL.out]; omega)
      have i2 := hP1.hd.at' 2 (by rw [HHL.out]; omega)
      have i6 := hP1.hd.at' 6 (by rw [HHL.out]; omega)
      obtain ⟨h1, hh1⟩ : ∃ x, H.getD 1 0 = x := ⟨_, rfl⟩
      obtain ⟨h2, hh2⟩ : ∃ x, H.getD 2 0 = x := ⟨_, rfl⟩
      obtain ⟨h6, hh6⟩ : ∃ x, H.getD 6 0 = x := ⟨_, rfl⟩
      rw [hh1] at i1
      rw [hh2] at i2
      rw [hh6] at i6
      have HHH := Lib.hid (And.intro hh1 (And.intro hh2 hh6))
      clear hh1 hh2 hh6 hH hs0 hP hP1 e7
      have HD0 : Hid (Dn w (wr.alloc (.cells #[.slice none 0 0, .int .i64 h1, .int .i64 h2, .slice none 0 0, .slice none 0 0, .int .i64 h6, .slice none 0 0] 31)) A l0 wr.heap.size s0 H #[.slice none 0 0, .int .i64 h1, .int .i64 h2, .slice none 0 0, .slice none 0 0, .int .i64 h6, .slice none 0 0]) := by
        have hb : Below wr.heap.size wr (wr.alloc (.cells #[.slice none 0 0, .int .i64 h1, .int .i64 h2, .slice none 0 0, .slice none 0 0, .int .i64 h6, .slice none 0 0] 31)) := below_alloc (Below.refl _ _) _
        exact ⟨below_next HP1.out.bl hb, blk_later hb HP1.out.rz, HP1.out.rd.later hb, blk_later hb HP1.out.hd, HP1.out.al, blk_lt HP1.out.hd, blk_new _ _⟩
      go_upto_block 2 with fail
      clear i1 i2 i6
      generalize wr.heap.size = bc at HD0 ⊢
      generalize wr.alloc (.cells #[.slice none 0 0, .int .i64 h1, .int .i64 h2, .slice none 0 0, .slice none 0 0, .int .i64 h6, .slice none 0 0] 31) = wB at HD0 ⊢
      clear HP1
      obtain ⟨h0, hh0⟩ : ∃ x, H.getD 0 0 = x := ⟨_, rfl⟩
      have hb0 := HHB.out 0
      rw [hh0] at hb0
      obtain ⟨n0, rfl⟩ : ∃ n : Nat, h0 = n := ⟨h0.toNat, by omega⟩
      have hn0 : (n0 : Int) < 4294967296 := hb0.2
      have HH0 := Lib.hid hh0
      clear hh0 hb0
      obtain ⟨ps, s1, hp1⟩ : ∃ ps s1, lpR (elN l0) n0 s0 [] = (ps, s1) := ⟨_, _, rfl⟩
      have HP1 := Lib.hid hp1
      clear hp1
      go_cut [8] (fun _ wx => ∃ v0 : Value, Hid (Dn w wx A l0 bc s1 H #[v0, .int .i64 h1, .int .i64 h2, .slice none 0 0, .slice none 0 0, .int .i64 h6, .slice none 0 0] ∧ RowD w wx bc 3 1 v0 ps.length (ints ps) ∧ ps.length ≤ 1000000 ∧ (s1.fine = true → 28 ≤ s1.at_)))
      case first =>
        go_wp2_with fail
        go_loopw [8] (fun iv wr => ∃ (k : Nat) (s : RS) (v : Value) (xs : List Int), k ≤ n0 ∧ iv = .int .i64 k ∧ Hid (lpR (elN l0) (n0 - k) s xs = (ps, s1) ∧ xs.length = k ∧ (s.fine = true → 28 + 4 * k ≤ s.at_) ∧ 4 * k ≤ 200004 ∧ Lw w wB wr A l0 bc s H #[v, .int .i64 h1, .int .i64 h2, .slice none 0 0, .slice none 0 0, .int .i64 h6, .slice none 0 0] 3 1 v k (ints xs))) (fun iv _ => n0 - (intOf iv).toNat)
        case atStart => exact ⟨0, s0, _, [], Nat.zero_le _, rfl, HP1.out, rfl, fun h => by have := HF0.out h; omega, by omega, Lw.start HD0.out _ _⟩
        case round =>
          obtain ⟨k, s, v, xs, hk, rfl, hP⟩ := hrel
          obtain ⟨Av, cv, rfl, hnc, hcm, _, _⟩ := hP.out.2.2.2.2.row.form
          have FIN : Hid ((xs, s) = (ps, s1) → ∃ v0 : Value, Hid (Dn w wr A l0 bc s1 H #[v0, .int .i64 h1, .int .i64 h2, .slice none 0 0, .slice none 0 0, .int .i64 h6, .slice none 0 0] ∧ RowD w wr bc 3 1 v0 ps.length (ints ps) ∧ ps.length ≤ 1000000 ∧ (s1.fine = true → 28 ≤ s1.at_))) := fun he => by
            injection he with e1 e2
            subst e1 e2
            obtain ⟨g1, g2, g3, g4, g5⟩ := hP.out
            rw [g2]
            exact ⟨_, g5.dn, g5.done, by omega, fun hf => by have := g3 hf; omega⟩
          have f2 := hP.out.2.2.2.2.dn.rd.cells.2
          obtain ⟨t, fine⟩ := s
          dsimp only at f2
          cases fine
          · go_wp2_with fail
            go_meet
            exact FIN.out (by rw [← hP.out.1, lpR_bad _ rfl])
          by_cases hlt : k < n0
          · have i0 := hP.out.2.2.2.2.dn.hd.at' 0 (by rw [HHL.out]; omega)
            rw [HH0.out] at i0
            have q0 := hP.out.2.2.2.2.cell 0 _ rfl
            have HL := Lib.hid hP.out.2.2.2.2
            have HNE : Hid (w.heap.size + 1 + 1 < bc) := HL.out.dn.ne
            have HRD := Lib.hid (fun (W : World) (hW : Below wr.heap.size wr W) => HL.out.dn.rd.later hW)
            have HK4 : Hid (4 * k ≤ 200000) := by have h1 := hP.out.2.2.1 rfl; have h2 := HL.out.dn.rd.le; dsimp only at h1 h2; show _ ≤ _; omega
            go_wp2_with fail
            go_region_law (first
              | ((refine step_rnum (by rfl) _ _ _ (by rfl) 4 (by omega) (by rfl) (by rfl) HB.out hm (HRD.out _ (below_drew2 (Below.refl _ _))) ?_; intro w2 hr2 hk2; have q0b := hk2.cell (a := ⟨bc, 0, none⟩) (v := .slice Av k cv) (by simpa using q0) (by have := HNE.out; simp; omega); have q0d : ∀ (cs : Array Value) (T : TypeId), (w2.alloc (.cells cs T)).cell? ⟨bc, 0, none⟩ = some (.slice Av k cv) := fun cs T => cell_later (below_alloc (Below.refl _ _) _) q0b; have hL2 := Lib.hid ((HL.out.later (below_drew2 (Below.refl _ _))).read hk2 hr2)))
              | ((refine step_append_row (by rfl) _ _ _ 3 _ 1 8 (by rfl) Tryd.underlying24 infoI8 (by rfl) (by omega) (.slice Av k cv) k (ints xs) (by rfl) (hL2.out.row.kept (Kept.ofBelow (below_alloc (Below.refl _ _) _) []) (by simp)) (some ⟨w2.heap.size, 0, none⟩) 1 1 [.int .i64 (nV l0 ⟨t, true⟩ 4)] (by rfl) (by rfl) (by simp) (by omega) (rd_blkW (T := 3) (blk_new w2 _) (by simp [maxLen])) (by simp [Value.oneCell']) (by have := HK4.out; simp only [maxLen]; omega) (by have := HK4.out; omega) ?_; intro v1 w4 hrow4 hkk hb4; obtain ⟨A3, c3, rfl, _⟩ := hrow4.form; have q4 := hkk.cell (a := ⟨bc, 0, none⟩) (q0d _ _) (fun hx => by have := HL.out.own bc hx; have := HL.out.sz; omega); have p4 := (hkk.frozen (a := ⟨bc, 0, none⟩) (by have := hL2.out.sz; have := hL2.out.kx.size; simp; omega) (fun hx => by have := HL.out.own bc hx; have := HL.out.sz; omega)).trans (frozen_then (below_alloc (Below.refl _ _) _) (blk_lt hL2.out.dn.cb) (hL2.out.free 0)); have hN := Lib.hid (hL2.out.push (xs' := ints (xs ++ [nV l0 ⟨t, true⟩ 4])) (below_alloc (Below.refl _ _) _) hkk (by rw [← ints_snoc]; exact hrow4) hb4 0))))
            all_goals
              have HNX : Hid (lpR (elN l0) (n0 - (k + 1)) (nS l0 ⟨t, true⟩ 4) (xs ++ [nV l0 ⟨t, true⟩ 4]) = (ps, s1) ∧ (xs ++ [nV l0 ⟨t, true⟩ 4]).length = k + 1 ∧ ((nS l0 ⟨t, true⟩ 4).fine = true → 28 + 4 * (k + 1) ≤ (nS l0 ⟨t, true⟩ 4).at_) ∧ 4 * (k + 1) ≤ 200004) := by
                obtain ⟨g1, g2, g3, g4, _⟩ := hP.out
                have h4 := HK4.out
                refine ⟨?_, by simp [g2], fun hf => ?_, by omega⟩
                · rw [show n0 - k = (n0 - (k + 1)) + 1 by omega, lpR_next rfl] at g1
                  exact g1
                · have g5 := (nS_fine hf).2
                  have g6 := g3 (by first | trivial | rfl)
                  dsimp only at g5 g6
                  omega
              clear hr2 hk2 q0b q0d hrow4 hkk hb4 q4 p4
              go_wp2_with fail
              go_roundw
              case rel => exact ⟨k + 1, _, _, _, by omega, by go_num, HNX.out.1, HNX.out.2.1, HNX.out.2.2.1, HNX.out.2.2.2, hN.out⟩
              case measure => simp [intOf]; omega
          · obtain rfl : k = n0 := by omega
            have i0 := hP.out.2.2.2.2.dn.hd.at' 0 (by rw [HHL.out]; omega)
            rw [HH0.out] at i0
            go_wp2_with fail
            go_meet
            exact FIN.out (by have := hP.out.1; rw [Nat.sub_self] at this; exact this)
      case rest =>
        obtain ⟨v0, hC⟩ := hcut
        obtain ⟨wC, rfl⟩ : ∃ W, W = wc := ⟨_, rfl⟩
        have HDC := Lib.hid hC.out.1
        have HRV0 := Lib.hid hC.out.2.1
        have HPL := Lib.hid hC.out.2.2.1
        have HAT := Lib.hid hC.out.2.2.2
        clear hC HD0 HF0
        obtain ⟨h3, hh3⟩ : ∃ x, H.getD 3 0 = x := ⟨_, rfl⟩
        have hb3 := HHB.out 3
        rw [hh3] at hb3
        obtain ⟨n3, rfl⟩ : ∃ n : Nat, h3 = n := ⟨h3.toNat, by omega⟩
        have hn3 : (n3 : Int) < 4294967296 := hb3.2
        have HH3 := Lib.hid hh3
        clear hh3 hb3
        obtain ⟨chs, s2, hp2⟩ : ∃ ps s1', lpR (elC l0) n3 s1 [] = (ps, s1') := ⟨_, _, rfl⟩
        have HP2 := Lib.hid hp2
        clear hp2
        go_upto_block 4 with fail
        go_cut [9] (fun _ wx => ∃ v3 : Value, Hid (Dn w wx A l0 bc s2 H #[v0, .int .i64 h1, .int .i64 h2, v3, .slice none 0 0, .int .i64 h6, .slice none 0 0] ∧ Kw w wC wx bc ∧ RowD w wx bc 70 2 v3 chs.length (ccells chs) ∧ chs.length ≤ 1000000 ∧ (s2.fine = true → 28 ≤ s2.at_)))
        case first =>
          go_wp2_with fail
          go_loopw [9] (fun iv wr => ∃ (k : Nat) (s : RS) (v : Value) (xs : List (Int × Int)), k ≤ n3 ∧ iv = .int .i64 k ∧ Hid (lpR (elC l0) (n3 - k) s xs = (chs, s2) ∧ xs.length = k ∧ (s.fine = true → 28 + 8 * k ≤ s.at_) ∧ 8 * k ≤ 200008 ∧ Lw w wC wr A l0 bc s H #[v0, .int .i64 h1, .int .i64 h2, v, .slice none 0 0, .int .i64 h6, .slice none 0 0] 70 2 v k (ccells xs))) (fun iv _ => n3 - (intOf iv).toNat)
          case atStart => exact ⟨0, s1, _, [], Nat.zero_le _, rfl, HP2.out, rfl, fun h => by have := HAT.out h; omega, by omega, Lw.start HDC.out _ _⟩
          case round =>
            obtain ⟨k, s, v, xs, hk, rfl, hP⟩ := hrel
            obtain ⟨Av, cv, rfl, hnc, hcm, _, _⟩ := hP.out.2.2.2.2.row.form
            have FIN : Hid ((xs, s) = (chs, s2) → ∃ v3 : Value, Hid (Dn w wr A l0 bc s2 H #[v0, .int .i64 h1, .int .i64 h2, v3, .slice none 0 0, .int .i64 h6, .slice none 0 0] ∧ Kw w wC wr bc ∧ RowD w wr bc 70 2 v3 chs.length (ccells chs) ∧ chs.length ≤ 1000000 ∧ (s2.fine = true → 28 ≤ s2.at_))) := fun he => by
              injection he with e1 e2
              subst e1 e2
              obtain ⟨g1, g2, g3, g4, g5⟩ := hP.out
              rw [g2]
              exact ⟨_, g5.dn, g5.kx, g5.done, by omega, fun hf => by have := g3 hf; omega⟩
            have f2 := hP.out.2.2.2.2.dn.rd.cells.2
            obtain ⟨t, fine⟩ := s
            dsimp only at f2
            cases fine
            · go_wp2_with fail
              go_meet
              exact FIN.out (by rw [← hP.out.1, lpR_bad _ rfl])
            have i3 := hP.out.2.2.2.2.dn.hd.at' 3 (by rw [HHL.out]; omega)
            rw [HH3.out] at i3
            by_cases hlt : k < n3
            · have HL := Lib.hid hP.out.2.2.2.2
              have HNE : Hid (w.heap.size + 1 + 1 < bc) := HL.out.dn.ne
              have HK8 : Hid (8 * k ≤ 200000) := by have h1 := hP.out.2.2.1 rfl; have h2 := HL.out.dn.rd.le; dsimp only at h1 h2; show _ ≤ _; omega
              go_wp2_with fail
              refine (rnum_any 4 (by omega) (w.heap.size + 1) A l0 HB.out (by omega) _ wr HL.out.dn.rd).mono ?_
              rintro e w1 ⟨rfl, hr1, hk1⟩
              have HL1 := Lib.hid (HL.out.read hk1 hr1)
              clear hr1 hk1
              obtain ⟨X1, hX1⟩ : ∃ x, nV l0 ⟨t, true⟩ 4 = x := ⟨_, rfl⟩
              obtain ⟨t1, ht1⟩ : ∃ x, nS l0 ⟨t, true⟩ 4 = x := ⟨_, rfl⟩
              rw [hX1]
              rw [ht1] at HL1
              have HE := Lib.hid (And.intro hX1 ht1)
              clear hX1 ht1 f2 i3
              have q3 := HL1.out.cell 3 _ rfl
              have HRD := Lib.hid (fun (W : World) (hW : Below w1.heap.size w1 W) => HL1.out.dn.rd.later hW)
              go_wp2_with fail
              go_region_law (first
                | ((refine step_rnum (by rfl) _ _ _ (by rfl) 4 (by omega) (by rfl) (by rfl) HB.out hm (HRD.out _ (below_drew2 (Below.refl _ _))) ?_; intro w2 hr2 hk2; have q3b := hk2.cell (a := ⟨bc, 3, none⟩) (v := .slice Av k cv) (by simpa using q3) (by have := HNE.out; simp; omega); have q3d : ∀ (cs : Array Value) (T : TypeId), (w2.alloc (.cells cs T)).cell? ⟨bc, 3, none⟩ = some (.slice Av k cv) := fun cs T => cell_later (below_alloc (Below.refl _ _) _) q3b; have hL2 := Lib.hid ((HL1.out.later (below_drew2 (Below.refl _ _))).read hk2 hr2)))
                | ((refine step_append_row (by rfl) _ _ _ 70 _ 2 16 (by rfl) Tryd.underlying28 infoCh (by rfl) (by omega) (.slice Av k cv) k (ccells xs) (by rfl) (hL2.out.row.kept (Kept.ofBelow (below_alloc (Below.refl _ _) _) []) (by simp)) (some ⟨w2.heap.size, 0, none⟩) 1 1 [.int .i64 X1, .int .i64 (nV l0 t1 4)] (by rfl) (by rfl) (by simp) (by omega) (rd_blkW (T := 70) (blk_new w2 _) (by simp [maxLen])) (by simp [Value.oneCell']) (by have := HK8.out; simp only [maxLen]; omega) (by have := HK8.out; omega) ?_; intro v1 w4 hrow4 hkk hb4; obtain ⟨A3, c3, rfl, _⟩ := hrow4.form; have q4 := hkk.cell (a := ⟨bc, 3, none⟩) (q3d _ _) (fun hx => by have := HL.out.own bc hx; have := HL.out.sz; omega); have p4 := (hkk.frozen (a := ⟨bc, 3, none⟩) (by have := hL2.out.sz; have := hL2.out.kx.size; simp; omega) (fun hx => by have := HL.out.own bc hx; have := HL.out.sz; omega)).trans (frozen_then (below_alloc (Below.refl _ _) _) (blk_lt hL2.out.dn.cb) (hL2.out.free 3)); have hN := Lib.hid (hL2.out.push (xs' := ccells (xs ++ [(X1, nV l0 t1 4)])) (below_alloc (Below.refl _ _) _) hkk (by rw [← ccells_snoc]; exact hrow4) hb4 3))))
              all_goals
                have HNX : Hid (lpR (elC l0) (n3 - (k + 1)) (nS l0 t1 4) (xs ++ [(X1, nV l0 t1 4)]) = (chs, s2) ∧ (xs ++ [(X1, nV l0 t1 4)]).length = k + 1 ∧ ((nS l0 t1 4).fine = true → 28 + 8 * (k + 1) ≤ (nS l0 t1 4).at_) ∧ 8 * (k + 1) ≤ 200008) := by
                  obtain ⟨g1, g2, g3, g4, _⟩ := hP.out
                  obtain ⟨e1, e2⟩ := HE.out
                  have h4 := HK8.out
                  refine ⟨?_, by simp [g2], fun hf => ?_, by omega⟩
                  · rw [show n3 - k = (n3 - (k + 1)) + 1 by omega, lpR_next rfl] at g1
                    rw [← e1, ← e2]
                    exact g1
                  · have g5 := nS_fine hf
                    rw [← e2] at g5
                    have g7 := nS_fine g5.1
                    have g6 := g3 (by first | trivial | rfl)
                    rw [← e2]
                    have g8 := g7.2
                    have g9 := g5.2
                    dsimp only at g8 g6
                    omega
                clear hr2 hk2 q3b q3d hrow4 hkk hb4 q4 p4
                go_wp2_with fail
                go_roundw
                case rel => exact ⟨k + 1, _, _, _, by omega, by go_num, HNX.out.1, HNX.out.2.1, HNX.out.2.2.1, HNX.out.2.2.2, hN.out⟩
                case measure => simp [intOf]; omega
            · obtain rfl : k = n3 := by omega
              go_wp2_with fail
              go_meet
              exact FIN.out (by have := hP.out.1; rw [Nat.sub_self] at this; exact this)
        case rest =>
          obtain ⟨v3, hC⟩ := hcut
          obtain ⟨wD, rfl⟩ : ∃ W, W = wc := ⟨_, rfl⟩
          have HDD := Lib.hid hC.out.1
          have HRV0' := Lib.hid (HRV0.out.keep hC.out.2.1)
          have HRV3 := Lib.hid hC.out.2.2.1
          have HCL := Lib.hid hC.out.2.2.2.1
          have HAT2 := Lib.hid hC.out.2.2.2.2
          clear hC HDC HRV0 HAT
          obtain ⟨h4, hh4⟩ : ∃ x, H.getD 4 0 = x := ⟨_, rfl⟩
          have hb4 := HHB.out 4
          rw [hh4] at hb4
          obtain ⟨n4, rfl⟩ : ∃ n : Nat, h4 = n := ⟨h4.toNat, by omega⟩
          have hn4 : (n4 : Int) < 4294967296 := hb4.2
          have HH4 := Lib.hid hh4
          clear hh4 hb4
          obtain ⟨fpf, s3, hp3⟩ : ∃ ps s1', lpR (elF l0) n4 s2 [] = (ps, s1') := ⟨_, _, rfl⟩
          have HP3 := Lib.hid hp3
          clear hp3
          go_upto_block 6 with fail
          go_cut [11] (fun _ wx => ∃ (v4 : Value) (fs : List Fn), Hid (Dn w wx A l0 bc s3 H #[v0, .int .i64 h1, .int .i64 h2, v3, v4, .int .i64 h6, .slice none 0 0] ∧ Kw w wD wx bc ∧ RowD w wx bc 26 3 v4 fs.length (fcells fs) ∧ fs.length ≤ 1000000 ∧ (s3.fine = true → 28 ≤ s3.at_) ∧ fs.map Fn.pf = fpf ∧ LosR wD.heap.size wx.heap.size wx v4 fs))
          case first =>
            go_wp2_with fail
            go_loopw [11] (fun iv wr => ∃ (k : Nat) (s : RS) (v : Value) (fs : List Fn), k ≤ n4 ∧ iv = .int .i64 k ∧ Hid (lpR (elF l0) (n4 - k) s (fs.map Fn.pf) = (fpf, s3) ∧ fs.length = k ∧ (s.fine = true → 28 + 12 * k ≤ s.at_) ∧ 12 * k ≤ 200012 ∧ Lw w wD wr A l0 bc s H #[v0, .int .i64 h1, .int .i64 h2, v3, v, .int .i64 h6, .slice none 0 0] 26 3 v k (fcells fs) ∧ LosR wD.heap.size wr.heap.size wr v fs)) (fun iv _ => n4 - (intOf iv).toNat)
            case atStart => exact ⟨0, s2, _, [], Nat.zero_le _, rfl, HP3.out, rfl, fun h => by have := HAT2.out h; omega, by omega, Lw.start HDD.out _ _, fun f hf => by simp at hf⟩
            case round =>
              obtain ⟨k, s, v, fs, hk, rfl, hP⟩ := hrel
              obtain ⟨Av, cv, rfl, hnc, hcm, _, _⟩ := hP.out.2.2.2.2.1.row.form
              have FIN : Hid ((fs.map Fn.pf, s) = (fpf, s3) → ∃ (v4 : Value) (fs : List Fn), Hid (Dn w wr A l0 bc s3 H #[v0, .int .i64 h1, .int .i64 h2, v3, v4, .int .i64 h6, .slice none 0 0] ∧ Kw w wD wr bc ∧ RowD w wr bc 26 3 v4 fs.length (fcells fs) ∧ fs.length ≤ 1000000 ∧ (s3.fine = true → 28 ≤ s3.at_) ∧ fs.map Fn.pf = fpf ∧ LosR wD.heap.size wr.heap.size wr v4 fs)) := fun he => by
                injection he with e1 e2
                subst e2
                obtain ⟨g1, g2, g3, g4, g5, g6⟩ := hP.out
                exact ⟨.slice Av k cv, fs, g5.dn, g5.kx, by rw [g2]; exact g5.done, by omega, fun hf => by have := g3 hf; omega, e1, g6⟩
              have f2 := hP.out.2.2.2.2.1.dn.rd.cells.2
              obtain ⟨t, fine⟩ := s
              dsimp only at f2
              cases fine
              · go_wp2_with fail
                go_meet
                exact FIN.out (by rw [← hP.out.1, lpR_bad _ rfl])
              have i4 := hP.out.2.2.2.2.1.dn.hd.at' 4 (by rw [HHL.out]; omega)
              rw [HH4.out] at i4
              by_cases hlt : k < n4
              · have HL := Lib.hid hP.out.2.2.2.2.1
                have HLO := Lib.hid hP.out.2.2.2.2.2
                have HNE : Hid (w.heap.size + 1 + 1 < bc) := HL.out.dn.ne
                have HK12 : Hid (12 * k ≤ 200000) := by have h1 := hP.out.2.2.1 rfl; have h2 := HL.out.dn.rd.le; dsimp only at h1 h2; show _ ≤ _; omega
                have HX0 := Lib.hid (HL.out.xw #[.int .i64 0, .int .i64 0, .slice none 0 0] 26)
                have HO0 := Lib.hid (HLO.out.kept (Kept.ofBelow (below_alloc (Below.refl wr.heap.size wr) (.cells #[.int .i64 0, .int .i64 0, .slice none 0 0] 26)) []) (by simp))
                go_wp2_with fail
                obtain ⟨x, hx⟩ : ∃ x, wr.heap.size = x := ⟨_, rfl⟩
                rw [hx] at HX0 HO0 ⊢
                generalize wr.alloc (.cells #[.int .i64 0, .int .i64 0, .slice none 0 0] 26) = w1 at HX0 HO0 ⊢
                clear f2 i4
                refine (rnum_any 4 (by omega) (w.heap.size + 1) A l0 HB.out (by omega) _ w1 HX0.out.lw.dn.rd).mono ?_
                rintro e w2 ⟨rfl, hr2, hk2⟩
                have hbB : Hid (w.heap.size + 1 < wD.heap.size) := by have := HNE.out; have := HL.out.sz; show _ < _; omega
                obtain ⟨X1, hX1⟩ : ∃ y, nV l0 ⟨t, true⟩ 4 = y := ⟨_, rfl⟩
                obtain ⟨t1, ht1⟩ : ∃ y, nS l0 ⟨t, true⟩ 4 = y := ⟨_, rfl⟩
                rw [ht1] at hr2
                rw [hX1]
                have HX1 := Lib.hid (HX0.out.read hk2 hr2)
                have HO1 := Lib.hid (HO0.out.kept hk2 (fun j hj => .inl (by simp at hj; have := hbB.out; omega)))
                clear hr2 hk2
                have c0 := HX1.out.cell 0 _ rfl
                have p0 := HX1.out.free 0
                have HX2 := Lib.hid (HX1.out.put 0 (.int .i64 X1))
                have HO2 := Lib.hid (HO1.out.kept (w' := w2.setCell ⟨x, 0, none⟩ (.int .i64 X1)) (fp := [x]) ((Kept.refl _ _).set _ _ (.inl (by simp))) (by simp))
                go_wp2_with fail
                generalize w2.setCell ⟨x, 0, none⟩ (.int .i64 X1) = w3 at HX2 HO2 ⊢
                clear c0 p0
                refine (rnum_any 4 (by omega) (w.heap.size + 1) A l0 HB.out (by omega) _ w3 HX2.out.lw.dn.rd).mono ?_
                rintro e w4 ⟨rfl, hr4, hk4⟩
                obtain ⟨X2, hX2⟩ : ∃ y, nV l0 t1 4 = y := ⟨_, rfl⟩
                obtain ⟨t2, ht2⟩ : ∃ y, nS l0 t1 4 = y := ⟨_, rfl⟩
                rw [ht2] at hr4
                rw [hX2]
                have HX3 := Lib.hid (HX2.out.read hk4 hr4)
                have HO3 := Lib.hid (HO2.out.kept hk4 (fun j hj => .inl (by simp at hj; have := hbB.out; omega)))
                clear hr4 hk4
                have c1 := HX3.out.cell 1 _ rfl
                have p1 := HX3.out.free 1
                have HX4 := Lib.hid (HX3.out.put 1 (.int .i64 X2))
                have HO4 := Lib.hid (HO3.out.kept (w' := w4.setCell ⟨x, 1, none⟩ (.int .i64 X2)) (fp := [x]) ((Kept.refl _ _).set _ _ (.inl (by simp))) (by simp))
                go_wp2_with fail
                generalize w4.setCell ⟨x, 1, none⟩ (.int .i64 X2) = w5 at HX4 HO4 ⊢
                clear c1 p1
                refine (rnum_any 4 (by omega) (w.heap.size + 1) A l0 HB.out (by omega) _ w5 HX4.out.lw.dn.rd).mono ?_
                rintro e w6 ⟨rfl, hr6, hk6⟩
                obtain ⟨X3, hX3⟩ : ∃ y, nV l0 t2 4 = y := ⟨_, rfl⟩
                obtain ⟨t3, ht3⟩ : ∃ y, nS l0 t2 4 = y := ⟨_, rfl⟩
                have hX3b := nV_bd HB.out t2
                rw [hX3] at hX3b
                rw [ht3] at hr6
                rw [hX3]
                obtain ⟨m, rfl⟩ : ∃ m : Nat, X3 = m := ⟨X3.toNat, by omega⟩
                have HX6 := Lib.hid (HX4.out.read hk6 hr6)
                have HO6 := Lib.hid (HO4.out.kept hk6 (fun j hj => .inl (by simp at hj; have := hbB.out; omega)))
                clear hr6 hk6
                obtain ⟨lsF, s5, hp5⟩ : ∃ ps s1', lpR (elN l0) m t3 [] = (ps, s1') := ⟨_, _, rfl⟩
                have HEL : Hid (elF l0 ⟨t, true⟩ = ((X1, X2, lsF), s5)) := by
                  show _ = _
                  unfold elF
                  simp only [ht1, ht2, ht3, hX1, hX2, hX3, Int.toNat_natCast, hp5]
                have HFI : Hid (t3.fine = true → t3.at_ = t + 12) := fun hf => by
                  have a1 := nS_fine (l0 := l0) (s := t2) (n := 4) (by rw [ht3]; exact hf)
                  have a2 := nS_fine (l0 := l0) (s := t1) (n := 4) (by rw [ht2]; exact a1.1)
                  have a3 := nS_fine (l0 := l0) (s := ⟨t, true⟩) (n := 4) (by rw [ht1]; exact a2.1)
                  rw [ht3] at a1
                  rw [ht2] at a2
                  rw [ht1] at a3
                  have e1 := a1.2
                  have e2 := a2.2
                  have e3 := a3.2
                  dsimp only at e3
                  omega
                have HP5 := Lib.hid hp5
                clear hX1 hX2 hX3 ht1 ht2 ht3 hp5
                have HF6 : Hid (Fl w wD w6 A l0 bc t3 H #[v0, .int .i64 h1, .int .i64 h2, v3, .slice Av k cv, .int .i64 h6, .slice none 0 0] (.slice Av k cv) k fs x X1 X2 (.slice none 0 0) 0 []) := ⟨HX6.out, HO6.out, Row.empty _ _ _ _, by simp [blk]⟩
                clear HX0 HX1 HX2 HX3 HX4 HX6 HO0 HO1 HO2 HO3 HO4 HO6
                go_upto_block 8 with fail
                go_cut [14] (fun _ wx => ∃ vl : Value, Hid (Fl w wD wx A l0 bc s5 H #[v0, .int .i64 h1, .int .i64 h2, v3, .slice Av k cv, .int .i64 h6, .slice none 0 0] (.slice Av k cv) k fs x X1 X2 vl lsF.length lsF ∧ lsF.length ≤ 1000000 ∧ (s5.fine = true → t3.fine = true ∧ t3.at_ ≤ s5.at_)))
                case first =>
                  go_wp2_with fail
                  go_loopw [14] (fun iv wr => ∃ (j : Nat) (s : RS) (vl : Value) (ls : List Int), j ≤ m ∧ iv = .int .i64 j ∧ Hid (lpR (elN l0) (m - j) s ls = (lsF, s5) ∧ ls.length = j ∧ (s.fine = true → t3.fine = true ∧ t3.at_ + 4 * j ≤ s.at_) ∧ 4 * j ≤ 200004 ∧ Fl w wD wr A l0 bc s H #[v0, .int .i64 h1, .int .i64 h2, v3, .slice Av k cv, .int .i64 h6, .slice none 0 0] (.slice Av k cv) k fs x X1 X2 vl j ls)) (fun iv _ => m - (intOf iv).toNat)
                  case atStart => exact ⟨0, t3, _, [], Nat.zero_le _, rfl, HP5.out, rfl, fun h => ⟨h, by omega⟩, by omega, HF6.out⟩
                  case round =>
                    clear HF6
                    obtain ⟨j, s, vl, ls, hj, rfl, hQ⟩ := hrel
                    obtain ⟨Al, cl, rfl, hnl, hcl, _, _⟩ := hQ.out.2.2.2.2.row.form
                    have FIN5 : Hid ((ls, s) = (lsF, s5) → ∃ vl : Value, Hid (Fl w wD wr A l0 bc s5 H #[v0, .int .i64 h1, .int .i64 h2, v3, .slice Av k cv, .int .i64 h6, .slice none 0 0] (.slice Av k cv) k fs x X1 X2 vl lsF.length lsF ∧ lsF.length ≤ 1000000 ∧ (s5.fine = true → t3.fine = true ∧ t3.at_ ≤ s5.at_))) := fun he => by
                      injection he with e1 e2
                      subst e1 e2
                      obtain ⟨g1, g2, g3, g4, g5⟩ := hQ.out
                      rw [g2]
                      exact ⟨_, g5, by omega, fun hf => ⟨(g3 hf).1, by have := (g3 hf).2; omega⟩⟩
                    have f2 := hQ.out.2.2.2.2.xw.lw.dn.rd.cells.2
                    obtain ⟨u, fine⟩ := s
                    dsimp only at f2
                    cases fine
                    · go_wp2_with fail
                      go_meet
                      exact FIN5.out (by rw [← hQ.out.1, lpR_bad _ rfl])
                    by_cases hjm : j < m
                    · have q2 := hQ.out.2.2.2.2.xw.cell 2 _ rfl
                      have HG := Lib.hid hQ.out.2.2.2.2
                      have HRD := Lib.hid (fun (W : World) (hW : Below wr.heap.size wr W) => HG.out.xw.lw.dn.rd.later hW)
                      have hxb : Hid (w.heap.size + 1 < x) := by have := HG.out.xw.hx.1; have := hbB.out; show _ < _; omega
                      have HK4 : Hid (4 * j ≤ 200000) := Nat.le_trans (Nat.le_add_left _ _) (Nat.le_trans (hQ.out.2.2.1 rfl).2 (Nat.le_trans HG.out.xw.lw.dn.rd.le hm))
                      go_wp2_with fail
                      go_region_law (first
                        | ((refine step_rnum (by rfl) _ _ _ (by rfl) 4 (by omega) (by rfl) (by rfl) HB.out hm (HRD.out _ (below_drew2 (Below.refl _ _))) ?_; intro w8 hr8 hk8; have q2b := hk8.cell (a := ⟨x, 2, none⟩) (v := .slice Al j cl) (by simpa using q2) (by have := hxb.out; simp; omega); have q2d : ∀ (cs : Array Value) (T : TypeId), (w8.alloc (.cells cs T)).cell? ⟨x, 2, none⟩ = some (.slice Al j cl) := fun cs T => cell_later (below_alloc (Below.refl _ _) _) q2b; have hL8 := Lib.hid ((HG.out.later (below_drew2 (Below.refl _ _))).read hk8 hr8)))
                        | ((refine step_append_row (by rfl) _ _ _ 3 _ 1 8 (by rfl) Tryd.underlying24 infoI8 (by rfl) (by omega) (.slice Al j cl) j (ints ls) (by rfl) (hL8.out.row.kept (Kept.ofBelow (below_alloc (Below.refl _ _) _) []) (by simp)) (some ⟨w8.heap.size, 0, none⟩) 1 1 [.int .i64 (nV l0 ⟨u, true⟩ 4)] (by rfl) (by rfl) (by simp) (by omega) (rd_blkW (T := 3) (blk_new w8 _) (by simp [maxLen])) (by simp [Value.oneCell']) (by have := HK4.out; simp only [maxLen]; omega) (by have := HK4.out; omega) ?_; intro v1 w9 hrow9 hkk hb9; obtain ⟨A3, c3, rfl, _⟩ := hrow9.form; have q4 := hkk.cell (a := ⟨x, 2, none⟩) (q2d _ _) (fun hx => by have := HG.out.own x hx; omega); have p4 := (hkk.frozen (a := ⟨x, 2, none⟩) (by have := blk_lt hL8.out.xw.en; simp; omega) (fun hx => by have := HG.out.own x hx; omega)).trans (frozen_then (below_alloc (Below.refl _ _) _) (blk_lt hL8.out.xw.en) (hL8.out.xw.free 2)); have hN := Lib.hid (hL8.out.push (ls' := ls ++ [nV l0 ⟨u, true⟩ 4]) (below_alloc (Below.refl _ _) _) hkk (by rw [← ints_snoc]; exact hrow9) hb9))))
                      all_goals
                        have HNX : Hid (lpR (elN l0) (m - (j + 1)) (nS l0 ⟨u, true⟩ 4) (ls ++ [nV l0 ⟨u, true⟩ 4]) = (lsF, s5) ∧ (ls ++ [nV l0 ⟨u, true⟩ 4]).length = j + 1 ∧ ((nS l0 ⟨u, true⟩ 4).fine = true → t3.fine = true ∧ t3.at_ + 4 * (j + 1) ≤ (nS l0 ⟨u, true⟩ 4).at_) ∧ 4 * (j + 1) ≤ 200004) := by
                          obtain ⟨g1, g2, g3, g4, _⟩ := hQ.out
                          have h4 := HK4.out
                          refine ⟨?_, by simp [g2], fun hf => ?_, by omega⟩
                          · rw [show m - j = (m - (j + 1)) + 1 by omega, lpR_next rfl] at g1
                            exact g1
                          · have g5 := (nS_fine hf).2
                            have g6 := g3 (by first | trivial | rfl)
                            have g7 := g6.2
                            dsimp only at g5 g7
                            exact ⟨g6.1, by omega⟩
                        clear hr8 hk8 q2b q2d hrow9 hkk hb9 q4 p4
                        go_wp2_with fail
                        go_roundw
                        case rel => exact ⟨j + 1, _, _, _, by omega, by go_num, HNX.out.1, HNX.out.2.1, HNX.out.2.2.1, HNX.out.2.2.2, hN.out⟩
                        case measure => simp [intOf]; omega
                    · obtain rfl : j = m := by omega
                      go_wp2_with fail
                      go_meet
                      exact FIN5.out (by have := hQ.out.1; rw [Nat.sub_self] at this; exact this)
                case rest =>
                  obtain ⟨vl, hQ⟩ := hcut
                  obtain ⟨wF, rfl⟩ : ∃ W, W = wc := ⟨_, rfl⟩
                  have HG := Lib.hid hQ.out.1
                  have HLB := Lib.hid hQ.out.2.1
                  have HSF := Lib.hid hQ.out.2.2
                  clear hQ HF6
                  obtain ⟨Al, cl, rfl, hnl, hcl, _, hll⟩ := HG.out.row.form
                  have q4 := HG.out.xw.lw.cell 4 _ rfl
                  have r0 := HG.out.xw.cell 0 _ rfl
                  have r1 := HG.out.xw.cell 1 _ rfl
                  have r2 := HG.out.xw.cell 2 _ rfl
                  go_wp2_with (at_builtin; refine append_row (by rfl) _ _ _ 26 _ 3 40 (by rfl) Tryd.underlying27 infoFn (by rfl) (by omega) (.slice Av k cv) k (fcells fs) (by rfl) (HG.out.xw.lw.row.kept (Kept.ofBelow (below_alloc (Below.refl _ _) _) []) (by simp)) (some ⟨wF.heap.size, 0, none⟩) 1 1 [.int .i64 X1, .int .i64 X2, .slice Al lsF.length cl] (by rfl) (by rfl) (by simp) (by omega) (rd_blkW (T := 26) (blk_new wF _) (by simp [maxLen])) (by simp [Value.oneCell']) (by have := HK12.out; simp only [maxLen]; omega) (by have := HK12.out; omega) ?_; intro v1 w8 hrow8 hkk8 hb8; obtain ⟨A3, c3, rfl, _⟩ := hrow8.form; have q8 := hkk8.cell (a := ⟨bc, 4, none⟩) (cell_later (below_alloc (Below.refl _ _) _) q4) (fun hx => by have := HL.out.own bc hx; have := HL.out.sz; omega); have p8 := (hkk8.frozen (a := ⟨bc, 4, none⟩) (by have := HG.out.xw.lw.sz; have := HG.out.xw.lw.kx.size; simp; omega) (fun hx => by have := HL.out.own bc hx; have := HL.out.sz; omega)).trans (frozen_then (below_alloc (Below.refl _ _) _) (blk_lt HG.out.xw.lw.dn.cb) (HG.out.xw.lw.free 4)))
                  have HN : Hid (lpR (elF l0) (n4 - (k + 1)) s5 ((fs ++ [(⟨X1, X2, Al, cl, lsF⟩ : Fn)]).map Fn.pf) = (fpf, s3) ∧ (fs ++ [(⟨X1, X2, Al, cl, lsF⟩ : Fn)]).length = k + 1 ∧ (s5.fine = true → 28 + 12 * (k + 1) ≤ s5.at_) ∧ 12 * (k + 1) ≤ 200012 ∧ Lw w wD (w8.setCell ⟨bc, 4, none⟩ (.slice A3 (k + 1) c3)) A l0 bc s5 H #[v0, .int .i64 h1, .int .i64 h2, v3, .slice A3 (k + 1) c3, .int .i64 h6, .slice none 0 0] 26 3 (.slice A3 (k + 1) c3) (k + 1) (fcells (fs ++ [(⟨X1, X2, Al, cl, lsF⟩ : Fn)])) ∧ LosR wD.heap.size (w8.setCell ⟨bc, 4, none⟩ (.slice A3 (k + 1) c3)).heap.size (w8.setCell ⟨bc, 4, none⟩ (.slice A3 (k + 1) c3)) (.slice A3 (k + 1) c3) (fs ++ [(⟨X1, X2, Al, cl, lsF⟩ : Fn)])) := by
                    obtain ⟨g1, g2, g3, g4, g5, g6⟩ := hP.out
                    have hk12 := HK12.out
                    have hrow9 : Row w8 26 3 (.slice A3 (k + 1) c3) (k + 1) (fcells (fs ++ [(⟨X1, X2, Al, cl, lsF⟩ : Fn)])) := by
                      rw [← fcells_snoc]
                      exact hrow8
                    refine ⟨?_, by simp [g2], fun hf => ?_, by omega, HG.out.xw.lw.push (below_alloc (Below.refl _ _) _) hkk8 hrow9 hb8 4, ?_⟩
                    · rw [show n4 - k = (n4 - (k + 1)) + 1 by omega, lpR_next rfl, HEL.out] at g1
                      rw [List.map_append]
                      exact g1
                    · have a1 := HSF.out hf
                      have a2 := HFI.out a1.1
                      have a3 := g3 (by first | trivial | rfl)
                      (try dsimp only at a3)
                      have a4 := a1.2
                      omega
                    · have hxs := blk_lt HG.out.xw.en
                      exact HG.out.lo.push (f := ⟨X1, X2, Al, cl, lsF⟩) HG.out.row HLB.out (fun y hy => by have h1 := HG.out.own y hy; have h2 := HG.out.xw.hx; exact ⟨by omega, fun hv => by have := h2.2 y hv; omega⟩) (by omega) (below_alloc (Below.refl _ _) _) hkk8 hb8 HL.out.sz 4 _
                  clear hrow8 hkk8 hb8 q4 r0 r1 r2
                  go_wp2_with fail
                  go_roundw
                  case rel => exact ⟨k + 1, _, _, _, by omega, by go_num, HN.out⟩
                  case measure => simp [intOf]; omega
              · obtain rfl : k = n4 := by omega
                go_wp2_with fail
                go_meet
                exact FIN.out (by have := hP.out.1; rw [Nat.sub_self] at this; exact this)
          case rest =>
            obtain ⟨v4, fs, hC⟩ := hcut
            obtain ⟨wE, rfl⟩ : ∃ W, W = wc := ⟨_, rfl⟩
            have HDE := Lib.hid hC.out.1
            have HRV0e := Lib.hid (HRV0'.out.keep hC.out.2.1)
            have HRV3e := Lib.hid (HRV3.out.keep hC.out.2.1)
            have HRV4 := Lib.hid hC.out.2.2.1
            have HFL := Lib.hid hC.out.2.2.2.1
            have HAT3 := Lib.hid hC.out.2.2.2.2.1
            have HFS := Lib.hid hC.out.2.2.2.2.2.1
            have HLO := Lib.hid hC.out.2.2.2.2.2.2
            have HBW : Hid (bc < wD.heap.size) := blk_lt HDD.out.cb
            clear hC HDD HRV0' HRV3 HAT2
            obtain ⟨h5, hh5⟩ : ∃ x, H.getD 5 0 = x := ⟨_, rfl⟩
            have hb5 := HHB.out 5
            rw [hh5] at hb5
            obtain ⟨n5, rfl⟩ : ∃ n : Nat, h5 = n := ⟨h5.toNat, by omega⟩
            have hn5 : (n5 : Int) < 4294967296 := hb5.2
            have HH5 := Lib.hid hh5
            clear hh5 hb5
            obtain ⟨is, s4, hp4⟩ : ∃ ps s1', lpR (elI l0) n5 s3 [] = (ps, s1') := ⟨_, _, rfl⟩
            have HP4 := Lib.hid hp4
            clear hp4
            go_upto_block 10 with fail
            go_cut [15] (fun _ wx => ∃ v6 : Value, Hid (Dn w wx A l0 bc s4 H #[v0, .int .i64 h1, .int .i64 h2, v3, v4, .int .i64 h6, v6] ∧ Kw w wE wx bc ∧ RowD w wx bc 34 5 v6 is.length (icells is) ∧ is.length ≤ 1000000))
            case first =>
              go_wp2_with fail
              go_loopw [15] (fun iv wr => ∃ (k : Nat) (s : RS) (v : Value) (xs : List Ins), k ≤ n5 ∧ iv = .int .i64 k ∧ Hid (lpR (elI l0) (n5 - k) s xs = (is, s4) ∧ xs.length = k ∧ (s.fine = true → 28 + 25 * k ≤ s.at_) ∧ 25 * k ≤ 200025 ∧ Lw w wE wr A l0 bc s H #[v0, .int .i64 h1, .int .i64 h2, v3, v4, .int .i64 h6, v] 34 5 v k (icells xs))) (fun iv _ => n5 - (intOf iv).toNat)
              case atStart => exact ⟨0, s3, _, [], Nat.zero_le _, rfl, HP4.out, rfl, fun h => by have := HAT3.out h; omega, by omega, Lw.start HDE.out _ _⟩
              case round =>
                obtain ⟨k, s, v, xs, hk, rfl, hP⟩ := hrel
                obtain ⟨Av, cv, rfl, hnc, hcm, _, _⟩ := hP.out.2.2.2.2.row.form
                have FIN : Hid ((xs, s) = (is, s4) → ∃ v6 : Value, Hid (Dn w wr A l0 bc s4 H #[v0, .int .i64 h1, .int .i64 h2, v3, v4, .int .i64 h6, v6] ∧ Kw w wE wr bc ∧ RowD w wr bc 34 5 v6 is.length (icells is) ∧ is.length ≤ 1000000)) := fun he => by
                  injection he with e1 e2
                  subst e1 e2
                  obtain ⟨g1, g2, g3, g4, g5⟩ := hP.out
                  rw [g2]
                  exact ⟨_, g5.dn, g5.kx, g5.done, by omega⟩
                have f2 := hP.out.2.2.2.2.dn.rd.cells.2
                obtain ⟨t, fine⟩ := s
                dsimp only at f2
                cases fine
                · go_wp2_with fail
                  go_meet
                  exact FIN.out (by rw [← hP.out.1, lpR_bad _ rfl])
                have i5 := hP.out.2.2.2.2.dn.hd.at' 5 (by rw [HHL.out]; omega)
                rw [HH5.out] at i5
                by_cases hlt : k < n5
                · have HL := Lib.hid hP.out.2.2.2.2
                  have HK25 : Hid (25 * k ≤ 200000) := by have h1 := hP.out.2.2.1 rfl; have h2 := HL.out.dn.rd.le; dsimp only at h1 h2; show _ ≤ _; omega
                  have HX0 := Lib.hid (HL.out.xw #[.int .i64 0, .int .i64 0, .int .i64 0, .int .u64 0, .int .i64 0] 34)
                  go_wp2_with fail
                  obtain ⟨x, hx⟩ : ∃ x, wr.heap.size = x := ⟨_, rfl⟩
                  rw [hx] at HX0 ⊢
                  generalize wr.alloc (.cells #[.int .i64 0, .int .i64 0, .int .i64 0, .int .u64 0, .int .i64 0] 34) = w1 at HX0 ⊢
                  clear f2 i5
                  refine (rnum_any 1 (by omega) (w.heap.size + 1) A l0 HB.out (by omega) _ w1 HX0.out.lw.dn.rd).mono ?_
                  rintro e u1 ⟨rfl, hr, hkr⟩
                  obtain ⟨Y1, hY1⟩ : ∃ y, nV l0 ⟨t, true⟩ 1 = y := ⟨_, rfl⟩
                  obtain ⟨t1, ht1⟩ : ∃ y, nS l0 ⟨t, true⟩ 1 = y := ⟨_, rfl⟩
                  rw [ht1] at hr
                  rw [hY1]
                  have HY1 := Lib.hid hY1
                  have HT1 := Lib.hid ht1
                  have HXa1 := Lib.hid (HX0.out.read hkr hr)
                  clear hr hkr hY1 ht1
                  have cc := HXa1.out.cell 0 _ rfl
                  have pp := HXa1.out.free 0
                  have HXb1 := Lib.hid (HXa1.out.put 0 (.int .i64 Y1))
                  go_wp2_with fail
                  generalize u1.setCell ⟨x, 0, none⟩ (.int .i64 Y1) = z1 at HXb1 ⊢
                  clear cc pp
                  refine (rnum_any 8 (by omega) (w.heap.size + 1) A l0 HB.out (by omega) _ z1 HXb1.out.lw.dn.rd).mono ?_
                  rintro e u2 ⟨rfl, hr, hkr⟩
                  obtain ⟨Y2, hY2⟩ : ∃ y, nV l0 t1 8 = y := ⟨_, rfl⟩
                  obtain ⟨t2, ht2⟩ : ∃ y, nS l0 t1 8 = y := ⟨_, rfl⟩
                  rw [ht2] at hr
                  rw [hY2]
                  have HY2 := Lib.hid hY2
                  have HT2 := Lib.hid ht2
                  have HXa2 := Lib.hid (HXb1.out.read hkr hr)
                  clear hr hkr hY2 ht2
                  have cc := HXa2.out.cell 1 _ rfl
                  have pp := HXa2.out.free 1
                  have HXb2 := Lib.hid (HXa2.out.put 1 (.int .i64 Y2))
                  go_wp2_with fail
                  generalize u2.setCell ⟨x, 1, none⟩ (.int .i64 Y2) = z2 at HXb2 ⊢
                  clear cc pp
                  refine (rnum_any 4 (by omega) (w.heap.size + 1) A l0 HB.out (by omega) _ z2 HXb2.out.lw.dn.rd).mono ?_
                  rintro e u3 ⟨rfl, hr, hkr⟩
                  obtain ⟨Y3, hY3⟩ : ∃ y, nV l0 t2 4 = y := ⟨_, rfl⟩
                  obtain ⟨t3, ht3⟩ : ∃ y, nS l0 t2 4 = y := ⟨_, rfl⟩
                  rw [ht3] at hr
                  rw [hY3]
                  have HY3 := Lib.hid hY3
                  have HT3 := Lib.hid ht3
                  have HXa3 := Lib.hid (HXb2.out.read hkr hr)
                  clear hr hkr hY3 ht3
                  have cc := HXa3.out.cell 2 _ rfl
                  have pp := HXa3.out.free 2
                  have HXb3 := Lib.hid (HXa3.out.put 2 (.int .i64 Y3))
                  go_wp2_with fail
                  generalize u3.setCell ⟨x, 2, none⟩ (.int .i64 Y3) = z3 at HXb3 ⊢
                  clear cc pp
                  refine (rnum_any 8 (by omega) (w.heap.size + 1) A l0 HB.out (by omega) _ z3 HXb3.out.lw.dn.rd).mono ?_
                  rintro e u4 ⟨rfl, hr, hkr⟩
                  obtain ⟨Y4, hY4⟩ : ∃ y, nV l0 t3 8 = y := ⟨_, rfl⟩
                  obtain ⟨t4, ht4⟩ : ∃ y, nS l0 t3 8 = y := ⟨_, rfl⟩
                  rw [ht4] at hr
                  rw [hY4]
                  have HY4 := Lib.hid hY4
                  have HT4 := Lib.hid ht4
                  have HXa4 := Lib.hid (HXb3.out.read hkr hr)
                  clear hr hkr hY4 ht4
                  have cc := HXa4.out.cell 3 _ rfl
                  have pp := HXa4.out.free 3
                  have HXb4 := Lib.hid (HXa4.out.put 3 (.int .u64 (IntKind.u64.wrap Y4)))
                  go_wp2_with fail
                  generalize u4.setCell ⟨x, 3, none⟩ (.int .u64 (IntKind.u64.wrap Y4)) = z4 at HXb4 ⊢
                  clear cc pp
                  refine (rnum_any 4 (by omega) (w.heap.size + 1) A l0 HB.out (by omega) _ z4 HXb4.out.lw.dn.rd).mono ?_
                  rintro e u5 ⟨rfl, hr, hkr⟩
                  obtain ⟨Y5, hY5⟩ : ∃ y, nV l0 t4 4 = y := ⟨_, rfl⟩
                  obtain ⟨t5, ht5⟩ : ∃ y, nS l0 t4 4 = y := ⟨_, rfl⟩
                  rw [ht5] at hr
                  rw [hY5]
                  have HY5 := Lib.hid hY5
                  have HT5 := Lib.hid ht5
                  have HXa5 := Lib.hid (HXb4.out.read hkr hr)
                  clear hr hkr hY5 ht5
                  have cc := HXa5.out.cell 4 _ rfl
                  have pp := HXa5.out.free 4
                  have HXb5 := Lib.hid (HXa5.out.put 4 (.int .i64 Y5))
                  go_upto_region 39 with fail
                  generalize u5.setCell ⟨x, 4, none⟩ (.int .i64 Y5) = z5 at HXb5 ⊢
                  clear cc pp
                  have HX5 := Lib.hid HXb5.out
                  clear HX0 HXa1 HXb1 HXa2 HXb2 HXa3 HXb3 HXa4 HXb4 HXa5 HXb5
                  have q6 := HX5.out.lw.cell 6 _ rfl
                  have r0 := HX5.out.cell 0 _ rfl
                  have r1 := HX5.out.cell 1 _ rfl
                  have r2 := HX5.out.cell 2 _ rfl
                  have r3 := HX5.out.cell 3 _ rfl
                  have r4 := HX5.out.cell 4 _ rfl
                  obtain ⟨Z4, hZ4⟩ : ∃ z, IntKind.u64.wrap Y4 = z := ⟨_, rfl⟩
                  rw [hZ4] at r3
                  have HZ4 := Lib.hid hZ4
                  clear hZ4
                  go_wp2_with (at_builtin; refine append_row (by rfl) _ _ _ 34 _ 5 40 (by rfl) Tryd.underlying29 infoIn (by rfl) (by omega) (.slice Av k cv) k (icells xs) (by rfl) (HX5.out.lw.row.kept (Kept.ofBelow (below_alloc (Below.refl _ _) _) []) (by simp)) (some ⟨z5.heap.size, 0, none⟩) 1 1 [.int .i64 Y1, .int .i64 Y2, .int .i64 Y3, .int .u64 Z4, .int .i64 Y5] (by rfl) (by rfl) (by simp) (by omega) (rd_blkW (T := 34) (blk_new z5 _) (by simp [maxLen])) (by simp [Value.oneCell']) (by have := HK25.out; simp only [maxLen]; omega) (by have := HK25.out; omega) ?_; intro w1 w8 hrow8 hkk8 hb8; obtain ⟨A3, c3, rfl, _⟩ := hrow8.form; have q8 := hkk8.cell (a := ⟨bc, 6, none⟩) (cell_later (below_alloc (Below.refl _ _) _) q6) (fun hx => by have := HL.out.own bc hx; have := HL.out.sz; omega); have p8 := (hkk8.frozen (a := ⟨bc, 6, none⟩) (by have := HX5.out.lw.sz; have := HX5.out.lw.kx.size; simp; omega) (fun hx => by have := HL.out.own bc hx; have := HL.out.sz; omega)).trans (frozen_then (below_alloc (Below.refl _ _) _) (blk_lt HX5.out.lw.dn.cb) (HX5.out.lw.free 6)))
                  have HN : Hid (lpR (elI l0) (n5 - (k + 1)) t5 (xs ++ [(⟨Y1, Y2, Y3, Z4, Y5⟩ : Ins)]) = (is, s4) ∧ (xs ++ [(⟨Y1, Y2, Y3, Z4, Y5⟩ : Ins)]).length = k + 1 ∧ (t5.fine = true → 28 + 25 * (k + 1) ≤ t5.at_) ∧ 25 * (k + 1) ≤ 200025 ∧ Lw w wE (w8.setCell ⟨bc, 6, none⟩ (.slice A3 (k + 1) c3)) A l0 bc t5 H #[v0, .int .i64 h1, .int .i64 h2, v3, v4, .int .i64 h6, .slice A3 (k + 1) c3] 34 5 (.slice A3 (k + 1) c3) (k + 1) (icells (xs ++ [(⟨Y1, Y2, Y3, Z4, Y5⟩ : Ins)]))) := by
                    obtain ⟨g1, g2, g3, g4, g5⟩ := hP.out
                    have hk25 := HK25.out
                    have hrow9 : Row w8 34 5 (.slice A3 (k + 1) c3) (k + 1) (icells (xs ++ [(⟨Y1, Y2, Y3, Z4, Y5⟩ : Ins)])) := by
                      rw [← icells_snoc]
                      exact hrow8
                    refine ⟨?_, by simp [g2], fun hf => ?_, by omega, HX5.out.lw.push (below_alloc (Below.refl _ _) _) hkk8 hrow9 hb8 6⟩
                    · rw [show n5 - k = (n5 - (k + 1)) + 1 by omega, lpR_next rfl] at g1
                      have he : elI l0 ⟨t, true⟩ = (⟨Y1, Y2, Y3, Z4, Y5⟩, t5) := by
                        unfold elI
                        simp only [HT1.out, HT2.out, HT3.out, HT4.out, HT5.out, HY1.out, HY2.out, HY3.out, HY4.out, HY5.out, HZ4.out]
                      rw [he] at g1
                      exact g1
                    · have a5 := nS_fine (l0 := l0) (s := t4) (n := 4) (by rw [HT5.out]; exact hf)
                      have a4 := nS_fine (l0 := l0) (s := t3) (n := 8) (by rw [HT4.out]; exact a5.1)
                      have a3 := nS_fine (l0 := l0) (s := t2) (n := 4) (by rw [HT3.out]; exact a4.1)
                      have a2 := nS_fine (l0 := l0) (s := t1) (n := 8) (by rw [HT2.out]; exact a3.1)
                      have a1 := nS_fine (l0 := l0) (s := ⟨t, true⟩) (n := 1) (by rw [HT1.out]; exact a2.1)
                      rw [HT1.out] at a1
                      rw [HT2.out] at a2
                      rw [HT3.out] at a3
                      rw [HT4.out] at a4
                      rw [HT5.out] at a5
                      have b1 := a1.2
                      have b2 := a2.2
                      have b3 := a3.2
                      have b4 := a4.2
                      have b5 := a5.2
                      have b0 := g3 (by first | trivial | rfl)
                      dsimp only at b1
                      (try dsimp only at b0)
                      omega
                  clear hrow8 hkk8 hb8 q6 r0 r1 r2 r3 r4
                  go_wp2_with fail
                  go_roundw
                  case rel => exact ⟨k + 1, _, _, _, by omega, by go_num, HN.out⟩
                  case measure => simp [intOf]; omega
                · obtain rfl : k = n5 := by omega
                  go_wp2_with fail
                  go_meet
                  exact FIN.out (by have := hP.out.1; rw [Nat.sub_self] at this; exact this)
            case rest =>
              obtain ⟨v6, hC⟩ := hcut
              obtain ⟨wG, rfl⟩ : ∃ W, W = wc := ⟨_, rfl⟩
              have HRV0g := (HRV0e.out.keep hC.out.2.1).row
              have HRV3g := (HRV3e.out.keep hC.out.2.1).row
              have HRV4g := (HRV4.out.keep hC.out.2.1).row
              have HRV6g := hC.out.2.2.1.row
              have HRN0 := (HRV0e.out.keep hC.out.2.1).ne
              have HRN3 := (HRV3e.out.keep hC.out.2.1).ne
              have HRN4 := (HRV4.out.keep hC.out.2.1).ne
              have HRN6 := hC.out.2.2.1.ne
              obtain ⟨A0, c0, rfl, hn0c, _⟩ := HRV0g.form
              obtain ⟨A3, c3, rfl, _⟩ := HRV3g.form
              obtain ⟨A4, c4, rfl, _⟩ := HRV4g.form
              obtain ⟨A6, c6, rfl, _⟩ := HRV6g.form
              have HREP : Hid (∀ W, KeptX (fun j => w.heap.size + 1 + 1 < j ∧ j < wG.heap.size) wG W → Co.Rep W ⟨A0, c0, ps, h1, h2, A3, c3, chs, A4, c4, fs, h6, A6, c6, is⟩) := fun W hW => by
                have hbw := HBW.out
                have hbn := hC.out.1.ne
                have hl := (HLO.out.keepX hC.out.2.1 (fun j h1 h2 => ⟨h2, by omega, by omega⟩)).keepX hW (fun j h1 h2 => ⟨by omega, by have := hC.out.2.1.size; omega⟩)
                refine ⟨row_rs (row_keptX HRV0g hW fun j hj => ⟨(HRN0 j hj).1, HRV0g.lt j hj⟩), row_rs (row_keptX HRV3g hW fun j hj => ⟨(HRN3 j hj).1, HRV3g.lt j hj⟩), row_rs (row_keptX HRV4g hW fun j hj => ⟨(HRN4 j hj).1, HRV4g.lt j hj⟩), fun f hf => ?_, row_rs (row_keptX HRV6g hW fun j hj => ⟨(HRN6 j hj).1, HRV6g.lt j hj⟩), ?_, ?_, ?_, ?_, hn0c⟩
                · obtain ⟨a1, a2, _⟩ := hl f hf
                  exact ⟨row_rs a1, by omega⟩
                · have := HPL.out; show ps.length ≤ _; omega
                · have := HCL.out; show chs.length ≤ _; omega
                · have := HFL.out; show fs.length ≤ _; omega
                · have := hC.out.2.2.2; show is.length ≤ _; omega
              have HPA : Hid (parse l0 = if s4.fine = true ∧ s4.at_ = l0.length then some (Co.pl ⟨A0, c0, ps, h1, h2, A3, c3, chs, A4, c4, fs, h6, A6, c6, is⟩) else none) := by
                show _ = _
                rw [codeR_parse HB.out, HRC.out]
                have e : codeH l0 H s0 = (Co.pl ⟨A0, c0, ps, h1, h2, A3, c3, chs, A4, c4, fs, h6, A6, c6, is⟩, s4) := by
                  unfold codeH
                  simp only [HH0.out, HH3.out, HH4.out, HH5.out, HHH.out.1, HHH.out.2.1, HHH.out.2.2, Int.toNat_natCast, HP1.out, HP2.out, HP3.out, HP4.out]
                  unfold Co.pl
                  simp only [HFS.out]
                rw [e]
              have HDG := Lib.hid hC.out.1
              clear hC HRV0g HRV3g HRV4g HRV6g HRN0 HRN3 HRN4 HRN6 HRV0e HRV3e HRV4 HDE HLO HAT3 HP1 HP2 HP3 HP4 HH0 HH3 HH4 HH5
              obtain ⟨f1, f2⟩ := HDG.out.rd.cells
              obtain ⟨q0, q1, q2, q3, q4, q5, q6⟩ := blk7 HDG.out.cb
              obtain ⟨r0, r1, r2, r3, r4, r5, r6⟩ := blk7 HDG.out.rz
              have g0 := blk_free HDG.out.rz 0
              have g1 := blk_free HDG.out.rz 1
              have g2 := blk_free HDG.out.rz 2
              have g3 := blk_free HDG.out.rz 3
              have g4 := blk_free HDG.out.rz 4
              have g5 := blk_free HDG.out.rz 5
              have g6 := blk_free HDG.out.rz 6
              obtain ⟨t, fine⟩ := s4
              dsimp only at f1 f2
              cases fine
              · have BAD : Hid (∀ W, Below w.heap.size w W → RCodeR w l0 (.returned (.tuple #[.agg #[.slice none 0 0, .int .i64 0, .int .i64 0, .slice none 0 0, .slice none 0 0, .int .i64 0, .slice none 0 0], .bool false])) W) := fun W hW => ⟨hW, .inr ⟨(fun c hc => by rw [HPA.out, if_neg (by simp)] at hc; cases hc), rfl⟩⟩
                have HRZ := Lib.hid HDG.out.rz
                have HBL := Lib.hid HDG.out.bl
                obtain ⟨e7, k7⟩ := put7 (HRZ.out) (.slice none 0 0) (.int .i64 0) (.int .i64 0) (.slice none 0 0) (.slice none 0 0) (.int .i64 0) (.slice none 0 0)
                have HFIN := Lib.hid (BAD.out _ (below_kept (HBL.out) k7 (by simp)))
                have HE7 := Lib.hid e7
                clear e7 k7
                go_wp2_with fail
                obtain ⟨e0, e1, e2, e3, e4, e5, e6⟩ := blk7 HE7.out
                exact bodyPost_ret (v := .tuple #[.agg #[.slice none 0 0, .int .i64 0, .int .i64 0, .slice none 0 0, .slice none 0 0, .int .i64 0, .slice none 0 0], .bool false]) (by simp [results, Tryd.results25, go_sem, e0, e1, e2, e3, e4, e5, e6]) rfl HFIN.out
              by_cases hat : t = l0.length
              rotate_left
              · have BAD : Hid (∀ W, Below w.heap.size w W → RCodeR w l0 (.returned (.tuple #[.agg #[.slice none 0 0, .int .i64 0, .int .i64 0, .slice none 0 0, .slice none 0 0, .int .i64 0, .slice none 0 0], .bool false])) W) := fun W hW => ⟨hW, .inr ⟨(fun c hc => by rw [HPA.out, if_neg (fun h => hat h.2)] at hc; cases hc), rfl⟩⟩
                have HRZ := Lib.hid HDG.out.rz
                have HBL := Lib.hid HDG.out.bl
                have dat : ((t : Int) != (l0.length : Int)) = true := by simp; omega
                obtain ⟨e7, k7⟩ := put7 (HRZ.out) (.slice none 0 0) (.int .i64 0) (.int .i64 0) (.slice none 0 0) (.slice none 0 0) (.int .i64 0) (.slice none 0 0)
                have HFIN := Lib.hid (BAD.out _ (below_kept (HBL.out) k7 (by simp)))
                have HE7 := Lib.hid e7
                clear e7 k7
                go_wp2_with fail
                obtain ⟨e0, e1, e2, e3, e4, e5, e6⟩ := blk7 HE7.out
                exact bodyPost_ret (v := .tuple #[.agg #[.slice none 0 0, .int .i64 0, .int .i64 0, .slice none 0 0, .slice none 0 0, .int .i64 0, .slice none 0 0], .bool false]) (by simp [results, Tryd.results25, go_sem, e0, e1, e2, e3, e4, e5, e6]) rfl HFIN.out
              have dat : ((t : Int) != (l0.length : Int)) = false := by simp; omega
              have HPB : Hid (parse l0 = some (Co.pl ⟨A0, c0, ps, h1, h2, A3, c3, chs, A4, c4, fs, h6, A6, c6, is⟩)) := by show _ = _; rw [HPA.out, if_pos ⟨rfl, hat⟩]
              obtain ⟨z, hz⟩ : ∃ z, checkB ⟨A0, c0, ps, h1, h2, A3, c3, chs, A4, c4, fs, h6, A6, c6, is⟩ = z := ⟨_, rfl⟩
              have HZ := Lib.hid hz
              clear hat hz HPA
              go_wp2_with fail
              refine (refForm_any ⟨A0, c0, ps, h1, h2, A3, c3, chs, A4, c4, fs, h6, A6, c6, is⟩ wG (HREP.out wG (KeptX.refl _ _))).mono ?_
              rintro e wH ⟨rfl, hbH⟩
              rw [HZ.out]
              have HRZ := Lib.hid (blk_later hbH HDG.out.rz)
              have HBL := Lib.hid (below_next HDG.out.bl hbH)
              have HBH := Lib.hid hbH
              have HCB := Lib.hid (blk_later hbH HDG.out.cb)
              clear q0 q1 q2 q3 q4 q5 q6 g0 g1 g2 g3 g4 g5 g6 r0 r1 r2 r3 r4 r5 r6 f1 f2 dat hbH
              obtain ⟨r0, r1, r2, r3, r4, r5, r6⟩ := blk7 HRZ.out
              have g0 := blk_free HRZ.out 0
              have g1 := blk_free HRZ.out 1
              have g2 := blk_free HRZ.out 2
              have g3 := blk_free HRZ.out 3
              have g4 := blk_free HRZ.out 4
              have g5 := blk_free HRZ.out 5
              have g6 := blk_free HRZ.out 6
              cases z
              · have BAD : Hid (∀ W, Below w.heap.size w W → RCodeR w l0 (.returned (.tuple #[.agg #[.slice none 0 0, .int .i64 0, .int .i64 0, .slice none 0 0, .slice none 0 0, .int .i64 0, .slice none 0 0], .bool false])) W) := fun W hW => ⟨hW, .inr ⟨(fun c hc => by rw [HPB.out] at hc; rw [← checkB_pl (Option.some.inj hc)]; exact HZ.out), rfl⟩⟩
                obtain ⟨e7, k7⟩ := put7 (HRZ.out) (.slice none 0 0) (.int .i64 0) (.int .i64 0) (.slice none 0 0) (.slice none 0 0) (.int .i64 0) (.slice none 0 0)
                have HFIN := Lib.hid (BAD.out _ (below_kept (HBL.out) k7 (by simp)))
                have HE7 := Lib.hid e7
                clear e7 k7
                go_wp2_with fail
                obtain ⟨e0, e1, e2, e3, e4, e5, e6⟩ := blk7 HE7.out
                exact bodyPost_ret (v := .tuple #[.agg #[.slice none 0 0, .int .i64 0, .int .i64 0, .slice none 0 0, .slice none 0 0, .int .i64 0, .slice none 0 0], .bool false]) (by simp [results, Tryd.results25, go_sem, e0, e1, e2, e3, e4, e5, e6]) rfl HFIN.out
              · obtain ⟨q0, q1, q2, q3, q4, q5, q6⟩ := blk7 HCB.out
                obtain ⟨e7, k7⟩ := put7 HRZ.out (.slice A0 ps.length c0) (.int .i64 h1) (.int .i64 h2) (.slice A3 chs.length c3) (.slice A4 fs.length c4) (.int .i64 h6) (.slice A6 is.length c6)
                have HFIN : Hid (RCodeR w l0 (.returned (.tuple #[Co.agg ⟨A0, c0, ps, h1, h2, A3, c3, chs, A4, c4, fs, h6, A6, c6, is⟩, .bool true])) (((((((wH.setCell ⟨w.heap.size, 0, none⟩ (.slice A0 ps.length c0)).setCell ⟨w.heap.size, 1, none⟩ (.int .i64 h1)).setCell ⟨w.heap.size, 2, none⟩ (.int .i64 h2)).setCell ⟨w.heap.size, 3, none⟩ (.slice A3 chs.length c3)).setCell ⟨w.heap.size, 4, none⟩ (.slice A4 fs.length c4)).setCell ⟨w.heap.size, 5, none⟩ (.int .i64 h6)).setCell ⟨w.heap.size, 6, none⟩ (.slice A6 is.length c6))) := by
                  refine ⟨below_kept HBL.out k7 (by simp), .inl ⟨⟨A0, c0, ps, h1, h2, A3, c3, chs, A4, c4, fs, h6, A6, c6, is⟩, HPB.out, HZ.out, rfl, HREP.out _ ?_⟩⟩
                  exact kx_kept (kx_kept (KeptX.refl _ _) (Kept.ofBelow HBH.out []) (fun j hj => ⟨hj.2, by simp⟩)) k7 (fun j hj => ⟨hj.2, by simp; omega⟩)
                have HE7 := Lib.hid e7
                clear e7 k7
                go_wp2_with fail
                obtain ⟨e0, e1, e2, e3, e4, e5, e6⟩ := blk7 HE7.out
                exact bodyPost_ret (v := .tuple #[.agg #[.slice A0 ps.length c0, .int .i64 h1, .int .i64 h2, .slice A3 chs.length c3, .slice A4 fs.length c4, .int .i64 h6, .slice A6 is.length c6], .bool true]) (by simp [results, Tryd.results25, go_sem, e0, e1, e2, e3, e4, e5, e6]) rfl HFIN.out
end Go.Proofs.YtbpbimkadiobfaaDoor

/-
  CodeBytes: which bytes are a code's; what is read is written as it was; what is handed in stays.
-/
namespace Go.Proofs.YtbpbimkadiobfaaDoor
open Go.RowKit Go.Stk
attribute [local go_sem ↓] Go.wp_at_zero Go.wp_at_succ

theorem be_of {l : List Int} (hB : Byt l) {n : Nat} (hn : n ≤ l.length) : be (deb (l.take n)) n = l.take n := by
  have h := be_deb (l.take n) fun x hx => hB x (List.mem_of_mem_take hx)
  rwa [List.length_take, Nat.min_eq_left hn] at h
theorem be4_of {l : List Int} (hB : Byt l) (hn : 4 ≤ l.length) : be4 [deb (l.take 4)] = l.take 4 := by
  rw [be4_one, be4_deb (fun x hx => hB x (List.mem_of_mem_take hx)) (by rw [List.length_take]; omega)]
theorem take_on (l : List Int) (a b : Nat) : (l.drop a).take b ++ l.drop (a + b) = l.drop a := by
  rw [← List.drop_drop]
  exact List.take_append_drop b (l.drop a)
theorem pCh_back (l : List Int) (x : Int × Int) (l' : List Int) (hB : Byt l) (h : pCh l = some (x, l')) : l = chE x ++ l' ∧ Byt l' ∧ True := by
  by_cases hl : l.length < 8
  · rw [pCh_none hl] at h; cases h
  · rw [pCh_some (by omega)] at h
    simp only [Option.some.injEq, Prod.mk.injEq] at h
    obtain ⟨rfl, rfl⟩ := h
    refine ⟨?_, hB.drop 8, trivial⟩
    have e1 := be4_of hB (by omega)
    have e2 := be4_of (hB.drop 4) (by rw [List.length_drop]; omega)
    have e3 : chE (deb (l.take 4), deb ((l.drop 4).take 4)) = be4 [deb (l.take 4)] ++ be4 [deb ((l.drop 4).take 4)] := by simp [chE, be4]
    rw [e3, e1, e2, List.append_assoc, take_on l 4 4, List.take_append_drop]
theorem pFn_back (l : List Int) (x : Int × Int × List Int) (l' : List Int) (hB : Byt l) (h : pFn l = some (x, l')) : l = tE x ++ l' ∧ Byt l' ∧ True := by
  by_cases hl : l.length < 12
  · rw [pFn_short hl] at h; cases h
  · unfold pFn at h
    rw [if_neg hl] at h
    cases hr : rdInts (deb ((l.drop 8).take 4)).toNat (l.drop 12) with
    | none => rw [hr] at h; cases h
    | some q =>
      obtain ⟨ls, l1⟩ := q
      rw [hr] at h
      simp only [Option.some.injEq, Prod.mk.injEq] at h
      obtain ⟨rfl, rfl⟩ := h
      obtain ⟨h1, h2, h3, _⟩ := rdInts_back (hB.drop 12) hr
      refine ⟨?_, h3, trivial⟩
      have d := deb4 (hB.drop 8)
      have e1 := be4_of hB (by omega)
      have e2 := be4_of (hB.drop 4) (by rw [List.length_drop]; omega)
      have e4 := be4_of (hB.drop 8) (by rw [List.length_drop]; omega)
      have e3 : tE (deb (l.take 4), deb ((l.drop 4).take 4), ls) = be4 [deb (l.take 4)] ++ (be4 [deb ((l.drop 4).take 4)] ++ (be4 [deb ((l.drop 8).take 4)] ++ be4 ls)) := by
        unfold tE
        simp only [h2]
        rw [show (((deb ((l.drop 8).take 4)).toNat : Nat) : Int) = deb ((l.drop 8).take 4) by omega]
        simp [be4]
      rw [e3, e1, e2, e4]
      simp only [List.append_assoc]
      rw [← h1, take_on l 8 4, take_on l 4 4, List.take_append_drop]
theorem pIns_back (l : List Int) (x : Ins) (l' : List Int) (hB : Byt l) (h : pIns l = some (x, l')) : l = insE x ++ l' ∧ Byt l' ∧ True := by
  by_cases hl : l.length < 25
  · rw [pIns_none hl] at h; cases h
  · rw [pIns_some (by omega)] at h
    simp only [Option.some.injEq, Prod.mk.injEq] at h
    obtain ⟨rfl, rfl⟩ := h
    refine ⟨?_, hB.drop 25, trivial⟩
    have d1 := deb1 hB
    have d8 := deb8 (hB.drop 1)
    have e1 : be (IntKind.u64.wrap (deb (l.take 1))) 1 = l.take 1 := by rw [wrap_u64_id d1.1 (by omega), be_of hB (by omega)]
    have e2 : be (IntKind.u64.wrap (wrap64 (deb ((l.drop 1).take 8)))) 8 = (l.drop 1).take 8 := by rw [u64_wrap64 d8.1 d8.2, be_of (hB.drop 1) (by rw [List.length_drop]; omega)]
    have e3 := be4_of (hB.drop 9) (by rw [List.length_drop]; omega)
    have e4 := be_of (hB.drop 13) (n := 8) (by rw [List.length_drop]; omega)
    have e5 := be4_of (hB.drop 21) (by rw [List.length_drop]; omega)
    unfold insE
    simp only
    rw [e1, e2, e3, e4, e5]
    simp only [List.append_assoc]
    rw [take_on l 21 4, take_on l 13 8, take_on l 9 4, take_on l 1 8, List.take_append_drop]
theorem nat_cast {x : Int} {n : Nat} (hx : U32 x) (h : n = x.toNat) : (n : Int) = x := by have := hx.1; omega
theorem parse_back {l : List Int} {p : Pc} (hB : Byt l) (h : parse l = some p) : p.enc = l := by
  unfold parse at h
  cases h7 : rdInts 7 l with
  | none => rw [h7] at h; cases h
  | some q =>
    obtain ⟨hd, l1⟩ := q
    rw [h7] at h
    simp only at h
    obtain ⟨a1, a2, a3, a4⟩ := rdInts_back hB h7
    obtain ⟨x0, x1, x2, x3, x4, x5, x6, rfl⟩ : ∃ a b c d e f g, hd = [a, b, c, d, e, f, g] := by
      match hd, a2 with
      | [a, b, c, d, e, f, g], _ => exact ⟨a, b, c, d, e, f, g, rfl⟩
    have u0 := a4 x0 (by simp)
    have u3 := a4 x3 (by simp)
    have u4 := a4 x4 (by simp)
    have u5 := a4 x5 (by simp)
    unfold parse1 at h
    simp only [show ([x0, x1, x2, x3, x4, x5, x6] : List Int).getD 0 0 = x0 from rfl, show ([x0, x1, x2, x3, x4, x5, x6] : List Int).getD 1 0 = x1 from rfl, show ([x0, x1, x2, x3, x4, x5, x6] : List Int).getD 2 0 = x2 from rfl, show ([x0, x1, x2, x3, x4, x5, x6] : List Int).getD 3 0 = x3 from rfl, show ([x0, x1, x2, x3, x4, x5, x6] : List Int).getD 4 0 = x4 from rfl, show ([x0, x1, x2, x3, x4, x5, x6] : List Int).getD 5 0 = x5 from rfl, show ([x0, x1, x2, x3, x4, x5, x6] : List Int).getD 6 0 = x6 from rfl] at h
    cases hp : rdInts x0.toNat l1 with
    | none => rw [hp] at h; cases h
    | some q =>
      obtain ⟨pl, l2⟩ := q
      rw [hp] at h
      simp only at h
      obtain ⟨b1, b2, b3, _⟩ := rdInts_back a3 hp
      cases hc : many pCh x3.toNat l2 with
      | none => rw [hc] at h; cases h
      | some q =>
        obtain ⟨cs, l3⟩ := q
        rw [hc] at h
        simp only at h
        obtain ⟨c1, c2, c3, _⟩ := many_back (P := fun _ => True) (e := chE) pCh_back _ _ _ _ b3 hc
        cases hf : many pFn x4.toNat l3 with
        | none => rw [hf] at h; cases h
        | some q =>
          obtain ⟨fs, l4⟩ := q
          rw [hf] at h
          simp only at h
          obtain ⟨f1, f2, f3, _⟩ := many_back (P := fun _ => True) (e := tE) pFn_back _ _ _ _ c3 hf
          cases hi : many pIns x5.toNat l4 with
          | none => rw [hi] at h; cases h
          | some q =>
            obtain ⟨bo, l5⟩ := q
            rw [hi] at h
            simp only at h
            obtain ⟨i1, i2, _⟩ := many_back (P := fun _ => True) (e := insE) pIns_back _ _ _ _ f3 hi
            by_cases h5 : l5 = []
            · rw [if_pos h5] at h
              subst h5
              obtain rfl := Option.some.inj h
              unfold Pc.enc Pc.head
              simp only
              rw [nat_cast u0 b2, nat_cast u3 c2, nat_cast u4 f2, nat_cast u5 i2, a1, b1, c1, f1, i1, List.append_nil]
            · rw [if_neg h5] at h; cases h
/-- The code of nothing. -/
def Co.zero : Co := ⟨none, 0, [], 0, 0, none, 0, [], none, 0, [], 0, none, 0, []⟩
theorem Co.zero_rep (w : World) : Co.zero.Rep w := by
  refine ⟨rs_nil _ _, rs_nil _ _, rs_nil _ _, fun f hf => by simp [Co.zero] at hf, rs_nil _ _, ?_, ?_, ?_, ?_, ?_⟩ <;> simp [Co.zero]
theorem conv_any {w : World} {A : Option Addr} {B : List Int} {n cp : Nat} (h : Rs w A (bys B)) (hn : B.length = n) : (convert 47 9 (.slice A n cp)).run Tryd.prog w = .ok (.string (strOfNums B)) w := by
  by_cases h0 : 0 < n
  · exact conv_rs h hn h0
  · have hB : B = [] := List.eq_nil_of_length_eq_zero (by omega)
    subst hB
    obtain rfl : n = 0 := by omega
    cases A with
    | none => exact run_convert_bytes_nil w 47 5 (by kernel_rfl) (by kernel_rfl) 0 cp 9 (by kernel_rfl)
    | some a =>
      have hl : (loadCells a 0).run Tryd.prog w = .ok (([] : List Int).map (Value.int .u8)).toArray w := by simpa using run_loadCells_list (P := Tryd.prog) w a [] (fun j v hj => by simp at hj)
      rw [run_convert_bytes_string w 47 9 5 (some a) 0 cp (by kernel_rfl) (by kernel_rfl) (by kernel_rfl), run_bytesToString w a 0 cp [] hl]
      rfl
set_option maxHeartbeats 1000000 in
theorem keptB_any (xs : List Int) (g c : Nat) (B : Option Addr) (cb : Nat) (w : World) (hM : MarkedB w g xs) (hy : Rs w B (bys xs)) (hl : xs.length ≤ 200000) (hc : xs.length + 6 ≤ c) (hc2 : c ≤ maxLen) :
    Calls Tryd.prog 26 #[.slice (some ⟨g, 0, none⟩) xs.length c, .slice B xs.length cb] w (Ret w (.bool true)) := by
  have hd1 : decide (c < xs.length + 6) = false := decide_eq_false (by omega)
  have hd2 : decide ((c : Int) < (xs.length : Int) + 6) = false := decide_eq_false (by omega)
  unfold maxLen at hc2
  go_enter Tryd.func26, Tryd.ntmps26
  go_wp2_with fail
  have k1 : ∀ q, (convert 47 9 (.slice (some ⟨g, 0, none⟩) xs.length c)).run Tryd.prog (w.drewN q) = .ok (.string (strOfNums xs)) (w.drewN q) := fun q => conv_any (hM.rs.later (below_dN w q)) rfl
  have k2 : ∀ q, (convert 47 9 (.slice B xs.length cb)).run Tryd.prog (w.drewN q) = .ok (.string (strOfNums xs)) (w.drewN q) := fun q => conv_any (hy.later (below_dN w q)) rfl
  go_quiet (fail)
  have HM := Lib.hid (hM.later (below_dN w nq))
  have HB := Lib.hid (below_dN w nq)
  clear k1 k2 hM hy
  generalize w.drewN nq = w1 at HM HB ⊢
  go_wp2_with fail
  go_loop [6] (fun i => ∃ k : Nat, k ≤ 6 ∧ i = .int .i64 k) (fun i => 6 - (intOf i).toNat)
  case atStart => exact ⟨0, Nat.zero_le _, rfl⟩
  case round =>
    obtain ⟨k, hk, rfl⟩ := hrel
    by_cases hlt : k < 6
    · have hcell := HM.out.at' (xs.length + k) (by simp [marksB]; omega)
      have hx : (xs ++ marksB)[xs.length + k]'(by simp [marksB]; omega) = 201 + (k : Int) := by
        rw [List.getElem_append_right (by omega)]
        simp only [Nat.add_sub_cancel_left, marksB]
        match k, hlt with
        | 0, _ => rfl
        | 1, _ => rfl
        | 2, _ => rfl
        | 3, _ => rfl
        | 4, _ => rfl
        | 5, _ => rfl
      rw [hx] at hcell
      clear hx
      go_wp2_with fail
      go_round
      case rel => exact ⟨k + 1, by omega, by go_num⟩
      case measure => simp [intOf]; omega
    · go_wp2_with fail
      go_ret
      exact ⟨rfl, HB.out⟩
theorem fnsEq_pf2 : ∀ (l m : List Fn), l.map Fn.pf = m.map Fn.pf → fnsEq l m = true
  | [], [], _ => rfl
  | [], _ :: _, h => by simp at h
  | _ :: _, [], h => by simp at h
  | f :: r, g :: s, h => by
    simp only [List.map_cons, List.cons.injEq, Fn.pf, Prod.mk.injEq] at h
    obtain ⟨⟨h1, h2, h3⟩, h4⟩ := h
    simp [fnsEq, fnEq, h1, h2, h3, fnsEq_pf2 r s h4]
theorem sameB_pl2 {a b : Co} (h : a.pl = b.pl) : sameB a b = true := by
  unfold Co.pl at h
  injection h with h1 h2 h3 h4 h5 h6 h7
  unfold sameB
  simp [h1, h2, h3, h4, h6, h7, fnsEq_pf2 _ _ h5]
theorem cells_u8 : Tryd.prog.cellsOf 5 = 1 := by kernel_rfl
theorem flat_bys (l : List Int) : l.flatMap (fun n => [Value.int .u8 n]) = bys l := by
  induction l with
  | nil => rfl
  | cons a r ih => rw [List.flatMap_cons, ih]; rfl
theorem opn_bytes : Opn Tryd.prog 47 fun w cs => ∃ A c, ∃ os : List Int, cs = [.slice A os.length c] ∧ Rs w A (bys os) ∧ (A = none → c = 0) ∧ os.length ≤ 9223372036854775807 ∧ Byt os :=
  (opn_slice Tryd.underlying47 cells_u8 (by omega) (fun n : Int => [Value.int .u8 n]) (fun _ => rfl) (fun _ n => 0 ≤ n ∧ n ≤ 255) (opn_u8 Tryd.underlying5)).mono fun w cs ⟨A, c, os, h1, h2, h3, h4, h5, h6⟩ => by
    rw [flat_bys] at h5
    simp only [maxLen] at h3
    exact ⟨A, c, os, h1, h5, h4, by omega, h6⟩
/-- What stands between the calls: the bytes handed in, their marked copy, the two codes in their boxes. -/
structure CbR (w wr : World) (A : Option Addr) (g : Nat) (xs : List Int) (c d : Co) (bx by_ : Nat) : Prop where
  bl : Below w.heap.size w wr
  rs : Rs wr A (bys xs)
  mrk : MarkedB wr g xs
  rc : c.Rep wr
  rd : d.Rep wr
  xc : Co.Box wr bx c
  xd : Co.Box wr by_ d
theorem CbR.later {w wr w' : World} {A : Option Addr} {g : Nat} {xs : List Int} {c d : Co} {bx by_ : Nat} (h : CbR w wr A g xs c d bx by_) (hb : Below wr.heap.size wr w') : CbR w w' A g xs c d bx by_ :=
  ⟨below_next h.bl hb, h.rs.later hb, h.mrk.later hb, h.rc.later hb, h.rd.later hb, h.xc.later hb, h.xd.later hb⟩
set_option maxRecDepth 100000 in
set_option maxHeartbeats 4000000 in
theorem bytes_law (xs : List Int) (A : Option Addr) (cp : Nat) (w : World) (hx : Rs w A (bys xs)) (hnil : A = none → cp = 0) (hl : xs.length ≤ 9223372036854775807) (hB : Byt xs) (ads : List Addr) (hS : Sent w 116 errGs ads) (ec : Addr) (hE : Errs w ec) (h8 : ads[8]? = some ec) :
    Calls Tryd.prog 7 #[.slice A xs.length cp] w (Ret w (.bool true)) := by
  have HX := Lib.hid hx
  have HS := Lib.hid hS
  have HE := Lib.hid hE
  have HB := Lib.hid hB
  have HNIL := Lib.hid hnil
  clear hx hS hE hB hnil
  go_enter Tryd.func7, Tryd.ntmps7
  go_wp2_with fail
  refine (alive_any w ec HE.out).mono ?_
  rintro e w1 ⟨rfl, hb1⟩
  have HB1 := Lib.hid hb1
  clear hb1
  by_cases hlong : 200000 < xs.length
  · have d1 : decide (200000 < (xs.length : Int)) = true := decide_eq_true (by omega)
    go_wp2_with fail
    go_ret
    exact ⟨rfl, HB1.out⟩
  have d1 : decide (200000 < (xs.length : Int)) = false := decide_eq_false (by omega)
  have hm : xs.length ≤ 200000 := by omega
  clear hlong
  go_wp2_with fail
  refine (bytes_any xs A cp w1 (HX.out.later HB1.out) HNIL.out hm).mono ?_
  rintro e w2 ⟨g, cg, rfl, hcg, hcm, hgl, hmk, hb2⟩
  have HB2 := Lib.hid (below_next HB1.out hb2)
  have HMK := Lib.hid hmk
  have HCM := Lib.hid hcm
  clear HB1 hb2 hmk d1
  go_wp2_with fail
  refine (getN_any xs xs.length rfl HB.out (by omega) g 0 cg w2 HMK.out.rs (by omega) HCM.out hgl ec (HE.out.later HB2.out)).mono ?_
  rintro e w3 ⟨hb3, hget⟩
  have key : ∃ (c : Co) (ev : Value), e = .returned (.tuple #[c.agg, ev]) ∧ c.Rep w3 ∧ ((parse xs = some c.pl ∧ checkB c = true ∧ ev = .nilIface) ∨ ((∀ c : Co, parse xs = some c.pl → checkB c = false) ∧ ev = errV ec ∧ c = Co.zero)) := by
    rcases hget with ⟨c, k1, k2, k3, k4⟩ | ⟨k1, k2⟩
    · exact ⟨c, _, k3, k4, .inl ⟨k1, k2, rfl⟩⟩
    · exact ⟨Co.zero, _, k2, Co.zero_rep _, .inr ⟨k1, rfl, rfl⟩⟩
  clear hget
  obtain ⟨c, ev, rfl, hrc, hcase⟩ := key
  have HB3 := Lib.hid (below_next HB2.out hb3)
  have HMK3 := Lib.hid (HMK.out.later hb3)
  have HRC := Lib.hid hrc
  have HCASE := Lib.hid hcase
  clear HB2 HMK hb3 hrc hcase hgl
  have HBA : Hid (Below w3.heap.size w3 (w3.alloc (.cells #[.slice c.pA c.places.length c.pc, .int .i64 c.mux, .int .i64 c.ato, .slice c.cA c.chans.length c.cc, .slice c.fA c.funcs.length c.fc, .int .i64 c.start, .slice c.bA c.body.length c.bc] 31))) := below_alloc (Below.refl _ _) _
  have HXC : Hid (Co.Box (w3.alloc (.cells #[.slice c.pA c.places.length c.pc, .int .i64 c.mux, .int .i64 c.ato, .slice c.cA c.chans.length c.cc, .slice c.fA c.funcs.length c.fc, .int .i64 c.start, .slice c.bA c.body.length c.bc] 31)) w3.heap.size c) := Co.box_new w3 c _
  unfold Co.agg
  go_wp2_with fail
  generalize w3.alloc (.cells #[.slice c.pA c.places.length c.pc, .int .i64 c.mux, .int .i64 c.ato, .slice c.cA c.chans.length c.cc, .slice c.fA c.funcs.length c.fc, .int .i64 c.start, .slice c.bA c.body.length c.bc] 31) = w4 at HBA HXC ⊢
  refine (refCode_any xs HB.out hm A cp w4 (HX.out.later (below_next HB3.out HBA.out))).mono ?_
  rintro e w5 ⟨hb5, hcode⟩
  have key : ∃ (d : Co) (ok : Bool), e = .returned (.tuple #[d.agg, .bool ok]) ∧ d.Rep w5 ∧ ((parse xs = some d.pl ∧ checkB d = true ∧ ok = true) ∨ ((∀ c : Co, parse xs = some c.pl → checkB c = false) ∧ ok = false ∧ d = Co.zero)) := by
    rcases hcode with ⟨d, k1, k2, k3, k4⟩ | ⟨k1, k2⟩
    · exact ⟨d, _, k3, k4, .inl ⟨k1, k2, rfl⟩⟩
    · exact ⟨Co.zero, _, k2, Co.zero_rep _, .inr ⟨k1, rfl, rfl⟩⟩
  clear hcode
  obtain ⟨d, ok, rfl, hrd, hcase⟩ := key
  have HR : Hid (CbR w (w5.alloc (.cells #[.slice d.pA d.places.length d.pc, .int .i64 d.mux, .int .i64 d.ato, .slice d.cA d.chans.length d.cc, .slice d.fA d.funcs.length d.fc, .int .i64 d.start, .slice d.bA d.body.length d.bc] 31)) A g xs c d w3.heap.size w5.heap.size) := by
    have hA : Below w5.heap.size w5 (w5.alloc (.cells #[.slice d.pA d.places.length d.pc, .int .i64 d.mux, .int .i64 d.ato, .slice d.cA d.chans.length d.cc, .slice d.fA d.funcs.length d.fc, .int .i64 d.start, .slice d.bA d.body.length d.bc] 31)) := below_alloc (Below.refl _ _) _
    have h4 := HBA.out
    have h5 := below_next h4 hb5
    have h6 := below_next h5 hA
    have h7 := below_next HB3.out h6
    have h8' := below_next hb5 hA
    exact ⟨h7, HX.out.later h7, HMK3.out.later h6, HRC.out.later h6, hrd.later hA, HXC.out.later h8', Co.box_new w5 d _⟩
  have HC2 := Lib.hid hcase
  clear hcase hrd hb5 HBA HXC HB3 HMK3 HRC
  unfold Co.agg
  go_upto_region 8 with fail
  generalize w5.alloc (.cells #[.slice d.pA d.places.length d.pc, .int .i64 d.mux, .int .i64 d.ato, .slice d.cA d.chans.length d.cc, .slice d.fA d.funcs.length d.fc, .int .i64 d.start, .slice d.bA d.body.length d.bc] 31) = W at HR ⊢
  generalize w3.heap.size = bx at HR ⊢
  generalize w5.heap.size = bd at HR ⊢
  have cellsC : ∀ {W' : World} {b : Nat} {c : Co}, Co.Box W' b c → W'.cell? ⟨b, 0, none⟩ = some (.slice c.pA c.places.length c.pc) ∧ W'.cell? ⟨b, 1, none⟩ = some (.int .i64 c.mux) ∧ W'.cell? ⟨b, 2, none⟩ = some (.int .i64 c.ato) ∧ W'.cell? ⟨b, 3, none⟩ = some (.slice c.cA c.chans.length c.cc) ∧ W'.cell? ⟨b, 4, none⟩ = some (.slice c.fA c.funcs.length c.fc) ∧ W'.cell? ⟨b, 5, none⟩ = some (.int .i64 c.start) ∧ W'.cell? ⟨b, 6, none⟩ = some (.slice c.bA c.body.length c.bc) := fun h => ⟨h.c0, h.c1, h.c2, h.c3, h.c4, h.c5, h.c6⟩
  rcases HCASE.out with ⟨p1, p2, rfl⟩ | ⟨p1, rfl, p2⟩
  · rcases HC2.out with ⟨q1, q2, rfl⟩ | ⟨q1, rfl, q2⟩
    rotate_left
    · rw [q1 c p1] at p2; cases p2
    have HSM : Hid (sameB c d = true) := by
      rw [p1] at q1
      exact sameB_pl2 (Option.some.inj q1)
    have HP := Lib.hid p1
    have HK := Lib.hid p2
    obtain ⟨a0, a1, a2, a3, a4, a5, a6⟩ := cellsC HR.out.xc
    obtain ⟨z0, z1, z2, z3, z4, z5, z6⟩ := cellsC HR.out.xd
    clear p1 p2 q1 q2 HCASE HC2 cellsC
    go_wp2_with fail
    refine (refSame_any c d W HR.out.rc HR.out.rd).mono ?_
    rintro e w6 ⟨rfl, hb6⟩
    rw [HSM.out]
    have HR6 := Lib.hid (HR.out.later hb6)
    clear hb6 a0 a1 a2 a3 a4 a5 a6 z0 z1 z2 z3 z4 z5 z6 HR
    go_wp2_with fail
    refine (keptB_any xs g cg A cp w6 HR6.out.mrk HR6.out.rs hm hcg HCM.out).mono ?_
    rintro e w7 ⟨rfl, hb7⟩
    have HR7 := Lib.hid (HR6.out.later hb7)
    clear hb7 HR6
    have a0 := HR7.out.xc.c0
    have a1 := HR7.out.xc.c1
    have a2 := HR7.out.xc.c2
    have a3 := HR7.out.xc.c3
    have a4 := HR7.out.xc.c4
    have a5 := HR7.out.xc.c5
    have a6 := HR7.out.xc.c6
    go_wp2_with fail
    refine (putC_any c w7 HR7.out.rc ec (HE.out.later HR7.out.bl)).mono ?_
    rintro e w8 (⟨hk, v, rfl, hrow, hown, hb8⟩ | ⟨hk, _⟩)
    rotate_left
    · rw [HK.out] at hk; cases hk
    clear a0 a1 a2 a3 a4 a5 a6
    have HR8 := Lib.hid (HR7.out.later hb8)
    have HEN : Hid (encC c = xs) := by show _ = _; rw [encC_pl]; exact parse_back HB.out HP.out
    rw [HEN.out] at hrow
    obtain ⟨Av, cv, rfl, _⟩ := hrow.form
    have e1 := conv_any (cp := cv) (row_rs hrow) rfl
    have e2 := conv_any (cp := cp) HR8.out.rs rfl
    clear hrow hown hb8 HR7
    go_wp2_with fail
    go_ret
    exact ⟨rfl, HR8.out.bl⟩
  · rcases HC2.out with ⟨q1, q2, rfl⟩ | ⟨q1, rfl, q2⟩
    · rw [p1 d q1] at q2; cases q2
    have HSM : Hid (sameB c d = true) := by show _ = _; rw [p2, q2]; rfl
    obtain ⟨a0, a1, a2, a3, a4, a5, a6⟩ := cellsC HR.out.xc
    obtain ⟨z0, z1, z2, z3, z4, z5, z6⟩ := cellsC HR.out.xd
    clear p1 p2 q1 q2 HCASE HC2 cellsC
    unfold errV
    go_wp2_with fail
    refine (numC_any W ads (HS.out.later HR.out.bl) ec h8).mono ?_
    rintro e w5 ⟨rfl, hb5⟩
    have HR5 := Lib.hid (HR.out.later hb5)
    clear hb5 a0 a1 a2 a3 a4 a5 a6 z0 z1 z2 z3 z4 z5 z6 HR
    have a0 := HR5.out.xc.c0
    have a1 := HR5.out.xc.c1
    have a2 := HR5.out.xc.c2
    have a3 := HR5.out.xc.c3
    have a4 := HR5.out.xc.c4
    have a5 := HR5.out.xc.c5
    have a6 := HR5.out.xc.c6
    have z0 := HR5.out.xd.c0
    have z1 := HR5.out.xd.c1
    have z2 := HR5.out.xd.c2
    have z3 := HR5.out.xd.c3
    have z4 := HR5.out.xd.c4
    have z5 := HR5.out.xd.c5
    have z6 := HR5.out.xd.c6
    go_wp2_with fail
    refine (refSame_any c d w5 HR5.out.rc HR5.out.rd).mono ?_
    rintro e w6 ⟨rfl, hb6⟩
    rw [HSM.out]
    have HR6 := Lib.hid (HR5.out.later hb6)
    clear hb6 a0 a1 a2 a3 a4 a5 a6 z0 z1 z2 z3 z4 z5 z6 HR5
    go_wp2_with fail
    refine (keptB_any xs g cg A cp w6 HR6.out.mrk HR6.out.rs hm hcg HCM.out).mono ?_
    rintro e w7 ⟨rfl, hb7⟩
    have HR7 := Lib.hid (HR6.out.later hb7)
    clear hb7 HR6
    go_wp2_with fail
    go_ret
    exact ⟨rfl, HR7.out.bl⟩
end Go.Proofs.YtbpbimkadiobfaaDoor
