/-
  A code's bytes: the writer of numbers.
-/
import Derived.Test.YtbpbimkadiobfaaDoorCode10
import Derived.Deep.RegionLaw
import Derived.Deep.DrawnRows
import Derived.IntWalk
namespace Go.Proofs.YtbpbimkadiobfaaDoor
open Go.RowKit Go.Stk
attribute [local go_sem ↓] Go.wp_at_zero Go.wp_at_succ

def bys (xs : List Int) : List Value := xs.map (Value.int .u8)
theorem bys_len (xs : List Int) : (bys xs).length = xs.length := by simp [bys]
theorem bys_app (xs ys : List Int) : bys (xs ++ ys) = bys xs ++ bys ys := by simp [bys]
/-- A number's bytes, the greatest first. -/
def be (u : Int) : Nat → List Int
  | 0 => []
  | n + 1 => (u / 256 ^ n) % 256 :: be u n
theorem be_len (u : Int) : ∀ n, (be u n).length = n
  | 0 => rfl
  | n + 1 => by simp [be, be_len u n]
/-- The blocks of X are as they were. -/
structure KeptX (X : Nat → Prop) (w w' : World) : Prop where
  os : w'.os = w.os
  tape : w'.tape = w.tape
  output : w'.output = w.output
  size : w.heap.size ≤ w'.heap.size
  block : ∀ k, X k → w'.heap[k]? = w.heap[k]?
theorem KeptX.refl (X : Nat → Prop) (w : World) : KeptX X w w := ⟨rfl, rfl, rfl, Nat.le_refl _, fun _ _ => rfl⟩
theorem KeptX.trans {X : Nat → Prop} {w1 w2 w3 : World} (h : KeptX X w1 w2) (k : KeptX X w2 w3) : KeptX X w1 w3 := ⟨k.os.trans h.os, k.tape.trans h.tape, k.output.trans h.output, Nat.le_trans h.size k.size, fun g hg => (k.block g hg).trans (h.block g hg)⟩
theorem KeptX.mono {X Y : Nat → Prop} {w w' : World} (h : KeptX X w w') (hY : ∀ k, Y k → X k) : KeptX Y w w' := ⟨h.os, h.tape, h.output, h.size, fun k hk => h.block k (hY k hk)⟩
theorem KeptX.ofBelow {X : Nat → Prop} {w w' : World} (hb : Below w.heap.size w w') (hX : ∀ k, X k → k < w.heap.size) : KeptX X w w' := ⟨hb.os, hb.tape, hb.output, hb.size, fun k hk => hb.block k (hX k hk)⟩
theorem KeptX.below {X : Nat → Prop} {B : Nat} {w w' : World} (h : KeptX X w w') (hB : ∀ k, k < B → X k) : Below B w w' := ⟨h.os, h.tape, h.output, h.size, fun k hk => h.block k (hB k hk)⟩
theorem KeptX.cell {X : Nat → Prop} {w w' : World} (h : KeptX X w w') {a : Addr} {v : Value} (ha : X a.block) (hc : w.cell? a = some v) : w'.cell? a = some v := by
  rw [← hc]
  unfold World.cell?
  rw [h.block a.block ha]
theorem KeptX.ofKept {X : Nat → Prop} {fp : List Nat} {w w' : World} (h : Kept fp w w') (hX : ∀ k, X k → k < w.heap.size ∧ k ∉ fp) : KeptX X w w' := ⟨h.os, h.tape, h.output, h.size, fun k hk => h.block k (hX k hk).1 (hX k hk).2⟩
/-- A writer at b that has written xs and has none of X's blocks. -/
def WrO (X : Nat → Prop) (b : Nat) (xs : List Int) (w : World) : Prop := ∃ v, w.heap[b]? = some (.cells #[v] 77 (0, 0)) ∧ Row w 5 1 v xs.length (bys xs) ∧ b ∉ blk v ∧ ¬ X b ∧ (∀ g ∈ blk v, ¬ X g) ∧ ∀ k, X k → k < w.heap.size
theorem WrO.later {X : Nat → Prop} {b : Nat} {xs : List Int} {w w' : World} (h : WrO X b xs w) (hb : Below w.heap.size w w') : WrO X b xs w' := by
  obtain ⟨v, h1, h2, h3, h4, h5, h6⟩ := h
  exact ⟨v, (Kept.ofBelow hb []).heap h1 (by simp), h2.kept (Kept.ofBelow hb []) (by simp), h3, h4, h5, fun k hk => Nat.lt_of_lt_of_le (h6 k hk) hb.size⟩
theorem WrO.add {X : Nat → Prop} {b : Nat} {xs : List Int} {w w' : World} (h : WrO X b xs w) (hb : Below w.heap.size w w') : WrO (fun k => X k ∨ (w.heap.size ≤ k ∧ k < w'.heap.size)) b xs w' := by
  obtain ⟨v, h1, h2, h3, h4, h5, h6⟩ := h
  refine ⟨v, (Kept.ofBelow hb []).heap h1 (by simp), h2.kept (Kept.ofBelow hb []) (by simp), h3, ?_, fun g hg => ?_, fun k hk => ?_⟩
  · rintro (hx | hx)
    · exact h4 hx
    · have := blk_lt h1; omega
  · rintro (hx | hx)
    · exact h5 g hg hx
    · have := h2.lt g hg; omega
  · rcases hk with hk | hk
    · exact Nat.lt_of_lt_of_le (h6 k hk) hb.size
    · exact hk.2
theorem WrO.mono {X Y : Nat → Prop} {b : Nat} {xs : List Int} {w : World} (h : WrO X b xs w) (hY : ∀ k, Y k → X k) : WrO Y b xs w := by
  obtain ⟨v, h1, h2, h3, h4, h5, h6⟩ := h
  exact ⟨v, h1, h2, h3, fun hx => h4 (hY _ hx), fun g hg hx => h5 g hg (hY _ hx), fun k hk => h6 k (hY k hk)⟩
theorem WrO.lt {X : Nat → Prop} {b : Nat} {xs : List Int} {w : World} (h : WrO X b xs w) : ∀ k, X k → k < w.heap.size := by
  obtain ⟨v, h1, h2, h3, h4, h5, h6⟩ := h
  exact h6
/-- What a call answers, and what became of the writer. -/
def RetW (X : Nat → Prop) (b : Nat) (xs : List Int) (w : World) (e : Ending) (w' : World) : Prop := e = .returned (.tuple #[]) ∧ WrO X b xs w' ∧ KeptX X w w'
theorem WrO.step {X : Nat → Prop} {b : Nat} {v v1 : Value} {wr W2 w3 : World} {zs : List Int} {m : Nat} (hX : wr.heap[b]? = some (.cells #[v] 77 (0, 0)) ∧ b ∉ blk v ∧ ¬ X b ∧ (∀ g ∈ blk v, ¬ X g) ∧ ∀ k, X k → k < wr.heap.size) (hb2 : Below wr.heap.size wr W2) (hk : Kept (blk v) W2 w3)
    (hrow : Row w3 5 1 v1 m (bys zs)) (hm : m = zs.length) (hb3 : ∀ g ∈ blk v1, g ∈ blk v ∨ W2.heap.size ≤ g) : WrO X b zs (w3.setCell ⟨b, 0, none⟩ v1) ∧ KeptX X wr (w3.setCell ⟨b, 0, none⟩ v1) := by
  subst hm
  obtain ⟨h1, h2, h3, h4, h5⟩ := hX
  have hbl := blk_lt h1
  have s2 := hb2.size
  have hk2 : Kept (blk v) wr w3 := (Kept.ofBelow hb2 (blk v)).trans hk fun a ha => .inl ha
  have h3b := hk2.heap h1 h2
  have hbv : b ∉ blk v1 := fun hx => by
    rcases hb3 b hx with h | h
    · exact h2 h
    · omega
  have hk4 : Kept (b :: blk v) wr (w3.setCell ⟨b, 0, none⟩ v1) := (hk2.mono (by simp; exact fun _ h => .inr h)).set _ _ (.inl (by simp))
  refine ⟨⟨v1, by rw [blk_set h3b]; rfl, hrow.kept (fp := [b]) ((Kept.refl _ _).set _ _ (.inl (by simp))) (fun g hg hx => by simp at hx; subst hx; exact hbv hg), hbv, h3, fun g hg hx => ?_, fun k hk => ?_⟩, KeptX.ofKept hk4 fun k hk => ⟨h5 k hk, fun hx => ?_⟩⟩
  · rcases hb3 g hg with h | h
    · exact h4 g h hx
    · have := h5 g hx; omega
  · have := h5 k hk
    have := hk4.size
    omega
  · rcases List.mem_cons.1 hx with rfl | hx
    · exact h3 hk
    · exact h4 k hx hk
theorem below_q0 (w : World) (n : Nat) : Below w.heap.size w (w.drewN n) := ⟨rfl, rfl, rfl, Nat.le_refl _, fun _ _ => rfl⟩
theorem rd_blkW {w : World} {b : Nat} {cs : List Value} {T : TypeId} (h : w.heap[b]? = some (.cells cs.toArray T (0, 0))) (hl : cs.length ≤ maxLen) : Rd w (some ⟨b, 0, none⟩) cs :=
  ⟨hl, fun _ => ⟨b, 0, rfl, fun j hj => by rw [Nat.zero_add, blk_cell h]; simp [hj]⟩⟩
theorem frozen_then {w W : World} (hb : Below w.heap.size w W) {a : Addr} (ha : a.block < w.heap.size) (h : w.frozen? a = false) : W.frozen? a = false := (hb.frozen ha).trans h
theorem shr_byte (u : Int) (k : Nat) : IntKind.u8.wrap (u / 2 ^ (8 * (k : Int)).toNat) = u / 256 ^ k % 256 := by
  rw [show (8 * (k : Int)).toNat = 8 * k by omega, Int.pow_mul]
  rfl
theorem infoByte : (Tryd.prog.info? 5).map (fun i => (i.zero, i.size, i.bytes)) = some (some (.int .u8 0), 1, 1) := by kernel_rfl
set_option maxRecDepth 100000 in
set_option maxHeartbeats 1000000 in
theorem put_any (n : Nat) (hn : n ≤ 8) (u : Int) (X : Nat → Prop) (b : Nat) (xs : List Int) (w : World) (h : WrO X b xs w) (hl : xs.length + n ≤ 1000000000) :
    Calls Tryd.prog 44 #[.pointer (some ⟨b, 0, none⟩), .int .u64 u, .int .i64 n] w (RetW X b (xs ++ be u n) w) := by
  have HW := Lib.hid h
  clear h
  go_enter Tryd.func44, Tryd.ntmps44
  go_wp2_with fail
  go_loopw [6] (fun iv wr => ∃ (m : Nat) (j : Int), m ≤ n ∧ j = (m : Int) - 1 ∧ iv = .int .i64 j ∧ Hid (∃ ys, ys ++ be u m = be u n ∧ WrO X b (xs ++ ys) wr ∧ KeptX X w wr)) (fun iv _ => (intOf iv + 1).toNat)
  case atStart => exact ⟨n, _, Nat.le_refl _, rfl, rfl, [], rfl, by simpa using HW.out, KeptX.refl _ _⟩
  case round =>
    obtain ⟨m, j, hm, hj, rfl, hP⟩ := hrel
    by_cases hlt : 0 ≤ j
    · obtain ⟨k, rfl⟩ : ∃ k : Nat, j = k := ⟨j.toNat, by omega⟩
      obtain rfl : m = k + 1 := by omega
      clear hj
      obtain ⟨ys, hys, hw, hk⟩ := hP.out
      obtain ⟨zs, hzs⟩ : ∃ zs, zs = xs ++ ys := ⟨_, rfl⟩
      rw [← hzs] at hw
      obtain ⟨v, g1, g2, g3, g4, g5, g6⟩ := hw
      have hlen : zs.length + (k + 1) = xs.length + n := by
        have := congrArg List.length hys
        rw [List.length_append, be_len, be_len] at this
        rw [hzs, List.length_append]; omega
      obtain ⟨A, c, rfl, hnc, hcm, hnil, hxl⟩ := g2.form
      have k0 : wr.cell? ⟨b, 0, none⟩ = some (.slice A zs.length c) := by rw [blk_cell g1]; rfl
      have p0 := blk_free g1 0
      have hb := blk_lt g1
      have q0 : ∀ (d : Nat) (c' : Array Value) (t : TypeId), ((wr.drewN d).alloc (.cells c' t)).cell? ⟨b, 0, none⟩ = some (.slice A zs.length c) := fun n c t => cell_later (below_alloc (below_q0 _ _) _) k0
      have w8 : IntKind.i64.wrap (8 * (k : Int)) = 8 * k := IntWalk.i64_in _ (by omega)
      obtain ⟨E, hE⟩ : ∃ E, E = u / 256 ^ k % 256 := ⟨_, rfl⟩
      have hcv := shr_byte u k
      rw [← hE] at hcv
      have HE := Lib.hid hE
      have HZ := Lib.hid hzs
      have HY := Lib.hid hys
      have HR := Lib.hid g2
      have HX := Lib.hid (And.intro g1 (And.intro g3 (And.intro g4 (And.intro g5 g6))))
      have HK := Lib.hid hk
      have HLE := Lib.hid hlen
      have hzl : zs.length ≤ 1000000000 := by omega
      clear hE hzs hys g1 g2 g3 g4 g5 g6 hk hP hlen hxl
      go_wp2_with fail
      go_region_law
        ((refine step_append_row (by rfl) _ _ _ 5 _ 1 1 (by rfl) Tryd.underlying47 infoByte (by rfl) (by omega) (.slice A zs.length c) zs.length (bys zs) (by rfl) (HR.out.kept (Kept.ofBelow (by first | exact below_alloc (below_q0 _ _) _ | exact (below_alloc (Below.refl _ _) _).drew | exact below_alloc (Below.refl _ _) _) []) (by simp)) (some ⟨wr.heap.size, 0, none⟩) 1 1 [.int .u8 E] (by rfl) (by rfl) (by simp) (by omega) (rd_blkW (T := 5) (by first | exact heap_alloc_new (wr.drewN _) _ | exact heap_alloc_new wr _) (by simp [maxLen])) (by simp [Value.oneCell']) (by simp only [maxLen]; omega) (by omega) ?_; intro v1 w3 hrow3 hkk hb3; obtain ⟨A3, c3, rfl, _⟩ := hrow3.form; have q3 := hkk.cell (a := ⟨b, 0, none⟩) (cell_later (by first | exact below_alloc (below_q0 _ _) _ | exact (below_alloc (Below.refl _ _) _).drew | exact below_alloc (Below.refl _ _) _) k0) HX.out.2.1; have p3 := (hkk.frozen (a := ⟨b, 0, none⟩) (by simp; omega) HX.out.2.1).trans (frozen_then (by first | exact below_alloc (below_q0 _ _) _ | exact (below_alloc (Below.refl _ _) _).drew | exact below_alloc (Below.refl _ _) _) hb p0)))
      all_goals
        have hst := Lib.hid (WrO.step (zs := zs ++ [E]) HX.out (by first | exact (below_alloc (Below.refl _ _) _).drew | exact below_alloc (below_q0 _ _) _ | exact below_alloc (Below.refl _ _) _) hkk (by rw [bys_app]; exact hrow3) (by simp) hb3)
        go_wp2_with fail
        go_roundw
        case rel => exact ⟨k, _, by omega, rfl, rfl, ys ++ [E], by rw [List.append_assoc, ← HY.out, HE.out]; rfl, by rw [← List.append_assoc, ← HZ.out]; exact hst.out.1, HK.out.trans hst.out.2⟩
        case measure => first | (simp [intOf]; done) | (simp [intOf]; omega)
    · obtain rfl : m = 0 := by omega
      have hj0 : j < 0 := by omega
      clear hj
      go_wp2_with fail
      go_end0
      obtain ⟨ys, hys, hw, hk⟩ := hP.out
      simp only [be, List.append_nil] at hys
      subst hys
      exact ⟨rfl, hw, hk⟩
/-- Numbers of four bytes. -/
def be4 (xs : List Int) : List Int := xs.flatMap fun n => be (IntKind.u64.wrap n) 4
theorem be4_len (xs : List Int) : (be4 xs).length = 4 * xs.length := by
  induction xs with
  | nil => rfl
  | cons x xs ih =>
    simp only [be4, List.flatMap_cons, List.length_append, be_len, List.length_cons] at ih ⊢
    omega
theorem be4_next {xs : List Int} {k : Nat} {x : Int} (h : xs[k]? = some x) : be4 (xs.take (k + 1)) = be4 (xs.take k) ++ be (IntKind.u64.wrap x) 4 := by
  rw [List.take_add_one, h]
  simp [be4]
/-- What is read lies among X's blocks. -/
def InX (X : Nat → Prop) (A : Option Addr) : Prop := ∀ a, A = some a → X a.block
theorem KeptX.rs {X : Nat → Prop} {w w' : World} (h : KeptX X w w') {A : Option Addr} {cs : List Value} (hA : 0 < cs.length → InX X A) (hr : Rs w A cs) : Rs w' A cs := fun hn => by
  obtain ⟨b, off, e, hc⟩ := hr hn
  exact ⟨b, off, e, fun j hj => h.cell (a := ⟨b, off + j, none⟩) (hA hn ⟨b, off, none⟩ e) (hc j hj)⟩
set_option maxRecDepth 100000 in
set_option maxHeartbeats 1000000 in
theorem nums_any (ns : List Int) (A : Option Addr) (c : Nat) (X : Nat → Prop) (b : Nat) (xs : List Int) (w : World) (h : WrO X b xs w) (hA : 0 < ns.length → InX X A) (hr : Rs w A (ints ns)) (hl : xs.length + 4 * ns.length ≤ 1000000000) :
    Calls Tryd.prog 43 #[.pointer (some ⟨b, 0, none⟩), .slice A ns.length c] w (RetW X b (xs ++ be4 ns) w) := by
  have HW := Lib.hid h
  have HR := Lib.hid hr
  have HA := Lib.hid hA
  clear h hr hA
  go_enter Tryd.func43, Tryd.ntmps43
  go_wp2_with fail
  go_loopw [8] (fun iv wr => ∃ k : Nat, k ≤ ns.length ∧ iv = .int .i64 k ∧ Hid (WrO X b (xs ++ be4 (ns.take k)) wr ∧ KeptX X w wr)) (fun iv _ => ns.length - (intOf iv).toNat)
  case atStart => exact ⟨0, Nat.zero_le _, rfl, by simpa [be4] using HW.out, KeptX.refl _ _⟩
  case round =>
    obtain ⟨k, hk, rfl, hP⟩ := hrel
    by_cases hlt : k < ns.length
    · obtain ⟨x, hx⟩ : ∃ x, ns[k]? = some x := ⟨_, List.getElem?_eq_getElem hlt⟩
      obtain ⟨b1, o1, rfl, c1⟩ := rs_ri (hP.out.2.rs (by simpa using HA.out) HR.out) k x hx
      have HX := Lib.hid hx
      clear hx
      go_wp2_with fail
      refine (put_any 4 (by omega) (IntKind.u64.wrap x) X b (xs ++ be4 (ns.take k)) wr hP.out.1 (by rw [List.length_append, be4_len, List.length_take]; omega)).mono ?_
      rintro e w' ⟨rfl, hq⟩
      have HQ : Hid (WrO X b (xs ++ be4 (ns.take (k + 1))) w' ∧ KeptX X w w') := ⟨by rw [be4_next HX.out, ← List.append_assoc]; exact hq.1, hP.out.2.trans hq.2⟩
      clear hq hP
      go_wp2_with fail
      go_roundw
      case rel => exact ⟨k + 1, by omega, by go_num, HQ.out⟩
      case measure => simp [intOf]; omega
    · go_wp2_with fail
      go_end0
      have h2 := hP.out
      rw [List.take_of_length_le (by omega)] at h2
      exact ⟨rfl, h2⟩
end Go.Proofs.YtbpbimkadiobfaaDoor
