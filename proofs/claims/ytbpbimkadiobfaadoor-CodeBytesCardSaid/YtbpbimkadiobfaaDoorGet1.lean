/-
  A code's bytes: the reader of numbers.
-/
import Derived.Test.YtbpbimkadiobfaaDoorPut3
import Derived.Laws.AppendOwn
import Derived.IntWalk
namespace Go.Proofs.YtbpbimkadiobfaaDoor
open Go.RowKit Go.Stk
attribute [local go_sem ↓] Go.wp_at_zero Go.wp_at_succ

/-- A number of bytes, the greatest first. -/
def deb (l : List Int) : Int := l.foldl (fun u x => u * 256 + x) 0
def Byt (l : List Int) : Prop := ∀ x ∈ l, 0 ≤ x ∧ x ≤ 255
theorem deb_snoc (l : List Int) (x : Int) : deb (l ++ [x]) = deb l * 256 + x := by simp [deb]
theorem deb_lt {l : List Int} (h : Byt l) : 0 ≤ deb l ∧ deb l < 256 ^ l.length := by
  have : ∀ (m : List Int) (u : Int) (k : Nat), Byt m → 0 ≤ u → u < 256 ^ k → 0 ≤ m.foldl (fun u x => u * 256 + x) u ∧ m.foldl (fun u x => u * 256 + x) u < 256 ^ (k + m.length) := by
    intro m
    induction m with
    | nil => intro u k _ h0 h1; exact ⟨h0, h1⟩
    | cons x m ih =>
      intro u k hm h0 h1
      have hx := hm x (by simp)
      have h2 := ih (u * 256 + x) (k + 1) (fun y hy => hm y (by simp [hy])) (by omega) (by rw [Int.pow_succ]; omega)
      rw [List.foldl_cons, List.length_cons, show k + (m.length + 1) = k + 1 + m.length by omega]
      exact h2
  have h1 := this l 0 0 h (by omega) (by decide)
  rwa [Nat.zero_add] at h1
theorem wrap_u64_id {x : Int} (h0 : 0 ≤ x) (h1 : x < 18446744073709551616) : IntKind.u64.wrap x = x := by
  have : IntKind.u64.wrap x = x % 18446744073709551616 := by simp [IntKind.wrap, IntKind.bits, IntKind.signed]
  omega
theorem or_byte {D x : Int} (h0 : 0 ≤ D) (h1 : D < 72057594037927936) (hx : 0 ≤ x ∧ x ≤ 255) : bits BinOp.or IntKind.u64 (IntKind.u64.wrap (D * 256)) (IntKind.u64.wrap x) = D * 256 + x := by
  rw [wrap_u64_id (by omega) (by omega), wrap_u64_id (by omega) (by omega)]
  obtain ⟨d, rfl⟩ : ∃ d : Nat, D = d := ⟨D.toNat, by omega⟩
  obtain ⟨y, rfl⟩ : ∃ y : Nat, x = y := ⟨x.toNat, by omega⟩
  show IntKind.u64.wrap ((BitVec.ofInt 64 ((d : Int) * 256) ||| BitVec.ofInt 64 (y : Int) : BitVec 64).toNat) = _
  have : (BitVec.ofInt 64 ((d : Int) * 256) ||| BitVec.ofInt 64 (y : Int) : BitVec 64).toNat = d * 256 + y := by
    rw [BitVec.toNat_or, BitVec.toNat_ofInt, BitVec.toNat_ofInt]
    have e1 : (((d : Int) * 256) % ((2 ^ 64 : Nat) : Int)).toNat = 2 ^ 8 * d := by omega
    have e2 : ((y : Int) % ((2 ^ 64 : Nat) : Int)).toNat = y := by omega
    have := Nat.two_pow_add_eq_or_of_lt (i := 8) (b := y) (show y < 2 ^ 8 by omega) d
    rw [e1, e2, ← this]
    omega
  rw [this, wrap_u64_id (by omega) (by omega)]
  omega
theorem pow_mono {i j : Nat} (h : i ≤ j) : (256 : Int) ^ i ≤ 256 ^ j := by
  have := Nat.pow_le_pow_right (show 0 < 256 by decide) h
  have e : ∀ n : Nat, (256 : Int) ^ n = ((256 ^ n : Nat) : Int) := fun n => by simp
  rw [e, e]; omega
theorem or_next {l : List Int} (hB : Byt l) {k : Nat} (hk : k ≤ 7) {x : Int} (hx : l[k]? = some x) : bits BinOp.or IntKind.u64 (IntKind.u64.wrap (deb (l.take k) * 256)) (IntKind.u64.wrap x) = deb (l.take (k + 1)) := by
  have h1 := deb_lt (l := l.take k) fun y hy => hB y (List.mem_of_mem_take hy)
  have h2 : (256 : Int) ^ (l.take k).length ≤ 256 ^ 7 := pow_mono (by rw [List.length_take]; omega)
  have h3 : (256 : Int) ^ 7 = 72057594037927936 := by decide
  rw [or_byte h1.1 (by omega) (hB x (List.mem_of_getElem? hx)), List.take_add_one, hx, Option.toList_some, deb_snoc]
/-- A reader at b: what is left is l, bytes of block g. -/
def RdO (w : World) (b g : Nat) (l : List Int) : Prop := ∃ off c, w.heap[b]? = some (.cells #[.slice (some ⟨g, off, none⟩) l.length c] 86 (0, 0)) ∧ Rs w (some ⟨g, off, none⟩) (bys l) ∧ l.length ≤ c ∧ c ≤ maxLen ∧ g ≠ b ∧ g < w.heap.size
set_option maxRecDepth 100000 in
set_option maxHeartbeats 1000000 in
theorem get_ok (n : Nat) (hn : n ≤ 8) (b g : Nat) (l : List Int) (hB : Byt l) (w : World) (h : RdO w b g l) (hl : n ≤ l.length) :
    Calls Tryd.prog 59 #[.pointer (some ⟨b, 0, none⟩), .int .i64 n] w fun e w' => e = .returned (.int .u64 (deb (l.take n))) ∧ RdO w' b g (l.drop n) ∧ Kept [b] w w' := by
  obtain ⟨off, c, h1, h2, h3, h4, h5, h6⟩ := h
  have f0 : w.cell? ⟨b, 0, none⟩ = some (.slice (some ⟨g, off, none⟩) l.length c) := by rw [blk_cell h1]; rfl
  have p0 := blk_free h1 0
  have HR := Lib.hid h2
  have HB := Lib.hid hB
  have H1 := Lib.hid h1
  have d1 : decide ((l.length : Int) < n) = false := decide_eq_false (by omega)
  unfold maxLen at h4
  clear h1 h2 hB
  go_enter Tryd.func59, Tryd.ntmps59
  go_wp2_with fail
  go_loop [5, 24] (fun uv iv => ∃ k : Nat, k ≤ n ∧ iv = .int .i64 k ∧ uv = .int .u64 (deb (l.take k))) (fun _ iv => n - (intOf iv).toNat)
  case atStart => exact ⟨0, Nat.zero_le _, rfl, rfl⟩
  case round =>
    obtain ⟨k, hk, rfl, rfl⟩ := hrel
    by_cases hlt : k < n
    · obtain ⟨x, hx⟩ : ∃ x, l[k]? = some x := ⟨_, List.getElem?_eq_getElem (by omega)⟩
      obtain ⟨b1, o1, e1, hc⟩ := HR.out (by rw [bys_len]; omega)
      injection e1 with e1
      injection e1 with e2 e3 _
      subst e2 e3
      have c1 : w.cell? ⟨g, off + k, none⟩ = some (.int .u8 x) := by
        rw [hc k (by rw [bys_len]; omega)]
        simp [bys, (List.getElem?_eq_some_iff.1 hx).2]
      have HX := Lib.hid (or_next HB.out (by omega) hx)
      clear hx hc
      go_wp2_with fail
      go_round
      case rel => exact ⟨k + 1, by omega, by go_num, by rw [HX.out]⟩
      case measure => simp [intOf]; omega
    · obtain rfl : k = n := by omega
      have fin : ∀ (o' c' : Nat), c' = c - k → (o' = off + k ∨ l.length ≤ k) → RdO (w.setCell ⟨b, 0, none⟩ (.slice (some ⟨g, o', none⟩) (l.length - k) c')) b g (l.drop k) ∧ Kept [b] w (w.setCell ⟨b, 0, none⟩ (.slice (some ⟨g, o', none⟩) (l.length - k) c')) := by
        intro o' c' hc' ho
        have hk1 : Kept [b] w (w.setCell ⟨b, 0, none⟩ (.slice (some ⟨g, o', none⟩) (l.length - k) c')) := (Kept.refl _ _).set _ _ (.inl (by simp))
        refine ⟨⟨o', c', by rw [blk_set H1.out, List.length_drop]; rfl, fun hp => ?_, by rw [List.length_drop]; omega, by simp only [maxLen]; omega, h5, Nat.lt_of_lt_of_le h6 hk1.size⟩, hk1⟩
        rw [bys_len, List.length_drop] at hp
        have ho2 : o' = off + k := by omega
        subst ho2
        obtain ⟨b1, o1, e1, hc⟩ := HR.out (by rw [bys_len]; omega)
        injection e1 with e1
        injection e1 with e2 e3 _
        subst e2 e3
        refine ⟨g, off + k, rfl, fun j hj => ?_⟩
        rw [bys_len, List.length_drop] at hj
        refine hk1.cell (a := ⟨g, off + k + j, none⟩) ?_ (by simpa using h5)
        rw [Nat.add_assoc, hc (k + j) (by rw [bys_len]; omega)]
        simp [bys]
      have FIN := Lib.hid fin
      clear fin
      go_wp2_with fail
      all_goals
        go_ret
        exact ⟨rfl, FIN.out _ _ (by omega) (by omega)⟩
theorem get_short (n : Nat) (b g : Nat) (l : List Int) (w : World) (h : RdO w b g l) (hl : l.length < n) :
    Calls Tryd.prog 59 #[.pointer (some ⟨b, 0, none⟩), .int .i64 n] w fun e w' => e = .panicked [{ v := .iface 83 (.agg #[]), recovered := false }] ∧ w' = w := by
  obtain ⟨off, c, h1, h2, h3, h4, h5, h6⟩ := h
  have f0 : w.cell? ⟨b, 0, none⟩ = some (.slice (some ⟨g, off, none⟩) l.length c) := by rw [blk_cell h1]; rfl
  have d1 : decide ((l.length : Int) < n) = true := decide_eq_true (by omega)
  clear h1 h2
  go_enter Tryd.func59, Tryd.ntmps59
  go_wp2_with fail
  exact ⟨rfl, rfl, rfl⟩
/-- The panic of bytes that end too soon. -/
def shortP : List PanicEntry := [{ v := .iface 83 (.agg #[]), recovered := false }]
theorem wrap_i64_small {x : Int} (h0 : 0 ≤ x) (h1 : x < 9223372036854775808) : IntKind.i64.wrap x = x := IntWalk.i64_in _ (by omega)
theorem deb4 {l : List Int} (hB : Byt l) : 0 ≤ deb (l.take 4) ∧ deb (l.take 4) < 4294967296 := by
  have h1 := deb_lt (l := l.take 4) fun y hy => hB y (List.mem_of_mem_take hy)
  have h2 : (256 : Int) ^ (l.take 4).length ≤ 256 ^ 4 := pow_mono (by rw [List.length_take]; omega)
  have h3 : (256 : Int) ^ 4 = 4294967296 := by decide
  omega
theorem num_ok (b g : Nat) (l : List Int) (hB : Byt l) (w : World) (h : RdO w b g l) (hl : 4 ≤ l.length) :
    Calls Tryd.prog 58 #[.pointer (some ⟨b, 0, none⟩)] w fun e w' => e = .returned (.int .i64 (deb (l.take 4))) ∧ RdO w' b g (l.drop 4) ∧ Kept [b] w w' := by
  have HG := Lib.hid (get_ok 4 (by omega) b g l hB w h hl)
  obtain ⟨h0, h1⟩ := deb4 hB
  have hw : IntKind.i64.wrap (deb (l.take 4)) = deb (l.take 4) := wrap_i64_small h0 (by omega)
  have hw2 : wrap64 (deb (l.take 4)) = deb (l.take 4) := by unfold wrap64; omega
  clear h hB
  go_enter Tryd.func58, Tryd.ntmps58
  go_wp2_with fail
  refine HG.out.mono ?_
  rintro e w' ⟨rfl, h2, h3⟩
  have HX := Lib.hid (And.intro h2 h3)
  clear h2 h3
  go_wp2_with fail
  go_ret
  exact ⟨rfl, HX.out⟩
theorem num_short (b g : Nat) (l : List Int) (w : World) (h : RdO w b g l) (hl : l.length < 4) :
    Calls Tryd.prog 58 #[.pointer (some ⟨b, 0, none⟩)] w fun e w' => e = .panicked shortP ∧ w' = w := by
  have HG := Lib.hid (get_short 4 b g l w h hl)
  clear h
  go_enter Tryd.func58, Tryd.ntmps58
  go_wp2_with fail
  refine HG.out.mono ?_
  rintro e w' ⟨rfl, rfl⟩
  go_wp2_with fail
  exact ⟨rfl, rfl, rfl⟩
/-- Numbers of four bytes, read. -/
def deb4s : Nat → List Int → List Int
  | 0, _ => []
  | n + 1, l => deb (l.take 4) :: deb4s n (l.drop 4)
theorem deb4s_len : ∀ (n : Nat) (l : List Int), (deb4s n l).length = n
  | 0, _ => rfl
  | n + 1, l => by simp [deb4s, deb4s_len n]
theorem deb4s_snoc : ∀ (n : Nat) (l : List Int), deb4s (n + 1) l = deb4s n l ++ [deb ((l.drop (4 * n)).take 4)]
  | 0, l => by simp [deb4s]
  | n + 1, l => by
    rw [deb4s, deb4s_snoc n, deb4s, List.drop_drop, show 4 + 4 * n = 4 * (n + 1) by omega]
    rfl
theorem Byt.drop {l : List Int} (h : Byt l) (n : Nat) : Byt (l.drop n) := fun x hx => h x (List.mem_of_mem_drop hx)
theorem RdO.kept {w w' : World} {b g : Nat} {l : List Int} (h : RdO w b g l) {fp : List Nat} (hk : Kept fp w w') (hb : b ∉ fp) (hg : g ∉ fp) : RdO w' b g l := by
  obtain ⟨off, c, h1, h2, h3, h4, h5, h6⟩ := h
  refine ⟨off, c, hk.heap h1 hb, fun hn => ?_, h3, h4, h5, Nat.lt_of_lt_of_le h6 hk.size⟩
  obtain ⟨b1, o1, e1, hc⟩ := h2 hn
  injection e1 with e1
  injection e1 with e2 e3 _
  subst e2 e3
  exact ⟨g, off, rfl, fun j hj => hk.cell (a := ⟨g, off + j, none⟩) (hc j hj) hg⟩
theorem RdO.later {w w' : World} {b g : Nat} {l : List Int} (h : RdO w b g l) (hb : Below w.heap.size w w') : RdO w' b g l := h.kept (Kept.ofBelow hb []) (by simp) (by simp)
theorem infoI8 : (Tryd.prog.info? 3).map (fun i => (i.zero, i.size, i.bytes)) = some (some (.int .i64 0), 1, 8) := by kernel_rfl
theorem made_i (m : Nat) : madeCells #[.int .i64 0] m = (ints (List.replicate m 0)).toArray := by
  apply Array.ext'
  simp only [ints, madeCells, List.map_replicate]
  rw [List.eq_replicate_iff]
  simp [Nat.mod_one]
theorem zeros_set (xs : List Int) (m : Nat) (v : Int) (h : 0 < m) : (ints (xs ++ List.replicate m 0)).set xs.length (.int .i64 v) = ints ((xs ++ [v]) ++ List.replicate (m - 1) 0) := by
  obtain ⟨k, rfl⟩ : ∃ k, m = k + 1 := ⟨m - 1, by omega⟩
  rw [List.replicate_succ]
  simp [ints]
/-- A row of numbers just read, at o. -/
def Got (w : World) (o : Nat) (xs : List Int) : Prop := w.heap[o]? = some (.cells (ints xs).toArray 3 (0, 0))
set_option maxRecDepth 100000 in
set_option maxHeartbeats 1000000 in
theorem getNums_ok (m : Nat) (b g : Nat) (l : List Int) (hB : Byt l) (w : World) (h : RdO w b g l) (hl : 4 * m ≤ l.length) (hm : l.length ≤ 1000000000) :
    Calls Tryd.prog 57 #[.pointer (some ⟨b, 0, none⟩), .int .i64 m] w fun e w' => ∃ o, e = .returned (.slice (some ⟨o, 0, none⟩) m m) ∧ w.heap.size ≤ o ∧ Got w' o (deb4s m l) ∧ RdO w' b g (l.drop (4 * m)) ∧ Kept [b] w w' := by
  have HR := Lib.hid h
  have HB := Lib.hid hB
  obtain ⟨off, c, h1, h2, h3, h4, h5, h6⟩ := h
  have f0 : w.cell? ⟨b, 0, none⟩ = some (.slice (some ⟨g, off, none⟩) l.length c) := by rw [blk_cell h1]; rfl
  have hbl := blk_lt h1
  have hmk := make_one (P := Tryd.prog) 24 3 (.int .i64 0) 8 Tryd.underlying24 infoI8 rfl (by decide) m (by omega)
  have hb1 : Below w.heap.size w (w.alloc (.cells (madeCells #[.int .i64 0] m) 3)) := below_alloc (Below.refl _ _) _
  have H0 : Hid (RdO (w.alloc (.cells (madeCells #[.int .i64 0] m) 3)) b g l ∧ Kept [b] w (w.alloc (.cells (madeCells #[.int .i64 0] m) 3)) ∧ Got (w.alloc (.cells (madeCells #[.int .i64 0] m) 3)) w.heap.size (List.replicate m 0)) :=
    ⟨HR.out.later hb1, Kept.ofBelow hb1 _, by unfold Got; rw [blk_new, made_i]⟩
  have d1 : decide (((l.length : Int) / 4) < (m : Int)) = false := decide_eq_false (by omega)
  have HG := Lib.hid h6
  clear h1 h2 h3 h4 h5 h6 hb1 hB
  go_enter Tryd.func57, Tryd.ntmps57
  go_wp2_with fail
  clear hmk f0 d1 hbl
  generalize hw1 : w.alloc (.cells (madeCells #[.int .i64 0] m) 3) = w1 at H0 ⊢
  clear hw1
  go_loopw [21] (fun iv wr => ∃ k : Nat, k ≤ m ∧ iv = .int .i64 k ∧ Hid (RdO wr b g (l.drop (4 * k)) ∧ Kept [b] w wr ∧ Got wr w.heap.size (deb4s k l ++ List.replicate (m - k) 0))) (fun iv _ => m - (intOf iv).toNat)
  case atStart => exact ⟨0, Nat.zero_le _, rfl, H0.out⟩
  case round =>
    clear H0
    obtain ⟨k, hk, rfl, hP⟩ := hrel
    by_cases hlt : k < m
    · obtain ⟨h1, h2, h3⟩ := hP.out
      have HC := Lib.hid (num_ok b g (l.drop (4 * k)) (HB.out.drop _) wr h1 (by rw [List.length_drop]; omega))
      have hb : b < w.heap.size := by obtain ⟨off, c, h1, _⟩ := HR.out; exact blk_lt h1
      have HG3 := Lib.hid h3
      have HK2 := Lib.hid h2
      clear h1 h2 h3 hP
      go_wp2_with fail
      refine HC.out.mono ?_
      rintro e w2 ⟨rfl, h1, h2⟩
      have h3 := h2.heap HG3.out (by simp; omega)
      have p3 := blk_free h3 k
      have hsz : w.heap.size < w2.heap.size := blk_lt h3
      obtain ⟨cv, c3⟩ : ∃ cv, w2.cell? ⟨w.heap.size, k, none⟩ = some cv := by
        rw [blk_cell h3]
        exact ⟨_, List.getElem?_toArray ▸ List.getElem?_eq_getElem (by simp [deb4s_len]; omega)⟩
      have hrd : l.drop (4 * (k + 1)) = (l.drop (4 * k)).drop 4 := by rw [List.drop_drop]; congr 1
      have HN : Hid (RdO (w2.setCell ⟨w.heap.size, k, none⟩ (.int .i64 (deb ((l.drop (4 * k)).take 4)))) b g (l.drop (4 * (k + 1))) ∧ Kept [b] w (w2.setCell ⟨w.heap.size, k, none⟩ (.int .i64 (deb ((l.drop (4 * k)).take 4)))) ∧ Got (w2.setCell ⟨w.heap.size, k, none⟩ (.int .i64 (deb ((l.drop (4 * k)).take 4)))) w.heap.size (deb4s (k + 1) l ++ List.replicate (m - (k + 1)) 0)) := by
        have hks : Kept [w.heap.size] w2 (w2.setCell ⟨w.heap.size, k, none⟩ (.int .i64 (deb ((l.drop (4 * k)).take 4)))) := (Kept.refl _ _).set _ _ (.inl (by simp))
        have hgl := HG.out
        refine ⟨?_, ?_, ?_⟩
        · rw [hrd]
          exact h1.kept hks (by simp; omega) (by simp; omega)
        · exact (HK2.out.trans h2 fun i hi => .inl hi).set _ _ (.inr (Nat.le_refl _))
        · show _ = _
          rw [blk_set h3]
          have hl := deb4s_len k l
          have hz := zeros_set (deb4s k l) (m - k) (deb ((l.drop (4 * k)).take 4)) (by omega)
          rw [hl] at hz
          rw [deb4s_snoc, show m - (k + 1) = m - k - 1 by omega, ← hz, List.setIfInBounds_toArray]
      clear h1 h2 h3 hrd
      go_wp2_with fail
      go_roundw
      case rel => exact ⟨k + 1, by omega, by go_num, HN.out⟩
      case measure => simp [intOf]; omega
    · obtain rfl : k = m := by omega
      go_wp2_with fail
      go_ret
      have h := hP.out
      rw [Nat.sub_self, List.replicate_zero, List.append_nil] at h
      exact ⟨_, rfl, Nat.le_refl _, h.2.2, h.1, h.2.1⟩
theorem getNums_short (m : Int) (b g : Nat) (l : List Int) (w : World) (h : RdO w b g l) (hl : (l.length : Int) < 4 * m) (hm : m < 4294967296) :
    Calls Tryd.prog 57 #[.pointer (some ⟨b, 0, none⟩), .int .i64 m] w fun e w' => e = .panicked shortP ∧ w' = w := by
  obtain ⟨off, c, h1, h2, h3, h4, h5⟩ := h
  have f0 : w.cell? ⟨b, 0, none⟩ = some (.slice (some ⟨g, off, none⟩) l.length c) := by rw [blk_cell h1]; rfl
  have d1 : decide (((l.length : Int) / 4) < m) = true := decide_eq_true (by omega)
  unfold maxLen at h4
  clear h1 h2
  go_enter Tryd.func57, Tryd.ntmps57
  go_wp2_with fail
  exact ⟨rfl, rfl, rfl⟩
end Go.Proofs.YtbpbimkadiobfaaDoor
