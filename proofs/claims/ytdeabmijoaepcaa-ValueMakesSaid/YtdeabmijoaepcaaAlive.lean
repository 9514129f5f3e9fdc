/-
  The walk of the law's alive.
-/
import Derived.Test.YtdeabmijoaepcaaVal10
namespace Go.Proofs.Ytdeabmijoaepcaa
open Go.RowKit Go.Stk

/-- Three cells of a block, seen later on. -/
structure L3 (B : Nat) (a b c : Value) (W : World) : Prop where
  c0 : W.cell? ⟨B, 0, none⟩ = some a
  c1 : W.cell? ⟨B, 1, none⟩ = some b
  c2 : W.cell? ⟨B, 2, none⟩ = some c
  sz : B < W.heap.size
theorem lc3_new (W : World) (a b c : Value) (T : TypeId) : L3 W.heap.size a b c (W.alloc (.cells #[a, b, c] T)) := by
  have h2 : (W.alloc (.cells #[a, b, c] T)).heap[W.heap.size]? = some (.cells #[a, b, c] T (0, 0)) := by
    show ((W.heap.push _))[W.heap.size]? = _
    simp only [Array.getElem?_push]; rw [if_pos trivial]
  constructor
  all_goals first
    | simp only [World.cell?, h2]; rfl
    | (simp; done)
theorem L3.later {B : Nat} {a b c : Value} {W W' : World} (h : L3 B a b c W) (hb : Below W.heap.size W W') : L3 B a b c W' :=
  ⟨cell_later hb h.c0, cell_later hb h.c1, cell_later hb h.c2, Nat.lt_of_lt_of_le h.sz hb.size⟩

theorem bl (a : Array UInt8) : (ByteArray.toList ⟨a⟩) = a.toList := by simp [ByteArray.toList_eq]
theorem al1 : intsR [47] (-7) 2 = .tuple #[.agg #[.int .i64 1, .int .i64 (-3), .int .u64 0], .int .i64 0] := by simp [intsR, okR, intA, wrap64]
theorem al2 : unR [45] ⟨2, 0, 0⟩ = .tuple #[.agg #[.int .i64 2, .int .i64 0, .int .u64 9223372036854775808], .int .i64 0] := by rfl
theorem al3 : unR [105, 110, 116] ⟨2, 0, 4890909195324358656⟩ = .tuple #[.agg #[.int .i64 0, .int .i64 0, .int .u64 0], .int .i64 3] := by rfl
theorem alive_any (w : World) : Calls Try.prog 12 #[] w (Ret w (.bool true)) := by
  go_enter Try.func12, Try.ntmps12
  go_wp2_with fail
  refine (valInt_any (-7) _).mono ?_
  rintro e w1 ⟨rfl, hb⟩
  go_wp2_with fail
  refine (valInt_any 2 _).mono ?_
  rintro e w2 ⟨rfl, hbx⟩
  replace hb := below_next hb hbx
  clear hbx
  go_wp2_with fail
  have hj := bin_int_op ⟨#[47]⟩ ⟨1, -7, 0⟩ ⟨1, 2, 0⟩ w2 rfl rfl rfl rfl (by rw [bl]; rfl)
  rw [bl, show intsR (Array.toList #[47]) (Val.mk 1 (-7) 0).n (Val.mk 1 2 0).n = _ from al1] at hj
  refine hj.mono ?_
  rintro e w3 ⟨rfl, hbx⟩
  clear hj
  replace hb := below_next hb hbx
  clear hbx
  go_wp2_with fail
  have p1 := lc3_new w3 (.int .i64 1) (.int .i64 (-3)) (.int .u64 0) 24
  refine (valZero_any 2 _).mono ?_
  rintro e w4 ⟨rfl, hbx⟩
  replace p1 := p1.later hbx
  replace hb := below_next (below_alloc hb _) hbx
  clear hbx
  rw [show (zeroOf 2).agg = .agg #[.int .i64 2, .int .i64 0, .int .u64 0] from rfl]
  go_wp2_with fail
  have hj := unary_any ⟨#[45]⟩ ⟨2, 0, 0⟩ w4
  rw [bl, show unR (Array.toList #[45]) ⟨2, 0, 0⟩ = _ from al2] at hj
  refine hj.mono ?_
  rintro e w5 ⟨rfl, hbx⟩
  clear hj
  replace p1 := p1.later hbx
  replace hb := below_next hb hbx
  clear hbx
  go_wp2_with fail
  have p2 := lc3_new w5 (.int .i64 2) (.int .i64 0) (.int .u64 9223372036854775808) 24
  replace p1 := p1.later ((Below.refl w5.heap.size w5).alloc (Nat.le_refl _) (.cells #[.int .i64 2, .int .i64 0, .int .u64 9223372036854775808] 24))
  refine (valFloat_any 4890909195324358656 _).mono ?_
  rintro e w6 ⟨rfl, hbx⟩
  replace p1 := p1.later hbx
  replace p2 := p2.later hbx
  replace hb := below_next (below_alloc hb _) hbx
  clear hbx
  go_wp2_with fail
  have hj := unary_any ⟨#[105, 110, 116]⟩ ⟨2, 0, 4890909195324358656⟩ w6
  rw [bl, show unR (Array.toList #[105, 110, 116]) ⟨2, 0, 4890909195324358656⟩ = _ from al3] at hj
  refine hj.mono ?_
  rintro e w7 ⟨rfl, hbx⟩
  clear hj
  obtain ⟨p0, p1, p2', p3⟩ := p1.later hbx
  obtain ⟨q0, q1, q2, q3⟩ := p2.later hbx
  replace hb := below_next hb hbx
  clear hbx
  go_wp2
  go_ret
  exact ⟨rfl, below_alloc hb _⟩
end Go.Proofs.Ytdeabmijoaepcaa
