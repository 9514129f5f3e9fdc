/-
  ValueBinary holds for every operator's name and every two values.
-/
import Derived.Test.YtdeabmijoaepcaaPlainSeat
import Derived.Test.YtdeabmijoaepcaaLawBinary
import Derived.Lib.SmallJoins
namespace Go.Proofs.Ytdeabmijoaepcaa.ValueBinary
open Go.ChangeShapes Go.WideShapes Go.ChangeAt Go.RowKit Go.Stk

theorem readsAll : ∀ t ∈ (#[9, 24, 24] : Array Nat).toList, Try.prog.readableRec t = true ∧ t < Try.prog.types.size := by
  have h9 : Try.prog.readableRec 9 = true ∧ 9 < Try.prog.types.size := ⟨by kernel_rfl, of_decide_eq_true (by kernel_rfl)⟩
  have h24 : Try.prog.readableRec 24 = true ∧ 24 < Try.prog.types.size := ⟨by kernel_rfl, of_decide_eq_true (by kernel_rfl)⟩
  intro t ht
  simp only [List.mem_cons, List.not_mem_nil, or_false] at ht
  rcases ht with rfl | rfl | rfl <;> assumption

theorem contract (H : Type) (enc : TypeId × Value → H) (W : World) (base : Nat) (args : Array Value) (ds gs : List (DataW H)) (before : List MemPlace)
    (hval : ∀ (j : Nat) t v, Try.f4.params[j]? = some t → args[j]? = some v → Value.okWide Try.prog W .any base t v)
    (hW : DataW.Whole enc Try.prog Try.f4.params.toList Rows.valueBinarySpec.vars false W args.toList ds gs before) (_hsh : W.ShapedOpen Try.prog) :
    Calls Try.prog 4 args W fun e W' => ∃ v, e = .returned v ∧ Rows.valueBinarySpec.post enc Try.prog Try.f4 false true false false W args v W' := by
  have hW' := hW
  obtain ⟨p, q, hA0, hV, rfl, hfz, hnd⟩ := hW
  have hA : DataW.TrodAll enc Try.prog W 0 (fun _ => true) true Try.f4.params.toList args.toList ds p := hA0
  rw [Try.params4] at hA hval
  obtain ⟨v0, vs0, d0, ds0, p0, q0, hargs, rfl, rfl, h0, r0⟩ := trodAll_cons hA
  obtain ⟨v1, vs1, d1, ds1, p1, q1, rfl, rfl, rfl, h1, r1⟩ := trodAll_cons r0
  obtain ⟨v2, vs2, d2, ds2, p2, q2, rfl, rfl, rfl, h2, r2⟩ := trodAll_cons r1
  obtain ⟨rfl, rfl, rfl⟩ := trodAll_nil r2
  obtain rfl : args = #[v0, v1, v2] := by cases args; simp_all
  obtain ⟨rfl, rfl⟩ := trodVars_none hV
  obtain ⟨x0, rfl, rfl, rfl, z0⟩ := Go.ChangeMaps.open_string Try.underlying9 (hval 0 9 v0 rfl rfl) h0
  obtain ⟨ca1, cb1, cc1, ya1, yb1, yc1, m1, rfl, rfl, rfl, ha1, hb1, hc1⟩ := Joins.open_agg3 Try.underlying24 (by kernel_rfl) (by kernel_rfl) (hval 1 24 v1 rfl rfl) h1
  obtain ⟨t1, ea1, rfl, wt1⟩ := DataW.trod_int Try.underlying3 ha1
  obtain ⟨n1, eb1, rfl, wn1⟩ := DataW.trod_int Try.underlying3 hb1
  obtain ⟨b1, ec1, rfl, wb1⟩ := DataW.trod_int Try.underlying22 hc1
  simp at ea1 eb1 ec1
  subst ea1 eb1 ec1
  obtain ⟨ca2, cb2, cc2, ya2, yb2, yc2, m2, rfl, rfl, rfl, ha2, hb2, hc2⟩ := Joins.open_agg3 Try.underlying24 (by kernel_rfl) (by kernel_rfl) (hval 2 24 v2 rfl rfl) h2
  obtain ⟨t2, ea2, rfl, wt2⟩ := DataW.trod_int Try.underlying3 ha2
  obtain ⟨n2, eb2, rfl, wn2⟩ := DataW.trod_int Try.underlying3 hb2
  obtain ⟨b2, ec2, rfl, wb2⟩ := DataW.trod_int Try.underlying22 hc2
  simp at ea2 eb2 ec2
  subst ea2 eb2 ec2
  clear hA0 hval
  refine (binary_law x0 t1 n1 b1 t2 n2 b2 W (wfu64 wb1).1 (wfu64 wb2).1 (wf64 wn1).1 (wf64 wn1).2 (wf64 wn2).1 (wf64 wn2).2).mono fun e W' ⟨he, hb⟩ => ?_
  subst he
  exact ⟨_, rfl, post_law Seat.laidOut rfl Try.underlying4 rfl (by rw [Try.params4]; exact readsAll) hW' rfl hb⟩

/-- A world for the witness: the settled one. -/
noncomputable def laidWorld (os : Os) : World := World.holding Try.prog os ⟨#[], #[], []⟩
noncomputable def wargs : Array Value := #[.string ⟨#[]⟩, .agg #[.int .i64 0, .int .i64 0, .int .u64 0], .agg #[.int .i64 0, .int .i64 0, .int .u64 0]]
theorem laid_met (os : Os) : laidMet Try.prog Rows.valueBinaryRow.laid ((laidWorld os).forCall (fun _ _ => 0) ⟨#[], wargs, []⟩).memory :=
  laidMet_of_run (ps := []) 8 (by kernel_rfl) (by kernel_rfl) (by kernel_rfl)
theorem reads (os : Os) {H : Type} (enc : TypeId × Value → H) : ∃ places, DataW.whole enc Try.prog ((laidWorld os).forCall (fun _ _ => 0) ⟨#[], wargs, []⟩).memory Try.f4.params.toList Rows.valueBinarySpec.vars false wargs.toList 8 = some ([.lit (.string []), .agg [.lit (.int .i64 0), .lit (.int .i64 0), .lit (.int .u64 0)], .agg [.lit (.int .i64 0), .lit (.int .i64 0), .lit (.int .u64 0)]], [], places) :=
  ⟨[], by kernel_rfl⟩

set_option maxRecDepth 100000 in
theorem lifted (os : Os) (started : os.Started) (H : Type) (enc : TypeId × Value → H) (F : Stop.Interp) :
    ReturnsInHanded {} Try.checked os 4 .any ((OpenSpec.ofChange Rows.valueBinarySpec).preRow enc Try.prog Try.f4 Rows.valueBinaryRow.domain false Rows.valueBinaryRow.laid) (((OpenSpec.ofChange Rows.valueBinarySpec).at F).post enc Try.prog Try.f4 false true false false) := by
  obtain ⟨places, hx⟩ := reads os enc
  refine returnsInHanded_of_row (C := Try.checked) (s := OpenSpec.ofChange Rows.valueBinarySpec) Seat.own started (by kernel_rfl) Try.func4
    (witness_row_at (enc := enc) (C := Try.checked) false (laidWorld os) wargs rfl (by kernel_rfl) (by kernel_rfl) (by kernel_rfl)
      (OpenSpec.preRow_of_cond 8 hx (by kernel_rfl) (fun k hk => by cases hk) (by kernel_rfl) (laid_met os))) ?_
  intro W base args ds gs before hval hW _ _ _ _ hsh _
  exact contract H enc W base args ds gs before hval hW hsh

/-- THE ROW. -/
theorem said : Rows.ValueBinarySaid :=
  OpenClaim.holds_of_cond 4 Try.f4 rfl rfl rfl rfl rfl rfl rfl ⟨rfl, rfl, rfl, rfl, rfl⟩ rfl rfl rfl rfl rfl (by kernel_rfl) Try.func4 (by kernel_rfl)
    (of_decide_eq_true (by kernel_rfl)) (by unfold Func.isWrapper; first | (rw [if_pos (by decide +kernel)]; kernel_rfl) | (rw [if_neg (by decide +kernel)]; exact ⟨rfl, rfl⟩))
    (fun os started H enc _ F => by rw [OpenClaim.pre_eq_preRow]; exact lifted os started H enc F)
end Go.Proofs.Ytdeabmijoaepcaa.ValueBinary
