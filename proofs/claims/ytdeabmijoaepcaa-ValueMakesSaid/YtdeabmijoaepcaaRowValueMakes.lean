/-
  ValueMakes holds for every two values, every int and all bits.
-/
import Derived.Test.YtdeabmijoaepcaaPlainSeat
import Derived.Test.YtdeabmijoaepcaaMakes
import Derived.Test.YtdeabmijoaepcaaArgs10
import Derived.Lib.SmallJoins
namespace Go.Proofs.Ytdeabmijoaepcaa.ValueMakes
open Go.ChangeShapes Go.WideShapes Go.ChangeAt Go.RowKit Go.Stk

theorem readsAll : ∀ t ∈ (#[48] : Array Nat).toList, Try.prog.readableRec t = true ∧ t < Try.prog.types.size := by
  have h48 : Try.prog.readableRec 48 = true ∧ 48 < Try.prog.types.size := ⟨by kernel_rfl, of_decide_eq_true (by kernel_rfl)⟩
  intro t ht
  simp only [List.mem_cons, List.not_mem_nil, or_false] at ht
  rcases ht with rfl <;> assumption

theorem contract (H : Type) (enc : TypeId × Value → H) (W : World) (base : Nat) (args : Array Value) (ds gs : List (DataW H)) (before : List MemPlace)
    (hval : ∀ (j : Nat) t v, Try.f11.params[j]? = some t → args[j]? = some v → Value.okWide Try.prog W .any base t v)
    (hW : DataW.Whole enc Try.prog Try.f11.params.toList Rows.valueMakesSpec.vars false W args.toList ds gs before) (_hsh : W.ShapedOpen Try.prog) :
    Calls Try.prog 11 args W fun e W' => ∃ v, e = .returned v ∧ Rows.valueMakesSpec.post enc Try.prog Try.f11 false true false false W args v W' := by
  have hW' := hW
  obtain ⟨p, q, hA0, hV, rfl, hfz, hnd⟩ := hW
  have hA : DataW.TrodAll enc Try.prog W 0 (fun _ => true) true Try.f11.params.toList args.toList ds p := hA0
  rw [Try.params11] at hA hval
  obtain ⟨v0, vs0, d0, ds0, p0, q0, hargs, rfl, rfl, h0, r0⟩ := trodAll_cons hA
  obtain ⟨rfl, rfl, rfl⟩ := trodAll_nil r0
  obtain rfl : args = #[v0] := by cases args; simp_all
  obtain ⟨rfl, rfl⟩ := trodVars_none hV
  obtain ⟨cs0, rfl, hsz0⟩ := okWide_struct Try.underlying48 (hval 0 48 v0 rfl rfl)
  obtain ⟨mv0, mu0, mn0, mb0, e0⟩ := opn_made.arg h0
  obtain rfl : cs0 = #[.int .i64 mv0.t, .int .i64 mv0.n, .int .u64 mv0.b, .int .i64 mu0.t, .int .i64 mu0.n, .int .u64 mu0.b, .int .i64 mn0, .int .u64 mb0] := by
    apply Array.ext'
    simpa [Value.cells] using e0
  clear hA0 hval
  refine (makes_law mv0 mu0 mn0 mb0 W).mono fun e W' ⟨he, hb⟩ => ?_
  subst he
  exact ⟨_, rfl, post_law Seat.laidOut rfl Try.underlying4 rfl (by rw [Try.params11]; exact readsAll) hW' rfl hb⟩

/-- A world for the witness: the settled one. -/
noncomputable def laidWorld (os : Os) : World := World.holding Try.prog os ⟨#[], #[], []⟩
noncomputable def wargs : Array Value := #[.agg #[.int .i64 0, .int .i64 0, .int .u64 0, .int .i64 0, .int .i64 0, .int .u64 0, .int .i64 0, .int .u64 0]]
theorem laid_met (os : Os) : laidMet Try.prog Rows.valueMakesRow.laid ((laidWorld os).forCall (fun _ _ => 0) ⟨#[], wargs, []⟩).memory :=
  laidMet_of_run (ps := []) 8 (by kernel_rfl) (by kernel_rfl) (by kernel_rfl)
theorem reads (os : Os) {H : Type} (enc : TypeId × Value → H) : ∃ places, DataW.whole enc Try.prog ((laidWorld os).forCall (fun _ _ => 0) ⟨#[], wargs, []⟩).memory Try.f11.params.toList Rows.valueMakesSpec.vars false wargs.toList 8 = some ([.agg [.agg [.lit (.int .i64 0), .lit (.int .i64 0), .lit (.int .u64 0)], .agg [.lit (.int .i64 0), .lit (.int .i64 0), .lit (.int .u64 0)], .lit (.int .i64 0), .lit (.int .u64 0)]], [], places) :=
  ⟨[], by kernel_rfl⟩

set_option maxRecDepth 100000 in
theorem lifted (os : Os) (started : os.Started) (H : Type) (enc : TypeId × Value → H) (F : Stop.Interp) :
    ReturnsInHanded {} Try.checked os 11 .any ((OpenSpec.ofChange Rows.valueMakesSpec).preRow enc Try.prog Try.f11 Rows.valueMakesRow.domain false Rows.valueMakesRow.laid) (((OpenSpec.ofChange Rows.valueMakesSpec).at F).post enc Try.prog Try.f11 false true false false) := by
  obtain ⟨places, hx⟩ := reads os enc
  refine returnsInHanded_of_row (C := Try.checked) (s := OpenSpec.ofChange Rows.valueMakesSpec) Seat.own started (by kernel_rfl) Try.func11
    (witness_row_at (enc := enc) (C := Try.checked) false (laidWorld os) wargs rfl (by kernel_rfl) (by kernel_rfl) (by kernel_rfl)
      (OpenSpec.preRow_of_cond 8 hx (by kernel_rfl) (fun k hk => by cases hk) (by kernel_rfl) (laid_met os))) ?_
  intro W base args ds gs before hval hW _ _ _ _ hsh _
  exact contract H enc W base args ds gs before hval hW hsh

/-- THE ROW. -/
theorem said : Rows.ValueMakesSaid :=
  OpenClaim.holds_of_cond 11 Try.f11 rfl rfl rfl rfl rfl rfl rfl ⟨rfl, rfl, rfl, rfl, rfl⟩ rfl rfl rfl rfl rfl (by kernel_rfl) Try.func11 (by kernel_rfl)
    (of_decide_eq_true (by kernel_rfl)) (by unfold Func.isWrapper; first | (rw [if_pos (by decide +kernel)]; kernel_rfl) | (rw [if_neg (by decide +kernel)]; exact ⟨rfl, rfl⟩))
    (fun os started H enc _ F => by rw [OpenClaim.pre_eq_preRow]; exact lifted os started H enc F)
end Go.Proofs.Ytdeabmijoaepcaa.ValueMakes
