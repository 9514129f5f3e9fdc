/-
  CodeSame holds for all pairs of codes and all numbers: which codes are the same, which operators have which numbers. No condition beyond the row's own.
-/
import Derived.Test.YtbpbimkadiobfaaDoorCards
import Derived.Test.YtbpbimkadiobfaaDoorTie
import Derived.Test.YtbpbimkadiobfaaDoorLawSeat
import Derived.Test.YtbpbimkadiobfaaDoorCode17
import Derived.Test.YtbpbimkadiobfaaDoorArgs14
namespace Go.Proofs.YtbpbimkadiobfaaDoor.CodeSame
open Go.ChangeShapes Go.WideShapes Go.ChangeAt Go.RowKit Go.Stk

def sents : List (String × Nat × List UInt8) := [("stockade/api.ErrCode", 0, [115, 116, 111, 99, 107, 97, 100, 101, 58, 32, 99, 111, 100, 101])]
theorem globals : ∀ x ∈ sents, Tryd.prog.globalNamed x.1 = some x.2.1 ∧ (Tryd.prog.globals[x.2.1]?).map (·.type) = some 36 := by
  intro x hx
  simp only [sents, List.mem_cons, List.not_mem_nil, or_false] at hx
  rcases hx with rfl
  · exact ⟨by kernel_rfl, by kernel_rfl⟩

theorem sent {W : World} (h : laidMetH Tryd.prog Rows.codeSameRow.laid W) : ∃ ads, Sent W 116 [0] ads :=
  Seat.sent_of sents globals h

set_option maxRecDepth 100000 in
theorem readsAll : ∀ t ∈ (#[42] : Array Nat).toList, Tryd.prog.readableRec t = true ∧ t < Tryd.prog.types.size := by
  have h42 : Tryd.prog.readableRec 42 = true ∧ 42 < Tryd.prog.types.size := ⟨by kernel_rfl, of_decide_eq_true (by kernel_rfl)⟩
  intro t ht
  simp only [List.mem_cons, List.not_mem_nil, or_false] at ht
  rcases ht with rfl <;> assumption

theorem errs_of {W : World} {ads : List Addr} (hs : Sent W 116 [0] ads) : ∃ ec, Errs W ec ∧ ads[0]? = some ec := by
  have hl := hs.len
  obtain ⟨a0, h0⟩ : ∃ a, ads[0]? = some a := ⟨_, List.getElem?_eq_getElem (show 0 < ads.length by rw [hl]; decide)⟩
  exact ⟨_, ⟨hs.var 0 _ _ rfl h0⟩, h0⟩
theorem whole (W : World) (a b : Co) (x n : Int) (ha : CoOk W a) (hb : CoOk W b) (ads : List Addr) (hs : Sent W 116 [0] ads) : Calls Tryd.prog 5 #[pairAgg a b x n] W (Ret W (.bool true)) := by
  obtain ⟨ec, he, h8⟩ := errs_of hs
  exact same_law a b x n W ha.rep hb.rep ec he

set_option maxRecDepth 100000 in
theorem contract (H : Type) (enc : TypeId × Value → H) (W : World) (base : Nat) (args : Array Value) (ds gs : List (DataW H)) (before : List MemPlace)
    (hval : ∀ (j : Nat) t v, Tryd.f5.params[j]? = some t → args[j]? = some v → Value.okWide Tryd.prog W .any base t v)
    (hW : DataW.Whole enc Tryd.prog Tryd.f5.params.toList Rows.codeSameSpec.vars false W args.toList ds gs before) (hL : laidMetH Tryd.prog Rows.codeSameRow.laid W) (_hsh : W.ShapedOpen Tryd.prog) (hsz : (DataW.weightsEach Tryd.checked.prog (Tryd.f5.params.toList ++ (OpenSpec.ofChange Rows.codeSameSpec).bare.plain.varTypes Tryd.checked.prog) (ds ++ gs)).all (· ≤ reachBytes) = true) :
    Calls Tryd.prog 5 args W fun e W' => ∃ v, e = .returned v ∧ Rows.codeSameSpec.post enc Tryd.prog Tryd.f5 false true false false W args v W' := by
  have hW' := hW
  obtain ⟨p, q, hA0, hV, rfl, hfz, hnd⟩ := hW
  have hA : DataW.TrodAll enc Tryd.prog W 0 (fun _ => true) true Tryd.f5.params.toList args.toList ds p := hA0
  rw [Tryd.params5] at hA hval
  obtain ⟨v0, vs0, d0, ds0, p0, q0, hargs, rfl, rfl, h0, r0⟩ := trodAll_cons hA
  obtain ⟨rfl, rfl, rfl⟩ := trodAll_nil r0
  obtain rfl : args = #[v0] := by cases args; simp_all
  obtain ⟨rfl, rfl⟩ := trodVars_none hV
  have w0 := weights_of hsz (j := 0) (t := 42) (d := d0) rfl rfl
  obtain ⟨cs0, e0, _⟩ := okWide_struct Tryd.underlying42 (hval 0 42 v0 rfl rfl)
  obtain ⟨a0, b0, x0, n0, q0, A0, B0, _, _⟩ := opns_pair.arg h0 w0
  obtain rfl := pair_val e0 q0
  clear hA0 hval
  obtain ⟨ads, hs⟩ := sent hL
  refine (CodeSame.whole W a0 b0 x0 n0 A0 B0 ads hs).mono fun e W' ⟨he, hb⟩ => ?_
  subst he
  exact ⟨_, rfl, post_law Seat.laidOut rfl Tryd.underlying4 rfl (by rw [Tryd.params5]; exact readsAll) hW' rfl hb⟩

/-- A world for the witness: the settled one, the listed variables holding what their initialisers lay. -/
noncomputable def laidWorld (os : Os) : World :=
  let w0 := World.holding Tryd.prog os ⟨#[.cells #[.string ⟨ #[115, 116, 111, 99, 107, 97, 100, 101, 58, 32, 99, 111, 100, 101]⟩] 141], #[], []⟩
  { w0 with heap := w0.heap.modify 0 fun
      | .cells _ t frozen => .cells #[.iface 116 (.pointer (some ⟨Seat.low + 0, 0, none⟩))] t frozen
      | o => o }
noncomputable def wargs : Array Value := #[.agg #[.slice none 0 0, .int .i64 0, .int .i64 0, .slice none 0 0, .slice none 0 0, .int .i64 0, .slice none 0 0, .slice none 0 0, .int .i64 0, .int .i64 0, .slice none 0 0, .slice none 0 0, .int .i64 0, .slice none 0 0, .int .i64 0, .int .i64 0]]
theorem laid_met (os : Os) : laidMet Tryd.prog Rows.codeSameRow.laid ((laidWorld os).forCall (fun _ _ => 0) ⟨#[], wargs, []⟩).memory :=
  laidMet_of_run (ps := [.cell 0 0, .cell (Seat.low + 0) 0]) 8 (by kernel_rfl) (by kernel_rfl) (by kernel_rfl)
theorem reads (os : Os) {H : Type} (enc : TypeId × Value → H) : ∃ places, DataW.whole enc Tryd.prog ((laidWorld os).forCall (fun _ _ => 0) ⟨#[], wargs, []⟩).memory Tryd.f5.params.toList Rows.codeSameSpec.vars false wargs.toList 8 = some ([.agg [.agg [.nil, .lit (.int .i64 0), .lit (.int .i64 0), .nil, .nil, .lit (.int .i64 0), .nil], .agg [.nil, .lit (.int .i64 0), .lit (.int .i64 0), .nil, .nil, .lit (.int .i64 0), .nil], .lit (.int .i64 0), .lit (.int .i64 0)]], [], places) :=
  ⟨[], by kernel_rfl⟩

set_option maxRecDepth 100000 in
theorem lifted (os : Os) (started : os.Started) (H : Type) (enc : TypeId × Value → H) (F : Stop.Interp) :
    ReturnsInHanded {} Tryd.checked os 5 .any ((OpenSpec.ofChange Rows.codeSameSpec).preRow enc Tryd.prog Tryd.f5 Rows.codeSameRow.domain false Rows.codeSameRow.laid) (((OpenSpec.ofChange Rows.codeSameSpec).at F).post enc Tryd.prog Tryd.f5 false true false false) := by
  obtain ⟨places, hx⟩ := reads os enc
  refine returnsInHanded_of_row (C := Tryd.checked) (s := OpenSpec.ofChange Rows.codeSameSpec) Seat.own started (by kernel_rfl) Tryd.func5
    (witness_row_at (enc := enc) (C := Tryd.checked) false (laidWorld os) wargs rfl (by kernel_rfl) (by kernel_rfl) (by kernel_rfl)
      (OpenSpec.preRow_of_cond 8 hx (by kernel_rfl) (fun k hk => by cases hk) (by kernel_rfl) (laid_met os))) ?_
  intro W base args ds gs before hval hW _ _ hsz hL hsh _
  exact contract H enc W base args ds gs before hval hW hL hsh hsz

theorem said : Rows.CodeSameSaid :=
  OpenClaim.holds_of_cond 5 Tryd.f5 rfl rfl rfl rfl rfl rfl rfl ⟨rfl, rfl, rfl, rfl, rfl⟩ rfl rfl rfl rfl rfl (by kernel_rfl) Tryd.func5 (by kernel_rfl)
    (of_decide_eq_true (by kernel_rfl)) (by unfold Func.isWrapper; first | (rw [if_pos (by decide +kernel)]; kernel_rfl) | (rw [if_neg (by decide +kernel)]; exact ⟨rfl, rfl⟩))
    (fun os started H enc _ F => by rw [OpenClaim.pre_eq_preRow]; exact lifted os started H enc F)

set_option maxRecDepth 100000 in
theorem plain (f : FuncId) (fn : Func) (hf : Tryd.pinned.checked.prog.funcNamed "stockade/stockadelaw14.CodeSame" = some f) (hfn : Tryd.pinned.checked.prog.funcs[f]? = some fn) :
    true = Tryd.pinned.checked.prog.looks [] ∧ ∀ (j : Nat) t, fn.params[j]? = some t → Tryd.pinned.checked.prog.wantsStandIn t = false := by
  obtain rfl : f = 5 := Option.some.inj ((show Tryd.prog.funcNamed "stockade/stockadelaw14.CodeSame" = some 5 by kernel_rfl).symm.trans hf) |>.symm
  obtain rfl : fn = Tryd.f5 := (Option.some.inj (Tryd.func5.symm.trans hfn)).symm
  refine ⟨by kernel_rfl, fun j t ht => ?_⟩
  rw [Tryd.params5] at ht
  have hm : t ∈ (#[42] : Array Nat) := Array.mem_of_getElem? ht
  have h42 : Tryd.prog.wantsStandIn 42 = false := by kernel_rfl
  simp only [List.mem_toArray, List.mem_cons, List.not_mem_nil, or_false] at hm
  rcases hm with rfl <;> assumption

/-- THE CARD. -/
theorem card : Rows.CodeSameCardSaid :=
  Claim7.holds_tied_plain_at .later [] _ _ _ _ said (fun _ h => by cases h) (by kernel_rfl) (fun _ h => by cases h) codeSame_row_tie rfl ⟨rfl, rfl⟩ (by kernel_rfl) rfl plain (by kernel_rfl)
end Go.Proofs.YtbpbimkadiobfaaDoor.CodeSame
