/-
  CodeForms holds for all codes: which are in form, what their bytes are, and that these are read back. No condition beyond the row's own.
-/
import Derived.Test.YtbpbimkadiobfaaDoorCards
import Derived.Test.YtbpbimkadiobfaaDoorTie
import Derived.Test.YtbpbimkadiobfaaDoorLawSeat
import Derived.Test.YtbpbimkadiobfaaDoorForms
import Derived.Test.YtbpbimkadiobfaaDoorArgs14
namespace Go.Proofs.YtbpbimkadiobfaaDoor.CodeForms
open Go.ChangeShapes Go.WideShapes Go.ChangeAt Go.RowKit Go.Stk

def sents : List (String × Nat × List UInt8) := [("stockade/api.ErrRange", 1, [115, 116, 111, 99, 107, 97, 100, 101, 58, 32, 114, 97, 110, 103, 101]), ("stockade/api.ErrText", 2, [115, 116, 111, 99, 107, 97, 100, 101, 58, 32, 116, 101, 120, 116]), ("stockade/api.ErrDepth", 3, [115, 116, 111, 99, 107, 97, 100, 101, 58, 32, 100, 101, 112, 116, 104]), ("stockade/api.ErrName", 4, [115, 116, 111, 99, 107, 97, 100, 101, 58, 32, 110, 97, 109, 101]), ("stockade/api.ErrType", 5, [115, 116, 111, 99, 107, 97, 100, 101, 58, 32, 116, 121, 112, 101]), ("stockade/api.ErrLarge", 6, [115, 116, 111, 99, 107, 97, 100, 101, 58, 32, 108, 97, 114, 103, 101]), ("stockade/api.ErrFull", 7, [115, 116, 111, 99, 107, 97, 100, 101, 58, 32, 102, 117, 108, 108]), ("stockade/api.ErrNone", 8, [115, 116, 111, 99, 107, 97, 100, 101, 58, 32, 110, 111, 110, 101]), ("stockade/api.ErrCode", 0, [115, 116, 111, 99, 107, 97, 100, 101, 58, 32, 99, 111, 100, 101]), ("stockade/api.ErrState", 9, [115, 116, 111, 99, 107, 97, 100, 101, 58, 32, 115, 116, 97, 116, 101]), ("stockade/api.ErrFrame", 10, [115, 116, 111, 99, 107, 97, 100, 101, 58, 32, 102, 114, 97, 109, 101]), ("stockade/api.ErrMac", 11, [115, 116, 111, 99, 107, 97, 100, 101, 58, 32, 109, 97, 99]), ("stockade/api.ErrReplay", 12, [115, 116, 111, 99, 107, 97, 100, 101, 58, 32, 114, 101, 112, 108, 97, 121]), ("stockade/api.ErrArena", 13, [115, 116, 111, 99, 107, 97, 100, 101, 58, 32, 97, 114, 101, 110, 97]), ("stockade/api.ErrClock", 14, [115, 116, 111, 99, 107, 97, 100, 101, 58, 32, 99, 108, 111, 99, 107]), ("stockade/api.ErrQuota", 15, [115, 116, 111, 99, 107, 97, 100, 101, 58, 32, 113, 117, 111, 116, 97]), ("stockade/api.ErrTenant", 16, [115, 116, 111, 99, 107, 97, 100, 101, 58, 32, 116, 101, 110, 97, 110, 116])]
theorem globals : ∀ x ∈ sents, Tryd.prog.globalNamed x.1 = some x.2.1 ∧ (Tryd.prog.globals[x.2.1]?).map (·.type) = some 36 := by
  intro x hx
  simp only [sents, List.mem_cons, List.not_mem_nil, or_false] at hx
  rcases hx with rfl | rfl | rfl | rfl | rfl | rfl | rfl | rfl | rfl | rfl | rfl | rfl | rfl | rfl | rfl | rfl | rfl
  · exact ⟨by kernel_rfl, by kernel_rfl⟩
  · exact ⟨by kernel_rfl, by kernel_rfl⟩
  · exact ⟨by kernel_rfl, by kernel_rfl⟩
  · exact ⟨by kernel_rfl, by kernel_rfl⟩
  · exact ⟨by kernel_rfl, by kernel_rfl⟩
  · exact ⟨by kernel_rfl, by kernel_rfl⟩
  · exact ⟨by kernel_rfl, by kernel_rfl⟩
  · exact ⟨by kernel_rfl, by kernel_rfl⟩
  · exact ⟨by kernel_rfl, by kernel_rfl⟩
  · exact ⟨by kernel_rfl, by kernel_rfl⟩
  · exact ⟨by kernel_rfl, by kernel_rfl⟩
  · exact ⟨by kernel_rfl, by kernel_rfl⟩
  · exact ⟨by kernel_rfl, by kernel_rfl⟩
  · exact ⟨by kernel_rfl, by kernel_rfl⟩
  · exact ⟨by kernel_rfl, by kernel_rfl⟩
  · exact ⟨by kernel_rfl, by kernel_rfl⟩
  · exact ⟨by kernel_rfl, by kernel_rfl⟩

theorem sent {W : World} (h : laidMetH Tryd.prog Rows.codeFormsRow.laid W) : ∃ ads, Sent W 116 [1, 2, 3, 4, 5, 6, 7, 8, 0, 9, 10, 11, 12, 13, 14, 15, 16] ads :=
  Seat.sent_of sents globals h

set_option maxRecDepth 100000 in
theorem readsAll : ∀ t ∈ (#[31] : Array Nat).toList, Tryd.prog.readableRec t = true ∧ t < Tryd.prog.types.size := by
  have h31 : Tryd.prog.readableRec 31 = true ∧ 31 < Tryd.prog.types.size := ⟨by kernel_rfl, of_decide_eq_true (by kernel_rfl)⟩
  intro t ht
  simp only [List.mem_cons, List.not_mem_nil, or_false] at ht
  rcases ht with rfl <;> assumption

theorem errs_of {W : World} {ads : List Addr} (hs : Sent W 116 [1, 2, 3, 4, 5, 6, 7, 8, 0, 9, 10, 11, 12, 13, 14, 15, 16] ads) : ∃ ec, Errs W ec ∧ ads[8]? = some ec := by
  have hl := hs.len
  obtain ⟨a0, h0⟩ : ∃ a, ads[8]? = some a := ⟨_, List.getElem?_eq_getElem (show 8 < ads.length by rw [hl]; decide)⟩
  exact ⟨_, ⟨hs.var 8 _ _ rfl h0⟩, h0⟩
theorem whole (W : World) (c : Co) (hc : CoOk W c) (ads : List Addr) (hs : Sent W 116 [1, 2, 3, 4, 5, 6, 7, 8, 0, 9, 10, 11, 12, 13, 14, 15, 16] ads) : Calls Tryd.prog 6 #[c.agg] W (Ret W (.bool true)) := by
  obtain ⟨ec, he, h8⟩ := errs_of hs
  exact forms_law c W hc ads hs ec he h8

set_option maxRecDepth 100000 in
theorem contract (H : Type) (enc : TypeId × Value → H) (W : World) (base : Nat) (args : Array Value) (ds gs : List (DataW H)) (before : List MemPlace)
    (hval : ∀ (j : Nat) t v, Tryd.f6.params[j]? = some t → args[j]? = some v → Value.okWide Tryd.prog W .any base t v)
    (hW : DataW.Whole enc Tryd.prog Tryd.f6.params.toList Rows.codeFormsSpec.vars false W args.toList ds gs before) (hL : laidMetH Tryd.prog Rows.codeFormsRow.laid W) (_hsh : W.ShapedOpen Tryd.prog) (hsz : (DataW.weightsEach Tryd.checked.prog (Tryd.f6.params.toList ++ (OpenSpec.ofChange Rows.codeFormsSpec).bare.plain.varTypes Tryd.checked.prog) (ds ++ gs)).all (· ≤ reachBytes) = true) :
    Calls Tryd.prog 6 args W fun e W' => ∃ v, e = .returned v ∧ Rows.codeFormsSpec.post enc Tryd.prog Tryd.f6 false true false false W args v W' := by
  have hW' := hW
  obtain ⟨p, q, hA0, hV, rfl, hfz, hnd⟩ := hW
  have hA : DataW.TrodAll enc Tryd.prog W 0 (fun _ => true) true Tryd.f6.params.toList args.toList ds p := hA0
  rw [Tryd.params6] at hA hval
  obtain ⟨v0, vs0, d0, ds0, p0, q0, hargs, rfl, rfl, h0, r0⟩ := trodAll_cons hA
  obtain ⟨rfl, rfl, rfl⟩ := trodAll_nil r0
  obtain rfl : args = #[v0] := by cases args; simp_all
  obtain ⟨rfl, rfl⟩ := trodVars_none hV
  have w0 := weights_of hsz (j := 0) (t := 31) (d := d0) rfl rfl
  obtain ⟨cs0, e0, _⟩ := okWide_struct Tryd.underlying31 (hval 0 31 v0 rfl rfl)
  obtain ⟨a0, q0, A0⟩ := opns_co.arg h0 w0
  obtain rfl := co_val e0 q0
  clear hA0 hval
  obtain ⟨ads, hs⟩ := sent hL
  refine (CodeForms.whole W a0 A0 ads hs).mono fun e W' ⟨he, hb⟩ => ?_
  subst he
  exact ⟨_, rfl, post_law Seat.laidOut rfl Tryd.underlying4 rfl (by rw [Tryd.params6]; exact readsAll) hW' rfl hb⟩

/-- A world for the witness: the settled one, the listed variables holding what their initialisers lay. -/
noncomputable def laidWorld (os : Os) : World :=
  let w0 := World.holding Tryd.prog os ⟨#[.cells #[.string ⟨ #[115, 116, 111, 99, 107, 97, 100, 101, 58, 32, 114, 97, 110, 103, 101]⟩] 141, .cells #[.string ⟨ #[115, 116, 111, 99, 107, 97, 100, 101, 58, 32, 116, 101, 120, 116]⟩] 141, .cells #[.string ⟨ #[115, 116, 111, 99, 107, 97, 100, 101, 58, 32, 100, 101, 112, 116, 104]⟩] 141, .cells #[.string ⟨ #[115, 116, 111, 99, 107, 97, 100, 101, 58, 32, 110, 97, 109, 101]⟩] 141, .cells #[.string ⟨ #[115, 116, 111, 99, 107, 97, 100, 101, 58, 32, 116, 121, 112, 101]⟩] 141, .cells #[.string ⟨ #[115, 116, 111, 99, 107, 97, 100, 101, 58, 32, 108, 97, 114, 103, 101]⟩] 141, .cells #[.string ⟨ #[115, 116, 111, 99, 107, 97, 100, 101, 58, 32, 102, 117, 108, 108]⟩] 141, .cells #[.string ⟨ #[115, 116, 111, 99, 107, 97, 100, 101, 58, 32, 110, 111, 110, 101]⟩] 141, .cells #[.string ⟨ #[115, 116, 111, 99, 107, 97, 100, 101, 58, 32, 99, 111, 100, 101]⟩] 141, .cells #[.string ⟨ #[115, 116, 111, 99, 107, 97, 100, 101, 58, 32, 115, 116, 97, 116, 101]⟩] 141, .cells #[.string ⟨ #[115, 116, 111, 99, 107, 97, 100, 101, 58, 32, 102, 114, 97, 109, 101]⟩] 141, .cells #[.string ⟨ #[115, 116, 111, 99, 107, 97, 100, 101, 58, 32, 109, 97, 99]⟩] 141, .cells #[.string ⟨ #[115, 116, 111, 99, 107, 97, 100, 101, 58, 32, 114, 101, 112, 108, 97, 121]⟩] 141, .cells #[.string ⟨ #[115, 116, 111, 99, 107, 97, 100, 101, 58, 32, 97, 114, 101, 110, 97]⟩] 141, .cells #[.string ⟨ #[115, 116, 111, 99, 107, 97, 100, 101, 58, 32, 99, 108, 111, 99, 107]⟩] 141, .cells #[.string ⟨ #[115, 116, 111, 99, 107, 97, 100, 101, 58, 32, 113, 117, 111, 116, 97]⟩] 141, .cells #[.string ⟨ #[115, 116, 111, 99, 107, 97, 100, 101, 58, 32, 116, 101, 110, 97, 110, 116]⟩] 141], #[], []⟩
  { w0 with heap := ((((((((((((((((w0.heap.modify 1 fun
      | .cells _ t frozen => .cells #[.iface 116 (.pointer (some ⟨Seat.low + 0, 0, none⟩))] t frozen
      | o => o).modify 2 fun
      | .cells _ t frozen => .cells #[.iface 116 (.pointer (some ⟨Seat.low + 1, 0, none⟩))] t frozen
      | o => o).modify 3 fun
      | .cells _ t frozen => .cells #[.iface 116 (.pointer (some ⟨Seat.low + 2, 0, none⟩))] t frozen
      | o => o).modify 4 fun
      | .cells _ t frozen => .cells #[.iface 116 (.pointer (some ⟨Seat.low + 3, 0, none⟩))] t frozen
      | o => o).modify 5 fun
      | .cells _ t frozen => .cells #[.iface 116 (.pointer (some ⟨Seat.low + 4, 0, none⟩))] t frozen
      | o => o).modify 6 fun
      | .cells _ t frozen => .cells #[.iface 116 (.pointer (some ⟨Seat.low + 5, 0, none⟩))] t frozen
      | o => o).modify 7 fun
      | .cells _ t frozen => .cells #[.iface 116 (.pointer (some ⟨Seat.low + 6, 0, none⟩))] t frozen
      | o => o).modify 8 fun
      | .cells _ t frozen => .cells #[.iface 116 (.pointer (some ⟨Seat.low + 7, 0, none⟩))] t frozen
      | o => o).modify 0 fun
      | .cells _ t frozen => .cells #[.iface 116 (.pointer (some ⟨Seat.low + 8, 0, none⟩))] t frozen
      | o => o).modify 9 fun
      | .cells _ t frozen => .cells #[.iface 116 (.pointer (some ⟨Seat.low + 9, 0, none⟩))] t frozen
      | o => o).modify 10 fun
      | .cells _ t frozen => .cells #[.iface 116 (.pointer (some ⟨Seat.low + 10, 0, none⟩))] t frozen
      | o => o).modify 11 fun
      | .cells _ t frozen => .cells #[.iface 116 (.pointer (some ⟨Seat.low + 11, 0, none⟩))] t frozen
      | o => o).modify 12 fun
      | .cells _ t frozen => .cells #[.iface 116 (.pointer (some ⟨Seat.low + 12, 0, none⟩))] t frozen
      | o => o).modify 13 fun
      | .cells _ t frozen => .cells #[.iface 116 (.pointer (some ⟨Seat.low + 13, 0, none⟩))] t frozen
      | o => o).modify 14 fun
      | .cells _ t frozen => .cells #[.iface 116 (.pointer (some ⟨Seat.low + 14, 0, none⟩))] t frozen
      | o => o).modify 15 fun
      | .cells _ t frozen => .cells #[.iface 116 (.pointer (some ⟨Seat.low + 15, 0, none⟩))] t frozen
      | o => o).modify 16 fun
      | .cells _ t frozen => .cells #[.iface 116 (.pointer (some ⟨Seat.low + 16, 0, none⟩))] t frozen
      | o => o }
noncomputable def wargs : Array Value := #[.agg #[.slice none 0 0, .int .i64 0, .int .i64 0, .slice none 0 0, .slice none 0 0, .int .i64 0, .slice none 0 0]]
theorem laid_met (os : Os) : laidMet Tryd.prog Rows.codeFormsRow.laid ((laidWorld os).forCall (fun _ _ => 0) ⟨#[], wargs, []⟩).memory :=
  laidMet_of_run (ps := [.cell 1 0, .cell (Seat.low + 0) 0, .cell 2 0, .cell (Seat.low + 1) 0, .cell 3 0, .cell (Seat.low + 2) 0, .cell 4 0, .cell (Seat.low + 3) 0, .cell 5 0, .cell (Seat.low + 4) 0, .cell 6 0, .cell (Seat.low + 5) 0, .cell 7 0, .cell (Seat.low + 6) 0, .cell 8 0, .cell (Seat.low + 7) 0, .cell 0 0, .cell (Seat.low + 8) 0, .cell 9 0, .cell (Seat.low + 9) 0, .cell 10 0, .cell (Seat.low + 10) 0, .cell 11 0, .cell (Seat.low + 11) 0, .cell 12 0, .cell (Seat.low + 12) 0, .cell 13 0, .cell (Seat.low + 13) 0, .cell 14 0, .cell (Seat.low + 14) 0, .cell 15 0, .cell (Seat.low + 15) 0, .cell 16 0, .cell (Seat.low + 16) 0]) 8 (by kernel_rfl) (by kernel_rfl) (by kernel_rfl)
theorem reads (os : Os) {H : Type} (enc : TypeId × Value → H) : ∃ places, DataW.whole enc Tryd.prog ((laidWorld os).forCall (fun _ _ => 0) ⟨#[], wargs, []⟩).memory Tryd.f6.params.toList Rows.codeFormsSpec.vars false wargs.toList 8 = some ([.agg [.nil, .lit (.int .i64 0), .lit (.int .i64 0), .nil, .nil, .lit (.int .i64 0), .nil]], [], places) :=
  ⟨[], by kernel_rfl⟩

set_option maxRecDepth 100000 in
theorem lifted (os : Os) (started : os.Started) (H : Type) (enc : TypeId × Value → H) (F : Stop.Interp) :
    ReturnsInHanded {} Tryd.checked os 6 .any ((OpenSpec.ofChange Rows.codeFormsSpec).preRow enc Tryd.prog Tryd.f6 Rows.codeFormsRow.domain false Rows.codeFormsRow.laid) (((OpenSpec.ofChange Rows.codeFormsSpec).at F).post enc Tryd.prog Tryd.f6 false true false false) := by
  obtain ⟨places, hx⟩ := reads os enc
  refine returnsInHanded_of_row (C := Tryd.checked) (s := OpenSpec.ofChange Rows.codeFormsSpec) Seat.own started (by kernel_rfl) Tryd.func6
    (witness_row_at (enc := enc) (C := Tryd.checked) false (laidWorld os) wargs rfl (by kernel_rfl) (by kernel_rfl) (by kernel_rfl)
      (OpenSpec.preRow_of_cond 8 hx (by kernel_rfl) (fun k hk => by cases hk) (by kernel_rfl) (laid_met os))) ?_
  intro W base args ds gs before hval hW _ _ hsz hL hsh _
  exact contract H enc W base args ds gs before hval hW hL hsh hsz

theorem said : Rows.CodeFormsSaid :=
  OpenClaim.holds_of_cond 6 Tryd.f6 rfl rfl rfl rfl rfl rfl rfl ⟨rfl, rfl, rfl, rfl, rfl⟩ rfl rfl rfl rfl rfl (by kernel_rfl) Tryd.func6 (by kernel_rfl)
    (of_decide_eq_true (by kernel_rfl)) (by unfold Func.isWrapper; first | (rw [if_pos (by decide +kernel)]; kernel_rfl) | (rw [if_neg (by decide +kernel)]; exact ⟨rfl, rfl⟩))
    (fun os started H enc _ F => by rw [OpenClaim.pre_eq_preRow]; exact lifted os started H enc F)

set_option maxRecDepth 100000 in
theorem plain (f : FuncId) (fn : Func) (hf : Tryd.pinned.checked.prog.funcNamed "stockade/stockadelaw14.CodeForms" = some f) (hfn : Tryd.pinned.checked.prog.funcs[f]? = some fn) :
    true = Tryd.pinned.checked.prog.looks [] ∧ ∀ (j : Nat) t, fn.params[j]? = some t → Tryd.pinned.checked.prog.wantsStandIn t = false := by
  obtain rfl : f = 6 := Option.some.inj ((show Tryd.prog.funcNamed "stockade/stockadelaw14.CodeForms" = some 6 by kernel_rfl).symm.trans hf) |>.symm
  obtain rfl : fn = Tryd.f6 := (Option.some.inj (Tryd.func6.symm.trans hfn)).symm
  refine ⟨by kernel_rfl, fun j t ht => ?_⟩
  rw [Tryd.params6] at ht
  have hm : t ∈ (#[31] : Array Nat) := Array.mem_of_getElem? ht
  have h31 : Tryd.prog.wantsStandIn 31 = false := by kernel_rfl
  simp only [List.mem_toArray, List.mem_cons, List.not_mem_nil, or_false] at hm
  rcases hm with rfl <;> assumption

/-- THE CARD. -/
theorem card : Rows.CodeFormsCardSaid :=
  Claim7.holds_tied_plain_at .later [] _ _ _ _ said (fun _ h => by cases h) (by kernel_rfl) (fun _ h => by cases h) codeForms_row_tie rfl ⟨rfl, rfl⟩ (by kernel_rfl) rfl plain (by kernel_rfl)
end Go.Proofs.YtbpbimkadiobfaaDoor.CodeForms
