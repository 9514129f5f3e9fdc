/-
  CodeBytes holds for all lists of bytes: which are a code's, that what is read is written as it was, and that what is handed in stays. No condition beyond the row's own.
-/
import Derived.Test.YtbpbimkadiobfaaDoorCards
import Derived.Test.YtbpbimkadiobfaaDoorTie
import Derived.Test.YtbpbimkadiobfaaDoorLawSeat
import Derived.Test.YtbpbimkadiobfaaDoorCBytes
import Derived.Test.YtbpbimkadiobfaaDoorArgs14
namespace Go.Proofs.YtbpbimkadiobfaaDoor.CodeBytes
open Go.ChangeShapes Go.WideShapes Go.ChangeAt Go.RowKit Go.Stk

def sents : List (String × Nat × List UInt8) := [("stockade/api.ErrRange", 1, [115, 116, 111, 99, 107, 97, 100, 101, 58, 32, 114, 97, 110, 103, 101]), ("stockade/api.ErrText", 2, [115, 116, 111, 99, 107, 97, 100, 101, 58, 32, 116, 101, 120, 116]), ("stockade/api.ErrDepth", 3, [115, 116, 111, 99, 107, 97, 100, 101, 58, 32, 100, 101, 112, 116, 104]), ("stockade/api.ErrName", 4, [115, 116, 111, 99, 107, 97, 100, 101, 58, 32, 110, 97, 109, 101]), ("stockade/api.ErrType", 5, [115, 116, 111, 99, 107, 97, 100, 101, 58, 32, 116, 121, 112, 101]), ("stockade/api.ErrLarge", 6, [115, 116, 111, 99, 107, 97, 100, 101, 58, 32, 108, 97, 114, 103, 101]), ("stockade/api.ErrFull", 7, [115, 116, 111, 99, 107, 97, 100, 101, 58, 32, 102, 117, 108, 108]), ("stockade/api.ErrNone", 8, [115, 116, 111, 99, 107, 97, 100, 101, 58, 32, 110, 111, 110, 101]), ("stockade/api.ErrCode", 0, [115, 116, 111, 99, 107, 97, 100, 101, 58, 32, 99, 111, 100, 101]), ("stockade/api.ErrState", 9, [115, 116, 111, 99, 107, 97, 100, 101, 58, 32, 115, 116, 97, 116, 101]), ("stockade/api.ErrFrame", 10, [115, 116, 111, 99, 107, 97, 100, 101, 58, 32, 102, 114, 97, 109, 101]), ("stockade/api.ErrMac", 11, [115, 116, 111, 99, 107, 97, 100, 101, 58, 32, 109, 97, 99]), ("stockade/api.ErrReplay", 12, [115, 116, 111, 99, 107, 97, 100, 101, 58, 32, 114, 101, 112, 108, 97, 121]), ("stockade/api.ErrArena", 13, [115, 116, 111, 99, 107, 97, 100, 101, 58, 32, 97, 114, 101, 110, 97]), ("stockade/api.ErrClock", 14, [115, 116, 111, 99, 107, 97, 100, 101, 58, 32, 99, 108, 111, 99, 107]), ("stockade/api.ErrQuota", 15, [115, 116, 111, 99, 107, 97, 100, 101, 58, 32, 113, 117, 111, 116, 97]), ("stockade/api.ErrTenant", 16, [115, 116, 111, 99, 107, 97, 100, 101, 58, 32, 116, 101, 110, 97, 110, 116])]
theorem globals : ∀ x ∈ sents, Tryd.prog.globalNamed x.1 = some x.2.1 ∧ (Tryd.prog.globals[x.2.1]?).map (·.type) = some 36 := by
  intro x hx
  simp only [sents, List.mem_cons, List.not_mem_nil, or_false] at hx
  rcases hx with rfl | rfl | rfl | rfl | rfl | rfl | rfl | rfl | rfl | rfl | rfl | rfl | rfl | rfl | rfl | rfl | rfl
  · exact ⟨by kernel_rfl, by kernel_rfl⟩
  · exact ⟨by kernel_rfl, by kernel_rfl⟩
  · exact ⟨by kernel_rfl, by kernel_rfl⟩
  · exact ⟨by kernel_rfl, by kernel_rfl⟩
  · exact ⟨by kernel_rfl, by kernel_rfl⟩
  · exact ⟨by kernel_rfl, by kernel_rfl⟩
  · exact ⟨by kernel_rfl, by kernel_rfl⟩
  · exact ⟨by kernel_rfl, by kernel_rfl⟩
  · exact ⟨by kernel_rfl, by kernel_rfl⟩
  · exact ⟨by kernel_rfl, by kernel_rfl⟩
  · exact ⟨by kernel_rfl, by kernel_rfl⟩
  · exact ⟨by kernel_rfl, by kernel_rfl⟩
  · exact ⟨by kernel_rfl, by kernel_rfl⟩
  · exact ⟨by kernel_rfl, by kernel_rfl⟩
  · exact ⟨by kernel_rfl, by kernel_rfl⟩
  · exact ⟨by kernel_rfl, by kernel_rfl⟩
  · exact ⟨by kernel_rfl, by kernel_rfl⟩

theorem sent {W : World} (h : laidMetH Tryd.prog Rows.codeBytesRow.laid W) : ∃ ads, Sent W 116 [1, 2, 3, 4, 5, 6, 7, 8, 0, 9, 10, 11, 12, 13, 14, 15, 16] ads :=
  Seat.sent_of sents globals h

set_option maxRecDepth 100000 in
theorem readsAll : ∀ t ∈ (#[47] : Array Nat).toList, Tryd.prog.readableRec t = true ∧ t < Tryd.prog.types.size := by
  have h47 : Tryd.prog.readableRec 47 = true ∧ 47 < Tryd.prog.types.size := ⟨by kernel_rfl, of_decide_eq_true (by kernel_rfl)⟩
  intro t ht
  simp only [List.mem_cons, List.not_mem_nil, or_false] at ht
  rcases ht with rfl <;> assumption

theorem errs_of {W : World} {ads : List Addr} (hs : Sent W 116 [1, 2, 3, 4, 5, 6, 7, 8, 0, 9, 10, 11, 12, 13, 14, 15, 16] ads) : ∃ ec, Errs W ec ∧ ads[8]? = some ec := by
  have hl := hs.len
  obtain ⟨a0, h0⟩ : ∃ a, ads[8]? = some a := ⟨_, List.getElem?_eq_getElem (show 8 < ads.length by rw [hl]; decide)⟩
  exact ⟨_, ⟨hs.var 8 _ _ rfl h0⟩, h0⟩
theorem whole (W : World) (x : List Int) (A : Option Addr) (c : Nat) (hx : Rs W A (bys x)) (hn : A = none → c = 0) (hl : x.length ≤ 9223372036854775807) (hB : Byt x) (ads : List Addr) (hs : Sent W 116 [1, 2, 3, 4, 5, 6, 7, 8, 0, 9, 10, 11, 12, 13, 14, 15, 16] ads) : Calls Tryd.prog 7 #[.slice A x.length c] W (Ret W (.bool true)) := by
  obtain ⟨ec, he, h8⟩ := errs_of hs
  exact bytes_law x A c W hx hn hl hB ads hs ec he h8

set_option maxRecDepth 100000 in
theorem contract (H : Type) (enc : TypeId × Value → H) (W : World) (base : Nat) (args : Array Value) (ds gs : List (DataW H)) (before : List MemPlace)
    (hval : ∀ (j : Nat) t v, Tryd.f7.params[j]? = some t → args[j]? = some v → Value.okWide Tryd.prog W .any base t v)
    (hW : DataW.Whole enc Tryd.prog Tryd.f7.params.toList Rows.codeBytesSpec.vars false W args.toList ds gs before) (hL : laidMetH Tryd.prog Rows.codeBytesRow.laid W) (_hsh : W.ShapedOpen Tryd.prog) :
    Calls Tryd.prog 7 args W fun e W' => ∃ v, e = .returned v ∧ Rows.codeBytesSpec.post enc Tryd.prog Tryd.f7 false true false false W args v W' := by
  have hW' := hW
  obtain ⟨p, q, hA0, hV, rfl, hfz, hnd⟩ := hW
  have hA : DataW.TrodAll enc Tryd.prog W 0 (fun _ => true) true Tryd.f7.params.toList args.toList ds p := hA0
  rw [Tryd.params7] at hA hval
  obtain ⟨v0, vs0, d0, ds0, p0, q0, hargs, rfl, rfl, h0, r0⟩ := trodAll_cons hA
  obtain ⟨rfl, rfl, rfl⟩ := trodAll_nil r0
  obtain rfl : args = #[v0] := by cases args; simp_all
  obtain ⟨rfl, rfl⟩ := trodVars_none hV
  obtain ⟨y0, l0, m0, e0⟩ := okWide_slice Tryd.underlying47 (hval 0 47 v0 rfl rfl)
  obtain ⟨a0, c0, x0, q0, R0, n0, k0, B0⟩ := opn_bytes.arg h0
  obtain rfl : v0 = .slice a0 x0.length c0 := by rw [e0] at q0 ⊢; simpa [Value.cells] using q0
  clear hA0 hval
  obtain ⟨ads, hs⟩ := sent hL
  refine (CodeBytes.whole W x0 a0 c0 R0 n0 k0 B0 ads hs).mono fun e W' ⟨he, hb⟩ => ?_
  subst he
  exact ⟨_, rfl, post_law Seat.laidOut rfl Tryd.underlying4 rfl (by rw [Tryd.params7]; exact readsAll) hW' rfl hb⟩

/-- A world for the witness: the settled one, the listed variables holding what their initialisers lay. -/
noncomputable def laidWorld (os : Os) : World :=
  let w0 := World.holding Tryd.prog os ⟨#[.cells #[.string ⟨ #[115, 116, 111, 99, 107, 97, 100, 101, 58, 32, 114, 97, 110, 103, 101]⟩] 141, .cells #[.string ⟨ #[115, 116, 111, 99, 107, 97, 100, 101, 58, 32, 116, 101, 120, 116]⟩] 141, .cells #[.string ⟨ #[115, 116, 111, 99, 107, 97, 100, 101, 58, 32, 100, 101, 112, 116, 104]⟩] 141, .cells #[.string ⟨ #[115, 116, 111, 99, 107, 97, 100, 101, 58, 32, 110, 97, 109, 101]⟩] 141, .cells #[.string ⟨ #[115, 116, 111, 99, 107, 97, 100, 101, 58, 32, 116, 121, 112, 101]⟩] 141, .cells #[.string ⟨ #[115, 116, 111, 99, 107, 97, 100, 101, 58, 32, 108, 97, 114, 103, 101]⟩] 141, .cells #[.string ⟨ #[115, 116, 111, 99, 107, 97, 100, 101, 58, 32, 102, 117, 108, 108]⟩] 141, .cells #[.string ⟨ #[115, 116, 111, 99, 107, 97, 100, 101, 58, 32, 110, 111, 110, 101]⟩] 141, .cells #[.string ⟨ #[115, 116, 111, 99, 107, 97, 100, 101, 58, 32, 99, 111, 100, 101]⟩] 141, .cells #[.string ⟨ #[115, 116, 111, 99, 107, 97, 100, 101, 58, 32, 115, 116, 97, 116, 101]⟩] 141, .cells #[.string ⟨ #[115, 116, 111, 99, 107, 97, 100, 101, 58, 32, 102, 114, 97, 109, 101]⟩] 141, .cells #[.string ⟨ #[115, 116, 111, 99, 107, 97, 100, 101, 58, 32, 109, 97, 99]⟩] 141, .cells #[.string ⟨ #[115, 116, 111, 99, 107, 97, 100, 101, 58, 32, 114, 101, 112, 108, 97, 121]⟩] 141, .cells #[.string ⟨ #[115, 116, 111, 99, 107, 97, 100, 101, 58, 32, 97, 114, 101, 110, 97]⟩] 141, .cells #[.string ⟨ #[115, 116, 111, 99, 107, 97, 100, 101, 58, 32, 99, 108, 111, 99, 107]⟩] 141, .cells #[.string ⟨ #[115, 116, 111, 99, 107, 97, 100, 101, 58, 32, 113, 117, 111, 116, 97]⟩] 141, .cells #[.string ⟨ #[115, 116, 111, 99, 107, 97, 100, 101, 58, 32, 116, 101, 110, 97, 110, 116]⟩] 141], #[], []⟩
  { w0 with heap := ((((((((((((((((w0.heap.modify 1 fun
      | .cells _ t frozen => .cells #[.iface 116 (.pointer (some ⟨Seat.low + 0, 0, none⟩))] t frozen
      | o => o).modify 2 fun
      | .cells _ t frozen => .cells #[.iface 116 (.pointer (some ⟨Seat.low + 1, 0, none⟩))] t frozen
      | o => o).modify 3 fun
      | .cells _ t frozen => .cells #[.iface 116 (.pointer (some ⟨Seat.low + 2, 0, none⟩))] t frozen
      | o => o).modify 4 fun
      | .cells _ t frozen => .cells #[.iface 116 (.pointer (some ⟨Seat.low + 3, 0, none⟩))] t frozen
      | o => o).modify 5 fun
      | .cells _ t frozen => .cells #[.iface 116 (.pointer (some ⟨Seat.low + 4, 0, none⟩))] t frozen
      | o => o).modify 6 fun
      | .cells _ t frozen => .cells #[.iface 116 (.pointer (some ⟨Seat.low + 5, 0, none⟩))] t frozen
      | o => o).modify 7 fun
      | .cells _ t frozen => .cells #[.iface 116 (.pointer (some ⟨Seat.low + 6, 0, none⟩))] t frozen
      | o => o).modify 8 fun
      | .cells _ t frozen => .cells #[.iface 116 (.pointer (some ⟨Seat.low + 7, 0, none⟩))] t frozen
      | o => o).modify 0 fun
      | .cells _ t frozen => .cells #[.iface 116 (.pointer (some ⟨Seat.low + 8, 0, none⟩))] t frozen
      | o => o).modify 9 fun
      | .cells _ t frozen => .cells #[.iface 116 (.pointer (some ⟨Seat.low + 9, 0, none⟩))] t frozen
      | o => o).modify 10 fun
      | .cells _ t frozen => .cells #[.iface 116 (.pointer (some ⟨Seat.low + 10, 0, none⟩))] t frozen
      | o => o).modify 11 fun
      | .cells _ t frozen => .cells #[.iface 116 (.pointer (some ⟨Seat.low + 11, 0, none⟩))] t frozen
      | o => o).modify 12 fun
      | .cells _ t frozen => .cells #[.iface 116 (.pointer (some ⟨Seat.low + 12, 0, none⟩))] t frozen
      | o => o).modify 13 fun
      | .cells _ t frozen => .cells #[.iface 116 (.pointer (some ⟨Seat.low + 13, 0, none⟩))] t frozen
      | o => o).modify 14 fun
      | .cells _ t frozen => .cells #[.iface 116 (.pointer (some ⟨Seat.low + 14, 0, none⟩))] t frozen
      | o => o).modify 15 fun
      | .cells _ t frozen => .cells #[.iface 116 (.pointer (some ⟨Seat.low + 15, 0, none⟩))] t frozen
      | o => o).modify 16 fun
      | .cells _ t frozen => .cells #[.iface 116 (.pointer (some ⟨Seat.low + 16, 0, none⟩))] t frozen
      | o => o }
noncomputable def wargs : Array Value := #[.slice none 0 0]
theorem laid_met (os : Os) : laidMet Tryd.prog Rows.codeBytesRow.laid ((laidWorld os).forCall (fun _ _ => 0) ⟨#[], wargs, []⟩).memory :=
  laidMet_of_run (ps := [.cell 1 0, .cell (Seat.low + 0) 0, .cell 2 0, .cell (Seat.low + 1) 0, .cell 3 0, .cell (Seat.low + 2) 0, .cell 4 0, .cell (Seat.low + 3) 0, .cell 5 0, .cell (Seat.low + 4) 0, .cell 6 0, .cell (Seat.low + 5) 0, .cell 7 0, .cell (Seat.low + 6) 0, .cell 8 0, .cell (Seat.low + 7) 0, .cell 0 0, .cell (Seat.low + 8) 0, .cell 9 0, .cell (Seat.low + 9) 0, .cell 10 0, .cell (Seat.low + 10) 0, .cell 11 0, .cell (Seat.low + 11) 0, .cell 12 0, .cell (Seat.low + 12) 0, .cell 13 0, .cell (Seat.low + 13) 0, .cell 14 0, .cell (Seat.low + 14) 0, .cell 15 0, .cell (Seat.low + 15) 0, .cell 16 0, .cell (Seat.low + 16) 0]) 8 (by kernel_rfl) (by kernel_rfl) (by kernel_rfl)
theorem reads (os : Os) {H : Type} (enc : TypeId × Value → H) : ∃ places, DataW.whole enc Tryd.prog ((laidWorld os).forCall (fun _ _ => 0) ⟨#[], wargs, []⟩).memory Tryd.f7.params.toList Rows.codeBytesSpec.vars false wargs.toList 8 = some ([.nil], [], places) :=
  ⟨[], by kernel_rfl⟩

set_option maxRecDepth 100000 in
theorem lifted (os : Os) (started : os.Started) (H : Type) (enc : TypeId × Value → H) (F : Stop.Interp) :
    ReturnsInHanded {} Tryd.checked os 7 .any ((OpenSpec.ofChange Rows.codeBytesSpec).preRow enc Tryd.prog Tryd.f7 Rows.codeBytesRow.domain false Rows.codeBytesRow.laid) (((OpenSpec.ofChange Rows.codeBytesSpec).at F).post enc Tryd.prog Tryd.f7 false true false false) := by
  obtain ⟨places, hx⟩ := reads os enc
  refine returnsInHanded_of_row (C := Tryd.checked) (s := OpenSpec.ofChange Rows.codeBytesSpec) Seat.own started (by kernel_rfl) Tryd.func7
    (witness_row_at (enc := enc) (C := Tryd.checked) false (laidWorld os) wargs rfl (by kernel_rfl) (by kernel_rfl) (by kernel_rfl)
      (OpenSpec.preRow_of_cond 8 hx (by kernel_rfl) (fun k hk => by cases hk) (by kernel_rfl) (laid_met os))) ?_
  intro W base args ds gs before hval hW _ _ _ hL hsh _
  exact contract H enc W base args ds gs before hval hW hL hsh

theorem said : Rows.CodeBytesSaid :=
  OpenClaim.holds_of_cond 7 Tryd.f7 rfl rfl rfl rfl rfl rfl rfl ⟨rfl, rfl, rfl, rfl, rfl⟩ rfl rfl rfl rfl rfl (by kernel_rfl) Tryd.func7 (by kernel_rfl)
    (of_decide_eq_true (by kernel_rfl)) (by unfold Func.isWrapper; first | (rw [if_pos (by decide +kernel)]; kernel_rfl) | (rw [if_neg (by decide +kernel)]; exact ⟨rfl, rfl⟩))
    (fun os started H enc _ F => by rw [OpenClaim.pre_eq_preRow]; exact lifted os started H enc F)

set_option maxRecDepth 100000 in
theorem plain (f : FuncId) (fn : Func) (hf : Tryd.pinned.checked.prog.funcNamed "stockade/stockadelaw14.CodeBytes" = some f) (hfn : Tryd.pinned.checked.prog.funcs[f]? = some fn) :
    true = Tryd.pinned.checked.prog.looks [] ∧ ∀ (j : Nat) t, fn.params[j]? = some t → Tryd.pinned.checked.prog.wantsStandIn t = false := by
  obtain rfl : f = 7 := Option.some.inj ((show Tryd.prog.funcNamed "stockade/stockadelaw14.CodeBytes" = some 7 by kernel_rfl).symm.trans hf) |>.symm
  obtain rfl : fn = Tryd.f7 := (Option.some.inj (Tryd.func7.symm.trans hfn)).symm
  refine ⟨by kernel_rfl, fun j t ht => ?_⟩
  rw [Tryd.params7] at ht
  have hm : t ∈ (#[47] : Array Nat) := Array.mem_of_getElem? ht
  have h47 : Tryd.prog.wantsStandIn 47 = false := by kernel_rfl
  simp only [List.mem_toArray, List.mem_cons, List.not_mem_nil, or_false] at hm
  rcases hm with rfl <;> assumption

/-- THE CARD. -/
theorem card : Rows.CodeBytesCardSaid :=
  Claim7.holds_tied_plain_at .later [] _ _ _ _ said (fun _ h => by cases h) (by kernel_rfl) (fun _ h => by cases h) codeBytes_row_tie rfl ⟨rfl, rfl⟩ (by kernel_rfl) rfl plain (by kernel_rfl)
end Go.Proofs.YtbpbimkadiobfaaDoor.CodeBytes
