/-
  ClockOf holds for every input: a clock is at most another one just if the epochs of all its goroutines are. No condition beyond the row's own.
-/
import Derived.Test.YtcipikacgkkapaaDoorCards
import Derived.Test.YtcipikacgkkapaaDoorTie
import Derived.Test.YtcipikacgkkapaaDoorLawSeat
import Derived.Test.YtcipikacgkkapaaDoorOf
namespace Go.Proofs.YtcipikacgkkapaaDoor.ClockOf
open Go.ChangeShapes Go.WideShapes Go.ChangeAt Go.RowKit Go.Stk

def sents : List (String × Nat × List UInt8) := [("stockade/api.ErrRange", 0, [115, 116, 111, 99, 107, 97, 100, 101, 58, 32, 114, 97, 110, 103, 101]), ("stockade/api.ErrClock", 1, [115, 116, 111, 99, 107, 97, 100, 101, 58, 32, 99, 108, 111, 99, 107])]
theorem globals : ∀ x ∈ sents, Tryd.prog.globalNamed x.1 = some x.2.1 ∧ (Tryd.prog.globals[x.2.1]?).map (·.type) = some 27 := by
  intro x hx
  simp only [sents, List.mem_cons, List.not_mem_nil, or_false] at hx
  rcases hx with rfl | rfl
  · exact ⟨by kernel_rfl, by kernel_rfl⟩
  · exact ⟨by kernel_rfl, by kernel_rfl⟩

theorem sent {W : World} (h : laidMetH Tryd.prog Rows.clockOfRow.laid W) : ∃ ads, Sent W 62 [0, 1] ads :=
  Seat.sent_of sents globals h

theorem readsAll : ∀ t ∈ (#[22, 22] : Array Nat).toList, Tryd.prog.readableRec t = true ∧ t < Tryd.prog.types.size := by
  have h22 : Tryd.prog.readableRec 22 = true ∧ 22 < Tryd.prog.types.size := ⟨by kernel_rfl, of_decide_eq_true (by kernel_rfl)⟩
  intro t ht
  simp only [List.mem_cons, List.not_mem_nil, or_false] at ht
  rcases ht with rfl | rfl <;> assumption

theorem whole (W : World) (x y : List Int) (A B : Option Addr) (ca cb : Nat) (hx : RI W A x) (hy : RI W B y) : Calls Tryd.prog 8 #[.slice A x.length ca, .slice B y.length cb] W (Ret W (.bool true)) := by
  by_cases hl : 500 < x.length ∨ 500 < y.length
  · exact of_long x y A B ca cb W hl hx.len hy.len
  · exact of_law x y A B ca cb W hx hy (by omega) (by omega)

theorem contract (H : Type) (enc : TypeId × Value → H) (W : World) (base : Nat) (args : Array Value) (ds gs : List (DataW H)) (before : List MemPlace)
    (hval : ∀ (j : Nat) t v, Tryd.f8.params[j]? = some t → args[j]? = some v → Value.okWide Tryd.prog W .any base t v)
    (hW : DataW.Whole enc Tryd.prog Tryd.f8.params.toList Rows.clockOfSpec.vars false W args.toList ds gs before) (hL : laidMetH Tryd.prog Rows.clockOfRow.laid W) (_hsh : W.ShapedOpen Tryd.prog) :
    Calls Tryd.prog 8 args W fun e W' => ∃ v, e = .returned v ∧ Rows.clockOfSpec.post enc Tryd.prog Tryd.f8 false true false false W args v W' := by
  have hW' := hW
  obtain ⟨p, q, hA0, hV, rfl, hfz, hnd⟩ := hW
  have hA : DataW.TrodAll enc Tryd.prog W 0 (fun _ => true) true Tryd.f8.params.toList args.toList ds p := hA0
  rw [Tryd.params8] at hA hval
  obtain ⟨v0, vs0, d0, ds0, p0, q0, hargs, rfl, rfl, h0, r0⟩ := trodAll_cons hA
  obtain ⟨v1, vs1, d1, ds1, p1, q1, rfl, rfl, rfl, h1, r1⟩ := trodAll_cons r0
  obtain ⟨rfl, rfl, rfl⟩ := trodAll_nil r1
  obtain rfl : args = #[v0, v1] := by cases args; simp_all
  obtain ⟨rfl, rfl⟩ := trodVars_none hV
  obtain ⟨a0, x0, c0, rfl, k0, R0, B0⟩ := open_ri Tryd.underlying22 Tryd.underlying3 Seat.cells3 (hval 0 22 v0 rfl rfl) h0
  obtain ⟨a1, x1, c1, rfl, k1, R1, B1⟩ := open_ri Tryd.underlying22 Tryd.underlying3 Seat.cells3 (hval 1 22 v1 rfl rfl) h1
  clear hA0 hval
  obtain ⟨ads, hs⟩ := sent hL
  refine (ClockOf.whole W x0 x1 a0 a1 c0 c1 R0 R1).mono fun e W' ⟨he, hb⟩ => ?_
  subst he
  exact ⟨_, rfl, post_law Seat.laidOut rfl Tryd.underlying4 rfl (by rw [Tryd.params8]; exact readsAll) hW' rfl hb⟩

/-- A world for the witness: the settled one, the listed variables holding what their initialisers lay. -/
noncomputable def laidWorld (os : Os) : World :=
  let w0 := World.holding Tryd.prog os ⟨#[.cells #[.string ⟨ #[115, 116, 111, 99, 107, 97, 100, 101, 58, 32, 114, 97, 110, 103, 101]⟩] 88, .cells #[.string ⟨ #[115, 116, 111, 99, 107, 97, 100, 101, 58, 32, 99, 108, 111, 99, 107]⟩] 88], #[], []⟩
  { w0 with heap := (w0.heap.modify 0 fun
      | .cells _ t frozen => .cells #[.iface 62 (.pointer (some ⟨Seat.low + 0, 0, none⟩))] t frozen
      | o => o).modify 1 fun
      | .cells _ t frozen => .cells #[.iface 62 (.pointer (some ⟨Seat.low + 1, 0, none⟩))] t frozen
      | o => o }
noncomputable def wargs : Array Value := #[.slice none 0 0, .slice none 0 0]
theorem laid_met (os : Os) : laidMet Tryd.prog Rows.clockOfRow.laid ((laidWorld os).forCall (fun _ _ => 0) ⟨#[], wargs, []⟩).memory :=
  laidMet_of_run (ps := [.cell 0 0, .cell (Seat.low + 0) 0, .cell 1 0, .cell (Seat.low + 1) 0]) 8 (by kernel_rfl) (by kernel_rfl) (by kernel_rfl)
theorem reads (os : Os) {H : Type} (enc : TypeId × Value → H) : ∃ places, DataW.whole enc Tryd.prog ((laidWorld os).forCall (fun _ _ => 0) ⟨#[], wargs, []⟩).memory Tryd.f8.params.toList Rows.clockOfSpec.vars false wargs.toList 8 = some ([.nil, .nil], [], places) :=
  ⟨[], by kernel_rfl⟩

set_option maxRecDepth 100000 in
theorem lifted (os : Os) (started : os.Started) (H : Type) (enc : TypeId × Value → H) (F : Stop.Interp) :
    ReturnsInHanded {} Tryd.checked os 8 .any ((OpenSpec.ofChange Rows.clockOfSpec).preRow enc Tryd.prog Tryd.f8 Rows.clockOfRow.domain false Rows.clockOfRow.laid) (((OpenSpec.ofChange Rows.clockOfSpec).at F).post enc Tryd.prog Tryd.f8 false true false false) := by
  obtain ⟨places, hx⟩ := reads os enc
  refine returnsInHanded_of_row (C := Tryd.checked) (s := OpenSpec.ofChange Rows.clockOfSpec) Seat.own started (by kernel_rfl) Tryd.func8
    (witness_row_at (enc := enc) (C := Tryd.checked) false (laidWorld os) wargs rfl (by kernel_rfl) (by kernel_rfl) (by kernel_rfl)
      (OpenSpec.preRow_of_cond 8 hx (by kernel_rfl) (fun k hk => by cases hk) (by kernel_rfl) (laid_met os))) ?_
  intro W base args ds gs before hval hW _ _ _ hL hsh _
  exact contract H enc W base args ds gs before hval hW hL hsh

theorem said : Rows.ClockOfSaid :=
  OpenClaim.holds_of_cond 8 Tryd.f8 rfl rfl rfl rfl rfl rfl rfl ⟨rfl, rfl, rfl, rfl, rfl⟩ rfl rfl rfl rfl rfl (by kernel_rfl) Tryd.func8 (by kernel_rfl)
    (of_decide_eq_true (by kernel_rfl)) (by unfold Func.isWrapper; first | (rw [if_pos (by decide +kernel)]; kernel_rfl) | (rw [if_neg (by decide +kernel)]; exact ⟨rfl, rfl⟩))
    (fun os started H enc _ F => by rw [OpenClaim.pre_eq_preRow]; exact lifted os started H enc F)

theorem plain (f : FuncId) (fn : Func) (hf : Tryd.pinned.checked.prog.funcNamed "stockade/stockadelaw01.ClockOf" = some f) (hfn : Tryd.pinned.checked.prog.funcs[f]? = some fn) :
    true = Tryd.pinned.checked.prog.looks [] ∧ ∀ (j : Nat) t, fn.params[j]? = some t → Tryd.pinned.checked.prog.wantsStandIn t = false := by
  obtain rfl : f = 8 := Option.some.inj ((show Tryd.prog.funcNamed "stockade/stockadelaw01.ClockOf" = some 8 by kernel_rfl).symm.trans hf) |>.symm
  obtain rfl : fn = Tryd.f8 := (Option.some.inj (Tryd.func8.symm.trans hfn)).symm
  refine ⟨by kernel_rfl, fun j t ht => ?_⟩
  rw [Tryd.params8] at ht
  have hm : t ∈ (#[22, 22] : Array Nat) := Array.mem_of_getElem? ht
  have h22 : Tryd.prog.wantsStandIn 22 = false := by kernel_rfl
  simp only [List.mem_toArray, List.mem_cons, List.not_mem_nil, or_false] at hm
  rcases hm with rfl | rfl <;> assumption

/-- THE CARD. -/
theorem card : Rows.ClockOfCardSaid :=
  Claim7.holds_tied_plain_at .later [] _ _ _ _ said (fun _ h => by cases h) (by kernel_rfl) (fun _ h => by cases h) clockOf_row_tie rfl ⟨rfl, rfl⟩ (by kernel_rfl) rfl plain (by kernel_rfl)
end Go.Proofs.YtcipikacgkkapaaDoor.ClockOf
