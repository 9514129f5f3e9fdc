/-
  ClockEpochs holds for every input: an epoch is at most a clock just as its count is; that of a clock is at most what the clock is at most. No condition beyond the row's own.
-/
import Derived.Test.YtcipikacgkkapaaDoorCards
import Derived.Test.YtcipikacgkkapaaDoorTie
import Derived.Test.YtcipikacgkkapaaDoorLawSeat
import Derived.Test.YtcipikacgkkapaaDoorEpochs
import Derived.Lib.SmallJoins
namespace Go.Proofs.YtcipikacgkkapaaDoor.ClockEpochs
open Go.ChangeShapes Go.WideShapes Go.ChangeAt Go.RowKit Go.Stk

def sents : List (String × Nat × List UInt8) := [("stockade/api.ErrRange", 0, [115, 116, 111, 99, 107, 97, 100, 101, 58, 32, 114, 97, 110, 103, 101]), ("stockade/api.ErrClock", 1, [115, 116, 111, 99, 107, 97, 100, 101, 58, 32, 99, 108, 111, 99, 107])]
theorem globals : ∀ x ∈ sents, Tryd.prog.globalNamed x.1 = some x.2.1 ∧ (Tryd.prog.globals[x.2.1]?).map (·.type) = some 27 := by
  intro x hx
  simp only [sents, List.mem_cons, List.not_mem_nil, or_false] at hx
  rcases hx with rfl | rfl
  · exact ⟨by kernel_rfl, by kernel_rfl⟩
  · exact ⟨by kernel_rfl, by kernel_rfl⟩

theorem sent {W : World} (h : laidMetH Tryd.prog Rows.clockEpochsRow.laid W) : ∃ ads, Sent W 62 [0, 1] ads :=
  Seat.sent_of sents globals h

theorem readsAll : ∀ t ∈ (#[36, 22, 22] : Array Nat).toList, Tryd.prog.readableRec t = true ∧ t < Tryd.prog.types.size := by
  have h22 : Tryd.prog.readableRec 22 = true ∧ 22 < Tryd.prog.types.size := ⟨by kernel_rfl, of_decide_eq_true (by kernel_rfl)⟩
  have h36 : Tryd.prog.readableRec 36 = true ∧ 36 < Tryd.prog.types.size := ⟨by kernel_rfl, of_decide_eq_true (by kernel_rfl)⟩
  intro t ht
  simp only [List.mem_cons, List.not_mem_nil, or_false] at ht
  rcases ht with rfl | rfl | rfl <;> assumption

theorem cells36 : Tryd.prog.cellsOf 36 = 2 := by kernel_rfl
theorem open_epoch {H : Type} {enc : TypeId × Value → H} {W : World} {base : Nat} {v : Value} {d : DataW H} {ps : List MemPlace}
    (hok : Value.okWide Tryd.prog W .any base 36 v) (h : DataW.Trod enc Tryd.prog W 0 (fun _ => true) true 36 v d ps) : ∃ g n : Int, v = .agg #[.int .i64 g, .int .i64 n] := by
  obtain ⟨c0, c1, y0, y1, m, rfl, rfl, rfl, hy0, hy1⟩ := Joins.open_agg2 Tryd.underlying36 (by kernel_rfl) cells36 hok h
  obtain ⟨a, e0, rfl, wa⟩ := DataW.trod_int Tryd.underlying3 hy0
  obtain ⟨b, e1, rfl, wb⟩ := DataW.trod_int Tryd.underlying3 hy1
  simp at e0 e1
  subst e0 e1
  exact ⟨a, b, rfl⟩
theorem whole (W : World) (x y : List Int) (A B : Option Addr) (ca cb : Nat) (g n : Int) (hx : RI W A x) (hy : RI W B y) : Calls Tryd.prog 7 #[.agg #[.int .i64 g, .int .i64 n], .slice A x.length ca, .slice B y.length cb] W (Ret W (.bool true)) := by
  by_cases hl : 2000 < x.length ∨ 2000 < y.length
  · exact epochs_long x y A B ca cb g n W hl hx.len hy.len
  · exact epochs_any x y A B ca cb g n W hx hy (by omega) (by omega)

theorem contract (H : Type) (enc : TypeId × Value → H) (W : World) (base : Nat) (args : Array Value) (ds gs : List (DataW H)) (before : List MemPlace)
    (hval : ∀ (j : Nat) t v, Tryd.f7.params[j]? = some t → args[j]? = some v → Value.okWide Tryd.prog W .any base t v)
    (hW : DataW.Whole enc Tryd.prog Tryd.f7.params.toList Rows.clockEpochsSpec.vars false W args.toList ds gs before) (hL : laidMetH Tryd.prog Rows.clockEpochsRow.laid W) (_hsh : W.ShapedOpen Tryd.prog) :
    Calls Tryd.prog 7 args W fun e W' => ∃ v, e = .returned v ∧ Rows.clockEpochsSpec.post enc Tryd.prog Tryd.f7 false true false false W args v W' := by
  have hW' := hW
  obtain ⟨p, q, hA0, hV, rfl, hfz, hnd⟩ := hW
  have hA : DataW.TrodAll enc Tryd.prog W 0 (fun _ => true) true Tryd.f7.params.toList args.toList ds p := hA0
  rw [Tryd.params7] at hA hval
  obtain ⟨v0, vs0, d0, ds0, p0, q0, hargs, rfl, rfl, h0, r0⟩ := trodAll_cons hA
  obtain ⟨v1, vs1, d1, ds1, p1, q1, rfl, rfl, rfl, h1, r1⟩ := trodAll_cons r0
  obtain ⟨v2, vs2, d2, ds2, p2, q2, rfl, rfl, rfl, h2, r2⟩ := trodAll_cons r1
  obtain ⟨rfl, rfl, rfl⟩ := trodAll_nil r2
  obtain rfl : args = #[v0, v1, v2] := by cases args; simp_all
  obtain ⟨rfl, rfl⟩ := trodVars_none hV
  obtain ⟨g0, n0, rfl⟩ := open_epoch (hval 0 36 v0 rfl rfl) h0
  obtain ⟨a1, x1, c1, rfl, k1, R1, B1⟩ := open_ri Tryd.underlying22 Tryd.underlying3 Seat.cells3 (hval 1 22 v1 rfl rfl) h1
  obtain ⟨a2, x2, c2, rfl, k2, R2, B2⟩ := open_ri Tryd.underlying22 Tryd.underlying3 Seat.cells3 (hval 2 22 v2 rfl rfl) h2
  clear hA0 hval
  obtain ⟨ads, hs⟩ := sent hL
  refine (ClockEpochs.whole W x1 x2 a1 a2 c1 c2 g0 n0 R1 R2).mono fun e W' ⟨he, hb⟩ => ?_
  subst he
  exact ⟨_, rfl, post_law Seat.laidOut rfl Tryd.underlying4 rfl (by rw [Tryd.params7]; exact readsAll) hW' rfl hb⟩

/-- A world for the witness: the settled one, the listed variables holding what their initialisers lay. -/
noncomputable def laidWorld (os : Os) : World :=
  let w0 := World.holding Tryd.prog os ⟨#[.cells #[.string ⟨ #[115, 116, 111, 99, 107, 97, 100, 101, 58, 32, 114, 97, 110, 103, 101]⟩] 88, .cells #[.string ⟨ #[115, 116, 111, 99, 107, 97, 100, 101, 58, 32, 99, 108, 111, 99, 107]⟩] 88], #[], []⟩
  { w0 with heap := (w0.heap.modify 0 fun
      | .cells _ t frozen => .cells #[.iface 62 (.pointer (some ⟨Seat.low + 0, 0, none⟩))] t frozen
      | o => o).modify 1 fun
      | .cells _ t frozen => .cells #[.iface 62 (.pointer (some ⟨Seat.low + 1, 0, none⟩))] t frozen
      | o => o }
noncomputable def wargs : Array Value := #[.agg #[.int .i64 0, .int .i64 0], .slice none 0 0, .slice none 0 0]
theorem laid_met (os : Os) : laidMet Tryd.prog Rows.clockEpochsRow.laid ((laidWorld os).forCall (fun _ _ => 0) ⟨#[], wargs, []⟩).memory :=
  laidMet_of_run (ps := [.cell 0 0, .cell (Seat.low + 0) 0, .cell 1 0, .cell (Seat.low + 1) 0]) 8 (by kernel_rfl) (by kernel_rfl) (by kernel_rfl)
theorem reads (os : Os) {H : Type} (enc : TypeId × Value → H) : ∃ places, DataW.whole enc Tryd.prog ((laidWorld os).forCall (fun _ _ => 0) ⟨#[], wargs, []⟩).memory Tryd.f7.params.toList Rows.clockEpochsSpec.vars false wargs.toList 8 = some ([.agg [.lit (.int .i64 0), .lit (.int .i64 0)], .nil, .nil], [], places) :=
  ⟨[], by kernel_rfl⟩

set_option maxRecDepth 100000 in
theorem lifted (os : Os) (started : os.Started) (H : Type) (enc : TypeId × Value → H) (F : Stop.Interp) :
    ReturnsInHanded {} Tryd.checked os 7 .any ((OpenSpec.ofChange Rows.clockEpochsSpec).preRow enc Tryd.prog Tryd.f7 Rows.clockEpochsRow.domain false Rows.clockEpochsRow.laid) (((OpenSpec.ofChange Rows.clockEpochsSpec).at F).post enc Tryd.prog Tryd.f7 false true false false) := by
  obtain ⟨places, hx⟩ := reads os enc
  refine returnsInHanded_of_row (C := Tryd.checked) (s := OpenSpec.ofChange Rows.clockEpochsSpec) Seat.own started (by kernel_rfl) Tryd.func7
    (witness_row_at (enc := enc) (C := Tryd.checked) false (laidWorld os) wargs rfl (by kernel_rfl) (by kernel_rfl) (by kernel_rfl)
      (OpenSpec.preRow_of_cond 8 hx (by kernel_rfl) (fun k hk => by cases hk) (by kernel_rfl) (laid_met os))) ?_
  intro W base args ds gs before hval hW _ _ _ hL hsh _
  exact contract H enc W base args ds gs before hval hW hL hsh

theorem said : Rows.ClockEpochsSaid :=
  OpenClaim.holds_of_cond 7 Tryd.f7 rfl rfl rfl rfl rfl rfl rfl ⟨rfl, rfl, rfl, rfl, rfl⟩ rfl rfl rfl rfl rfl (by kernel_rfl) Tryd.func7 (by kernel_rfl)
    (of_decide_eq_true (by kernel_rfl)) (by unfold Func.isWrapper; first | (rw [if_pos (by decide +kernel)]; kernel_rfl) | (rw [if_neg (by decide +kernel)]; exact ⟨rfl, rfl⟩))
    (fun os started H enc _ F => by rw [OpenClaim.pre_eq_preRow]; exact lifted os started H enc F)

theorem plain (f : FuncId) (fn : Func) (hf : Tryd.pinned.checked.prog.funcNamed "stockade/stockadelaw01.ClockEpochs" = some f) (hfn : Tryd.pinned.checked.prog.funcs[f]? = some fn) :
    true = Tryd.pinned.checked.prog.looks [] ∧ ∀ (j : Nat) t, fn.params[j]? = some t → Tryd.pinned.checked.prog.wantsStandIn t = false := by
  obtain rfl : f = 7 := Option.some.inj ((show Tryd.prog.funcNamed "stockade/stockadelaw01.ClockEpochs" = some 7 by kernel_rfl).symm.trans hf) |>.symm
  obtain rfl : fn = Tryd.f7 := (Option.some.inj (Tryd.func7.symm.trans hfn)).symm
  refine ⟨by kernel_rfl, fun j t ht => ?_⟩
  rw [Tryd.params7] at ht
  have hm : t ∈ (#[36, 22, 22] : Array Nat) := Array.mem_of_getElem? ht
  have h22 : Tryd.prog.wantsStandIn 22 = false := by kernel_rfl
  have h36 : Tryd.prog.wantsStandIn 36 = false := by kernel_rfl
  simp only [List.mem_toArray, List.mem_cons, List.not_mem_nil, or_false] at hm
  rcases hm with rfl | rfl | rfl <;> assumption

/-- THE CARD. -/
theorem card : Rows.ClockEpochsCardSaid :=
  Claim7.holds_tied_plain_at .later [] _ _ _ _ said (fun _ h => by cases h) (by kernel_rfl) (fun _ h => by cases h) clockEpochs_row_tie rfl ⟨rfl, rfl⟩ (by kernel_rfl) rfl plain (by kernel_rfl)
end Go.Proofs.YtcipikacgkkapaaDoor.ClockEpochs
