/-
  ClockGets holds for every input: a join's counts are the greater ones, and a tick changes one alone. No condition beyond the row's own (the listed sentinels are tied to the program's text).
-/
import Derived.Test.YtcipikacgkkapaaDoorCards
import Derived.Test.YtcipikacgkkapaaDoorTie
import Derived.Test.YtcipikacgkkapaaDoorLawBase
import Derived.Test.YtcipikacgkkapaaDoorGets
namespace Go.Proofs.YtcipikacgkkapaaDoor.ClockGets
open Go.ChangeShapes Go.WideShapes Go.ChangeAt Go.RowKit Go.Stk

theorem own : ownKnob Tryd.prog.godebug = none := by kernel_rfl
theorem laidOut : laidOutB Tryd.prog = true := by kernel_rfl
theorem cells88 : Tryd.prog.cellsOf 88 = 1 := by kernel_rfl
theorem cells9 : Tryd.prog.cellsOf 9 = 1 := by kernel_rfl
theorem star : "*" ++ "errors.errorString" = "*errors.errorString" := by decide
theorem cells3 : Tryd.prog.cellsOf 3 = 1 := by kernel_rfl
theorem reads3 : ∀ t ∈ (#[22, 22, 3] : Array Nat).toList, Tryd.prog.readableRec t = true ∧ t < Tryd.prog.types.size := by
  have h22 : Tryd.prog.readableRec 22 = true ∧ 22 < Tryd.prog.types.size := ⟨by kernel_rfl, of_decide_eq_true (by kernel_rfl)⟩
  have h3 : Tryd.prog.readableRec 3 = true ∧ 3 < Tryd.prog.types.size := ⟨by kernel_rfl, of_decide_eq_true (by kernel_rfl)⟩
  intro t ht
  simp only [List.mem_cons, List.not_mem_nil, or_false] at ht
  rcases ht with rfl | rfl | rfl <;> assumption
theorem row62 (u : TypeId) (h : Tryd.prog.typeName? 3 u = some "*errors.errorString") : u = 62 :=
  typeName_ptr_named (nm := "errors.errorString") (by rw [star]; kernel_rfl) (by kernel_rfl) (by decide) u (by rw [star]; exact h)

def sents : List (String × Nat × List UInt8) := [("stockade/api.ErrRange", 0, [115, 116, 111, 99, 107, 97, 100, 101, 58, 32, 114, 97, 110, 103, 101]), ("stockade/api.ErrClock", 1, [115, 116, 111, 99, 107, 97, 100, 101, 58, 32, 99, 108, 111, 99, 107])]
theorem sents_laid : Rows.clockGetsRow.laid = sents.map fun x => (x.1, errD x.2.2) := rfl
theorem globals : ∀ x ∈ sents, Tryd.prog.globalNamed x.1 = some x.2.1 ∧ (Tryd.prog.globals[x.2.1]?).map (·.type) = some 27 := by
  intro x hx
  simp only [sents, List.mem_cons, List.not_mem_nil, or_false] at hx
  rcases hx with rfl | rfl
  · exact ⟨by kernel_rfl, by kernel_rfl⟩
  · exact ⟨by kernel_rfl, by kernel_rfl⟩

theorem sent {W : World} (h : laidMetH Tryd.prog Rows.clockGetsRow.laid W) : ∃ ads, Sent W 62 [0, 1] ads := by
  have h' : laidMet Tryd.prog (sents.map fun x => (x.1, errD x.2.2)) W := h
  obtain ⟨ps, hl, hnd, hr⟩ := h'
  obtain ⟨ads, hs, _⟩ := sent_list Tryd.underlying27 row62 Tryd.underlying62 Tryd.underlying88 rfl rfl Tryd.underlying9 cells88 cells9 sents ps hl hnd hr globals
  exact ⟨ads, hs⟩

theorem contract (H : Type) (enc : TypeId × Value → H) (W : World) (base : Nat) (args : Array Value) (ds gs : List (DataW H)) (before : List MemPlace)
    (hval : ∀ (j : Nat) t v, Tryd.f3.params[j]? = some t → args[j]? = some v → Value.okWide Tryd.prog W .any base t v)
    (hW : DataW.Whole enc Tryd.prog Tryd.f3.params.toList Rows.clockGetsSpec.vars false W args.toList ds gs before) (hL : laidMetH Tryd.prog Rows.clockGetsRow.laid W) :
    Calls Tryd.prog 3 args W fun e W' => ∃ v, e = .returned v ∧ Rows.clockGetsSpec.post enc Tryd.prog Tryd.f3 false true false false W args v W' := by
  have hW' := hW
  obtain ⟨p, q, hA0, hV, rfl, hfz, hnd⟩ := hW
  have hA : DataW.TrodAll enc Tryd.prog W 0 (fun _ => true) true Tryd.f3.params.toList args.toList ds p := hA0
  rw [Tryd.params3] at hA hval
  obtain ⟨v0, vs0, d0, ds0, p0, q0, hargs, rfl, rfl, h0, r0⟩ := trodAll_cons hA
  obtain ⟨v1, vs1, d1, ds1, p1, q1, rfl, rfl, rfl, h1, r1⟩ := trodAll_cons r0
  obtain ⟨v2, vs2, d2, ds2, p2, q2, rfl, rfl, rfl, h2, r2⟩ := trodAll_cons r1
  obtain ⟨rfl, rfl, rfl⟩ := trodAll_nil r2
  obtain rfl : args = #[v0, v1, v2] := by cases args; simp_all
  obtain ⟨rfl, rfl⟩ := trodVars_none hV
  obtain ⟨a0, x0, c0, rfl, _, R0, _⟩ := open_ri Tryd.underlying22 Tryd.underlying3 cells3 (hval 0 22 v0 rfl rfl) h0
  obtain ⟨a1, x1, c1, rfl, _, R1, _⟩ := open_ri Tryd.underlying22 Tryd.underlying3 cells3 (hval 1 22 v1 rfl rfl) h1
  obtain ⟨x2, rfl, rfl, rfl, w2⟩ := open_int Tryd.underlying3 (hval 2 3 v2 rfl rfl) h2
  clear hA0 hval
  obtain ⟨ads, hs⟩ := sent hL
  obtain ⟨e0, e1, rfl⟩ : ∃ e0 e1, ads = [e0, e1] := by
    have := hs.len
    match ads, this with
    | [e0, e1], _ => exact ⟨e0, e1, rfl⟩
  refine (gets_any x0 x1 a0 a1 c0 c1 x2 W R0 R1 62 _ (hs.var 1 1 e1 rfl rfl)).mono fun e W' ⟨he, hb⟩ => ?_
  subst he
  exact ⟨_, rfl, post_law laidOut rfl Tryd.underlying4 rfl (by rw [Tryd.params3]; exact reads3) hW' rfl hb⟩

abbrev s0 : ByteArray := { data := #[115, 116, 111, 99, 107, 97, 100, 101, 58, 32, 114, 97, 110, 103, 101] }
abbrev s1 : ByteArray := { data := #[115, 116, 111, 99, 107, 97, 100, 101, 58, 32, 99, 108, 111, 99, 107] }
noncomputable def low : Nat := (World.holding Tryd.prog default ⟨#[], #[], []⟩).heap.size
/-- A world for the witness: the settled one, the listed variables holding what their initialisers lay. -/
noncomputable def laidWorld (os : Os) : World :=
  let w0 := World.holding Tryd.prog os ⟨#[.cells #[.string s0] 88, .cells #[.string s1] 88], #[], []⟩
  { w0 with heap := (w0.heap.modify 0 fun
      | .cells _ t frozen => .cells #[.iface 62 (.pointer (some ⟨low, 0, none⟩))] t frozen
      | o => o).modify 1 fun
      | .cells _ t frozen => .cells #[.iface 62 (.pointer (some ⟨low + 1, 0, none⟩))] t frozen
      | o => o }
noncomputable def wargs : Array Value := #[.slice none 0 0, .slice none 0 0, .int .i64 0]
theorem laid_met (os : Os) : laidMet Tryd.prog Rows.clockGetsRow.laid ((laidWorld os).forCall (fun _ _ => 0) ⟨#[], wargs, []⟩).memory :=
  laidMet_of_run (ps := [.cell 0 0, .cell low 0, .cell 1 0, .cell (low + 1) 0]) 8 (by kernel_rfl) (by kernel_rfl) (by kernel_rfl)
theorem reads (os : Os) {H : Type} (enc : TypeId × Value → H) : ∃ places, DataW.whole enc Tryd.prog ((laidWorld os).forCall (fun _ _ => 0) ⟨#[], wargs, []⟩).memory Tryd.f3.params.toList Rows.clockGetsSpec.vars false wargs.toList 8 = some ([.nil, .nil, .lit (.int .i64 0)], [], places) :=
  ⟨[], by kernel_rfl⟩

set_option maxRecDepth 100000 in
theorem lifted (os : Os) (started : os.Started) (H : Type) (enc : TypeId × Value → H) (F : Stop.Interp) :
    ReturnsInHanded {} Tryd.checked os 3 .any ((OpenSpec.ofChange Rows.clockGetsSpec).preRow enc Tryd.prog Tryd.f3 Rows.clockGetsRow.domain false Rows.clockGetsRow.laid) (((OpenSpec.ofChange Rows.clockGetsSpec).at F).post enc Tryd.prog Tryd.f3 false true false false) := by
  obtain ⟨places, hx⟩ := reads os enc
  refine returnsInHanded_of_row (C := Tryd.checked) (s := OpenSpec.ofChange Rows.clockGetsSpec) own started (by kernel_rfl) Tryd.func3
    (witness_row_at (enc := enc) (C := Tryd.checked) false (laidWorld os) wargs rfl (by kernel_rfl) (by kernel_rfl) (by kernel_rfl)
      (OpenSpec.preRow_of_cond 8 hx (by kernel_rfl) (fun k hk => by cases hk) (by kernel_rfl) (laid_met os))) ?_
  intro W base args ds gs before hval hW _ _ _ hL _ _
  exact contract H enc W base args ds gs before hval hW hL

theorem said : Rows.ClockGetsSaid :=
  OpenClaim.holds_of_cond 3 Tryd.f3 rfl rfl rfl rfl rfl rfl rfl ⟨rfl, rfl, rfl, rfl, rfl⟩ rfl rfl rfl rfl rfl (by kernel_rfl) Tryd.func3 (by kernel_rfl)
    (of_decide_eq_true (by kernel_rfl)) (by unfold Func.isWrapper; first | (rw [if_pos (by decide +kernel)]; kernel_rfl) | (rw [if_neg (by decide +kernel)]; exact ⟨rfl, rfl⟩))
    (fun os started H enc _ F => by rw [OpenClaim.pre_eq_preRow]; exact lifted os started H enc F)

theorem plain (f : FuncId) (fn : Func) (hf : Tryd.pinned.checked.prog.funcNamed "stockade/stockadelaw01.ClockGets" = some f) (hfn : Tryd.pinned.checked.prog.funcs[f]? = some fn) :
    true = Tryd.pinned.checked.prog.looks [] ∧ ∀ (j : Nat) t, fn.params[j]? = some t → Tryd.pinned.checked.prog.wantsStandIn t = false := by
  obtain rfl : f = 3 := Option.some.inj ((show Tryd.prog.funcNamed "stockade/stockadelaw01.ClockGets" = some 3 by kernel_rfl).symm.trans hf) |>.symm
  obtain rfl : fn = Tryd.f3 := (Option.some.inj (Tryd.func3.symm.trans hfn)).symm
  refine ⟨by kernel_rfl, fun j t ht => ?_⟩
  rw [Tryd.params3] at ht
  have hm : t ∈ (#[22, 22, 3] : Array Nat) := Array.mem_of_getElem? ht
  have h22 : Tryd.prog.wantsStandIn 22 = false := by kernel_rfl
  have h3 : Tryd.prog.wantsStandIn 3 = false := by kernel_rfl
  simp only [List.mem_toArray, List.mem_cons, List.not_mem_nil, or_false] at hm
  rcases hm with rfl | rfl | rfl <;> assumption

/-- THE CARD. -/
theorem card : Rows.ClockGetsCardSaid :=
  Claim7.holds_tied_plain_at .later [] _ _ _ _ said (fun _ h => by cases h) (by kernel_rfl) (fun _ h => by cases h) clockGets_row_tie rfl ⟨rfl, rfl⟩ (by kernel_rfl) rfl plain (by kernel_rfl)

end Go.Proofs.YtcipikacgkkapaaDoor.ClockGets
