/-
  NARROWER THAN 'FOR EVERY INPUT', by the rows' own cells (each row's printed sentence says how): ClockGets: laid · ClockOrder: laid · ClockShorts: laid · ClockZero: laid · ClockEpochs: laid · ClockOf: laid · ClockTicks: laid · ClockTells: laid.
  DERIVED. THE GIVEN ROWS OF THIS SEAT. 8 by the template 'for every input the law returns true; each argument reads behind the call as it read before'; 0 by the template 'total and deterministic' (their statements: YtcipikacgkkapaaDoorTotals.lean).
  GIVEN WITH THE SEED: the statements are not yours to turn. If you find one false, say at which input.
  Laid BY PROGRAM, IN A SANDBOX (cutbox-rows.mjs): the forced cells as the released guide's own fill.sh prints them over the translation 1ad97fd80e1b9157… (all of the seat's roots in one cut). By AI agents, Wed Nov 11 2026. No macro, syntax, notation, axiom, sorry.
-/
import Derived.Test.YtcipikacgkkapaaDoorChecked
import GoSem.Claim
import GoSem.ClaimJoined
import GoSem.ClaimMapViews
import Derived.JoinedTies
import Derived.KernelRfl
namespace Go.Proofs.YtcipikacgkkapaaDoor
/- THE CELL 'sum', in the pinned program and in every row, IS THE sha256 OF THE DUMP (.gsa) THAT YtcipikacgkkapaaDoorProg.lean LOADS. Nothing in Lean hashes anything: it is a label: what it is worth is what the hold of that sum in a sandbox is worth. -/
noncomputable def Tryd.pinned : Pinned := { name := "ytcipikacgkkapaadoor", sum := "1ad97fd80e1b9157ef76e172d7ae77b114aa4834706735687f31ac5c0060a69f", checked := Tryd.checked }
namespace Rows
def none {H : Type} : Left H := { results := [], args := [] }

/- WHAT THE LISTED PACKAGE-LEVEL VARIABLES READ AS WHEN THE CALL BEGINS. Each datum BY PROGRAM (the guide's laid-datum.mjs) off the statement by which the dump's own 'gosem.cut.vars' lays the variable. In a bare row this is a premise. The card (YtcipikacgkkapaaDoorCards.lean) ties it to the program's text. -/
def laid_stockade_api_ErrRange {H : Type} : DataW H := .iface "*errors.errorString" (.ptr (.agg [.lit (.string [115, 116, 111, 99, 107, 97, 100, 101, 58, 32, 114, 97, 110, 103, 101])]))
def laid_stockade_api_ErrClock {H : Type} : DataW H := .iface "*errors.errorString" (.ptr (.agg [.lit (.string [115, 116, 111, 99, 107, 97, 100, 101, 58, 32, 99, 108, 111, 99, 107])]))
def laid_stockade_api_ErrText {H : Type} : DataW H := .iface "*errors.errorString" (.ptr (.agg [.lit (.string [115, 116, 111, 99, 107, 97, 100, 101, 58, 32, 116, 101, 120, 116])]))
def laid_stockade_api_ErrDepth {H : Type} : DataW H := .iface "*errors.errorString" (.ptr (.agg [.lit (.string [115, 116, 111, 99, 107, 97, 100, 101, 58, 32, 100, 101, 112, 116, 104])]))
def laid_stockade_api_ErrName {H : Type} : DataW H := .iface "*errors.errorString" (.ptr (.agg [.lit (.string [115, 116, 111, 99, 107, 97, 100, 101, 58, 32, 110, 97, 109, 101])]))
def laid_stockade_api_ErrType {H : Type} : DataW H := .iface "*errors.errorString" (.ptr (.agg [.lit (.string [115, 116, 111, 99, 107, 97, 100, 101, 58, 32, 116, 121, 112, 101])]))
def laid_stockade_api_ErrLarge {H : Type} : DataW H := .iface "*errors.errorString" (.ptr (.agg [.lit (.string [115, 116, 111, 99, 107, 97, 100, 101, 58, 32, 108, 97, 114, 103, 101])]))
def laid_stockade_api_ErrFull {H : Type} : DataW H := .iface "*errors.errorString" (.ptr (.agg [.lit (.string [115, 116, 111, 99, 107, 97, 100, 101, 58, 32, 102, 117, 108, 108])]))
def laid_stockade_api_ErrNone {H : Type} : DataW H := .iface "*errors.errorString" (.ptr (.agg [.lit (.string [115, 116, 111, 99, 107, 97, 100, 101, 58, 32, 110, 111, 110, 101])]))
def laid_stockade_api_ErrCode {H : Type} : DataW H := .iface "*errors.errorString" (.ptr (.agg [.lit (.string [115, 116, 111, 99, 107, 97, 100, 101, 58, 32, 99, 111, 100, 101])]))
def laid_stockade_api_ErrState {H : Type} : DataW H := .iface "*errors.errorString" (.ptr (.agg [.lit (.string [115, 116, 111, 99, 107, 97, 100, 101, 58, 32, 115, 116, 97, 116, 101])]))
def laid_stockade_api_ErrFrame {H : Type} : DataW H := .iface "*errors.errorString" (.ptr (.agg [.lit (.string [115, 116, 111, 99, 107, 97, 100, 101, 58, 32, 102, 114, 97, 109, 101])]))
def laid_stockade_api_ErrMac {H : Type} : DataW H := .iface "*errors.errorString" (.ptr (.agg [.lit (.string [115, 116, 111, 99, 107, 97, 100, 101, 58, 32, 109, 97, 99])]))
def laid_stockade_api_ErrReplay {H : Type} : DataW H := .iface "*errors.errorString" (.ptr (.agg [.lit (.string [115, 116, 111, 99, 107, 97, 100, 101, 58, 32, 114, 101, 112, 108, 97, 121])]))
def laid_stockade_api_ErrArena {H : Type} : DataW H := .iface "*errors.errorString" (.ptr (.agg [.lit (.string [115, 116, 111, 99, 107, 97, 100, 101, 58, 32, 97, 114, 101, 110, 97])]))
def laid_stockade_api_ErrQuota {H : Type} : DataW H := .iface "*errors.errorString" (.ptr (.agg [.lit (.string [115, 116, 111, 99, 107, 97, 100, 101, 58, 32, 113, 117, 111, 116, 97])]))
def laid_stockade_api_ErrTenant {H : Type} : DataW H := .iface "*errors.errorString" (.ptr (.agg [.lit (.string [115, 116, 111, 99, 107, 97, 100, 101, 58, 32, 116, 101, 110, 97, 110, 116])]))

/-- 'stockadelaw01.ClockGets': WHATEVER THE INPUT: true; the input reads as it did. -/
def clockGetsSpec : ChangeSpec := { name := "clockGets", fn := fun _ => fun
  | [d1, d2, d3] => { results := [.lit (.bool true)], args := [d1, d2, d3] }
  | _ => none }
def clockGetsRow : OpenClaim := { program := "ytcipikacgkkapaadoor", sum := "1ad97fd80e1b9157ef76e172d7ae77b114aa4834706735687f31ac5c0060a69f", func := "stockade/stockadelaw01.ClockGets", spec := "clockGets", unfollowed := true, recurses := true, named := ["stockade/api.ErrRange", "stockade/api.ErrClock"], apart := false, laid := [("stockade/api.ErrRange", laid_stockade_api_ErrRange), ("stockade/api.ErrClock", laid_stockade_api_ErrClock)] }
def ClockGetsSaid : Prop := clockGetsRow.holds Tryd.pinned (OpenSpec.ofChange clockGetsSpec)

/-- ITS FALSE NEIGHBOUR: 'it returns false'. Refute it at one input. -/
def clockGetsWrong : ChangeSpec := { name := "clockGets", fn := fun _ => fun
  | [d1, d2, d3] => { results := [.lit (.bool false)], args := [d1, d2, d3] }
  | _ => none }
def ClockGetsWrongFalsely : Prop := clockGetsRow.holds Tryd.pinned (OpenSpec.ofChange clockGetsWrong)

/-- 'stockadelaw01.ClockOrder': WHATEVER THE INPUT: true; the input reads as it did. -/
def clockOrderSpec : ChangeSpec := { name := "clockOrder", fn := fun _ => fun
  | [d1, d2, d3] => { results := [.lit (.bool true)], args := [d1, d2, d3] }
  | _ => none }
def clockOrderRow : OpenClaim := { program := "ytcipikacgkkapaadoor", sum := "1ad97fd80e1b9157ef76e172d7ae77b114aa4834706735687f31ac5c0060a69f", func := "stockade/stockadelaw01.ClockOrder", spec := "clockOrder", unfollowed := true, recurses := true, named := ["stockade/api.ErrRange", "stockade/api.ErrClock"], apart := false, laid := [("stockade/api.ErrRange", laid_stockade_api_ErrRange), ("stockade/api.ErrClock", laid_stockade_api_ErrClock)] }
def ClockOrderSaid : Prop := clockOrderRow.holds Tryd.pinned (OpenSpec.ofChange clockOrderSpec)

/-- ITS FALSE NEIGHBOUR: 'it returns false'. Refute it at one input. -/
def clockOrderWrong : ChangeSpec := { name := "clockOrder", fn := fun _ => fun
  | [d1, d2, d3] => { results := [.lit (.bool false)], args := [d1, d2, d3] }
  | _ => none }
def ClockOrderWrongFalsely : Prop := clockOrderRow.holds Tryd.pinned (OpenSpec.ofChange clockOrderWrong)

/-- 'stockadelaw01.ClockShorts': WHATEVER THE INPUT: true; the input reads as it did. -/
def clockShortsSpec : ChangeSpec := { name := "clockShorts", fn := fun _ => fun
  | [d] => { results := [.lit (.bool true)], args := [d] }
  | _ => none }
def clockShortsRow : OpenClaim := { program := "ytcipikacgkkapaadoor", sum := "1ad97fd80e1b9157ef76e172d7ae77b114aa4834706735687f31ac5c0060a69f", func := "stockade/stockadelaw01.ClockShorts", spec := "clockShorts", unfollowed := true, recurses := true, named := ["stockade/api.ErrRange", "stockade/api.ErrClock"], apart := false, laid := [("stockade/api.ErrRange", laid_stockade_api_ErrRange), ("stockade/api.ErrClock", laid_stockade_api_ErrClock)] }
def ClockShortsSaid : Prop := clockShortsRow.holds Tryd.pinned (OpenSpec.ofChange clockShortsSpec)

/-- ITS FALSE NEIGHBOUR: 'it returns false'. Refute it at one input. -/
def clockShortsWrong : ChangeSpec := { name := "clockShorts", fn := fun _ => fun
  | [d] => { results := [.lit (.bool false)], args := [d] }
  | _ => none }
def ClockShortsWrongFalsely : Prop := clockShortsRow.holds Tryd.pinned (OpenSpec.ofChange clockShortsWrong)

/-- 'stockadelaw01.ClockZero': WHATEVER THE INPUT: true; the input reads as it did. -/
def clockZeroSpec : ChangeSpec := { name := "clockZero", fn := fun _ => fun
  | [d] => { results := [.lit (.bool true)], args := [d] }
  | _ => none }
def clockZeroRow : OpenClaim := { program := "ytcipikacgkkapaadoor", sum := "1ad97fd80e1b9157ef76e172d7ae77b114aa4834706735687f31ac5c0060a69f", func := "stockade/stockadelaw01.ClockZero", spec := "clockZero", unfollowed := true, recurses := true, named := ["stockade/api.ErrRange", "stockade/api.ErrClock"], apart := false, laid := [("stockade/api.ErrRange", laid_stockade_api_ErrRange), ("stockade/api.ErrClock", laid_stockade_api_ErrClock)] }
def ClockZeroSaid : Prop := clockZeroRow.holds Tryd.pinned (OpenSpec.ofChange clockZeroSpec)

/-- ITS FALSE NEIGHBOUR: 'it returns false'. Refute it at one input. -/
def clockZeroWrong : ChangeSpec := { name := "clockZero", fn := fun _ => fun
  | [d] => { results := [.lit (.bool false)], args := [d] }
  | _ => none }
def ClockZeroWrongFalsely : Prop := clockZeroRow.holds Tryd.pinned (OpenSpec.ofChange clockZeroWrong)

/-- 'stockadelaw01.ClockEpochs': WHATEVER THE INPUT: true; the input reads as it did. -/
def clockEpochsSpec : ChangeSpec := { name := "clockEpochs", fn := fun _ => fun
  | [d1, d2, d3] => { results := [.lit (.bool true)], args := [d1, d2, d3] }
  | _ => none }
def clockEpochsRow : OpenClaim := { program := "ytcipikacgkkapaadoor", sum := "1ad97fd80e1b9157ef76e172d7ae77b114aa4834706735687f31ac5c0060a69f", func := "stockade/stockadelaw01.ClockEpochs", spec := "clockEpochs", unfollowed := true, recurses := true, named := ["stockade/api.ErrRange", "stockade/api.ErrClock"], apart := false, laid := [("stockade/api.ErrRange", laid_stockade_api_ErrRange), ("stockade/api.ErrClock", laid_stockade_api_ErrClock)] }
def ClockEpochsSaid : Prop := clockEpochsRow.holds Tryd.pinned (OpenSpec.ofChange clockEpochsSpec)

/-- ITS FALSE NEIGHBOUR: 'it returns false'. Refute it at one input. -/
def clockEpochsWrong : ChangeSpec := { name := "clockEpochs", fn := fun _ => fun
  | [d1, d2, d3] => { results := [.lit (.bool false)], args := [d1, d2, d3] }
  | _ => none }
def ClockEpochsWrongFalsely : Prop := clockEpochsRow.holds Tryd.pinned (OpenSpec.ofChange clockEpochsWrong)

/-- 'stockadelaw01.ClockOf': WHATEVER THE INPUT: true; the input reads as it did. -/
def clockOfSpec : ChangeSpec := { name := "clockOf", fn := fun _ => fun
  | [d1, d2] => { results := [.lit (.bool true)], args := [d1, d2] }
  | _ => none }
def clockOfRow : OpenClaim := { program := "ytcipikacgkkapaadoor", sum := "1ad97fd80e1b9157ef76e172d7ae77b114aa4834706735687f31ac5c0060a69f", func := "stockade/stockadelaw01.ClockOf", spec := "clockOf", unfollowed := true, recurses := true, named := ["stockade/api.ErrRange", "stockade/api.ErrClock"], apart := false, laid := [("stockade/api.ErrRange", laid_stockade_api_ErrRange), ("stockade/api.ErrClock", laid_stockade_api_ErrClock)] }
def ClockOfSaid : Prop := clockOfRow.holds Tryd.pinned (OpenSpec.ofChange clockOfSpec)

/-- ITS FALSE NEIGHBOUR: 'it returns false'. Refute it at one input. -/
def clockOfWrong : ChangeSpec := { name := "clockOf", fn := fun _ => fun
  | [d1, d2] => { results := [.lit (.bool false)], args := [d1, d2] }
  | _ => none }
def ClockOfWrongFalsely : Prop := clockOfRow.holds Tryd.pinned (OpenSpec.ofChange clockOfWrong)

/-- 'stockadelaw01.ClockTicks': WHATEVER THE INPUT: true; the input reads as it did. -/
def clockTicksSpec : ChangeSpec := { name := "clockTicks", fn := fun _ => fun
  | [d1, d2, d3] => { results := [.lit (.bool true)], args := [d1, d2, d3] }
  | _ => none }
def clockTicksRow : OpenClaim := { program := "ytcipikacgkkapaadoor", sum := "1ad97fd80e1b9157ef76e172d7ae77b114aa4834706735687f31ac5c0060a69f", func := "stockade/stockadelaw01.ClockTicks", spec := "clockTicks", inPlace := ["internal/reflectlite.TypeOf"], unfollowed := true, recurses := true, named := ["stockade/api.ErrRange", "stockade/api.ErrClock", "stockade/api.ErrText", "stockade/api.ErrDepth", "stockade/api.ErrName", "stockade/api.ErrType", "stockade/api.ErrLarge", "stockade/api.ErrFull", "stockade/api.ErrNone", "stockade/api.ErrCode", "stockade/api.ErrState", "stockade/api.ErrFrame", "stockade/api.ErrMac", "stockade/api.ErrReplay", "stockade/api.ErrArena", "stockade/api.ErrQuota", "stockade/api.ErrTenant"], apart := false, laid := [("stockade/api.ErrRange", laid_stockade_api_ErrRange), ("stockade/api.ErrText", laid_stockade_api_ErrText), ("stockade/api.ErrDepth", laid_stockade_api_ErrDepth), ("stockade/api.ErrName", laid_stockade_api_ErrName), ("stockade/api.ErrType", laid_stockade_api_ErrType), ("stockade/api.ErrLarge", laid_stockade_api_ErrLarge), ("stockade/api.ErrFull", laid_stockade_api_ErrFull), ("stockade/api.ErrNone", laid_stockade_api_ErrNone), ("stockade/api.ErrCode", laid_stockade_api_ErrCode), ("stockade/api.ErrState", laid_stockade_api_ErrState), ("stockade/api.ErrFrame", laid_stockade_api_ErrFrame), ("stockade/api.ErrMac", laid_stockade_api_ErrMac), ("stockade/api.ErrReplay", laid_stockade_api_ErrReplay), ("stockade/api.ErrArena", laid_stockade_api_ErrArena), ("stockade/api.ErrClock", laid_stockade_api_ErrClock), ("stockade/api.ErrQuota", laid_stockade_api_ErrQuota), ("stockade/api.ErrTenant", laid_stockade_api_ErrTenant)] }
def ClockTicksSaid : Prop := clockTicksRow.holds Tryd.pinned (OpenSpec.ofChange clockTicksSpec)

/-- ITS FALSE NEIGHBOUR: 'it returns false'. Refute it at one input. -/
def clockTicksWrong : ChangeSpec := { name := "clockTicks", fn := fun _ => fun
  | [d1, d2, d3] => { results := [.lit (.bool false)], args := [d1, d2, d3] }
  | _ => none }
def ClockTicksWrongFalsely : Prop := clockTicksRow.holds Tryd.pinned (OpenSpec.ofChange clockTicksWrong)

/-- 'stockadelaw01.ClockTells': WHATEVER THE INPUT: true; the input reads as it did. -/
def clockTellsSpec : ChangeSpec := { name := "clockTells", fn := fun _ => fun
  | [d1, d2, d3] => { results := [.lit (.bool true)], args := [d1, d2, d3] }
  | _ => none }
def clockTellsRow : OpenClaim := { program := "ytcipikacgkkapaadoor", sum := "1ad97fd80e1b9157ef76e172d7ae77b114aa4834706735687f31ac5c0060a69f", func := "stockade/stockadelaw01.ClockTells", spec := "clockTells", inPlace := ["internal/reflectlite.TypeOf"], unfollowed := true, recurses := true, named := ["stockade/api.ErrRange", "stockade/api.ErrClock", "stockade/api.ErrText", "stockade/api.ErrDepth", "stockade/api.ErrName", "stockade/api.ErrType", "stockade/api.ErrLarge", "stockade/api.ErrFull", "stockade/api.ErrNone", "stockade/api.ErrCode", "stockade/api.ErrState", "stockade/api.ErrFrame", "stockade/api.ErrMac", "stockade/api.ErrReplay", "stockade/api.ErrArena", "stockade/api.ErrQuota", "stockade/api.ErrTenant"], apart := false, laid := [("stockade/api.ErrRange", laid_stockade_api_ErrRange), ("stockade/api.ErrText", laid_stockade_api_ErrText), ("stockade/api.ErrDepth", laid_stockade_api_ErrDepth), ("stockade/api.ErrName", laid_stockade_api_ErrName), ("stockade/api.ErrType", laid_stockade_api_ErrType), ("stockade/api.ErrLarge", laid_stockade_api_ErrLarge), ("stockade/api.ErrFull", laid_stockade_api_ErrFull), ("stockade/api.ErrNone", laid_stockade_api_ErrNone), ("stockade/api.ErrCode", laid_stockade_api_ErrCode), ("stockade/api.ErrState", laid_stockade_api_ErrState), ("stockade/api.ErrFrame", laid_stockade_api_ErrFrame), ("stockade/api.ErrMac", laid_stockade_api_ErrMac), ("stockade/api.ErrReplay", laid_stockade_api_ErrReplay), ("stockade/api.ErrArena", laid_stockade_api_ErrArena), ("stockade/api.ErrClock", laid_stockade_api_ErrClock), ("stockade/api.ErrQuota", laid_stockade_api_ErrQuota), ("stockade/api.ErrTenant", laid_stockade_api_ErrTenant)] }
def ClockTellsSaid : Prop := clockTellsRow.holds Tryd.pinned (OpenSpec.ofChange clockTellsSpec)

/-- ITS FALSE NEIGHBOUR: 'it returns false'. Refute it at one input. -/
def clockTellsWrong : ChangeSpec := { name := "clockTells", fn := fun _ => fun
  | [d1, d2, d3] => { results := [.lit (.bool false)], args := [d1, d2, d3] }
  | _ => none }
def ClockTellsWrongFalsely : Prop := clockTellsRow.holds Tryd.pinned (OpenSpec.ofChange clockTellsWrong)

/- THE SECOND FORM. 'bulk': how many values and letters a reading holds, each counted each time it is reached (what is shared counts as often as it is met; a slice's spare places count too). A statement '..UptoSaid' is the law's where the arguments, and the package variables that the reading takes, are together of bulk at most 1048576: NARROWER than '..Said'. Prove '..Said' where nothing that the law and all that it calls make is longer than what came in: it says more and counts as full. Else prove '..UptoSaid'. A law counts once. -/
mutual
def uptoBulk {H : Type} : DataW H → Nat
  | .lit (.string bytes) => bytes.length + 1
  | .lit _ => 1
  | .nil => 1
  | .ptr d => uptoBulk d + 1
  | .slice elems spare => uptoBulkAll elems + uptoBulkAll spare + 1
  | .agg parts => uptoBulkAll parts + 1
  | .iface _ d => uptoBulk d + 1
  | .map entries => uptoBulkEntries entries + 1
  | .held _ => 1
def uptoBulkAll {H : Type} : List (DataW H) → Nat
  | [] => 0
  | d :: r => uptoBulk d + uptoBulkAll r
def uptoBulkEntries {H : Type} : List (Lit × DataW H) → Nat
  | [] => 0
  | x :: r => uptoBulkEntry x + uptoBulkEntries r
def uptoBulkEntry {H : Type} : Lit × DataW H → Nat
  | (.string bytes, d) => bytes.length + uptoBulk d + 1
  | (_, d) => uptoBulk d + 1
 end
def uptoSmall : (H : Type) → List (DataW H) → Bool := fun _ ds => decide (uptoBulkAll ds ≤ 1048576)
def OpenSpec.upto (s : _root_.Go.ChangeSpec) : _root_.Go.OpenSpec := { _root_.Go.OpenSpec.ofChange s with cond := some uptoSmall }

/-- 'stockadelaw01.ClockGets', WHERE WHAT IT READS IS OF BULK AT MOST 1048576: true; the input reads as it did. -/
def clockGetsUptoRow : OpenClaim := { program := "ytcipikacgkkapaadoor", sum := "1ad97fd80e1b9157ef76e172d7ae77b114aa4834706735687f31ac5c0060a69f", func := "stockade/stockadelaw01.ClockGets", spec := "clockGets", unfollowed := true, recurses := true, named := ["stockade/api.ErrRange", "stockade/api.ErrClock"], apart := false, laid := [("stockade/api.ErrRange", laid_stockade_api_ErrRange), ("stockade/api.ErrClock", laid_stockade_api_ErrClock)], narrowed := true }
def ClockGetsUptoSaid : Prop := clockGetsUptoRow.holds Tryd.pinned (OpenSpec.upto clockGetsSpec)

/-- 'stockadelaw01.ClockOrder', WHERE WHAT IT READS IS OF BULK AT MOST 1048576: true; the input reads as it did. -/
def clockOrderUptoRow : OpenClaim := { program := "ytcipikacgkkapaadoor", sum := "1ad97fd80e1b9157ef76e172d7ae77b114aa4834706735687f31ac5c0060a69f", func := "stockade/stockadelaw01.ClockOrder", spec := "clockOrder", unfollowed := true, recurses := true, named := ["stockade/api.ErrRange", "stockade/api.ErrClock"], apart := false, laid := [("stockade/api.ErrRange", laid_stockade_api_ErrRange), ("stockade/api.ErrClock", laid_stockade_api_ErrClock)], narrowed := true }
def ClockOrderUptoSaid : Prop := clockOrderUptoRow.holds Tryd.pinned (OpenSpec.upto clockOrderSpec)

/-- 'stockadelaw01.ClockShorts', WHERE WHAT IT READS IS OF BULK AT MOST 1048576: true; the input reads as it did. -/
def clockShortsUptoRow : OpenClaim := { program := "ytcipikacgkkapaadoor", sum := "1ad97fd80e1b9157ef76e172d7ae77b114aa4834706735687f31ac5c0060a69f", func := "stockade/stockadelaw01.ClockShorts", spec := "clockShorts", unfollowed := true, recurses := true, named := ["stockade/api.ErrRange", "stockade/api.ErrClock"], apart := false, laid := [("stockade/api.ErrRange", laid_stockade_api_ErrRange), ("stockade/api.ErrClock", laid_stockade_api_ErrClock)], narrowed := true }
def ClockShortsUptoSaid : Prop := clockShortsUptoRow.holds Tryd.pinned (OpenSpec.upto clockShortsSpec)

/-- 'stockadelaw01.ClockZero', WHERE WHAT IT READS IS OF BULK AT MOST 1048576: true; the input reads as it did. -/
def clockZeroUptoRow : OpenClaim := { program := "ytcipikacgkkapaadoor", sum := "1ad97fd80e1b9157ef76e172d7ae77b114aa4834706735687f31ac5c0060a69f", func := "stockade/stockadelaw01.ClockZero", spec := "clockZero", unfollowed := true, recurses := true, named := ["stockade/api.ErrRange", "stockade/api.ErrClock"], apart := false, laid := [("stockade/api.ErrRange", laid_stockade_api_ErrRange), ("stockade/api.ErrClock", laid_stockade_api_ErrClock)], narrowed := true }
def ClockZeroUptoSaid : Prop := clockZeroUptoRow.holds Tryd.pinned (OpenSpec.upto clockZeroSpec)

/-- 'stockadelaw01.ClockEpochs', WHERE WHAT IT READS IS OF BULK AT MOST 1048576: true; the input reads as it did. -/
def clockEpochsUptoRow : OpenClaim := { program := "ytcipikacgkkapaadoor", sum := "1ad97fd80e1b9157ef76e172d7ae77b114aa4834706735687f31ac5c0060a69f", func := "stockade/stockadelaw01.ClockEpochs", spec := "clockEpochs", unfollowed := true, recurses := true, named := ["stockade/api.ErrRange", "stockade/api.ErrClock"], apart := false, laid := [("stockade/api.ErrRange", laid_stockade_api_ErrRange), ("stockade/api.ErrClock", laid_stockade_api_ErrClock)], narrowed := true }
def ClockEpochsUptoSaid : Prop := clockEpochsUptoRow.holds Tryd.pinned (OpenSpec.upto clockEpochsSpec)

/-- 'stockadelaw01.ClockOf', WHERE WHAT IT READS IS OF BULK AT MOST 1048576: true; the input reads as it did. -/
def clockOfUptoRow : OpenClaim := { program := "ytcipikacgkkapaadoor", sum := "1ad97fd80e1b9157ef76e172d7ae77b114aa4834706735687f31ac5c0060a69f", func := "stockade/stockadelaw01.ClockOf", spec := "clockOf", unfollowed := true, recurses := true, named := ["stockade/api.ErrRange", "stockade/api.ErrClock"], apart := false, laid := [("stockade/api.ErrRange", laid_stockade_api_ErrRange), ("stockade/api.ErrClock", laid_stockade_api_ErrClock)], narrowed := true }
def ClockOfUptoSaid : Prop := clockOfUptoRow.holds Tryd.pinned (OpenSpec.upto clockOfSpec)

/-- 'stockadelaw01.ClockTicks', WHERE WHAT IT READS IS OF BULK AT MOST 1048576: true; the input reads as it did. -/
def clockTicksUptoRow : OpenClaim := { program := "ytcipikacgkkapaadoor", sum := "1ad97fd80e1b9157ef76e172d7ae77b114aa4834706735687f31ac5c0060a69f", func := "stockade/stockadelaw01.ClockTicks", spec := "clockTicks", inPlace := ["internal/reflectlite.TypeOf"], unfollowed := true, recurses := true, named := ["stockade/api.ErrRange", "stockade/api.ErrClock", "stockade/api.ErrText", "stockade/api.ErrDepth", "stockade/api.ErrName", "stockade/api.ErrType", "stockade/api.ErrLarge", "stockade/api.ErrFull", "stockade/api.ErrNone", "stockade/api.ErrCode", "stockade/api.ErrState", "stockade/api.ErrFrame", "stockade/api.ErrMac", "stockade/api.ErrReplay", "stockade/api.ErrArena", "stockade/api.ErrQuota", "stockade/api.ErrTenant"], apart := false, laid := [("stockade/api.ErrRange", laid_stockade_api_ErrRange), ("stockade/api.ErrText", laid_stockade_api_ErrText), ("stockade/api.ErrDepth", laid_stockade_api_ErrDepth), ("stockade/api.ErrName", laid_stockade_api_ErrName), ("stockade/api.ErrType", laid_stockade_api_ErrType), ("stockade/api.ErrLarge", laid_stockade_api_ErrLarge), ("stockade/api.ErrFull", laid_stockade_api_ErrFull), ("stockade/api.ErrNone", laid_stockade_api_ErrNone), ("stockade/api.ErrCode", laid_stockade_api_ErrCode), ("stockade/api.ErrState", laid_stockade_api_ErrState), ("stockade/api.ErrFrame", laid_stockade_api_ErrFrame), ("stockade/api.ErrMac", laid_stockade_api_ErrMac), ("stockade/api.ErrReplay", laid_stockade_api_ErrReplay), ("stockade/api.ErrArena", laid_stockade_api_ErrArena), ("stockade/api.ErrClock", laid_stockade_api_ErrClock), ("stockade/api.ErrQuota", laid_stockade_api_ErrQuota), ("stockade/api.ErrTenant", laid_stockade_api_ErrTenant)], narrowed := true }
def ClockTicksUptoSaid : Prop := clockTicksUptoRow.holds Tryd.pinned (OpenSpec.upto clockTicksSpec)

/-- 'stockadelaw01.ClockTells', WHERE WHAT IT READS IS OF BULK AT MOST 1048576: true; the input reads as it did. -/
def clockTellsUptoRow : OpenClaim := { program := "ytcipikacgkkapaadoor", sum := "1ad97fd80e1b9157ef76e172d7ae77b114aa4834706735687f31ac5c0060a69f", func := "stockade/stockadelaw01.ClockTells", spec := "clockTells", inPlace := ["internal/reflectlite.TypeOf"], unfollowed := true, recurses := true, named := ["stockade/api.ErrRange", "stockade/api.ErrClock", "stockade/api.ErrText", "stockade/api.ErrDepth", "stockade/api.ErrName", "stockade/api.ErrType", "stockade/api.ErrLarge", "stockade/api.ErrFull", "stockade/api.ErrNone", "stockade/api.ErrCode", "stockade/api.ErrState", "stockade/api.ErrFrame", "stockade/api.ErrMac", "stockade/api.ErrReplay", "stockade/api.ErrArena", "stockade/api.ErrQuota", "stockade/api.ErrTenant"], apart := false, laid := [("stockade/api.ErrRange", laid_stockade_api_ErrRange), ("stockade/api.ErrText", laid_stockade_api_ErrText), ("stockade/api.ErrDepth", laid_stockade_api_ErrDepth), ("stockade/api.ErrName", laid_stockade_api_ErrName), ("stockade/api.ErrType", laid_stockade_api_ErrType), ("stockade/api.ErrLarge", laid_stockade_api_ErrLarge), ("stockade/api.ErrFull", laid_stockade_api_ErrFull), ("stockade/api.ErrNone", laid_stockade_api_ErrNone), ("stockade/api.ErrCode", laid_stockade_api_ErrCode), ("stockade/api.ErrState", laid_stockade_api_ErrState), ("stockade/api.ErrFrame", laid_stockade_api_ErrFrame), ("stockade/api.ErrMac", laid_stockade_api_ErrMac), ("stockade/api.ErrReplay", laid_stockade_api_ErrReplay), ("stockade/api.ErrArena", laid_stockade_api_ErrArena), ("stockade/api.ErrClock", laid_stockade_api_ErrClock), ("stockade/api.ErrQuota", laid_stockade_api_ErrQuota), ("stockade/api.ErrTenant", laid_stockade_api_ErrTenant)], narrowed := true }
def ClockTellsUptoSaid : Prop := clockTellsUptoRow.holds Tryd.pinned (OpenSpec.upto clockTellsSpec)

end Rows
end Go.Proofs.YtcipikacgkkapaaDoor
