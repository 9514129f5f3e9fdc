/-
  NARROWER THAN 'FOR EVERY INPUT', by the rows' own cells (each row's printed sentence says how): PoolSizes: laid · PoolFrees: laid · PoolBounds: laid · PoolZeroes: laid · PoolApart: laid · PoolPlays: laid.
  DERIVED. THE GIVEN ROWS OF THIS SEAT. 6 by the template 'for every input the law returns true; each argument reads behind the call as it read before'; 0 by the template 'total and deterministic' (their statements: YtpjphmpebegidaaDoorTotals.lean).
  GIVEN WITH THE SEED: the statements are not yours to turn. If you find one false, say at which input.
  Laid BY PROGRAM, IN A SANDBOX (cutbox-rows.mjs): the forced cells as the released guide's own fill.sh prints them over the translation 455c70f45291b09f… (all of the seat's roots in one cut). By AI agents, Wed Nov 11 2026. No macro, syntax, notation, axiom, sorry.
-/
import Derived.Test.YtpjphmpebegidaaDoorChecked
import GoSem.Claim
import GoSem.ClaimJoined
import GoSem.ClaimMapViews
import Derived.JoinedTies
import Derived.KernelRfl
namespace Go.Proofs.YtpjphmpebegidaaDoor
/- THE CELL 'sum', in the pinned program and in every row, IS THE sha256 OF THE DUMP (.gsa) THAT YtpjphmpebegidaaDoorProg.lean LOADS. Nothing in Lean hashes anything: it is a label: what it is worth is what the hold of that sum in a sandbox is worth. -/
noncomputable def Tryd.pinned : Pinned := { name := "ytpjphmpebegidaadoor", sum := "455c70f45291b09f697ed2b26bf28f83ad52612bdcb2ccdb50d7f7dc1022be96", checked := Tryd.checked }
namespace Rows
def none {H : Type} : Left H := { results := [], args := [] }

/- WHAT THE LISTED PACKAGE-LEVEL VARIABLES READ AS WHEN THE CALL BEGINS. Each datum BY PROGRAM (the guide's laid-datum.mjs) off the statement by which the dump's own 'gosem.cut.vars' lays the variable. In a bare row this is a premise. The card (YtpjphmpebegidaaDoorCards.lean) ties it to the program's text. -/
def laid_stockade_api_ErrRange {H : Type} : DataW H := .iface "*errors.errorString" (.ptr (.agg [.lit (.string [115, 116, 111, 99, 107, 97, 100, 101, 58, 32, 114, 97, 110, 103, 101])]))
def laid_stockade_api_ErrText {H : Type} : DataW H := .iface "*errors.errorString" (.ptr (.agg [.lit (.string [115, 116, 111, 99, 107, 97, 100, 101, 58, 32, 116, 101, 120, 116])]))
def laid_stockade_api_ErrDepth {H : Type} : DataW H := .iface "*errors.errorString" (.ptr (.agg [.lit (.string [115, 116, 111, 99, 107, 97, 100, 101, 58, 32, 100, 101, 112, 116, 104])]))
def laid_stockade_api_ErrName {H : Type} : DataW H := .iface "*errors.errorString" (.ptr (.agg [.lit (.string [115, 116, 111, 99, 107, 97, 100, 101, 58, 32, 110, 97, 109, 101])]))
def laid_stockade_api_ErrType {H : Type} : DataW H := .iface "*errors.errorString" (.ptr (.agg [.lit (.string [115, 116, 111, 99, 107, 97, 100, 101, 58, 32, 116, 121, 112, 101])]))
def laid_stockade_api_ErrLarge {H : Type} : DataW H := .iface "*errors.errorString" (.ptr (.agg [.lit (.string [115, 116, 111, 99, 107, 97, 100, 101, 58, 32, 108, 97, 114, 103, 101])]))
def laid_stockade_api_ErrFull {H : Type} : DataW H := .iface "*errors.errorString" (.ptr (.agg [.lit (.string [115, 116, 111, 99, 107, 97, 100, 101, 58, 32, 102, 117, 108, 108])]))
def laid_stockade_api_ErrNone {H : Type} : DataW H := .iface "*errors.errorString" (.ptr (.agg [.lit (.string [115, 116, 111, 99, 107, 97, 100, 101, 58, 32, 110, 111, 110, 101])]))
def laid_stockade_api_ErrCode {H : Type} : DataW H := .iface "*errors.errorString" (.ptr (.agg [.lit (.string [115, 116, 111, 99, 107, 97, 100, 101, 58, 32, 99, 111, 100, 101])]))
def laid_stockade_api_ErrState {H : Type} : DataW H := .iface "*errors.errorString" (.ptr (.agg [.lit (.string [115, 116, 111, 99, 107, 97, 100, 101, 58, 32, 115, 116, 97, 116, 101])]))
def laid_stockade_api_ErrFrame {H : Type} : DataW H := .iface "*errors.errorString" (.ptr (.agg [.lit (.string [115, 116, 111, 99, 107, 97, 100, 101, 58, 32, 102, 114, 97, 109, 101])]))
def laid_stockade_api_ErrMac {H : Type} : DataW H := .iface "*errors.errorString" (.ptr (.agg [.lit (.string [115, 116, 111, 99, 107, 97, 100, 101, 58, 32, 109, 97, 99])]))
def laid_stockade_api_ErrReplay {H : Type} : DataW H := .iface "*errors.errorString" (.ptr (.agg [.lit (.string [115, 116, 111, 99, 107, 97, 100, 101, 58, 32, 114, 101, 112, 108, 97, 121])]))
def laid_stockade_api_ErrArena {H : Type} : DataW H := .iface "*errors.errorString" (.ptr (.agg [.lit (.string [115, 116, 111, 99, 107, 97, 100, 101, 58, 32, 97, 114, 101, 110, 97])]))
def laid_stockade_api_ErrClock {H : Type} : DataW H := .iface "*errors.errorString" (.ptr (.agg [.lit (.string [115, 116, 111, 99, 107, 97, 100, 101, 58, 32, 99, 108, 111, 99, 107])]))
def laid_stockade_api_ErrQuota {H : Type} : DataW H := .iface "*errors.errorString" (.ptr (.agg [.lit (.string [115, 116, 111, 99, 107, 97, 100, 101, 58, 32, 113, 117, 111, 116, 97])]))
def laid_stockade_api_ErrTenant {H : Type} : DataW H := .iface "*errors.errorString" (.ptr (.agg [.lit (.string [115, 116, 111, 99, 107, 97, 100, 101, 58, 32, 116, 101, 110, 97, 110, 116])]))

/-- 'stockadelaw02.PoolSizes': WHATEVER THE INPUT: true; the input reads as it did. -/
def poolSizesSpec : ChangeSpec := { name := "poolSizes", fn := fun _ => fun
  | [d1, d2] => { results := [.lit (.bool true)], args := [d1, d2] }
  | _ => none }
def poolSizesRow : OpenClaim := { program := "ytpjphmpebegidaadoor", sum := "455c70f45291b09f697ed2b26bf28f83ad52612bdcb2ccdb50d7f7dc1022be96", func := "stockade/stockadelaw02.PoolSizes", spec := "poolSizes", inPlace := ["internal/reflectlite.TypeOf"], unfollowed := true, recurses := true, named := ["stockade/api.ErrRange", "stockade/api.ErrArena", "stockade/api.ErrNone", "stockade/api.ErrText", "stockade/api.ErrDepth", "stockade/api.ErrName", "stockade/api.ErrType", "stockade/api.ErrLarge", "stockade/api.ErrFull", "stockade/api.ErrCode", "stockade/api.ErrState", "stockade/api.ErrFrame", "stockade/api.ErrMac", "stockade/api.ErrReplay", "stockade/api.ErrClock", "stockade/api.ErrQuota", "stockade/api.ErrTenant"], apart := false, laid := [("stockade/api.ErrRange", laid_stockade_api_ErrRange), ("stockade/api.ErrText", laid_stockade_api_ErrText), ("stockade/api.ErrDepth", laid_stockade_api_ErrDepth), ("stockade/api.ErrName", laid_stockade_api_ErrName), ("stockade/api.ErrType", laid_stockade_api_ErrType), ("stockade/api.ErrLarge", laid_stockade_api_ErrLarge), ("stockade/api.ErrFull", laid_stockade_api_ErrFull), ("stockade/api.ErrNone", laid_stockade_api_ErrNone), ("stockade/api.ErrCode", laid_stockade_api_ErrCode), ("stockade/api.ErrState", laid_stockade_api_ErrState), ("stockade/api.ErrFrame", laid_stockade_api_ErrFrame), ("stockade/api.ErrMac", laid_stockade_api_ErrMac), ("stockade/api.ErrReplay", laid_stockade_api_ErrReplay), ("stockade/api.ErrArena", laid_stockade_api_ErrArena), ("stockade/api.ErrClock", laid_stockade_api_ErrClock), ("stockade/api.ErrQuota", laid_stockade_api_ErrQuota), ("stockade/api.ErrTenant", laid_stockade_api_ErrTenant)] }
def PoolSizesSaid : Prop := poolSizesRow.holds Tryd.pinned (OpenSpec.ofChange poolSizesSpec)

/-- ITS FALSE NEIGHBOUR: 'it returns false'. Refute it at one input. -/
def poolSizesWrong : ChangeSpec := { name := "poolSizes", fn := fun _ => fun
  | [d1, d2] => { results := [.lit (.bool false)], args := [d1, d2] }
  | _ => none }
def PoolSizesWrongFalsely : Prop := poolSizesRow.holds Tryd.pinned (OpenSpec.ofChange poolSizesWrong)

/-- 'stockadelaw02.PoolFrees': WHATEVER THE INPUT: true; the input reads as it did. -/
def poolFreesSpec : ChangeSpec := { name := "poolFrees", fn := fun _ => fun
  | [d1, d2, d3] => { results := [.lit (.bool true)], args := [d1, d2, d3] }
  | _ => none }
def poolFreesRow : OpenClaim := { program := "ytpjphmpebegidaadoor", sum := "455c70f45291b09f697ed2b26bf28f83ad52612bdcb2ccdb50d7f7dc1022be96", func := "stockade/stockadelaw02.PoolFrees", spec := "poolFrees", inPlace := ["internal/reflectlite.TypeOf"], unfollowed := true, recurses := true, named := ["stockade/api.ErrRange", "stockade/api.ErrArena", "stockade/api.ErrNone", "stockade/api.ErrText", "stockade/api.ErrDepth", "stockade/api.ErrName", "stockade/api.ErrType", "stockade/api.ErrLarge", "stockade/api.ErrFull", "stockade/api.ErrCode", "stockade/api.ErrState", "stockade/api.ErrFrame", "stockade/api.ErrMac", "stockade/api.ErrReplay", "stockade/api.ErrClock", "stockade/api.ErrQuota", "stockade/api.ErrTenant"], apart := false, laid := [("stockade/api.ErrRange", laid_stockade_api_ErrRange), ("stockade/api.ErrText", laid_stockade_api_ErrText), ("stockade/api.ErrDepth", laid_stockade_api_ErrDepth), ("stockade/api.ErrName", laid_stockade_api_ErrName), ("stockade/api.ErrType", laid_stockade_api_ErrType), ("stockade/api.ErrLarge", laid_stockade_api_ErrLarge), ("stockade/api.ErrFull", laid_stockade_api_ErrFull), ("stockade/api.ErrNone", laid_stockade_api_ErrNone), ("stockade/api.ErrCode", laid_stockade_api_ErrCode), ("stockade/api.ErrState", laid_stockade_api_ErrState), ("stockade/api.ErrFrame", laid_stockade_api_ErrFrame), ("stockade/api.ErrMac", laid_stockade_api_ErrMac), ("stockade/api.ErrReplay", laid_stockade_api_ErrReplay), ("stockade/api.ErrArena", laid_stockade_api_ErrArena), ("stockade/api.ErrClock", laid_stockade_api_ErrClock), ("stockade/api.ErrQuota", laid_stockade_api_ErrQuota), ("stockade/api.ErrTenant", laid_stockade_api_ErrTenant)] }
def PoolFreesSaid : Prop := poolFreesRow.holds Tryd.pinned (OpenSpec.ofChange poolFreesSpec)

/-- ITS FALSE NEIGHBOUR: 'it returns false'. Refute it at one input. -/
def poolFreesWrong : ChangeSpec := { name := "poolFrees", fn := fun _ => fun
  | [d1, d2, d3] => { results := [.lit (.bool false)], args := [d1, d2, d3] }
  | _ => none }
def PoolFreesWrongFalsely : Prop := poolFreesRow.holds Tryd.pinned (OpenSpec.ofChange poolFreesWrong)

/-- 'stockadelaw02.PoolBounds': WHATEVER THE INPUT: true; the input reads as it did. -/
def poolBoundsSpec : ChangeSpec := { name := "poolBounds", fn := fun _ => fun
  | [d1, d2, d3] => { results := [.lit (.bool true)], args := [d1, d2, d3] }
  | _ => none }
def poolBoundsRow : OpenClaim := { program := "ytpjphmpebegidaadoor", sum := "455c70f45291b09f697ed2b26bf28f83ad52612bdcb2ccdb50d7f7dc1022be96", func := "stockade/stockadelaw02.PoolBounds", spec := "poolBounds", inPlace := ["internal/reflectlite.TypeOf"], unfollowed := true, recurses := true, named := ["stockade/api.ErrRange", "stockade/api.ErrArena", "stockade/api.ErrNone", "stockade/api.ErrText", "stockade/api.ErrDepth", "stockade/api.ErrName", "stockade/api.ErrType", "stockade/api.ErrLarge", "stockade/api.ErrFull", "stockade/api.ErrCode", "stockade/api.ErrState", "stockade/api.ErrFrame", "stockade/api.ErrMac", "stockade/api.ErrReplay", "stockade/api.ErrClock", "stockade/api.ErrQuota", "stockade/api.ErrTenant"], apart := false, laid := [("stockade/api.ErrRange", laid_stockade_api_ErrRange), ("stockade/api.ErrText", laid_stockade_api_ErrText), ("stockade/api.ErrDepth", laid_stockade_api_ErrDepth), ("stockade/api.ErrName", laid_stockade_api_ErrName), ("stockade/api.ErrType", laid_stockade_api_ErrType), ("stockade/api.ErrLarge", laid_stockade_api_ErrLarge), ("stockade/api.ErrFull", laid_stockade_api_ErrFull), ("stockade/api.ErrNone", laid_stockade_api_ErrNone), ("stockade/api.ErrCode", laid_stockade_api_ErrCode), ("stockade/api.ErrState", laid_stockade_api_ErrState), ("stockade/api.ErrFrame", laid_stockade_api_ErrFrame), ("stockade/api.ErrMac", laid_stockade_api_ErrMac), ("stockade/api.ErrReplay", laid_stockade_api_ErrReplay), ("stockade/api.ErrArena", laid_stockade_api_ErrArena), ("stockade/api.ErrClock", laid_stockade_api_ErrClock), ("stockade/api.ErrQuota", laid_stockade_api_ErrQuota), ("stockade/api.ErrTenant", laid_stockade_api_ErrTenant)] }
def PoolBoundsSaid : Prop := poolBoundsRow.holds Tryd.pinned (OpenSpec.ofChange poolBoundsSpec)

/-- ITS FALSE NEIGHBOUR: 'it returns false'. Refute it at one input. -/
def poolBoundsWrong : ChangeSpec := { name := "poolBounds", fn := fun _ => fun
  | [d1, d2, d3] => { results := [.lit (.bool false)], args := [d1, d2, d3] }
  | _ => none }
def PoolBoundsWrongFalsely : Prop := poolBoundsRow.holds Tryd.pinned (OpenSpec.ofChange poolBoundsWrong)

/-- 'stockadelaw02.PoolZeroes': WHATEVER THE INPUT: true; the input reads as it did. -/
def poolZeroesSpec : ChangeSpec := { name := "poolZeroes", fn := fun _ => fun
  | [d1, d2] => { results := [.lit (.bool true)], args := [d1, d2] }
  | _ => none }
def poolZeroesRow : OpenClaim := { program := "ytpjphmpebegidaadoor", sum := "455c70f45291b09f697ed2b26bf28f83ad52612bdcb2ccdb50d7f7dc1022be96", func := "stockade/stockadelaw02.PoolZeroes", spec := "poolZeroes", inPlace := ["internal/reflectlite.TypeOf"], unfollowed := true, recurses := true, named := ["stockade/api.ErrRange", "stockade/api.ErrArena", "stockade/api.ErrNone", "stockade/api.ErrText", "stockade/api.ErrDepth", "stockade/api.ErrName", "stockade/api.ErrType", "stockade/api.ErrLarge", "stockade/api.ErrFull", "stockade/api.ErrCode", "stockade/api.ErrState", "stockade/api.ErrFrame", "stockade/api.ErrMac", "stockade/api.ErrReplay", "stockade/api.ErrClock", "stockade/api.ErrQuota", "stockade/api.ErrTenant"], apart := false, laid := [("stockade/api.ErrRange", laid_stockade_api_ErrRange), ("stockade/api.ErrText", laid_stockade_api_ErrText), ("stockade/api.ErrDepth", laid_stockade_api_ErrDepth), ("stockade/api.ErrName", laid_stockade_api_ErrName), ("stockade/api.ErrType", laid_stockade_api_ErrType), ("stockade/api.ErrLarge", laid_stockade_api_ErrLarge), ("stockade/api.ErrFull", laid_stockade_api_ErrFull), ("stockade/api.ErrNone", laid_stockade_api_ErrNone), ("stockade/api.ErrCode", laid_stockade_api_ErrCode), ("stockade/api.ErrState", laid_stockade_api_ErrState), ("stockade/api.ErrFrame", laid_stockade_api_ErrFrame), ("stockade/api.ErrMac", laid_stockade_api_ErrMac), ("stockade/api.ErrReplay", laid_stockade_api_ErrReplay), ("stockade/api.ErrArena", laid_stockade_api_ErrArena), ("stockade/api.ErrClock", laid_stockade_api_ErrClock), ("stockade/api.ErrQuota", laid_stockade_api_ErrQuota), ("stockade/api.ErrTenant", laid_stockade_api_ErrTenant)] }
def PoolZeroesSaid : Prop := poolZeroesRow.holds Tryd.pinned (OpenSpec.ofChange poolZeroesSpec)

/-- ITS FALSE NEIGHBOUR: 'it returns false'. Refute it at one input. -/
def poolZeroesWrong : ChangeSpec := { name := "poolZeroes", fn := fun _ => fun
  | [d1, d2] => { results := [.lit (.bool false)], args := [d1, d2] }
  | _ => none }
def PoolZeroesWrongFalsely : Prop := poolZeroesRow.holds Tryd.pinned (OpenSpec.ofChange poolZeroesWrong)

/-- 'stockadelaw02.PoolApart': WHATEVER THE INPUT: true; the input reads as it did. -/
def poolApartSpec : ChangeSpec := { name := "poolApart", fn := fun _ => fun
  | [d1, d2, d3] => { results := [.lit (.bool true)], args := [d1, d2, d3] }
  | _ => none }
def poolApartRow : OpenClaim := { program := "ytpjphmpebegidaadoor", sum := "455c70f45291b09f697ed2b26bf28f83ad52612bdcb2ccdb50d7f7dc1022be96", func := "stockade/stockadelaw02.PoolApart", spec := "poolApart", inPlace := ["internal/reflectlite.TypeOf"], unfollowed := true, recurses := true, named := ["stockade/api.ErrRange", "stockade/api.ErrArena", "stockade/api.ErrNone", "stockade/api.ErrText", "stockade/api.ErrDepth", "stockade/api.ErrName", "stockade/api.ErrType", "stockade/api.ErrLarge", "stockade/api.ErrFull", "stockade/api.ErrCode", "stockade/api.ErrState", "stockade/api.ErrFrame", "stockade/api.ErrMac", "stockade/api.ErrReplay", "stockade/api.ErrClock", "stockade/api.ErrQuota", "stockade/api.ErrTenant"], apart := false, laid := [("stockade/api.ErrRange", laid_stockade_api_ErrRange), ("stockade/api.ErrText", laid_stockade_api_ErrText), ("stockade/api.ErrDepth", laid_stockade_api_ErrDepth), ("stockade/api.ErrName", laid_stockade_api_ErrName), ("stockade/api.ErrType", laid_stockade_api_ErrType), ("stockade/api.ErrLarge", laid_stockade_api_ErrLarge), ("stockade/api.ErrFull", laid_stockade_api_ErrFull), ("stockade/api.ErrNone", laid_stockade_api_ErrNone), ("stockade/api.ErrCode", laid_stockade_api_ErrCode), ("stockade/api.ErrState", laid_stockade_api_ErrState), ("stockade/api.ErrFrame", laid_stockade_api_ErrFrame), ("stockade/api.ErrMac", laid_stockade_api_ErrMac), ("stockade/api.ErrReplay", laid_stockade_api_ErrReplay), ("stockade/api.ErrArena", laid_stockade_api_ErrArena), ("stockade/api.ErrClock", laid_stockade_api_ErrClock), ("stockade/api.ErrQuota", laid_stockade_api_ErrQuota), ("stockade/api.ErrTenant", laid_stockade_api_ErrTenant)] }
def PoolApartSaid : Prop := poolApartRow.holds Tryd.pinned (OpenSpec.ofChange poolApartSpec)

/-- ITS FALSE NEIGHBOUR: 'it returns false'. Refute it at one input. -/
def poolApartWrong : ChangeSpec := { name := "poolApart", fn := fun _ => fun
  | [d1, d2, d3] => { results := [.lit (.bool false)], args := [d1, d2, d3] }
  | _ => none }
def PoolApartWrongFalsely : Prop := poolApartRow.holds Tryd.pinned (OpenSpec.ofChange poolApartWrong)

/-- 'stockadelaw02.PoolPlays': WHATEVER THE INPUT: true; the input reads as it did. -/
def poolPlaysSpec : ChangeSpec := { name := "poolPlays", fn := fun _ => fun
  | [d1, d2, d3] => { results := [.lit (.bool true)], args := [d1, d2, d3] }
  | _ => none }
def poolPlaysRow : OpenClaim := { program := "ytpjphmpebegidaadoor", sum := "455c70f45291b09f697ed2b26bf28f83ad52612bdcb2ccdb50d7f7dc1022be96", func := "stockade/stockadelaw02.PoolPlays", spec := "poolPlays", inPlace := ["internal/reflectlite.TypeOf"], unfollowed := true, recurses := true, named := ["stockade/api.ErrRange", "stockade/api.ErrArena", "stockade/api.ErrNone", "stockade/api.ErrText", "stockade/api.ErrDepth", "stockade/api.ErrName", "stockade/api.ErrType", "stockade/api.ErrLarge", "stockade/api.ErrFull", "stockade/api.ErrCode", "stockade/api.ErrState", "stockade/api.ErrFrame", "stockade/api.ErrMac", "stockade/api.ErrReplay", "stockade/api.ErrClock", "stockade/api.ErrQuota", "stockade/api.ErrTenant"], apart := false, laid := [("stockade/api.ErrRange", laid_stockade_api_ErrRange), ("stockade/api.ErrText", laid_stockade_api_ErrText), ("stockade/api.ErrDepth", laid_stockade_api_ErrDepth), ("stockade/api.ErrName", laid_stockade_api_ErrName), ("stockade/api.ErrType", laid_stockade_api_ErrType), ("stockade/api.ErrLarge", laid_stockade_api_ErrLarge), ("stockade/api.ErrFull", laid_stockade_api_ErrFull), ("stockade/api.ErrNone", laid_stockade_api_ErrNone), ("stockade/api.ErrCode", laid_stockade_api_ErrCode), ("stockade/api.ErrState", laid_stockade_api_ErrState), ("stockade/api.ErrFrame", laid_stockade_api_ErrFrame), ("stockade/api.ErrMac", laid_stockade_api_ErrMac), ("stockade/api.ErrReplay", laid_stockade_api_ErrReplay), ("stockade/api.ErrArena", laid_stockade_api_ErrArena), ("stockade/api.ErrClock", laid_stockade_api_ErrClock), ("stockade/api.ErrQuota", laid_stockade_api_ErrQuota), ("stockade/api.ErrTenant", laid_stockade_api_ErrTenant)] }
def PoolPlaysSaid : Prop := poolPlaysRow.holds Tryd.pinned (OpenSpec.ofChange poolPlaysSpec)

/-- ITS FALSE NEIGHBOUR: 'it returns false'. Refute it at one input. -/
def poolPlaysWrong : ChangeSpec := { name := "poolPlays", fn := fun _ => fun
  | [d1, d2, d3] => { results := [.lit (.bool false)], args := [d1, d2, d3] }
  | _ => none }
def PoolPlaysWrongFalsely : Prop := poolPlaysRow.holds Tryd.pinned (OpenSpec.ofChange poolPlaysWrong)

/- THE SECOND FORM. 'bulk': how many values and letters a reading holds, each counted each time it is reached (what is shared counts as often as it is met; a slice's spare places count too). A statement '..UptoSaid' is the law's where the arguments, and the package variables that the reading takes, are together of bulk at most 1048576: NARROWER than '..Said'. Prove '..Said' where nothing that the law and all that it calls make is longer than what came in: it says more and counts as full. Else prove '..UptoSaid'. A law counts once. -/
mutual
def uptoBulk {H : Type} : DataW H → Nat
  | .lit (.string bytes) => bytes.length + 1
  | .lit _ => 1
  | .nil => 1
  | .ptr d => uptoBulk d + 1
  | .slice elems spare => uptoBulkAll elems + uptoBulkAll spare + 1
  | .agg parts => uptoBulkAll parts + 1
  | .iface _ d => uptoBulk d + 1
  | .map entries => uptoBulkEntries entries + 1
  | .held _ => 1
def uptoBulkAll {H : Type} : List (DataW H) → Nat
  | [] => 0
  | d :: r => uptoBulk d + uptoBulkAll r
def uptoBulkEntries {H : Type} : List (Lit × DataW H) → Nat
  | [] => 0
  | x :: r => uptoBulkEntry x + uptoBulkEntries r
def uptoBulkEntry {H : Type} : Lit × DataW H → Nat
  | (.string bytes, d) => bytes.length + uptoBulk d + 1
  | (_, d) => uptoBulk d + 1
 end
def uptoSmall : (H : Type) → List (DataW H) → Bool := fun _ ds => decide (uptoBulkAll ds ≤ 1048576)
def OpenSpec.upto (s : _root_.Go.ChangeSpec) : _root_.Go.OpenSpec := { _root_.Go.OpenSpec.ofChange s with cond := some uptoSmall }

/-- 'stockadelaw02.PoolSizes', WHERE WHAT IT READS IS OF BULK AT MOST 1048576: true; the input reads as it did. -/
def poolSizesUptoRow : OpenClaim := { program := "ytpjphmpebegidaadoor", sum := "455c70f45291b09f697ed2b26bf28f83ad52612bdcb2ccdb50d7f7dc1022be96", func := "stockade/stockadelaw02.PoolSizes", spec := "poolSizes", inPlace := ["internal/reflectlite.TypeOf"], unfollowed := true, recurses := true, named := ["stockade/api.ErrRange", "stockade/api.ErrArena", "stockade/api.ErrNone", "stockade/api.ErrText", "stockade/api.ErrDepth", "stockade/api.ErrName", "stockade/api.ErrType", "stockade/api.ErrLarge", "stockade/api.ErrFull", "stockade/api.ErrCode", "stockade/api.ErrState", "stockade/api.ErrFrame", "stockade/api.ErrMac", "stockade/api.ErrReplay", "stockade/api.ErrClock", "stockade/api.ErrQuota", "stockade/api.ErrTenant"], apart := false, laid := [("stockade/api.ErrRange", laid_stockade_api_ErrRange), ("stockade/api.ErrText", laid_stockade_api_ErrText), ("stockade/api.ErrDepth", laid_stockade_api_ErrDepth), ("stockade/api.ErrName", laid_stockade_api_ErrName), ("stockade/api.ErrType", laid_stockade_api_ErrType), ("stockade/api.ErrLarge", laid_stockade_api_ErrLarge), ("stockade/api.ErrFull", laid_stockade_api_ErrFull), ("stockade/api.ErrNone", laid_stockade_api_ErrNone), ("stockade/api.ErrCode", laid_stockade_api_ErrCode), ("stockade/api.ErrState", laid_stockade_api_ErrState), ("stockade/api.ErrFrame", laid_stockade_api_ErrFrame), ("stockade/api.ErrMac", laid_stockade_api_ErrMac), ("stockade/api.ErrReplay", laid_stockade_api_ErrReplay), ("stockade/api.ErrArena", laid_stockade_api_ErrArena), ("stockade/api.ErrClock", laid_stockade_api_ErrClock), ("stockade/api.ErrQuota", laid_stockade_api_ErrQuota), ("stockade/api.ErrTenant", laid_stockade_api_ErrTenant)], narrowed := true }
def PoolSizesUptoSaid : Prop := poolSizesUptoRow.holds Tryd.pinned (OpenSpec.upto poolSizesSpec)

/-- 'stockadelaw02.PoolFrees', WHERE WHAT IT READS IS OF BULK AT MOST 1048576: true; the input reads as it did. -/
def poolFreesUptoRow : OpenClaim := { program := "ytpjphmpebegidaadoor", sum := "455c70f45291b09f697ed2b26bf28f83ad52612bdcb2ccdb50d7f7dc1022be96", func := "stockade/stockadelaw02.PoolFrees", spec := "poolFrees", inPlace := ["internal/reflectlite.TypeOf"], unfollowed := true, recurses := true, named := ["stockade/api.ErrRange", "stockade/api.ErrArena", "stockade/api.ErrNone", "stockade/api.ErrText", "stockade/api.ErrDepth", "stockade/api.ErrName", "stockade/api.ErrType", "stockade/api.ErrLarge", "stockade/api.ErrFull", "stockade/api.ErrCode", "stockade/api.ErrState", "stockade/api.ErrFrame", "stockade/api.ErrMac", "stockade/api.ErrReplay", "stockade/api.ErrClock", "stockade/api.ErrQuota", "stockade/api.ErrTenant"], apart := false, laid := [("stockade/api.ErrRange", laid_stockade_api_ErrRange), ("stockade/api.ErrText", laid_stockade_api_ErrText), ("stockade/api.ErrDepth", laid_stockade_api_ErrDepth), ("stockade/api.ErrName", laid_stockade_api_ErrName), ("stockade/api.ErrType", laid_stockade_api_ErrType), ("stockade/api.ErrLarge", laid_stockade_api_ErrLarge), ("stockade/api.ErrFull", laid_stockade_api_ErrFull), ("stockade/api.ErrNone", laid_stockade_api_ErrNone), ("stockade/api.ErrCode", laid_stockade_api_ErrCode), ("stockade/api.ErrState", laid_stockade_api_ErrState), ("stockade/api.ErrFrame", laid_stockade_api_ErrFrame), ("stockade/api.ErrMac", laid_stockade_api_ErrMac), ("stockade/api.ErrReplay", laid_stockade_api_ErrReplay), ("stockade/api.ErrArena", laid_stockade_api_ErrArena), ("stockade/api.ErrClock", laid_stockade_api_ErrClock), ("stockade/api.ErrQuota", laid_stockade_api_ErrQuota), ("stockade/api.ErrTenant", laid_stockade_api_ErrTenant)], narrowed := true }
def PoolFreesUptoSaid : Prop := poolFreesUptoRow.holds Tryd.pinned (OpenSpec.upto poolFreesSpec)

/-- 'stockadelaw02.PoolBounds', WHERE WHAT IT READS IS OF BULK AT MOST 1048576: true; the input reads as it did. -/
def poolBoundsUptoRow : OpenClaim := { program := "ytpjphmpebegidaadoor", sum := "455c70f45291b09f697ed2b26bf28f83ad52612bdcb2ccdb50d7f7dc1022be96", func := "stockade/stockadelaw02.PoolBounds", spec := "poolBounds", inPlace := ["internal/reflectlite.TypeOf"], unfollowed := true, recurses := true, named := ["stockade/api.ErrRange", "stockade/api.ErrArena", "stockade/api.ErrNone", "stockade/api.ErrText", "stockade/api.ErrDepth", "stockade/api.ErrName", "stockade/api.ErrType", "stockade/api.ErrLarge", "stockade/api.ErrFull", "stockade/api.ErrCode", "stockade/api.ErrState", "stockade/api.ErrFrame", "stockade/api.ErrMac", "stockade/api.ErrReplay", "stockade/api.ErrClock", "stockade/api.ErrQuota", "stockade/api.ErrTenant"], apart := false, laid := [("stockade/api.ErrRange", laid_stockade_api_ErrRange), ("stockade/api.ErrText", laid_stockade_api_ErrText), ("stockade/api.ErrDepth", laid_stockade_api_ErrDepth), ("stockade/api.ErrName", laid_stockade_api_ErrName), ("stockade/api.ErrType", laid_stockade_api_ErrType), ("stockade/api.ErrLarge", laid_stockade_api_ErrLarge), ("stockade/api.ErrFull", laid_stockade_api_ErrFull), ("stockade/api.ErrNone", laid_stockade_api_ErrNone), ("stockade/api.ErrCode", laid_stockade_api_ErrCode), ("stockade/api.ErrState", laid_stockade_api_ErrState), ("stockade/api.ErrFrame", laid_stockade_api_ErrFrame), ("stockade/api.ErrMac", laid_stockade_api_ErrMac), ("stockade/api.ErrReplay", laid_stockade_api_ErrReplay), ("stockade/api.ErrArena", laid_stockade_api_ErrArena), ("stockade/api.ErrClock", laid_stockade_api_ErrClock), ("stockade/api.ErrQuota", laid_stockade_api_ErrQuota), ("stockade/api.ErrTenant", laid_stockade_api_ErrTenant)], narrowed := true }
def PoolBoundsUptoSaid : Prop := poolBoundsUptoRow.holds Tryd.pinned (OpenSpec.upto poolBoundsSpec)

/-- 'stockadelaw02.PoolZeroes', WHERE WHAT IT READS IS OF BULK AT MOST 1048576: true; the input reads as it did. -/
def poolZeroesUptoRow : OpenClaim := { program := "ytpjphmpebegidaadoor", sum := "455c70f45291b09f697ed2b26bf28f83ad52612bdcb2ccdb50d7f7dc1022be96", func := "stockade/stockadelaw02.PoolZeroes", spec := "poolZeroes", inPlace := ["internal/reflectlite.TypeOf"], unfollowed := true, recurses := true, named := ["stockade/api.ErrRange", "stockade/api.ErrArena", "stockade/api.ErrNone", "stockade/api.ErrText", "stockade/api.ErrDepth", "stockade/api.ErrName", "stockade/api.ErrType", "stockade/api.ErrLarge", "stockade/api.ErrFull", "stockade/api.ErrCode", "stockade/api.ErrState", "stockade/api.ErrFrame", "stockade/api.ErrMac", "stockade/api.ErrReplay", "stockade/api.ErrClock", "stockade/api.ErrQuota", "stockade/api.ErrTenant"], apart := false, laid := [("stockade/api.ErrRange", laid_stockade_api_ErrRange), ("stockade/api.ErrText", laid_stockade_api_ErrText), ("stockade/api.ErrDepth", laid_stockade_api_ErrDepth), ("stockade/api.ErrName", laid_stockade_api_ErrName), ("stockade/api.ErrType", laid_stockade_api_ErrType), ("stockade/api.ErrLarge", laid_stockade_api_ErrLarge), ("stockade/api.ErrFull", laid_stockade_api_ErrFull), ("stockade/api.ErrNone", laid_stockade_api_ErrNone), ("stockade/api.ErrCode", laid_stockade_api_ErrCode), ("stockade/api.ErrState", laid_stockade_api_ErrState), ("stockade/api.ErrFrame", laid_stockade_api_ErrFrame), ("stockade/api.ErrMac", laid_stockade_api_ErrMac), ("stockade/api.ErrReplay", laid_stockade_api_ErrReplay), ("stockade/api.ErrArena", laid_stockade_api_ErrArena), ("stockade/api.ErrClock", laid_stockade_api_ErrClock), ("stockade/api.ErrQuota", laid_stockade_api_ErrQuota), ("stockade/api.ErrTenant", laid_stockade_api_ErrTenant)], narrowed := true }
def PoolZeroesUptoSaid : Prop := poolZeroesUptoRow.holds Tryd.pinned (OpenSpec.upto poolZeroesSpec)

/-- 'stockadelaw02.PoolApart', WHERE WHAT IT READS IS OF BULK AT MOST 1048576: true; the input reads as it did. -/
def poolApartUptoRow : OpenClaim := { program := "ytpjphmpebegidaadoor", sum := "455c70f45291b09f697ed2b26bf28f83ad52612bdcb2ccdb50d7f7dc1022be96", func := "stockade/stockadelaw02.PoolApart", spec := "poolApart", inPlace := ["internal/reflectlite.TypeOf"], unfollowed := true, recurses := true, named := ["stockade/api.ErrRange", "stockade/api.ErrArena", "stockade/api.ErrNone", "stockade/api.ErrText", "stockade/api.ErrDepth", "stockade/api.ErrName", "stockade/api.ErrType", "stockade/api.ErrLarge", "stockade/api.ErrFull", "stockade/api.ErrCode", "stockade/api.ErrState", "stockade/api.ErrFrame", "stockade/api.ErrMac", "stockade/api.ErrReplay", "stockade/api.ErrClock", "stockade/api.ErrQuota", "stockade/api.ErrTenant"], apart := false, laid := [("stockade/api.ErrRange", laid_stockade_api_ErrRange), ("stockade/api.ErrText", laid_stockade_api_ErrText), ("stockade/api.ErrDepth", laid_stockade_api_ErrDepth), ("stockade/api.ErrName", laid_stockade_api_ErrName), ("stockade/api.ErrType", laid_stockade_api_ErrType), ("stockade/api.ErrLarge", laid_stockade_api_ErrLarge), ("stockade/api.ErrFull", laid_stockade_api_ErrFull), ("stockade/api.ErrNone", laid_stockade_api_ErrNone), ("stockade/api.ErrCode", laid_stockade_api_ErrCode), ("stockade/api.ErrState", laid_stockade_api_ErrState), ("stockade/api.ErrFrame", laid_stockade_api_ErrFrame), ("stockade/api.ErrMac", laid_stockade_api_ErrMac), ("stockade/api.ErrReplay", laid_stockade_api_ErrReplay), ("stockade/api.ErrArena", laid_stockade_api_ErrArena), ("stockade/api.ErrClock", laid_stockade_api_ErrClock), ("stockade/api.ErrQuota", laid_stockade_api_ErrQuota), ("stockade/api.ErrTenant", laid_stockade_api_ErrTenant)], narrowed := true }
def PoolApartUptoSaid : Prop := poolApartUptoRow.holds Tryd.pinned (OpenSpec.upto poolApartSpec)

/-- 'stockadelaw02.PoolPlays', WHERE WHAT IT READS IS OF BULK AT MOST 1048576: true; the input reads as it did. -/
def poolPlaysUptoRow : OpenClaim := { program := "ytpjphmpebegidaadoor", sum := "455c70f45291b09f697ed2b26bf28f83ad52612bdcb2ccdb50d7f7dc1022be96", func := "stockade/stockadelaw02.PoolPlays", spec := "poolPlays", inPlace := ["internal/reflectlite.TypeOf"], unfollowed := true, recurses := true, named := ["stockade/api.ErrRange", "stockade/api.ErrArena", "stockade/api.ErrNone", "stockade/api.ErrText", "stockade/api.ErrDepth", "stockade/api.ErrName", "stockade/api.ErrType", "stockade/api.ErrLarge", "stockade/api.ErrFull", "stockade/api.ErrCode", "stockade/api.ErrState", "stockade/api.ErrFrame", "stockade/api.ErrMac", "stockade/api.ErrReplay", "stockade/api.ErrClock", "stockade/api.ErrQuota", "stockade/api.ErrTenant"], apart := false, laid := [("stockade/api.ErrRange", laid_stockade_api_ErrRange), ("stockade/api.ErrText", laid_stockade_api_ErrText), ("stockade/api.ErrDepth", laid_stockade_api_ErrDepth), ("stockade/api.ErrName", laid_stockade_api_ErrName), ("stockade/api.ErrType", laid_stockade_api_ErrType), ("stockade/api.ErrLarge", laid_stockade_api_ErrLarge), ("stockade/api.ErrFull", laid_stockade_api_ErrFull), ("stockade/api.ErrNone", laid_stockade_api_ErrNone), ("stockade/api.ErrCode", laid_stockade_api_ErrCode), ("stockade/api.ErrState", laid_stockade_api_ErrState), ("stockade/api.ErrFrame", laid_stockade_api_ErrFrame), ("stockade/api.ErrMac", laid_stockade_api_ErrMac), ("stockade/api.ErrReplay", laid_stockade_api_ErrReplay), ("stockade/api.ErrArena", laid_stockade_api_ErrArena), ("stockade/api.ErrClock", laid_stockade_api_ErrClock), ("stockade/api.ErrQuota", laid_stockade_api_ErrQuota), ("stockade/api.ErrTenant", laid_stockade_api_ErrTenant)], narrowed := true }
def PoolPlaysUptoSaid : Prop := poolPlaysUptoRow.holds Tryd.pinned (OpenSpec.upto poolPlaysSpec)

end Rows
end Go.Proofs.YtpjphmpebegidaaDoor
