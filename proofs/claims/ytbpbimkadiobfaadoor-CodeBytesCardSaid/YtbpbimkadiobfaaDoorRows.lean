/-
  NARROWER THAN 'FOR EVERY INPUT', by the rows' own cells (each row's printed sentence says how): CodeTurns: laid · CodeNames: laid · CodeSame: laid · CodeForms: laid · CodeBytes: laid · CodeCuts: laid.
  DERIVED. THE GIVEN ROWS OF THIS SEAT. 6 by the template 'for every input the law returns true; each argument reads behind the call as it read before'; 0 by the template 'total and deterministic' (their statements: YtbpbimkadiobfaaDoorTotals.lean).
  GIVEN WITH THE SEED: the statements are not yours to turn. If you find one false, say at which input.
  Laid BY PROGRAM, IN A SANDBOX (cutbox-rows.mjs): the forced cells as the released guide's own fill.sh prints them over the translation a16124cf6bbb53b8… (all of the seat's roots in one cut). By AI agents, Wed Nov 11 2026. No macro, syntax, notation, axiom, sorry.
-/
import Derived.Test.YtbpbimkadiobfaaDoorChecked
import GoSem.Claim
import GoSem.ClaimJoined
import GoSem.ClaimMapViews
import Derived.JoinedTies
import Derived.KernelRfl
namespace Go.Proofs.YtbpbimkadiobfaaDoor
/- THE CELL 'sum', in the pinned program and in every row, IS THE sha256 OF THE DUMP (.gsa) THAT YtbpbimkadiobfaaDoorProg.lean LOADS. Nothing in Lean hashes anything: it is a label: what it is worth is what the hold of that sum in a sandbox is worth. -/
noncomputable def Tryd.pinned : Pinned := { name := "ytbpbimkadiobfaadoor", sum := "a16124cf6bbb53b8716d2eb7a169900058860dd22fabc639a15622be77416561", checked := Tryd.checked }
namespace Rows
def none {H : Type} : Left H := { results := [], args := [] }

/- WHAT THE LISTED PACKAGE-LEVEL VARIABLES READ AS WHEN THE CALL BEGINS. Each datum BY PROGRAM (the guide's laid-datum.mjs) off the statement by which the dump's own 'gosem.cut.vars' lays the variable. In a bare row this is a premise. The card (YtbpbimkadiobfaaDoorCards.lean) ties it to the program's text. -/
def laid_stockade_api_ErrCode {H : Type} : DataW H := .iface "*errors.errorString" (.ptr (.agg [.lit (.string [115, 116, 111, 99, 107, 97, 100, 101, 58, 32, 99, 111, 100, 101])]))
def laid_stockade_api_ErrRange {H : Type} : DataW H := .iface "*errors.errorString" (.ptr (.agg [.lit (.string [115, 116, 111, 99, 107, 97, 100, 101, 58, 32, 114, 97, 110, 103, 101])]))
def laid_stockade_api_ErrText {H : Type} : DataW H := .iface "*errors.errorString" (.ptr (.agg [.lit (.string [115, 116, 111, 99, 107, 97, 100, 101, 58, 32, 116, 101, 120, 116])]))
def laid_stockade_api_ErrDepth {H : Type} : DataW H := .iface "*errors.errorString" (.ptr (.agg [.lit (.string [115, 116, 111, 99, 107, 97, 100, 101, 58, 32, 100, 101, 112, 116, 104])]))
def laid_stockade_api_ErrName {H : Type} : DataW H := .iface "*errors.errorString" (.ptr (.agg [.lit (.string [115, 116, 111, 99, 107, 97, 100, 101, 58, 32, 110, 97, 109, 101])]))
def laid_stockade_api_ErrType {H : Type} : DataW H := .iface "*errors.errorString" (.ptr (.agg [.lit (.string [115, 116, 111, 99, 107, 97, 100, 101, 58, 32, 116, 121, 112, 101])]))
def laid_stockade_api_ErrLarge {H : Type} : DataW H := .iface "*errors.errorString" (.ptr (.agg [.lit (.string [115, 116, 111, 99, 107, 97, 100, 101, 58, 32, 108, 97, 114, 103, 101])]))
def laid_stockade_api_ErrFull {H : Type} : DataW H := .iface "*errors.errorString" (.ptr (.agg [.lit (.string [115, 116, 111, 99, 107, 97, 100, 101, 58, 32, 102, 117, 108, 108])]))
def laid_stockade_api_ErrNone {H : Type} : DataW H := .iface "*errors.errorString" (.ptr (.agg [.lit (.string [115, 116, 111, 99, 107, 97, 100, 101, 58, 32, 110, 111, 110, 101])]))
def laid_stockade_api_ErrState {H : Type} : DataW H := .iface "*errors.errorString" (.ptr (.agg [.lit (.string [115, 116, 111, 99, 107, 97, 100, 101, 58, 32, 115, 116, 97, 116, 101])]))
def laid_stockade_api_ErrFrame {H : Type} : DataW H := .iface "*errors.errorString" (.ptr (.agg [.lit (.string [115, 116, 111, 99, 107, 97, 100, 101, 58, 32, 102, 114, 97, 109, 101])]))
def laid_stockade_api_ErrMac {H : Type} : DataW H := .iface "*errors.errorString" (.ptr (.agg [.lit (.string [115, 116, 111, 99, 107, 97, 100, 101, 58, 32, 109, 97, 99])]))
def laid_stockade_api_ErrReplay {H : Type} : DataW H := .iface "*errors.errorString" (.ptr (.agg [.lit (.string [115, 116, 111, 99, 107, 97, 100, 101, 58, 32, 114, 101, 112, 108, 97, 121])]))
def laid_stockade_api_ErrArena {H : Type} : DataW H := .iface "*errors.errorString" (.ptr (.agg [.lit (.string [115, 116, 111, 99, 107, 97, 100, 101, 58, 32, 97, 114, 101, 110, 97])]))
def laid_stockade_api_ErrClock {H : Type} : DataW H := .iface "*errors.errorString" (.ptr (.agg [.lit (.string [115, 116, 111, 99, 107, 97, 100, 101, 58, 32, 99, 108, 111, 99, 107])]))
def laid_stockade_api_ErrQuota {H : Type} : DataW H := .iface "*errors.errorString" (.ptr (.agg [.lit (.string [115, 116, 111, 99, 107, 97, 100, 101, 58, 32, 113, 117, 111, 116, 97])]))
def laid_stockade_api_ErrTenant {H : Type} : DataW H := .iface "*errors.errorString" (.ptr (.agg [.lit (.string [115, 116, 111, 99, 107, 97, 100, 101, 58, 32, 116, 101, 110, 97, 110, 116])]))

/-- 'stockadelaw14.CodeTurns': WHATEVER THE INPUT: true; the input reads as it did. -/
def codeTurnsSpec : ChangeSpec := { name := "codeTurns", fn := fun _ => fun
  | [d1, d2] => { results := [.lit (.bool true)], args := [d1, d2] }
  | _ => none }
def codeTurnsRow : OpenClaim := { program := "ytbpbimkadiobfaadoor", sum := "a16124cf6bbb53b8716d2eb7a169900058860dd22fabc639a15622be77416561", func := "stockade/stockadelaw14.CodeTurns", spec := "codeTurns", unfollowed := true, recurses := true, named := ["stockade/api.ErrCode"], apart := false, laid := [("stockade/api.ErrCode", laid_stockade_api_ErrCode)] }
def CodeTurnsSaid : Prop := codeTurnsRow.holds Tryd.pinned (OpenSpec.ofChange codeTurnsSpec)

/-- ITS FALSE NEIGHBOUR: 'it returns false'. Refute it at one input. -/
def codeTurnsWrong : ChangeSpec := { name := "codeTurns", fn := fun _ => fun
  | [d1, d2] => { results := [.lit (.bool false)], args := [d1, d2] }
  | _ => none }
def CodeTurnsWrongFalsely : Prop := codeTurnsRow.holds Tryd.pinned (OpenSpec.ofChange codeTurnsWrong)

/-- 'stockadelaw14.CodeNames': WHATEVER THE INPUT: true; the input reads as it did. -/
def codeNamesSpec : ChangeSpec := { name := "codeNames", fn := fun _ => fun
  | [d] => { results := [.lit (.bool true)], args := [d] }
  | _ => none }
def codeNamesRow : OpenClaim := { program := "ytbpbimkadiobfaadoor", sum := "a16124cf6bbb53b8716d2eb7a169900058860dd22fabc639a15622be77416561", func := "stockade/stockadelaw14.CodeNames", spec := "codeNames", unfollowed := true, recurses := true, named := ["stockade/api.ErrCode"], apart := false, laid := [("stockade/api.ErrCode", laid_stockade_api_ErrCode)] }
def CodeNamesSaid : Prop := codeNamesRow.holds Tryd.pinned (OpenSpec.ofChange codeNamesSpec)

/-- ITS FALSE NEIGHBOUR: 'it returns false'. Refute it at one input. -/
def codeNamesWrong : ChangeSpec := { name := "codeNames", fn := fun _ => fun
  | [d] => { results := [.lit (.bool false)], args := [d] }
  | _ => none }
def CodeNamesWrongFalsely : Prop := codeNamesRow.holds Tryd.pinned (OpenSpec.ofChange codeNamesWrong)

/-- 'stockadelaw14.CodeSame': WHATEVER THE INPUT: true; the input reads as it did. -/
def codeSameSpec : ChangeSpec := { name := "codeSame", fn := fun _ => fun
  | [d] => { results := [.lit (.bool true)], args := [d] }
  | _ => none }
def codeSameRow : OpenClaim := { program := "ytbpbimkadiobfaadoor", sum := "a16124cf6bbb53b8716d2eb7a169900058860dd22fabc639a15622be77416561", func := "stockade/stockadelaw14.CodeSame", spec := "codeSame", unfollowed := true, recurses := true, named := ["stockade/api.ErrCode"], apart := false, laid := [("stockade/api.ErrCode", laid_stockade_api_ErrCode)] }
def CodeSameSaid : Prop := codeSameRow.holds Tryd.pinned (OpenSpec.ofChange codeSameSpec)

/-- ITS FALSE NEIGHBOUR: 'it returns false'. Refute it at one input. -/
def codeSameWrong : ChangeSpec := { name := "codeSame", fn := fun _ => fun
  | [d] => { results := [.lit (.bool false)], args := [d] }
  | _ => none }
def CodeSameWrongFalsely : Prop := codeSameRow.holds Tryd.pinned (OpenSpec.ofChange codeSameWrong)

/-- 'stockadelaw14.CodeForms': WHATEVER THE INPUT: true; the input reads as it did. -/
def codeFormsSpec : ChangeSpec := { name := "codeForms", fn := fun _ => fun
  | [d] => { results := [.lit (.bool true)], args := [d] }
  | _ => none }
def codeFormsRow : OpenClaim := { program := "ytbpbimkadiobfaadoor", sum := "a16124cf6bbb53b8716d2eb7a169900058860dd22fabc639a15622be77416561", func := "stockade/stockadelaw14.CodeForms", spec := "codeForms", inPlace := ["internal/reflectlite.TypeOf"], unfollowed := true, recurses := true, named := ["stockade/api.ErrCode", "stockade/api.ErrRange", "stockade/api.ErrText", "stockade/api.ErrDepth", "stockade/api.ErrName", "stockade/api.ErrType", "stockade/api.ErrLarge", "stockade/api.ErrFull", "stockade/api.ErrNone", "stockade/api.ErrState", "stockade/api.ErrFrame", "stockade/api.ErrMac", "stockade/api.ErrReplay", "stockade/api.ErrArena", "stockade/api.ErrClock", "stockade/api.ErrQuota", "stockade/api.ErrTenant"], apart := false, laid := [("stockade/api.ErrRange", laid_stockade_api_ErrRange), ("stockade/api.ErrText", laid_stockade_api_ErrText), ("stockade/api.ErrDepth", laid_stockade_api_ErrDepth), ("stockade/api.ErrName", laid_stockade_api_ErrName), ("stockade/api.ErrType", laid_stockade_api_ErrType), ("stockade/api.ErrLarge", laid_stockade_api_ErrLarge), ("stockade/api.ErrFull", laid_stockade_api_ErrFull), ("stockade/api.ErrNone", laid_stockade_api_ErrNone), ("stockade/api.ErrCode", laid_stockade_api_ErrCode), ("stockade/api.ErrState", laid_stockade_api_ErrState), ("stockade/api.ErrFrame", laid_stockade_api_ErrFrame), ("stockade/api.ErrMac", laid_stockade_api_ErrMac), ("stockade/api.ErrReplay", laid_stockade_api_ErrReplay), ("stockade/api.ErrArena", laid_stockade_api_ErrArena), ("stockade/api.ErrClock", laid_stockade_api_ErrClock), ("stockade/api.ErrQuota", laid_stockade_api_ErrQuota), ("stockade/api.ErrTenant", laid_stockade_api_ErrTenant)] }
def CodeFormsSaid : Prop := codeFormsRow.holds Tryd.pinned (OpenSpec.ofChange codeFormsSpec)

/-- ITS FALSE NEIGHBOUR: 'it returns false'. Refute it at one input. -/
def codeFormsWrong : ChangeSpec := { name := "codeForms", fn := fun _ => fun
  | [d] => { results := [.lit (.bool false)], args := [d] }
  | _ => none }
def CodeFormsWrongFalsely : Prop := codeFormsRow.holds Tryd.pinned (OpenSpec.ofChange codeFormsWrong)

/-- 'stockadelaw14.CodeBytes': WHATEVER THE INPUT: true; the input reads as it did. -/
def codeBytesSpec : ChangeSpec := { name := "codeBytes", fn := fun _ => fun
  | [d] => { results := [.lit (.bool true)], args := [d] }
  | _ => none }
def codeBytesRow : OpenClaim := { program := "ytbpbimkadiobfaadoor", sum := "a16124cf6bbb53b8716d2eb7a169900058860dd22fabc639a15622be77416561", func := "stockade/stockadelaw14.CodeBytes", spec := "codeBytes", inPlace := ["internal/reflectlite.TypeOf"], unfollowed := true, recurses := true, named := ["stockade/api.ErrCode", "stockade/api.ErrRange", "stockade/api.ErrText", "stockade/api.ErrDepth", "stockade/api.ErrName", "stockade/api.ErrType", "stockade/api.ErrLarge", "stockade/api.ErrFull", "stockade/api.ErrNone", "stockade/api.ErrState", "stockade/api.ErrFrame", "stockade/api.ErrMac", "stockade/api.ErrReplay", "stockade/api.ErrArena", "stockade/api.ErrClock", "stockade/api.ErrQuota", "stockade/api.ErrTenant"], apart := false, laid := [("stockade/api.ErrRange", laid_stockade_api_ErrRange), ("stockade/api.ErrText", laid_stockade_api_ErrText), ("stockade/api.ErrDepth", laid_stockade_api_ErrDepth), ("stockade/api.ErrName", laid_stockade_api_ErrName), ("stockade/api.ErrType", laid_stockade_api_ErrType), ("stockade/api.ErrLarge", laid_stockade_api_ErrLarge), ("stockade/api.ErrFull", laid_stockade_api_ErrFull), ("stockade/api.ErrNone", laid_stockade_api_ErrNone), ("stockade/api.ErrCode", laid_stockade_api_ErrCode), ("stockade/api.ErrState", laid_stockade_api_ErrState), ("stockade/api.ErrFrame", laid_stockade_api_ErrFrame), ("stockade/api.ErrMac", laid_stockade_api_ErrMac), ("stockade/api.ErrReplay", laid_stockade_api_ErrReplay), ("stockade/api.ErrArena", laid_stockade_api_ErrArena), ("stockade/api.ErrClock", laid_stockade_api_ErrClock), ("stockade/api.ErrQuota", laid_stockade_api_ErrQuota), ("stockade/api.ErrTenant", laid_stockade_api_ErrTenant)] }
def CodeBytesSaid : Prop := codeBytesRow.holds Tryd.pinned (OpenSpec.ofChange codeBytesSpec)

/-- ITS FALSE NEIGHBOUR: 'it returns false'. Refute it at one input. -/
def codeBytesWrong : ChangeSpec := { name := "codeBytes", fn := fun _ => fun
  | [d] => { results := [.lit (.bool false)], args := [d] }
  | _ => none }
def CodeBytesWrongFalsely : Prop := codeBytesRow.holds Tryd.pinned (OpenSpec.ofChange codeBytesWrong)

/-- 'stockadelaw14.CodeCuts': WHATEVER THE INPUT: true; the input reads as it did. -/
def codeCutsSpec : ChangeSpec := { name := "codeCuts", fn := fun _ => fun
  | [d1, d2, d3] => { results := [.lit (.bool true)], args := [d1, d2, d3] }
  | _ => none }
def codeCutsRow : OpenClaim := { program := "ytbpbimkadiobfaadoor", sum := "a16124cf6bbb53b8716d2eb7a169900058860dd22fabc639a15622be77416561", func := "stockade/stockadelaw14.CodeCuts", spec := "codeCuts", inPlace := ["internal/reflectlite.TypeOf"], unfollowed := true, recurses := true, named := ["stockade/api.ErrCode", "stockade/api.ErrRange", "stockade/api.ErrText", "stockade/api.ErrDepth", "stockade/api.ErrName", "stockade/api.ErrType", "stockade/api.ErrLarge", "stockade/api.ErrFull", "stockade/api.ErrNone", "stockade/api.ErrState", "stockade/api.ErrFrame", "stockade/api.ErrMac", "stockade/api.ErrReplay", "stockade/api.ErrArena", "stockade/api.ErrClock", "stockade/api.ErrQuota", "stockade/api.ErrTenant"], apart := false, laid := [("stockade/api.ErrRange", laid_stockade_api_ErrRange), ("stockade/api.ErrText", laid_stockade_api_ErrText), ("stockade/api.ErrDepth", laid_stockade_api_ErrDepth), ("stockade/api.ErrName", laid_stockade_api_ErrName), ("stockade/api.ErrType", laid_stockade_api_ErrType), ("stockade/api.ErrLarge", laid_stockade_api_ErrLarge), ("stockade/api.ErrFull", laid_stockade_api_ErrFull), ("stockade/api.ErrNone", laid_stockade_api_ErrNone), ("stockade/api.ErrCode", laid_stockade_api_ErrCode), ("stockade/api.ErrState", laid_stockade_api_ErrState), ("stockade/api.ErrFrame", laid_stockade_api_ErrFrame), ("stockade/api.ErrMac", laid_stockade_api_ErrMac), ("stockade/api.ErrReplay", laid_stockade_api_ErrReplay), ("stockade/api.ErrArena", laid_stockade_api_ErrArena), ("stockade/api.ErrClock", laid_stockade_api_ErrClock), ("stockade/api.ErrQuota", laid_stockade_api_ErrQuota), ("stockade/api.ErrTenant", laid_stockade_api_ErrTenant)] }
def CodeCutsSaid : Prop := codeCutsRow.holds Tryd.pinned (OpenSpec.ofChange codeCutsSpec)

/-- ITS FALSE NEIGHBOUR: 'it returns false'. Refute it at one input. -/
def codeCutsWrong : ChangeSpec := { name := "codeCuts", fn := fun _ => fun
  | [d1, d2, d3] => { results := [.lit (.bool false)], args := [d1, d2, d3] }
  | _ => none }
def CodeCutsWrongFalsely : Prop := codeCutsRow.holds Tryd.pinned (OpenSpec.ofChange codeCutsWrong)

/- THE SECOND FORM. 'bulk': how many values and letters a reading holds, each counted each time it is reached (what is shared counts as often as it is met; a slice's spare places count too). A statement '..UptoSaid' is the law's where the arguments, and the package variables that the reading takes, are together of bulk at most 1048576: NARROWER than '..Said'. Prove '..Said' where nothing that the law and all that it calls make is longer than what came in: it says more and counts as full. Else prove '..UptoSaid'. A law counts once. -/
mutual
def uptoBulk {H : Type} : DataW H → Nat
  | .lit (.string bytes) => bytes.length + 1
  | .lit _ => 1
  | .nil => 1
  | .ptr d => uptoBulk d + 1
  | .slice elems spare => uptoBulkAll elems + uptoBulkAll spare + 1
  | .agg parts => uptoBulkAll parts + 1
  | .iface _ d => uptoBulk d + 1
  | .map entries => uptoBulkEntries entries + 1
  | .held _ => 1
def uptoBulkAll {H : Type} : List (DataW H) → Nat
  | [] => 0
  | d :: r => uptoBulk d + uptoBulkAll r
def uptoBulkEntries {H : Type} : List (Lit × DataW H) → Nat
  | [] => 0
  | x :: r => uptoBulkEntry x + uptoBulkEntries r
def uptoBulkEntry {H : Type} : Lit × DataW H → Nat
  | (.string bytes, d) => bytes.length + uptoBulk d + 1
  | (_, d) => uptoBulk d + 1
 end
def uptoSmall : (H : Type) → List (DataW H) → Bool := fun _ ds => decide (uptoBulkAll ds ≤ 1048576)
def OpenSpec.upto (s : _root_.Go.ChangeSpec) : _root_.Go.OpenSpec := { _root_.Go.OpenSpec.ofChange s with cond := some uptoSmall }

/-- 'stockadelaw14.CodeTurns', WHERE WHAT IT READS IS OF BULK AT MOST 1048576: true; the input reads as it did. -/
def codeTurnsUptoRow : OpenClaim := { program := "ytbpbimkadiobfaadoor", sum := "a16124cf6bbb53b8716d2eb7a169900058860dd22fabc639a15622be77416561", func := "stockade/stockadelaw14.CodeTurns", spec := "codeTurns", unfollowed := true, recurses := true, named := ["stockade/api.ErrCode"], apart := false, laid := [("stockade/api.ErrCode", laid_stockade_api_ErrCode)], narrowed := true }
def CodeTurnsUptoSaid : Prop := codeTurnsUptoRow.holds Tryd.pinned (OpenSpec.upto codeTurnsSpec)

/-- 'stockadelaw14.CodeNames', WHERE WHAT IT READS IS OF BULK AT MOST 1048576: true; the input reads as it did. -/
def codeNamesUptoRow : OpenClaim := { program := "ytbpbimkadiobfaadoor", sum := "a16124cf6bbb53b8716d2eb7a169900058860dd22fabc639a15622be77416561", func := "stockade/stockadelaw14.CodeNames", spec := "codeNames", unfollowed := true, recurses := true, named := ["stockade/api.ErrCode"], apart := false, laid := [("stockade/api.ErrCode", laid_stockade_api_ErrCode)], narrowed := true }
def CodeNamesUptoSaid : Prop := codeNamesUptoRow.holds Tryd.pinned (OpenSpec.upto codeNamesSpec)

/-- 'stockadelaw14.CodeSame', WHERE WHAT IT READS IS OF BULK AT MOST 1048576: true; the input reads as it did. -/
def codeSameUptoRow : OpenClaim := { program := "ytbpbimkadiobfaadoor", sum := "a16124cf6bbb53b8716d2eb7a169900058860dd22fabc639a15622be77416561", func := "stockade/stockadelaw14.CodeSame", spec := "codeSame", unfollowed := true, recurses := true, named := ["stockade/api.ErrCode"], apart := false, laid := [("stockade/api.ErrCode", laid_stockade_api_ErrCode)], narrowed := true }
def CodeSameUptoSaid : Prop := codeSameUptoRow.holds Tryd.pinned (OpenSpec.upto codeSameSpec)

/-- 'stockadelaw14.CodeForms', WHERE WHAT IT READS IS OF BULK AT MOST 1048576: true; the input reads as it did. -/
def codeFormsUptoRow : OpenClaim := { program := "ytbpbimkadiobfaadoor", sum := "a16124cf6bbb53b8716d2eb7a169900058860dd22fabc639a15622be77416561", func := "stockade/stockadelaw14.CodeForms", spec := "codeForms", inPlace := ["internal/reflectlite.TypeOf"], unfollowed := true, recurses := true, named := ["stockade/api.ErrCode", "stockade/api.ErrRange", "stockade/api.ErrText", "stockade/api.ErrDepth", "stockade/api.ErrName", "stockade/api.ErrType", "stockade/api.ErrLarge", "stockade/api.ErrFull", "stockade/api.ErrNone", "stockade/api.ErrState", "stockade/api.ErrFrame", "stockade/api.ErrMac", "stockade/api.ErrReplay", "stockade/api.ErrArena", "stockade/api.ErrClock", "stockade/api.ErrQuota", "stockade/api.ErrTenant"], apart := false, laid := [("stockade/api.ErrRange", laid_stockade_api_ErrRange), ("stockade/api.ErrText", laid_stockade_api_ErrText), ("stockade/api.ErrDepth", laid_stockade_api_ErrDepth), ("stockade/api.ErrName", laid_stockade_api_ErrName), ("stockade/api.ErrType", laid_stockade_api_ErrType), ("stockade/api.ErrLarge", laid_stockade_api_ErrLarge), ("stockade/api.ErrFull", laid_stockade_api_ErrFull), ("stockade/api.ErrNone", laid_stockade_api_ErrNone), ("stockade/api.ErrCode", laid_stockade_api_ErrCode), ("stockade/api.ErrState", laid_stockade_api_ErrState), ("stockade/api.ErrFrame", laid_stockade_api_ErrFrame), ("stockade/api.ErrMac", laid_stockade_api_ErrMac), ("stockade/api.ErrReplay", laid_stockade_api_ErrReplay), ("stockade/api.ErrArena", laid_stockade_api_ErrArena), ("stockade/api.ErrClock", laid_stockade_api_ErrClock), ("stockade/api.ErrQuota", laid_stockade_api_ErrQuota), ("stockade/api.ErrTenant", laid_stockade_api_ErrTenant)], narrowed := true }
def CodeFormsUptoSaid : Prop := codeFormsUptoRow.holds Tryd.pinned (OpenSpec.upto codeFormsSpec)

/-- 'stockadelaw14.CodeBytes', WHERE WHAT IT READS IS OF BULK AT MOST 1048576: true; the input reads as it did. -/
def codeBytesUptoRow : OpenClaim := { program := "ytbpbimkadiobfaadoor", sum := "a16124cf6bbb53b8716d2eb7a169900058860dd22fabc639a15622be77416561", func := "stockade/stockadelaw14.CodeBytes", spec := "codeBytes", inPlace := ["internal/reflectlite.TypeOf"], unfollowed := true, recurses := true, named := ["stockade/api.ErrCode", "stockade/api.ErrRange", "stockade/api.ErrText", "stockade/api.ErrDepth", "stockade/api.ErrName", "stockade/api.ErrType", "stockade/api.ErrLarge", "stockade/api.ErrFull", "stockade/api.ErrNone", "stockade/api.ErrState", "stockade/api.ErrFrame", "stockade/api.ErrMac", "stockade/api.ErrReplay", "stockade/api.ErrArena", "stockade/api.ErrClock", "stockade/api.ErrQuota", "stockade/api.ErrTenant"], apart := false, laid := [("stockade/api.ErrRange", laid_stockade_api_ErrRange), ("stockade/api.ErrText", laid_stockade_api_ErrText), ("stockade/api.ErrDepth", laid_stockade_api_ErrDepth), ("stockade/api.ErrName", laid_stockade_api_ErrName), ("stockade/api.ErrType", laid_stockade_api_ErrType), ("stockade/api.ErrLarge", laid_stockade_api_ErrLarge), ("stockade/api.ErrFull", laid_stockade_api_ErrFull), ("stockade/api.ErrNone", laid_stockade_api_ErrNone), ("stockade/api.ErrCode", laid_stockade_api_ErrCode), ("stockade/api.ErrState", laid_stockade_api_ErrState), ("stockade/api.ErrFrame", laid_stockade_api_ErrFrame), ("stockade/api.ErrMac", laid_stockade_api_ErrMac), ("stockade/api.ErrReplay", laid_stockade_api_ErrReplay), ("stockade/api.ErrArena", laid_stockade_api_ErrArena), ("stockade/api.ErrClock", laid_stockade_api_ErrClock), ("stockade/api.ErrQuota", laid_stockade_api_ErrQuota), ("stockade/api.ErrTenant", laid_stockade_api_ErrTenant)], narrowed := true }
def CodeBytesUptoSaid : Prop := codeBytesUptoRow.holds Tryd.pinned (OpenSpec.upto codeBytesSpec)

/-- 'stockadelaw14.CodeCuts', WHERE WHAT IT READS IS OF BULK AT MOST 1048576: true; the input reads as it did. -/
def codeCutsUptoRow : OpenClaim := { program := "ytbpbimkadiobfaadoor", sum := "a16124cf6bbb53b8716d2eb7a169900058860dd22fabc639a15622be77416561", func := "stockade/stockadelaw14.CodeCuts", spec := "codeCuts", inPlace := ["internal/reflectlite.TypeOf"], unfollowed := true, recurses := true, named := ["stockade/api.ErrCode", "stockade/api.ErrRange", "stockade/api.ErrText", "stockade/api.ErrDepth", "stockade/api.ErrName", "stockade/api.ErrType", "stockade/api.ErrLarge", "stockade/api.ErrFull", "stockade/api.ErrNone", "stockade/api.ErrState", "stockade/api.ErrFrame", "stockade/api.ErrMac", "stockade/api.ErrReplay", "stockade/api.ErrArena", "stockade/api.ErrClock", "stockade/api.ErrQuota", "stockade/api.ErrTenant"], apart := false, laid := [("stockade/api.ErrRange", laid_stockade_api_ErrRange), ("stockade/api.ErrText", laid_stockade_api_ErrText), ("stockade/api.ErrDepth", laid_stockade_api_ErrDepth), ("stockade/api.ErrName", laid_stockade_api_ErrName), ("stockade/api.ErrType", laid_stockade_api_ErrType), ("stockade/api.ErrLarge", laid_stockade_api_ErrLarge), ("stockade/api.ErrFull", laid_stockade_api_ErrFull), ("stockade/api.ErrNone", laid_stockade_api_ErrNone), ("stockade/api.ErrCode", laid_stockade_api_ErrCode), ("stockade/api.ErrState", laid_stockade_api_ErrState), ("stockade/api.ErrFrame", laid_stockade_api_ErrFrame), ("stockade/api.ErrMac", laid_stockade_api_ErrMac), ("stockade/api.ErrReplay", laid_stockade_api_ErrReplay), ("stockade/api.ErrArena", laid_stockade_api_ErrArena), ("stockade/api.ErrClock", laid_stockade_api_ErrClock), ("stockade/api.ErrQuota", laid_stockade_api_ErrQuota), ("stockade/api.ErrTenant", laid_stockade_api_ErrTenant)], narrowed := true }
def CodeCutsUptoSaid : Prop := codeCutsUptoRow.holds Tryd.pinned (OpenSpec.upto codeCutsSpec)

end Rows
end Go.Proofs.YtbpbimkadiobfaaDoor
