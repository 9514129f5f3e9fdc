/-
  NARROWER THAN 'FOR EVERY INPUT', by the rows' own cells (each row's printed sentence says how): SyncOrder: laid · SyncLocks: laid · SyncAdds: laid · SyncTypes: laid · SyncPlays: laid.
  DERIVED. THE GIVEN ROWS OF THIS SEAT. 5 by the template 'for every input the law returns true; each argument reads behind the call as it read before'; 0 by the template 'total and deterministic' (their statements: YtmalbdoneghnmaaDoorTotals.lean).
  GIVEN WITH THE SEED: the statements are not yours to turn. If you find one false, say at which input.
  Laid BY PROGRAM, IN A SANDBOX (cutbox-rows.mjs): the forced cells as the released guide's own fill.sh prints them over the translation b19d96fc7089f6b2… (all of the seat's roots in one cut). By AI agents, Wed Nov 11 2026. No macro, syntax, notation, axiom, sorry.
-/
import Derived.Test.YtmalbdoneghnmaaDoorChecked
import GoSem.Claim
import GoSem.ClaimJoined
import GoSem.ClaimMapViews
import Derived.JoinedTies
import Derived.KernelRfl
namespace Go.Proofs.YtmalbdoneghnmaaDoor
/- THE CELL 'sum', in the pinned program and in every row, IS THE sha256 OF THE DUMP (.gsa) THAT YtmalbdoneghnmaaDoorProg.lean LOADS. Nothing in Lean hashes anything: it is a label: what it is worth is what the hold of that sum in a sandbox is worth. -/
noncomputable def Tryd.pinned : Pinned := { name := "ytmalbdoneghnmaadoor", sum := "b19d96fc7089f6b2f6114bac91ac42da3d99d6556682bb36d36e751f47a70e00", checked := Tryd.checked }
namespace Rows
def none {H : Type} : Left H := { results := [], args := [] }

/- WHAT THE LISTED PACKAGE-LEVEL VARIABLES READ AS WHEN THE CALL BEGINS. Each datum BY PROGRAM (the guide's laid-datum.mjs) off the statement by which the dump's own 'gosem.cut.vars' lays the variable. In a bare row this is a premise. The card (YtmalbdoneghnmaaDoorCards.lean) ties it to the program's text. -/
def laid_stockade_api_ErrRange {H : Type} : DataW H := .iface "*errors.errorString" (.ptr (.agg [.lit (.string [115, 116, 111, 99, 107, 97, 100, 101, 58, 32, 114, 97, 110, 103, 101])]))
def laid_stockade_api_ErrType {H : Type} : DataW H := .iface "*errors.errorString" (.ptr (.agg [.lit (.string [115, 116, 111, 99, 107, 97, 100, 101, 58, 32, 116, 121, 112, 101])]))
def laid_stockade_api_ErrText {H : Type} : DataW H := .iface "*errors.errorString" (.ptr (.agg [.lit (.string [115, 116, 111, 99, 107, 97, 100, 101, 58, 32, 116, 101, 120, 116])]))
def laid_stockade_api_ErrDepth {H : Type} : DataW H := .iface "*errors.errorString" (.ptr (.agg [.lit (.string [115, 116, 111, 99, 107, 97, 100, 101, 58, 32, 100, 101, 112, 116, 104])]))
def laid_stockade_api_ErrName {H : Type} : DataW H := .iface "*errors.errorString" (.ptr (.agg [.lit (.string [115, 116, 111, 99, 107, 97, 100, 101, 58, 32, 110, 97, 109, 101])]))
def laid_stockade_api_ErrLarge {H : Type} : DataW H := .iface "*errors.errorString" (.ptr (.agg [.lit (.string [115, 116, 111, 99, 107, 97, 100, 101, 58, 32, 108, 97, 114, 103, 101])]))
def laid_stockade_api_ErrFull {H : Type} : DataW H := .iface "*errors.errorString" (.ptr (.agg [.lit (.string [115, 116, 111, 99, 107, 97, 100, 101, 58, 32, 102, 117, 108, 108])]))
def laid_stockade_api_ErrNone {H : Type} : DataW H := .iface "*errors.errorString" (.ptr (.agg [.lit (.string [115, 116, 111, 99, 107, 97, 100, 101, 58, 32, 110, 111, 110, 101])]))
def laid_stockade_api_ErrCode {H : Type} : DataW H := .iface "*errors.errorString" (.ptr (.agg [.lit (.string [115, 116, 111, 99, 107, 97, 100, 101, 58, 32, 99, 111, 100, 101])]))
def laid_stockade_api_ErrState {H : Type} : DataW H := .iface "*errors.errorString" (.ptr (.agg [.lit (.string [115, 116, 111, 99, 107, 97, 100, 101, 58, 32, 115, 116, 97, 116, 101])]))
def laid_stockade_api_ErrFrame {H : Type} : DataW H := .iface "*errors.errorString" (.ptr (.agg [.lit (.string [115, 116, 111, 99, 107, 97, 100, 101, 58, 32, 102, 114, 97, 109, 101])]))
def laid_stockade_api_ErrMac {H : Type} : DataW H := .iface "*errors.errorString" (.ptr (.agg [.lit (.string [115, 116, 111, 99, 107, 97, 100, 101, 58, 32, 109, 97, 99])]))
def laid_stockade_api_ErrReplay {H : Type} : DataW H := .iface "*errors.errorString" (.ptr (.agg [.lit (.string [115, 116, 111, 99, 107, 97, 100, 101, 58, 32, 114, 101, 112, 108, 97, 121])]))
def laid_stockade_api_ErrArena {H : Type} : DataW H := .iface "*errors.errorString" (.ptr (.agg [.lit (.string [115, 116, 111, 99, 107, 97, 100, 101, 58, 32, 97, 114, 101, 110, 97])]))
def laid_stockade_api_ErrClock {H : Type} : DataW H := .iface "*errors.errorString" (.ptr (.agg [.lit (.string [115, 116, 111, 99, 107, 97, 100, 101, 58, 32, 99, 108, 111, 99, 107])]))
def laid_stockade_api_ErrQuota {H : Type} : DataW H := .iface "*errors.errorString" (.ptr (.agg [.lit (.string [115, 116, 111, 99, 107, 97, 100, 101, 58, 32, 113, 117, 111, 116, 97])]))
def laid_stockade_api_ErrTenant {H : Type} : DataW H := .iface "*errors.errorString" (.ptr (.agg [.lit (.string [115, 116, 111, 99, 107, 97, 100, 101, 58, 32, 116, 101, 110, 97, 110, 116])]))

/-- 'stockadelaw11.SyncOrder': WHATEVER THE INPUT: true; the input reads as it did. -/
def syncOrderSpec : ChangeSpec := { name := "syncOrder", fn := fun _ => fun
  | [d1, d2] => { results := [.lit (.bool true)], args := [d1, d2] }
  | _ => none }
def syncOrderRow : OpenClaim := { program := "ytmalbdoneghnmaadoor", sum := "b19d96fc7089f6b2f6114bac91ac42da3d99d6556682bb36d36e751f47a70e00", func := "stockade/stockadelaw11.SyncOrder", spec := "syncOrder", named := ["stockade/api.ErrRange", "stockade/api.ErrType"], apart := false, laid := [("stockade/api.ErrRange", laid_stockade_api_ErrRange), ("stockade/api.ErrType", laid_stockade_api_ErrType)] }
def SyncOrderSaid : Prop := syncOrderRow.holds Tryd.pinned (OpenSpec.ofChange syncOrderSpec)

/-- ITS FALSE NEIGHBOUR: 'it returns false'. Refute it at one input. -/
def syncOrderWrong : ChangeSpec := { name := "syncOrder", fn := fun _ => fun
  | [d1, d2] => { results := [.lit (.bool false)], args := [d1, d2] }
  | _ => none }
def SyncOrderWrongFalsely : Prop := syncOrderRow.holds Tryd.pinned (OpenSpec.ofChange syncOrderWrong)

/-- 'stockadelaw11.SyncLocks': WHATEVER THE INPUT: true; the input reads as it did. -/
def syncLocksSpec : ChangeSpec := { name := "syncLocks", fn := fun _ => fun
  | [d] => { results := [.lit (.bool true)], args := [d] }
  | _ => none }
def syncLocksRow : OpenClaim := { program := "ytmalbdoneghnmaadoor", sum := "b19d96fc7089f6b2f6114bac91ac42da3d99d6556682bb36d36e751f47a70e00", func := "stockade/stockadelaw11.SyncLocks", spec := "syncLocks", named := ["stockade/api.ErrRange", "stockade/api.ErrType"], apart := false, laid := [("stockade/api.ErrRange", laid_stockade_api_ErrRange), ("stockade/api.ErrType", laid_stockade_api_ErrType)] }
def SyncLocksSaid : Prop := syncLocksRow.holds Tryd.pinned (OpenSpec.ofChange syncLocksSpec)

/-- ITS FALSE NEIGHBOUR: 'it returns false'. Refute it at one input. -/
def syncLocksWrong : ChangeSpec := { name := "syncLocks", fn := fun _ => fun
  | [d] => { results := [.lit (.bool false)], args := [d] }
  | _ => none }
def SyncLocksWrongFalsely : Prop := syncLocksRow.holds Tryd.pinned (OpenSpec.ofChange syncLocksWrong)

/-- 'stockadelaw11.SyncAdds': WHATEVER THE INPUT: true; the input reads as it did. -/
def syncAddsSpec : ChangeSpec := { name := "syncAdds", fn := fun _ => fun
  | [d1, d2] => { results := [.lit (.bool true)], args := [d1, d2] }
  | _ => none }
def syncAddsRow : OpenClaim := { program := "ytmalbdoneghnmaadoor", sum := "b19d96fc7089f6b2f6114bac91ac42da3d99d6556682bb36d36e751f47a70e00", func := "stockade/stockadelaw11.SyncAdds", spec := "syncAdds", named := ["stockade/api.ErrRange", "stockade/api.ErrType"], apart := false, laid := [("stockade/api.ErrRange", laid_stockade_api_ErrRange), ("stockade/api.ErrType", laid_stockade_api_ErrType)] }
def SyncAddsSaid : Prop := syncAddsRow.holds Tryd.pinned (OpenSpec.ofChange syncAddsSpec)

/-- ITS FALSE NEIGHBOUR: 'it returns false'. Refute it at one input. -/
def syncAddsWrong : ChangeSpec := { name := "syncAdds", fn := fun _ => fun
  | [d1, d2] => { results := [.lit (.bool false)], args := [d1, d2] }
  | _ => none }
def SyncAddsWrongFalsely : Prop := syncAddsRow.holds Tryd.pinned (OpenSpec.ofChange syncAddsWrong)

/-- 'stockadelaw11.SyncTypes': WHATEVER THE INPUT: true; the input reads as it did. -/
def syncTypesSpec : ChangeSpec := { name := "syncTypes", fn := fun _ => fun
  | [d1, d2, d3] => { results := [.lit (.bool true)], args := [d1, d2, d3] }
  | _ => none }
def syncTypesRow : OpenClaim := { program := "ytmalbdoneghnmaadoor", sum := "b19d96fc7089f6b2f6114bac91ac42da3d99d6556682bb36d36e751f47a70e00", func := "stockade/stockadelaw11.SyncTypes", spec := "syncTypes", inPlace := ["internal/reflectlite.TypeOf"], unfollowed := true, recurses := true, named := ["stockade/api.ErrRange", "stockade/api.ErrType", "stockade/api.ErrText", "stockade/api.ErrDepth", "stockade/api.ErrName", "stockade/api.ErrLarge", "stockade/api.ErrFull", "stockade/api.ErrNone", "stockade/api.ErrCode", "stockade/api.ErrState", "stockade/api.ErrFrame", "stockade/api.ErrMac", "stockade/api.ErrReplay", "stockade/api.ErrArena", "stockade/api.ErrClock", "stockade/api.ErrQuota", "stockade/api.ErrTenant"], apart := false, laid := [("stockade/api.ErrRange", laid_stockade_api_ErrRange), ("stockade/api.ErrText", laid_stockade_api_ErrText), ("stockade/api.ErrDepth", laid_stockade_api_ErrDepth), ("stockade/api.ErrName", laid_stockade_api_ErrName), ("stockade/api.ErrType", laid_stockade_api_ErrType), ("stockade/api.ErrLarge", laid_stockade_api_ErrLarge), ("stockade/api.ErrFull", laid_stockade_api_ErrFull), ("stockade/api.ErrNone", laid_stockade_api_ErrNone), ("stockade/api.ErrCode", laid_stockade_api_ErrCode), ("stockade/api.ErrState", laid_stockade_api_ErrState), ("stockade/api.ErrFrame", laid_stockade_api_ErrFrame), ("stockade/api.ErrMac", laid_stockade_api_ErrMac), ("stockade/api.ErrReplay", laid_stockade_api_ErrReplay), ("stockade/api.ErrArena", laid_stockade_api_ErrArena), ("stockade/api.ErrClock", laid_stockade_api_ErrClock), ("stockade/api.ErrQuota", laid_stockade_api_ErrQuota), ("stockade/api.ErrTenant", laid_stockade_api_ErrTenant)] }
def SyncTypesSaid : Prop := syncTypesRow.holds Tryd.pinned (OpenSpec.ofChange syncTypesSpec)

/-- ITS FALSE NEIGHBOUR: 'it returns false'. Refute it at one input. -/
def syncTypesWrong : ChangeSpec := { name := "syncTypes", fn := fun _ => fun
  | [d1, d2, d3] => { results := [.lit (.bool false)], args := [d1, d2, d3] }
  | _ => none }
def SyncTypesWrongFalsely : Prop := syncTypesRow.holds Tryd.pinned (OpenSpec.ofChange syncTypesWrong)

/-- 'stockadelaw11.SyncPlays': WHATEVER THE INPUT: true; the input reads as it did. -/
def syncPlaysSpec : ChangeSpec := { name := "syncPlays", fn := fun _ => fun
  | [d1, d2] => { results := [.lit (.bool true)], args := [d1, d2] }
  | _ => none }
def syncPlaysRow : OpenClaim := { program := "ytmalbdoneghnmaadoor", sum := "b19d96fc7089f6b2f6114bac91ac42da3d99d6556682bb36d36e751f47a70e00", func := "stockade/stockadelaw11.SyncPlays", spec := "syncPlays", inPlace := ["internal/reflectlite.TypeOf"], unfollowed := true, recurses := true, named := ["stockade/api.ErrRange", "stockade/api.ErrType", "stockade/api.ErrText", "stockade/api.ErrDepth", "stockade/api.ErrName", "stockade/api.ErrLarge", "stockade/api.ErrFull", "stockade/api.ErrNone", "stockade/api.ErrCode", "stockade/api.ErrState", "stockade/api.ErrFrame", "stockade/api.ErrMac", "stockade/api.ErrReplay", "stockade/api.ErrArena", "stockade/api.ErrClock", "stockade/api.ErrQuota", "stockade/api.ErrTenant"], apart := false, laid := [("stockade/api.ErrRange", laid_stockade_api_ErrRange), ("stockade/api.ErrText", laid_stockade_api_ErrText), ("stockade/api.ErrDepth", laid_stockade_api_ErrDepth), ("stockade/api.ErrName", laid_stockade_api_ErrName), ("stockade/api.ErrType", laid_stockade_api_ErrType), ("stockade/api.ErrLarge", laid_stockade_api_ErrLarge), ("stockade/api.ErrFull", laid_stockade_api_ErrFull), ("stockade/api.ErrNone", laid_stockade_api_ErrNone), ("stockade/api.ErrCode", laid_stockade_api_ErrCode), ("stockade/api.ErrState", laid_stockade_api_ErrState), ("stockade/api.ErrFrame", laid_stockade_api_ErrFrame), ("stockade/api.ErrMac", laid_stockade_api_ErrMac), ("stockade/api.ErrReplay", laid_stockade_api_ErrReplay), ("stockade/api.ErrArena", laid_stockade_api_ErrArena), ("stockade/api.ErrClock", laid_stockade_api_ErrClock), ("stockade/api.ErrQuota", laid_stockade_api_ErrQuota), ("stockade/api.ErrTenant", laid_stockade_api_ErrTenant)] }
def SyncPlaysSaid : Prop := syncPlaysRow.holds Tryd.pinned (OpenSpec.ofChange syncPlaysSpec)

/-- ITS FALSE NEIGHBOUR: 'it returns false'. Refute it at one input. -/
def syncPlaysWrong : ChangeSpec := { name := "syncPlays", fn := fun _ => fun
  | [d1, d2] => { results := [.lit (.bool false)], args := [d1, d2] }
  | _ => none }
def SyncPlaysWrongFalsely : Prop := syncPlaysRow.holds Tryd.pinned (OpenSpec.ofChange syncPlaysWrong)

/- THE SECOND FORM. 'bulk': how many values and letters a reading holds, each counted each time it is reached (what is shared counts as often as it is met; a slice's spare places count too). A statement '..UptoSaid' is the law's where the arguments, and the package variables that the reading takes, are together of bulk at most 1048576: NARROWER than '..Said'. Prove '..Said' where nothing that the law and all that it calls make is longer than what came in: it says more and counts as full. Else prove '..UptoSaid'. A law counts once. -/
mutual
def uptoBulk {H : Type} : DataW H → Nat
  | .lit (.string bytes) => bytes.length + 1
  | .lit _ => 1
  | .nil => 1
  | .ptr d => uptoBulk d + 1
  | .slice elems spare => uptoBulkAll elems + uptoBulkAll spare + 1
  | .agg parts => uptoBulkAll parts + 1
  | .iface _ d => uptoBulk d + 1
  | .map entries => uptoBulkEntries entries + 1
  | .held _ => 1
def uptoBulkAll {H : Type} : List (DataW H) → Nat
  | [] => 0
  | d :: r => uptoBulk d + uptoBulkAll r
def uptoBulkEntries {H : Type} : List (Lit × DataW H) → Nat
  | [] => 0
  | x :: r => uptoBulkEntry x + uptoBulkEntries r
def uptoBulkEntry {H : Type} : Lit × DataW H → Nat
  | (.string bytes, d) => bytes.length + uptoBulk d + 1
  | (_, d) => uptoBulk d + 1
 end
def uptoSmall : (H : Type) → List (DataW H) → Bool := fun _ ds => decide (uptoBulkAll ds ≤ 1048576)
def OpenSpec.upto (s : _root_.Go.ChangeSpec) : _root_.Go.OpenSpec := { _root_.Go.OpenSpec.ofChange s with cond := some uptoSmall }

/-- 'stockadelaw11.SyncOrder', WHERE WHAT IT READS IS OF BULK AT MOST 1048576: true; the input reads as it did. -/
def syncOrderUptoRow : OpenClaim := { program := "ytmalbdoneghnmaadoor", sum := "b19d96fc7089f6b2f6114bac91ac42da3d99d6556682bb36d36e751f47a70e00", func := "stockade/stockadelaw11.SyncOrder", spec := "syncOrder", named := ["stockade/api.ErrRange", "stockade/api.ErrType"], apart := false, laid := [("stockade/api.ErrRange", laid_stockade_api_ErrRange), ("stockade/api.ErrType", laid_stockade_api_ErrType)], narrowed := true }
def SyncOrderUptoSaid : Prop := syncOrderUptoRow.holds Tryd.pinned (OpenSpec.upto syncOrderSpec)

/-- 'stockadelaw11.SyncLocks', WHERE WHAT IT READS IS OF BULK AT MOST 1048576: true; the input reads as it did. -/
def syncLocksUptoRow : OpenClaim := { program := "ytmalbdoneghnmaadoor", sum := "b19d96fc7089f6b2f6114bac91ac42da3d99d6556682bb36d36e751f47a70e00", func := "stockade/stockadelaw11.SyncLocks", spec := "syncLocks", named := ["stockade/api.ErrRange", "stockade/api.ErrType"], apart := false, laid := [("stockade/api.ErrRange", laid_stockade_api_ErrRange), ("stockade/api.ErrType", laid_stockade_api_ErrType)], narrowed := true }
def SyncLocksUptoSaid : Prop := syncLocksUptoRow.holds Tryd.pinned (OpenSpec.upto syncLocksSpec)

/-- 'stockadelaw11.SyncAdds', WHERE WHAT IT READS IS OF BULK AT MOST 1048576: true; the input reads as it did. -/
def syncAddsUptoRow : OpenClaim := { program := "ytmalbdoneghnmaadoor", sum := "b19d96fc7089f6b2f6114bac91ac42da3d99d6556682bb36d36e751f47a70e00", func := "stockade/stockadelaw11.SyncAdds", spec := "syncAdds", named := ["stockade/api.ErrRange", "stockade/api.ErrType"], apart := false, laid := [("stockade/api.ErrRange", laid_stockade_api_ErrRange), ("stockade/api.ErrType", laid_stockade_api_ErrType)], narrowed := true }
def SyncAddsUptoSaid : Prop := syncAddsUptoRow.holds Tryd.pinned (OpenSpec.upto syncAddsSpec)

/-- 'stockadelaw11.SyncTypes', WHERE WHAT IT READS IS OF BULK AT MOST 1048576: true; the input reads as it did. -/
def syncTypesUptoRow : OpenClaim := { program := "ytmalbdoneghnmaadoor", sum := "b19d96fc7089f6b2f6114bac91ac42da3d99d6556682bb36d36e751f47a70e00", func := "stockade/stockadelaw11.SyncTypes", spec := "syncTypes", inPlace := ["internal/reflectlite.TypeOf"], unfollowed := true, recurses := true, named := ["stockade/api.ErrRange", "stockade/api.ErrType", "stockade/api.ErrText", "stockade/api.ErrDepth", "stockade/api.ErrName", "stockade/api.ErrLarge", "stockade/api.ErrFull", "stockade/api.ErrNone", "stockade/api.ErrCode", "stockade/api.ErrState", "stockade/api.ErrFrame", "stockade/api.ErrMac", "stockade/api.ErrReplay", "stockade/api.ErrArena", "stockade/api.ErrClock", "stockade/api.ErrQuota", "stockade/api.ErrTenant"], apart := false, laid := [("stockade/api.ErrRange", laid_stockade_api_ErrRange), ("stockade/api.ErrText", laid_stockade_api_ErrText), ("stockade/api.ErrDepth", laid_stockade_api_ErrDepth), ("stockade/api.ErrName", laid_stockade_api_ErrName), ("stockade/api.ErrType", laid_stockade_api_ErrType), ("stockade/api.ErrLarge", laid_stockade_api_ErrLarge), ("stockade/api.ErrFull", laid_stockade_api_ErrFull), ("stockade/api.ErrNone", laid_stockade_api_ErrNone), ("stockade/api.ErrCode", laid_stockade_api_ErrCode), ("stockade/api.ErrState", laid_stockade_api_ErrState), ("stockade/api.ErrFrame", laid_stockade_api_ErrFrame), ("stockade/api.ErrMac", laid_stockade_api_ErrMac), ("stockade/api.ErrReplay", laid_stockade_api_ErrReplay), ("stockade/api.ErrArena", laid_stockade_api_ErrArena), ("stockade/api.ErrClock", laid_stockade_api_ErrClock), ("stockade/api.ErrQuota", laid_stockade_api_ErrQuota), ("stockade/api.ErrTenant", laid_stockade_api_ErrTenant)], narrowed := true }
def SyncTypesUptoSaid : Prop := syncTypesUptoRow.holds Tryd.pinned (OpenSpec.upto syncTypesSpec)

/-- 'stockadelaw11.SyncPlays', WHERE WHAT IT READS IS OF BULK AT MOST 1048576: true; the input reads as it did. -/
def syncPlaysUptoRow : OpenClaim := { program := "ytmalbdoneghnmaadoor", sum := "b19d96fc7089f6b2f6114bac91ac42da3d99d6556682bb36d36e751f47a70e00", func := "stockade/stockadelaw11.SyncPlays", spec := "syncPlays", inPlace := ["internal/reflectlite.TypeOf"], unfollowed := true, recurses := true, named := ["stockade/api.ErrRange", "stockade/api.ErrType", "stockade/api.ErrText", "stockade/api.ErrDepth", "stockade/api.ErrName", "stockade/api.ErrLarge", "stockade/api.ErrFull", "stockade/api.ErrNone", "stockade/api.ErrCode", "stockade/api.ErrState", "stockade/api.ErrFrame", "stockade/api.ErrMac", "stockade/api.ErrReplay", "stockade/api.ErrArena", "stockade/api.ErrClock", "stockade/api.ErrQuota", "stockade/api.ErrTenant"], apart := false, laid := [("stockade/api.ErrRange", laid_stockade_api_ErrRange), ("stockade/api.ErrText", laid_stockade_api_ErrText), ("stockade/api.ErrDepth", laid_stockade_api_ErrDepth), ("stockade/api.ErrName", laid_stockade_api_ErrName), ("stockade/api.ErrType", laid_stockade_api_ErrType), ("stockade/api.ErrLarge", laid_stockade_api_ErrLarge), ("stockade/api.ErrFull", laid_stockade_api_ErrFull), ("stockade/api.ErrNone", laid_stockade_api_ErrNone), ("stockade/api.ErrCode", laid_stockade_api_ErrCode), ("stockade/api.ErrState", laid_stockade_api_ErrState), ("stockade/api.ErrFrame", laid_stockade_api_ErrFrame), ("stockade/api.ErrMac", laid_stockade_api_ErrMac), ("stockade/api.ErrReplay", laid_stockade_api_ErrReplay), ("stockade/api.ErrArena", laid_stockade_api_ErrArena), ("stockade/api.ErrClock", laid_stockade_api_ErrClock), ("stockade/api.ErrQuota", laid_stockade_api_ErrQuota), ("stockade/api.ErrTenant", laid_stockade_api_ErrTenant)], narrowed := true }
def SyncPlaysUptoSaid : Prop := syncPlaysUptoRow.holds Tryd.pinned (OpenSpec.upto syncPlaysSpec)

end Rows
end Go.Proofs.YtmalbdoneghnmaaDoor
