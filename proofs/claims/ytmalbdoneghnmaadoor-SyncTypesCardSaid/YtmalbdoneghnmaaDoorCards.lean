/-
  DERIVED. GIVEN WITH THE SEED: THE CARDS: each row of YtmalbdoneghnmaaDoorRows.lean that lists a variable, with what it lists TIED to the program's text (the seventh form; the later family's looks); each row that meets fmt, with fmt's text TOLD by the authors' own Lean function (tested against real Go, not proved from fmt's source: count such statements apart). THE CARD IS WHAT COUNTS. Prove the row's statement (the work); the ties are given (YtmalbdoneghnmaaDoorTie.lean); close each card by the builder's one call (the guide's Derived/Test/ToyasCard.lean, 'card_holds'). Laid BY PROGRAM, IN A SANDBOX (cutbox-door.mjs). By AI agents, Wed Nov 11 2026. No macro, syntax, notation, axiom, sorry.
-/
import Derived.Test.YtmalbdoneghnmaaDoorRows
import GoSem.ClaimSeven
namespace Go.Proofs.YtmalbdoneghnmaaDoor
namespace Rows

/-- THE TIED CARD OF 'stockadelaw11.SyncOrder'. -/
def syncOrderCard : Claim7 := { stood := { row := syncOrderRow, standIns := [], harness := (true, "6799a4102e8717a5327613dbdb83c82869240fdb1906df684ea45a3bf100d6cb"), looks := true }, kinds := [], alts := [], laidByText := true, laidKinds := [.sentinel, .sentinel], laidTests := true, laidLooks := .later }
def SyncOrderCardSaid : Prop := Claim7.holds Tryd.pinned (.plain (OpenSpec.ofChange syncOrderSpec)) syncOrderCard

/-- THE TIED CARD OF 'stockadelaw11.SyncLocks'. -/
def syncLocksCard : Claim7 := { stood := { row := syncLocksRow, standIns := [], harness := (true, "6799a4102e8717a5327613dbdb83c82869240fdb1906df684ea45a3bf100d6cb"), looks := true }, kinds := [], alts := [], laidByText := true, laidKinds := [.sentinel, .sentinel], laidTests := true, laidLooks := .later }
def SyncLocksCardSaid : Prop := Claim7.holds Tryd.pinned (.plain (OpenSpec.ofChange syncLocksSpec)) syncLocksCard

/-- THE TIED CARD OF 'stockadelaw11.SyncAdds'. -/
def syncAddsCard : Claim7 := { stood := { row := syncAddsRow, standIns := [], harness := (true, "6799a4102e8717a5327613dbdb83c82869240fdb1906df684ea45a3bf100d6cb"), looks := true }, kinds := [], alts := [], laidByText := true, laidKinds := [.sentinel, .sentinel], laidTests := true, laidLooks := .later }
def SyncAddsCardSaid : Prop := Claim7.holds Tryd.pinned (.plain (OpenSpec.ofChange syncAddsSpec)) syncAddsCard

/-- THE TIED CARD OF 'stockadelaw11.SyncTypes'. -/
def syncTypesCard : Claim7 := { stood := { row := syncTypesRow, standIns := [], harness := (true, "6799a4102e8717a5327613dbdb83c82869240fdb1906df684ea45a3bf100d6cb"), looks := true }, kinds := [], alts := [], laidByText := true, laidKinds := [.sentinel, .sentinel, .sentinel, .sentinel, .sentinel, .sentinel, .sentinel, .sentinel, .sentinel, .sentinel, .sentinel, .sentinel, .sentinel, .sentinel, .sentinel, .sentinel, .sentinel], laidTests := true, laidLooks := .later }
def SyncTypesCardSaid : Prop := Claim7.holds Tryd.pinned (.plain (OpenSpec.ofChange syncTypesSpec)) syncTypesCard

/-- THE TIED CARD OF 'stockadelaw11.SyncPlays'. -/
def syncPlaysCard : Claim7 := { stood := { row := syncPlaysRow, standIns := [], harness := (true, "6799a4102e8717a5327613dbdb83c82869240fdb1906df684ea45a3bf100d6cb"), looks := true }, kinds := [], alts := [], laidByText := true, laidKinds := [.sentinel, .sentinel, .sentinel, .sentinel, .sentinel, .sentinel, .sentinel, .sentinel, .sentinel, .sentinel, .sentinel, .sentinel, .sentinel, .sentinel, .sentinel, .sentinel, .sentinel], laidTests := true, laidLooks := .later }
def SyncPlaysCardSaid : Prop := Claim7.holds Tryd.pinned (.plain (OpenSpec.ofChange syncPlaysSpec)) syncPlaysCard

/-- THE SECOND FORM's CARD OF 'stockadelaw11.SyncOrder'. -/
def syncOrderUptoCard : Claim7 := { stood := { row := syncOrderUptoRow, standIns := [], harness := (true, "6799a4102e8717a5327613dbdb83c82869240fdb1906df684ea45a3bf100d6cb"), looks := true }, kinds := [], alts := [], laidByText := true, laidKinds := [.sentinel, .sentinel], laidTests := true, laidLooks := .later }
def SyncOrderUptoCardSaid : Prop := Claim7.holds Tryd.pinned (.plain (OpenSpec.upto syncOrderSpec)) syncOrderUptoCard

/-- THE SECOND FORM's CARD OF 'stockadelaw11.SyncLocks'. -/
def syncLocksUptoCard : Claim7 := { stood := { row := syncLocksUptoRow, standIns := [], harness := (true, "6799a4102e8717a5327613dbdb83c82869240fdb1906df684ea45a3bf100d6cb"), looks := true }, kinds := [], alts := [], laidByText := true, laidKinds := [.sentinel, .sentinel], laidTests := true, laidLooks := .later }
def SyncLocksUptoCardSaid : Prop := Claim7.holds Tryd.pinned (.plain (OpenSpec.upto syncLocksSpec)) syncLocksUptoCard

/-- THE SECOND FORM's CARD OF 'stockadelaw11.SyncAdds'. -/
def syncAddsUptoCard : Claim7 := { stood := { row := syncAddsUptoRow, standIns := [], harness := (true, "6799a4102e8717a5327613dbdb83c82869240fdb1906df684ea45a3bf100d6cb"), looks := true }, kinds := [], alts := [], laidByText := true, laidKinds := [.sentinel, .sentinel], laidTests := true, laidLooks := .later }
def SyncAddsUptoCardSaid : Prop := Claim7.holds Tryd.pinned (.plain (OpenSpec.upto syncAddsSpec)) syncAddsUptoCard

/-- THE SECOND FORM's CARD OF 'stockadelaw11.SyncTypes'. -/
def syncTypesUptoCard : Claim7 := { stood := { row := syncTypesUptoRow, standIns := [], harness := (true, "6799a4102e8717a5327613dbdb83c82869240fdb1906df684ea45a3bf100d6cb"), looks := true }, kinds := [], alts := [], laidByText := true, laidKinds := [.sentinel, .sentinel, .sentinel, .sentinel, .sentinel, .sentinel, .sentinel, .sentinel, .sentinel, .sentinel, .sentinel, .sentinel, .sentinel, .sentinel, .sentinel, .sentinel, .sentinel], laidTests := true, laidLooks := .later }
def SyncTypesUptoCardSaid : Prop := Claim7.holds Tryd.pinned (.plain (OpenSpec.upto syncTypesSpec)) syncTypesUptoCard

/-- THE SECOND FORM's CARD OF 'stockadelaw11.SyncPlays'. -/
def syncPlaysUptoCard : Claim7 := { stood := { row := syncPlaysUptoRow, standIns := [], harness := (true, "6799a4102e8717a5327613dbdb83c82869240fdb1906df684ea45a3bf100d6cb"), looks := true }, kinds := [], alts := [], laidByText := true, laidKinds := [.sentinel, .sentinel, .sentinel, .sentinel, .sentinel, .sentinel, .sentinel, .sentinel, .sentinel, .sentinel, .sentinel, .sentinel, .sentinel, .sentinel, .sentinel, .sentinel, .sentinel], laidTests := true, laidLooks := .later }
def SyncPlaysUptoCardSaid : Prop := Claim7.holds Tryd.pinned (.plain (OpenSpec.upto syncPlaysSpec)) syncPlaysUptoCard
end Rows
end Go.Proofs.YtmalbdoneghnmaaDoor
