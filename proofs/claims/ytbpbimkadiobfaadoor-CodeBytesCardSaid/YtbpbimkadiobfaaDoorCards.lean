/-
  DERIVED. GIVEN WITH THE SEED: THE CARDS: each row of YtbpbimkadiobfaaDoorRows.lean that lists a variable, with what it lists TIED to the program's text (the seventh form; the later family's looks); each row that meets fmt, with fmt's text TOLD by the authors' own Lean function (tested against real Go, not proved from fmt's source: count such statements apart). THE CARD IS WHAT COUNTS. Prove the row's statement (the work); the ties are given (YtbpbimkadiobfaaDoorTie.lean); close each card by the builder's one call (the guide's Derived/Test/ToyasCard.lean, 'card_holds'). Laid BY PROGRAM, IN A SANDBOX (cutbox-door.mjs). By AI agents, Wed Nov 11 2026. No macro, syntax, notation, axiom, sorry.
-/
import Derived.Test.YtbpbimkadiobfaaDoorRows
import GoSem.ClaimSeven
namespace Go.Proofs.YtbpbimkadiobfaaDoor
namespace Rows

/-- THE TIED CARD OF 'stockadelaw14.CodeTurns'. -/
def codeTurnsCard : Claim7 := { stood := { row := codeTurnsRow, standIns := [], harness := (true, "eb88eb6ffab5edc23f4ceb6a75c720d49b50053925968d77df74e4b2946a6d0b"), looks := true }, kinds := [], alts := [], laidByText := true, laidKinds := [.sentinel], laidTests := true, laidLooks := .later }
def CodeTurnsCardSaid : Prop := Claim7.holds Tryd.pinned (.plain (OpenSpec.ofChange codeTurnsSpec)) codeTurnsCard

/-- THE TIED CARD OF 'stockadelaw14.CodeNames'. -/
def codeNamesCard : Claim7 := { stood := { row := codeNamesRow, standIns := [], harness := (true, "eb88eb6ffab5edc23f4ceb6a75c720d49b50053925968d77df74e4b2946a6d0b"), looks := true }, kinds := [], alts := [], laidByText := true, laidKinds := [.sentinel], laidTests := true, laidLooks := .later }
def CodeNamesCardSaid : Prop := Claim7.holds Tryd.pinned (.plain (OpenSpec.ofChange codeNamesSpec)) codeNamesCard

/-- THE TIED CARD OF 'stockadelaw14.CodeSame'. -/
def codeSameCard : Claim7 := { stood := { row := codeSameRow, standIns := [], harness := (true, "eb88eb6ffab5edc23f4ceb6a75c720d49b50053925968d77df74e4b2946a6d0b"), looks := true }, kinds := [], alts := [], laidByText := true, laidKinds := [.sentinel], laidTests := true, laidLooks := .later }
def CodeSameCardSaid : Prop := Claim7.holds Tryd.pinned (.plain (OpenSpec.ofChange codeSameSpec)) codeSameCard

/-- THE TIED CARD OF 'stockadelaw14.CodeForms'. -/
def codeFormsCard : Claim7 := { stood := { row := codeFormsRow, standIns := [], harness := (true, "eb88eb6ffab5edc23f4ceb6a75c720d49b50053925968d77df74e4b2946a6d0b"), looks := true }, kinds := [], alts := [], laidByText := true, laidKinds := [.sentinel, .sentinel, .sentinel, .sentinel, .sentinel, .sentinel, .sentinel, .sentinel, .sentinel, .sentinel, .sentinel, .sentinel, .sentinel, .sentinel, .sentinel, .sentinel, .sentinel], laidTests := true, laidLooks := .later }
def CodeFormsCardSaid : Prop := Claim7.holds Tryd.pinned (.plain (OpenSpec.ofChange codeFormsSpec)) codeFormsCard

/-- THE TIED CARD OF 'stockadelaw14.CodeBytes'. -/
def codeBytesCard : Claim7 := { stood := { row := codeBytesRow, standIns := [], harness := (true, "eb88eb6ffab5edc23f4ceb6a75c720d49b50053925968d77df74e4b2946a6d0b"), looks := true }, kinds := [], alts := [], laidByText := true, laidKinds := [.sentinel, .sentinel, .sentinel, .sentinel, .sentinel, .sentinel, .sentinel, .sentinel, .sentinel, .sentinel, .sentinel, .sentinel, .sentinel, .sentinel, .sentinel, .sentinel, .sentinel], laidTests := true, laidLooks := .later }
def CodeBytesCardSaid : Prop := Claim7.holds Tryd.pinned (.plain (OpenSpec.ofChange codeBytesSpec)) codeBytesCard

/-- THE TIED CARD OF 'stockadelaw14.CodeCuts'. -/
def codeCutsCard : Claim7 := { stood := { row := codeCutsRow, standIns := [], harness := (true, "eb88eb6ffab5edc23f4ceb6a75c720d49b50053925968d77df74e4b2946a6d0b"), looks := true }, kinds := [], alts := [], laidByText := true, laidKinds := [.sentinel, .sentinel, .sentinel, .sentinel, .sentinel, .sentinel, .sentinel, .sentinel, .sentinel, .sentinel, .sentinel, .sentinel, .sentinel, .sentinel, .sentinel, .sentinel, .sentinel], laidTests := true, laidLooks := .later }
def CodeCutsCardSaid : Prop := Claim7.holds Tryd.pinned (.plain (OpenSpec.ofChange codeCutsSpec)) codeCutsCard

/-- THE SECOND FORM's CARD OF 'stockadelaw14.CodeTurns'. -/
def codeTurnsUptoCard : Claim7 := { stood := { row := codeTurnsUptoRow, standIns := [], harness := (true, "eb88eb6ffab5edc23f4ceb6a75c720d49b50053925968d77df74e4b2946a6d0b"), looks := true }, kinds := [], alts := [], laidByText := true, laidKinds := [.sentinel], laidTests := true, laidLooks := .later }
def CodeTurnsUptoCardSaid : Prop := Claim7.holds Tryd.pinned (.plain (OpenSpec.upto codeTurnsSpec)) codeTurnsUptoCard

/-- THE SECOND FORM's CARD OF 'stockadelaw14.CodeNames'. -/
def codeNamesUptoCard : Claim7 := { stood := { row := codeNamesUptoRow, standIns := [], harness := (true, "eb88eb6ffab5edc23f4ceb6a75c720d49b50053925968d77df74e4b2946a6d0b"), looks := true }, kinds := [], alts := [], laidByText := true, laidKinds := [.sentinel], laidTests := true, laidLooks := .later }
def CodeNamesUptoCardSaid : Prop := Claim7.holds Tryd.pinned (.plain (OpenSpec.upto codeNamesSpec)) codeNamesUptoCard

/-- THE SECOND FORM's CARD OF 'stockadelaw14.CodeSame'. -/
def codeSameUptoCard : Claim7 := { stood := { row := codeSameUptoRow, standIns := [], harness := (true, "eb88eb6ffab5edc23f4ceb6a75c720d49b50053925968d77df74e4b2946a6d0b"), looks := true }, kinds := [], alts := [], laidByText := true, laidKinds := [.sentinel], laidTests := true, laidLooks := .later }
def CodeSameUptoCardSaid : Prop := Claim7.holds Tryd.pinned (.plain (OpenSpec.upto codeSameSpec)) codeSameUptoCard

/-- THE SECOND FORM's CARD OF 'stockadelaw14.CodeForms'. -/
def codeFormsUptoCard : Claim7 := { stood := { row := codeFormsUptoRow, standIns := [], harness := (true, "eb88eb6ffab5edc23f4ceb6a75c720d49b50053925968d77df74e4b2946a6d0b"), looks := true }, kinds := [], alts := [], laidByText := true, laidKinds := [.sentinel, .sentinel, .sentinel, .sentinel, .sentinel, .sentinel, .sentinel, .sentinel, .sentinel, .sentinel, .sentinel, .sentinel, .sentinel, .sentinel, .sentinel, .sentinel, .sentinel], laidTests := true, laidLooks := .later }
def CodeFormsUptoCardSaid : Prop := Claim7.holds Tryd.pinned (.plain (OpenSpec.upto codeFormsSpec)) codeFormsUptoCard

/-- THE SECOND FORM's CARD OF 'stockadelaw14.CodeBytes'. -/
def codeBytesUptoCard : Claim7 := { stood := { row := codeBytesUptoRow, standIns := [], harness := (true, "eb88eb6ffab5edc23f4ceb6a75c720d49b50053925968d77df74e4b2946a6d0b"), looks := true }, kinds := [], alts := [], laidByText := true, laidKinds := [.sentinel, .sentinel, .sentinel, .sentinel, .sentinel, .sentinel, .sentinel, .sentinel, .sentinel, .sentinel, .sentinel, .sentinel, .sentinel, .sentinel, .sentinel, .sentinel, .sentinel], laidTests := true, laidLooks := .later }
def CodeBytesUptoCardSaid : Prop := Claim7.holds Tryd.pinned (.plain (OpenSpec.upto codeBytesSpec)) codeBytesUptoCard

/-- THE SECOND FORM's CARD OF 'stockadelaw14.CodeCuts'. -/
def codeCutsUptoCard : Claim7 := { stood := { row := codeCutsUptoRow, standIns := [], harness := (true, "eb88eb6ffab5edc23f4ceb6a75c720d49b50053925968d77df74e4b2946a6d0b"), looks := true }, kinds := [], alts := [], laidByText := true, laidKinds := [.sentinel, .sentinel, .sentinel, .sentinel, .sentinel, .sentinel, .sentinel, .sentinel, .sentinel, .sentinel, .sentinel, .sentinel, .sentinel, .sentinel, .sentinel, .sentinel, .sentinel], laidTests := true, laidLooks := .later }
def CodeCutsUptoCardSaid : Prop := Claim7.holds Tryd.pinned (.plain (OpenSpec.upto codeCutsSpec)) codeCutsUptoCard
end Rows
end Go.Proofs.YtbpbimkadiobfaaDoor
