/-
  DERIVED. GIVEN WITH THE SEED: THE CARDS: each row of YtcipikacgkkapaaDoorRows.lean that lists a variable, with what it lists TIED to the program's text (the seventh form; the later family's looks); each row that meets fmt, with fmt's text TOLD by the authors' own Lean function (tested against real Go, not proved from fmt's source: count such statements apart). THE CARD IS WHAT COUNTS. Prove the row's statement (the work); the ties are given (YtcipikacgkkapaaDoorTie.lean); close each card by the builder's one call (the guide's Derived/Test/ToyasCard.lean, 'card_holds'). Laid BY PROGRAM, IN A SANDBOX (cutbox-door.mjs). By AI agents, Wed Nov 11 2026. No macro, syntax, notation, axiom, sorry.
-/
import Derived.Test.YtcipikacgkkapaaDoorRows
import GoSem.ClaimSeven
namespace Go.Proofs.YtcipikacgkkapaaDoor
namespace Rows

/-- THE TIED CARD OF 'stockadelaw01.ClockGets'. -/
def clockGetsCard : Claim7 := { stood := { row := clockGetsRow, standIns := [], harness := (true, "fd0152ccbdecada703aca73259dc4e14848833c8d888b9f9caa2da87b4ad9c42"), looks := true }, kinds := [], alts := [], laidByText := true, laidKinds := [.sentinel, .sentinel], laidTests := true, laidLooks := .later }
def ClockGetsCardSaid : Prop := Claim7.holds Tryd.pinned (.plain (OpenSpec.ofChange clockGetsSpec)) clockGetsCard

/-- THE TIED CARD OF 'stockadelaw01.ClockOrder'. -/
def clockOrderCard : Claim7 := { stood := { row := clockOrderRow, standIns := [], harness := (true, "fd0152ccbdecada703aca73259dc4e14848833c8d888b9f9caa2da87b4ad9c42"), looks := true }, kinds := [], alts := [], laidByText := true, laidKinds := [.sentinel, .sentinel], laidTests := true, laidLooks := .later }
def ClockOrderCardSaid : Prop := Claim7.holds Tryd.pinned (.plain (OpenSpec.ofChange clockOrderSpec)) clockOrderCard

/-- THE TIED CARD OF 'stockadelaw01.ClockShorts'. -/
def clockShortsCard : Claim7 := { stood := { row := clockShortsRow, standIns := [], harness := (true, "fd0152ccbdecada703aca73259dc4e14848833c8d888b9f9caa2da87b4ad9c42"), looks := true }, kinds := [], alts := [], laidByText := true, laidKinds := [.sentinel, .sentinel], laidTests := true, laidLooks := .later }
def ClockShortsCardSaid : Prop := Claim7.holds Tryd.pinned (.plain (OpenSpec.ofChange clockShortsSpec)) clockShortsCard

/-- THE TIED CARD OF 'stockadelaw01.ClockZero'. -/
def clockZeroCard : Claim7 := { stood := { row := clockZeroRow, standIns := [], harness := (true, "fd0152ccbdecada703aca73259dc4e14848833c8d888b9f9caa2da87b4ad9c42"), looks := true }, kinds := [], alts := [], laidByText := true, laidKinds := [.sentinel, .sentinel], laidTests := true, laidLooks := .later }
def ClockZeroCardSaid : Prop := Claim7.holds Tryd.pinned (.plain (OpenSpec.ofChange clockZeroSpec)) clockZeroCard

/-- THE TIED CARD OF 'stockadelaw01.ClockEpochs'. -/
def clockEpochsCard : Claim7 := { stood := { row := clockEpochsRow, standIns := [], harness := (true, "fd0152ccbdecada703aca73259dc4e14848833c8d888b9f9caa2da87b4ad9c42"), looks := true }, kinds := [], alts := [], laidByText := true, laidKinds := [.sentinel, .sentinel], laidTests := true, laidLooks := .later }
def ClockEpochsCardSaid : Prop := Claim7.holds Tryd.pinned (.plain (OpenSpec.ofChange clockEpochsSpec)) clockEpochsCard

/-- THE TIED CARD OF 'stockadelaw01.ClockOf'. -/
def clockOfCard : Claim7 := { stood := { row := clockOfRow, standIns := [], harness := (true, "fd0152ccbdecada703aca73259dc4e14848833c8d888b9f9caa2da87b4ad9c42"), looks := true }, kinds := [], alts := [], laidByText := true, laidKinds := [.sentinel, .sentinel], laidTests := true, laidLooks := .later }
def ClockOfCardSaid : Prop := Claim7.holds Tryd.pinned (.plain (OpenSpec.ofChange clockOfSpec)) clockOfCard

/-- THE TIED CARD OF 'stockadelaw01.ClockTicks'. -/
def clockTicksCard : Claim7 := { stood := { row := clockTicksRow, standIns := [], harness := (true, "fd0152ccbdecada703aca73259dc4e14848833c8d888b9f9caa2da87b4ad9c42"), looks := true }, kinds := [], alts := [], laidByText := true, laidKinds := [.sentinel, .sentinel, .sentinel, .sentinel, .sentinel, .sentinel, .sentinel, .sentinel, .sentinel, .sentinel, .sentinel, .sentinel, .sentinel, .sentinel, .sentinel, .sentinel, .sentinel], laidTests := true, laidLooks := .later }
def ClockTicksCardSaid : Prop := Claim7.holds Tryd.pinned (.plain (OpenSpec.ofChange clockTicksSpec)) clockTicksCard

/-- THE TIED CARD OF 'stockadelaw01.ClockTells'. -/
def clockTellsCard : Claim7 := { stood := { row := clockTellsRow, standIns := [], harness := (true, "fd0152ccbdecada703aca73259dc4e14848833c8d888b9f9caa2da87b4ad9c42"), looks := true }, kinds := [], alts := [], laidByText := true, laidKinds := [.sentinel, .sentinel, .sentinel, .sentinel, .sentinel, .sentinel, .sentinel, .sentinel, .sentinel, .sentinel, .sentinel, .sentinel, .sentinel, .sentinel, .sentinel, .sentinel, .sentinel], laidTests := true, laidLooks := .later }
def ClockTellsCardSaid : Prop := Claim7.holds Tryd.pinned (.plain (OpenSpec.ofChange clockTellsSpec)) clockTellsCard

/-- THE SECOND FORM's CARD OF 'stockadelaw01.ClockGets'. -/
def clockGetsUptoCard : Claim7 := { stood := { row := clockGetsUptoRow, standIns := [], harness := (true, "fd0152ccbdecada703aca73259dc4e14848833c8d888b9f9caa2da87b4ad9c42"), looks := true }, kinds := [], alts := [], laidByText := true, laidKinds := [.sentinel, .sentinel], laidTests := true, laidLooks := .later }
def ClockGetsUptoCardSaid : Prop := Claim7.holds Tryd.pinned (.plain (OpenSpec.upto clockGetsSpec)) clockGetsUptoCard

/-- THE SECOND FORM's CARD OF 'stockadelaw01.ClockOrder'. -/
def clockOrderUptoCard : Claim7 := { stood := { row := clockOrderUptoRow, standIns := [], harness := (true, "fd0152ccbdecada703aca73259dc4e14848833c8d888b9f9caa2da87b4ad9c42"), looks := true }, kinds := [], alts := [], laidByText := true, laidKinds := [.sentinel, .sentinel], laidTests := true, laidLooks := .later }
def ClockOrderUptoCardSaid : Prop := Claim7.holds Tryd.pinned (.plain (OpenSpec.upto clockOrderSpec)) clockOrderUptoCard

/-- THE SECOND FORM's CARD OF 'stockadelaw01.ClockShorts'. -/
def clockShortsUptoCard : Claim7 := { stood := { row := clockShortsUptoRow, standIns := [], harness := (true, "fd0152ccbdecada703aca73259dc4e14848833c8d888b9f9caa2da87b4ad9c42"), looks := true }, kinds := [], alts := [], laidByText := true, laidKinds := [.sentinel, .sentinel], laidTests := true, laidLooks := .later }
def ClockShortsUptoCardSaid : Prop := Claim7.holds Tryd.pinned (.plain (OpenSpec.upto clockShortsSpec)) clockShortsUptoCard

/-- THE SECOND FORM's CARD OF 'stockadelaw01.ClockZero'. -/
def clockZeroUptoCard : Claim7 := { stood := { row := clockZeroUptoRow, standIns := [], harness := (true, "fd0152ccbdecada703aca73259dc4e14848833c8d888b9f9caa2da87b4ad9c42"), looks := true }, kinds := [], alts := [], laidByText := true, laidKinds := [.sentinel, .sentinel], laidTests := true, laidLooks := .later }
def ClockZeroUptoCardSaid : Prop := Claim7.holds Tryd.pinned (.plain (OpenSpec.upto clockZeroSpec)) clockZeroUptoCard

/-- THE SECOND FORM's CARD OF 'stockadelaw01.ClockEpochs'. -/
def clockEpochsUptoCard : Claim7 := { stood := { row := clockEpochsUptoRow, standIns := [], harness := (true, "fd0152ccbdecada703aca73259dc4e14848833c8d888b9f9caa2da87b4ad9c42"), looks := true }, kinds := [], alts := [], laidByText := true, laidKinds := [.sentinel, .sentinel], laidTests := true, laidLooks := .later }
def ClockEpochsUptoCardSaid : Prop := Claim7.holds Tryd.pinned (.plain (OpenSpec.upto clockEpochsSpec)) clockEpochsUptoCard

/-- THE SECOND FORM's CARD OF 'stockadelaw01.ClockOf'. -/
def clockOfUptoCard : Claim7 := { stood := { row := clockOfUptoRow, standIns := [], harness := (true, "fd0152ccbdecada703aca73259dc4e14848833c8d888b9f9caa2da87b4ad9c42"), looks := true }, kinds := [], alts := [], laidByText := true, laidKinds := [.sentinel, .sentinel], laidTests := true, laidLooks := .later }
def ClockOfUptoCardSaid : Prop := Claim7.holds Tryd.pinned (.plain (OpenSpec.upto clockOfSpec)) clockOfUptoCard

/-- THE SECOND FORM's CARD OF 'stockadelaw01.ClockTicks'. -/
def clockTicksUptoCard : Claim7 := { stood := { row := clockTicksUptoRow, standIns := [], harness := (true, "fd0152ccbdecada703aca73259dc4e14848833c8d888b9f9caa2da87b4ad9c42"), looks := true }, kinds := [], alts := [], laidByText := true, laidKinds := [.sentinel, .sentinel, .sentinel, .sentinel, .sentinel, .sentinel, .sentinel, .sentinel, .sentinel, .sentinel, .sentinel, .sentinel, .sentinel, .sentinel, .sentinel, .sentinel, .sentinel], laidTests := true, laidLooks := .later }
def ClockTicksUptoCardSaid : Prop := Claim7.holds Tryd.pinned (.plain (OpenSpec.upto clockTicksSpec)) clockTicksUptoCard

/-- THE SECOND FORM's CARD OF 'stockadelaw01.ClockTells'. -/
def clockTellsUptoCard : Claim7 := { stood := { row := clockTellsUptoRow, standIns := [], harness := (true, "fd0152ccbdecada703aca73259dc4e14848833c8d888b9f9caa2da87b4ad9c42"), looks := true }, kinds := [], alts := [], laidByText := true, laidKinds := [.sentinel, .sentinel, .sentinel, .sentinel, .sentinel, .sentinel, .sentinel, .sentinel, .sentinel, .sentinel, .sentinel, .sentinel, .sentinel, .sentinel, .sentinel, .sentinel, .sentinel], laidTests := true, laidLooks := .later }
def ClockTellsUptoCardSaid : Prop := Claim7.holds Tryd.pinned (.plain (OpenSpec.upto clockTellsSpec)) clockTellsUptoCard
end Rows
end Go.Proofs.YtcipikacgkkapaaDoor
