/-
  DERIVED. GIVEN WITH THE SEED: THE CARDS: each row of YtpjphmpebegidaaDoorRows.lean that lists a variable, with what it lists TIED to the program's text (the seventh form; the later family's looks); each row that meets fmt, with fmt's text TOLD by the authors' own Lean function (tested against real Go, not proved from fmt's source: count such statements apart). THE CARD IS WHAT COUNTS. Prove the row's statement (the work); the ties are given (YtpjphmpebegidaaDoorTie.lean); close each card by the builder's one call (the guide's Derived/Test/ToyasCard.lean, 'card_holds'). Laid BY PROGRAM, IN A SANDBOX (cutbox-door.mjs). By AI agents, Wed Nov 11 2026. No macro, syntax, notation, axiom, sorry.
-/
import Derived.Test.YtpjphmpebegidaaDoorRows
import GoSem.ClaimSeven
namespace Go.Proofs.YtpjphmpebegidaaDoor
namespace Rows

/-- THE TIED CARD OF 'stockadelaw02.PoolSizes'. -/
def poolSizesCard : Claim7 := { stood := { row := poolSizesRow, standIns := [], harness := (true, "62e6ee299e0a1f497c1a455b57afdd032e7f84f3f9c85ebfd6c21f540c689454"), looks := true }, kinds := [], alts := [], laidByText := true, laidKinds := [.sentinel, .sentinel, .sentinel, .sentinel, .sentinel, .sentinel, .sentinel, .sentinel, .sentinel, .sentinel, .sentinel, .sentinel, .sentinel, .sentinel, .sentinel, .sentinel, .sentinel], laidTests := true, laidLooks := .later }
def PoolSizesCardSaid : Prop := Claim7.holds Tryd.pinned (.plain (OpenSpec.ofChange poolSizesSpec)) poolSizesCard

/-- THE TIED CARD OF 'stockadelaw02.PoolFrees'. -/
def poolFreesCard : Claim7 := { stood := { row := poolFreesRow, standIns := [], harness := (true, "62e6ee299e0a1f497c1a455b57afdd032e7f84f3f9c85ebfd6c21f540c689454"), looks := true }, kinds := [], alts := [], laidByText := true, laidKinds := [.sentinel, .sentinel, .sentinel, .sentinel, .sentinel, .sentinel, .sentinel, .sentinel, .sentinel, .sentinel, .sentinel, .sentinel, .sentinel, .sentinel, .sentinel, .sentinel, .sentinel], laidTests := true, laidLooks := .later }
def PoolFreesCardSaid : Prop := Claim7.holds Tryd.pinned (.plain (OpenSpec.ofChange poolFreesSpec)) poolFreesCard

/-- THE TIED CARD OF 'stockadelaw02.PoolBounds'. -/
def poolBoundsCard : Claim7 := { stood := { row := poolBoundsRow, standIns := [], harness := (true, "62e6ee299e0a1f497c1a455b57afdd032e7f84f3f9c85ebfd6c21f540c689454"), looks := true }, kinds := [], alts := [], laidByText := true, laidKinds := [.sentinel, .sentinel, .sentinel, .sentinel, .sentinel, .sentinel, .sentinel, .sentinel, .sentinel, .sentinel, .sentinel, .sentinel, .sentinel, .sentinel, .sentinel, .sentinel, .sentinel], laidTests := true, laidLooks := .later }
def PoolBoundsCardSaid : Prop := Claim7.holds Tryd.pinned (.plain (OpenSpec.ofChange poolBoundsSpec)) poolBoundsCard

/-- THE TIED CARD OF 'stockadelaw02.PoolZeroes'. -/
def poolZeroesCard : Claim7 := { stood := { row := poolZeroesRow, standIns := [], harness := (true, "62e6ee299e0a1f497c1a455b57afdd032e7f84f3f9c85ebfd6c21f540c689454"), looks := true }, kinds := [], alts := [], laidByText := true, laidKinds := [.sentinel, .sentinel, .sentinel, .sentinel, .sentinel, .sentinel, .sentinel, .sentinel, .sentinel, .sentinel, .sentinel, .sentinel, .sentinel, .sentinel, .sentinel, .sentinel, .sentinel], laidTests := true, laidLooks := .later }
def PoolZeroesCardSaid : Prop := Claim7.holds Tryd.pinned (.plain (OpenSpec.ofChange poolZeroesSpec)) poolZeroesCard

/-- THE TIED CARD OF 'stockadelaw02.PoolApart'. -/
def poolApartCard : Claim7 := { stood := { row := poolApartRow, standIns := [], harness := (true, "62e6ee299e0a1f497c1a455b57afdd032e7f84f3f9c85ebfd6c21f540c689454"), looks := true }, kinds := [], alts := [], laidByText := true, laidKinds := [.sentinel, .sentinel, .sentinel, .sentinel, .sentinel, .sentinel, .sentinel, .sentinel, .sentinel, .sentinel, .sentinel, .sentinel, .sentinel, .sentinel, .sentinel, .sentinel, .sentinel], laidTests := true, laidLooks := .later }
def PoolApartCardSaid : Prop := Claim7.holds Tryd.pinned (.plain (OpenSpec.ofChange poolApartSpec)) poolApartCard

/-- THE TIED CARD OF 'stockadelaw02.PoolPlays'. -/
def poolPlaysCard : Claim7 := { stood := { row := poolPlaysRow, standIns := [], harness := (true, "62e6ee299e0a1f497c1a455b57afdd032e7f84f3f9c85ebfd6c21f540c689454"), looks := true }, kinds := [], alts := [], laidByText := true, laidKinds := [.sentinel, .sentinel, .sentinel, .sentinel, .sentinel, .sentinel, .sentinel, .sentinel, .sentinel, .sentinel, .sentinel, .sentinel, .sentinel, .sentinel, .sentinel, .sentinel, .sentinel], laidTests := true, laidLooks := .later }
def PoolPlaysCardSaid : Prop := Claim7.holds Tryd.pinned (.plain (OpenSpec.ofChange poolPlaysSpec)) poolPlaysCard

/-- THE SECOND FORM's CARD OF 'stockadelaw02.PoolSizes'. -/
def poolSizesUptoCard : Claim7 := { stood := { row := poolSizesUptoRow, standIns := [], harness := (true, "62e6ee299e0a1f497c1a455b57afdd032e7f84f3f9c85ebfd6c21f540c689454"), looks := true }, kinds := [], alts := [], laidByText := true, laidKinds := [.sentinel, .sentinel, .sentinel, .sentinel, .sentinel, .sentinel, .sentinel, .sentinel, .sentinel, .sentinel, .sentinel, .sentinel, .sentinel, .sentinel, .sentinel, .sentinel, .sentinel], laidTests := true, laidLooks := .later }
def PoolSizesUptoCardSaid : Prop := Claim7.holds Tryd.pinned (.plain (OpenSpec.upto poolSizesSpec)) poolSizesUptoCard

/-- THE SECOND FORM's CARD OF 'stockadelaw02.PoolFrees'. -/
def poolFreesUptoCard : Claim7 := { stood := { row := poolFreesUptoRow, standIns := [], harness := (true, "62e6ee299e0a1f497c1a455b57afdd032e7f84f3f9c85ebfd6c21f540c689454"), looks := true }, kinds := [], alts := [], laidByText := true, laidKinds := [.sentinel, .sentinel, .sentinel, .sentinel, .sentinel, .sentinel, .sentinel, .sentinel, .sentinel, .sentinel, .sentinel, .sentinel, .sentinel, .sentinel, .sentinel, .sentinel, .sentinel], laidTests := true, laidLooks := .later }
def PoolFreesUptoCardSaid : Prop := Claim7.holds Tryd.pinned (.plain (OpenSpec.upto poolFreesSpec)) poolFreesUptoCard

/-- THE SECOND FORM's CARD OF 'stockadelaw02.PoolBounds'. -/
def poolBoundsUptoCard : Claim7 := { stood := { row := poolBoundsUptoRow, standIns := [], harness := (true, "62e6ee299e0a1f497c1a455b57afdd032e7f84f3f9c85ebfd6c21f540c689454"), looks := true }, kinds := [], alts := [], laidByText := true, laidKinds := [.sentinel, .sentinel, .sentinel, .sentinel, .sentinel, .sentinel, .sentinel, .sentinel, .sentinel, .sentinel, .sentinel, .sentinel, .sentinel, .sentinel, .sentinel, .sentinel, .sentinel], laidTests := true, laidLooks := .later }
def PoolBoundsUptoCardSaid : Prop := Claim7.holds Tryd.pinned (.plain (OpenSpec.upto poolBoundsSpec)) poolBoundsUptoCard

/-- THE SECOND FORM's CARD OF 'stockadelaw02.PoolZeroes'. -/
def poolZeroesUptoCard : Claim7 := { stood := { row := poolZeroesUptoRow, standIns := [], harness := (true, "62e6ee299e0a1f497c1a455b57afdd032e7f84f3f9c85ebfd6c21f540c689454"), looks := true }, kinds := [], alts := [], laidByText := true, laidKinds := [.sentinel, .sentinel, .sentinel, .sentinel, .sentinel, .sentinel, .sentinel, .sentinel, .sentinel, .sentinel, .sentinel, .sentinel, .sentinel, .sentinel, .sentinel, .sentinel, .sentinel], laidTests := true, laidLooks := .later }
def PoolZeroesUptoCardSaid : Prop := Claim7.holds Tryd.pinned (.plain (OpenSpec.upto poolZeroesSpec)) poolZeroesUptoCard

/-- THE SECOND FORM's CARD OF 'stockadelaw02.PoolApart'. -/
def poolApartUptoCard : Claim7 := { stood := { row := poolApartUptoRow, standIns := [], harness := (true, "62e6ee299e0a1f497c1a455b57afdd032e7f84f3f9c85ebfd6c21f540c689454"), looks := true }, kinds := [], alts := [], laidByText := true, laidKinds := [.sentinel, .sentinel, .sentinel, .sentinel, .sentinel, .sentinel, .sentinel, .sentinel, .sentinel, .sentinel, .sentinel, .sentinel, .sentinel, .sentinel, .sentinel, .sentinel, .sentinel], laidTests := true, laidLooks := .later }
def PoolApartUptoCardSaid : Prop := Claim7.holds Tryd.pinned (.plain (OpenSpec.upto poolApartSpec)) poolApartUptoCard

/-- THE SECOND FORM's CARD OF 'stockadelaw02.PoolPlays'. -/
def poolPlaysUptoCard : Claim7 := { stood := { row := poolPlaysUptoRow, standIns := [], harness := (true, "62e6ee299e0a1f497c1a455b57afdd032e7f84f3f9c85ebfd6c21f540c689454"), looks := true }, kinds := [], alts := [], laidByText := true, laidKinds := [.sentinel, .sentinel, .sentinel, .sentinel, .sentinel, .sentinel, .sentinel, .sentinel, .sentinel, .sentinel, .sentinel, .sentinel, .sentinel, .sentinel, .sentinel, .sentinel, .sentinel], laidTests := true, laidLooks := .later }
def PoolPlaysUptoCardSaid : Prop := Claim7.holds Tryd.pinned (.plain (OpenSpec.upto poolPlaysSpec)) poolPlaysUptoCard
end Rows
end Go.Proofs.YtpjphmpebegidaaDoor
