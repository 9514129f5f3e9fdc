/-
  No cell of these rows narrows 'for every input' (looked for: loops, veiled, ifaces, maps, wideKeys, modest, calm, conditions, laid).
  DERIVED. THE GIVEN ROWS OF THIS SEAT. 9 by the template 'for every input the law returns true; each argument reads behind the call as it read before'; 0 by the template 'total and deterministic' (their statements: YtdeabmijoaepcaaTotals.lean).
  GIVEN WITH THE SEED: the statements are not yours to turn. If you find one false, say at which input.
  Laid BY PROGRAM, IN A SANDBOX (cutbox-rows.mjs): the forced cells as the released guide's own fill.sh prints them over the translation 9da6413c8f3f312e… (all of the seat's roots in one cut). By AI agents, Wed Nov 11 2026. No macro, syntax, notation, axiom, sorry.
-/
import Derived.Test.YtdeabmijoaepcaaChecked
import GoSem.Claim
import GoSem.ClaimJoined
import GoSem.ClaimMapViews
import Derived.JoinedTies
import Derived.KernelRfl
namespace Go.Proofs.Ytdeabmijoaepcaa
/- THE CELL 'sum', in the pinned program and in every row, IS THE sha256 OF THE DUMP (.gsa) THAT YtdeabmijoaepcaaProg.lean LOADS. Nothing in Lean hashes anything: it is a label: what it is worth is what the hold of that sum in a sandbox is worth. -/
noncomputable def Try.pinned : Pinned := { name := "ytdeabmijoaepcaa", sum := "9da6413c8f3f312e122c9c88e83c10de7ed97a61fa08dbee7b3a75b8f2b73d96", checked := Try.checked }
namespace Rows
def none {H : Type} : Left H := { results := [], args := [] }

/-- 'stockadelaw10.ValueUnary': WHATEVER THE INPUT: true; the input reads as it did. -/
def valueUnarySpec : ChangeSpec := { name := "valueUnary", fn := fun _ => fun
  | [d1, d2] => { results := [.lit (.bool true)], args := [d1, d2] }
  | _ => none }
def valueUnaryRow : OpenClaim := { program := "ytdeabmijoaepcaa", sum := "9da6413c8f3f312e122c9c88e83c10de7ed97a61fa08dbee7b3a75b8f2b73d96", func := "stockade/stockadelaw10.ValueUnary", spec := "valueUnary", inPlace := ["math.Float64frombits", "math.Float64bits"], apart := false }
def ValueUnarySaid : Prop := valueUnaryRow.holds Try.pinned (OpenSpec.ofChange valueUnarySpec)

/-- ITS FALSE NEIGHBOUR: 'it returns false'. Refute it at one input. -/
def valueUnaryWrong : ChangeSpec := { name := "valueUnary", fn := fun _ => fun
  | [d1, d2] => { results := [.lit (.bool false)], args := [d1, d2] }
  | _ => none }
def ValueUnaryWrongFalsely : Prop := valueUnaryRow.holds Try.pinned (OpenSpec.ofChange valueUnaryWrong)

/-- 'stockadelaw10.ValueBinary': WHATEVER THE INPUT: true; the input reads as it did. -/
def valueBinarySpec : ChangeSpec := { name := "valueBinary", fn := fun _ => fun
  | [d1, d2, d3] => { results := [.lit (.bool true)], args := [d1, d2, d3] }
  | _ => none }
def valueBinaryRow : OpenClaim := { program := "ytdeabmijoaepcaa", sum := "9da6413c8f3f312e122c9c88e83c10de7ed97a61fa08dbee7b3a75b8f2b73d96", func := "stockade/stockadelaw10.ValueBinary", spec := "valueBinary", inPlace := ["math.Float64frombits", "math.Float64bits"], apart := false }
def ValueBinarySaid : Prop := valueBinaryRow.holds Try.pinned (OpenSpec.ofChange valueBinarySpec)

/-- ITS FALSE NEIGHBOUR: 'it returns false'. Refute it at one input. -/
def valueBinaryWrong : ChangeSpec := { name := "valueBinary", fn := fun _ => fun
  | [d1, d2, d3] => { results := [.lit (.bool false)], args := [d1, d2, d3] }
  | _ => none }
def ValueBinaryWrongFalsely : Prop := valueBinaryRow.holds Try.pinned (OpenSpec.ofChange valueBinaryWrong)

/-- 'stockadelaw10.ValueInts': WHATEVER THE INPUT: true; the input reads as it did. -/
def valueIntsSpec : ChangeSpec := { name := "valueInts", fn := fun _ => fun
  | [d1, d2] => { results := [.lit (.bool true)], args := [d1, d2] }
  | _ => none }
def valueIntsRow : OpenClaim := { program := "ytdeabmijoaepcaa", sum := "9da6413c8f3f312e122c9c88e83c10de7ed97a61fa08dbee7b3a75b8f2b73d96", func := "stockade/stockadelaw10.ValueInts", spec := "valueInts", inPlace := ["math.Float64frombits", "math.Float64bits"], apart := false }
def ValueIntsSaid : Prop := valueIntsRow.holds Try.pinned (OpenSpec.ofChange valueIntsSpec)

/-- ITS FALSE NEIGHBOUR: 'it returns false'. Refute it at one input. -/
def valueIntsWrong : ChangeSpec := { name := "valueInts", fn := fun _ => fun
  | [d1, d2] => { results := [.lit (.bool false)], args := [d1, d2] }
  | _ => none }
def ValueIntsWrongFalsely : Prop := valueIntsRow.holds Try.pinned (OpenSpec.ofChange valueIntsWrong)

/-- 'stockadelaw10.ValueThere': WHATEVER THE INPUT: true; the input reads as it did. -/
def valueThereSpec : ChangeSpec := { name := "valueThere", fn := fun _ => fun
  | [d] => { results := [.lit (.bool true)], args := [d] }
  | _ => none }
def valueThereRow : OpenClaim := { program := "ytdeabmijoaepcaa", sum := "9da6413c8f3f312e122c9c88e83c10de7ed97a61fa08dbee7b3a75b8f2b73d96", func := "stockade/stockadelaw10.ValueThere", spec := "valueThere", inPlace := ["math.Float64frombits", "math.Float64bits"], apart := false }
def ValueThereSaid : Prop := valueThereRow.holds Try.pinned (OpenSpec.ofChange valueThereSpec)

/-- ITS FALSE NEIGHBOUR: 'it returns false'. Refute it at one input. -/
def valueThereWrong : ChangeSpec := { name := "valueThere", fn := fun _ => fun
  | [d] => { results := [.lit (.bool false)], args := [d] }
  | _ => none }
def ValueThereWrongFalsely : Prop := valueThereRow.holds Try.pinned (OpenSpec.ofChange valueThereWrong)

/-- 'stockadelaw10.ValueMinus': WHATEVER THE INPUT: true; the input reads as it did. -/
def valueMinusSpec : ChangeSpec := { name := "valueMinus", fn := fun _ => fun
  | [d1, d2] => { results := [.lit (.bool true)], args := [d1, d2] }
  | _ => none }
def valueMinusRow : OpenClaim := { program := "ytdeabmijoaepcaa", sum := "9da6413c8f3f312e122c9c88e83c10de7ed97a61fa08dbee7b3a75b8f2b73d96", func := "stockade/stockadelaw10.ValueMinus", spec := "valueMinus", inPlace := ["math.Float64frombits", "math.Float64bits"], apart := false }
def ValueMinusSaid : Prop := valueMinusRow.holds Try.pinned (OpenSpec.ofChange valueMinusSpec)

/-- ITS FALSE NEIGHBOUR: 'it returns false'. Refute it at one input. -/
def valueMinusWrong : ChangeSpec := { name := "valueMinus", fn := fun _ => fun
  | [d1, d2] => { results := [.lit (.bool false)], args := [d1, d2] }
  | _ => none }
def ValueMinusWrongFalsely : Prop := valueMinusRow.holds Try.pinned (OpenSpec.ofChange valueMinusWrong)

/-- 'stockadelaw10.ValueFloats': WHATEVER THE INPUT: true; the input reads as it did. -/
def valueFloatsSpec : ChangeSpec := { name := "valueFloats", fn := fun _ => fun
  | [d1, d2] => { results := [.lit (.bool true)], args := [d1, d2] }
  | _ => none }
def valueFloatsRow : OpenClaim := { program := "ytdeabmijoaepcaa", sum := "9da6413c8f3f312e122c9c88e83c10de7ed97a61fa08dbee7b3a75b8f2b73d96", func := "stockade/stockadelaw10.ValueFloats", spec := "valueFloats", inPlace := ["math.Float64frombits", "math.Float64bits"], unfollowed := true, recurses := true, apart := false }
def ValueFloatsSaid : Prop := valueFloatsRow.holds Try.pinned (OpenSpec.ofChange valueFloatsSpec)

/-- ITS FALSE NEIGHBOUR: 'it returns false'. Refute it at one input. -/
def valueFloatsWrong : ChangeSpec := { name := "valueFloats", fn := fun _ => fun
  | [d1, d2] => { results := [.lit (.bool false)], args := [d1, d2] }
  | _ => none }
def ValueFloatsWrongFalsely : Prop := valueFloatsRow.holds Try.pinned (OpenSpec.ofChange valueFloatsWrong)

/-- 'stockadelaw10.ValueBools': WHATEVER THE INPUT: true; the input reads as it did. -/
def valueBoolsSpec : ChangeSpec := { name := "valueBools", fn := fun _ => fun
  | [d1, d2] => { results := [.lit (.bool true)], args := [d1, d2] }
  | _ => none }
def valueBoolsRow : OpenClaim := { program := "ytdeabmijoaepcaa", sum := "9da6413c8f3f312e122c9c88e83c10de7ed97a61fa08dbee7b3a75b8f2b73d96", func := "stockade/stockadelaw10.ValueBools", spec := "valueBools", inPlace := ["math.Float64frombits", "math.Float64bits"], apart := false }
def ValueBoolsSaid : Prop := valueBoolsRow.holds Try.pinned (OpenSpec.ofChange valueBoolsSpec)

/-- ITS FALSE NEIGHBOUR: 'it returns false'. Refute it at one input. -/
def valueBoolsWrong : ChangeSpec := { name := "valueBools", fn := fun _ => fun
  | [d1, d2] => { results := [.lit (.bool false)], args := [d1, d2] }
  | _ => none }
def ValueBoolsWrongFalsely : Prop := valueBoolsRow.holds Try.pinned (OpenSpec.ofChange valueBoolsWrong)

/-- 'stockadelaw10.ValueLess': WHATEVER THE INPUT: true; the input reads as it did. -/
def valueLessSpec : ChangeSpec := { name := "valueLess", fn := fun _ => fun
  | [d1, d2, d3] => { results := [.lit (.bool true)], args := [d1, d2, d3] }
  | _ => none }
def valueLessRow : OpenClaim := { program := "ytdeabmijoaepcaa", sum := "9da6413c8f3f312e122c9c88e83c10de7ed97a61fa08dbee7b3a75b8f2b73d96", func := "stockade/stockadelaw10.ValueLess", spec := "valueLess", inPlace := ["math.Float64frombits", "math.Float64bits"], unfollowed := true, recurses := true, apart := false }
def ValueLessSaid : Prop := valueLessRow.holds Try.pinned (OpenSpec.ofChange valueLessSpec)

/-- ITS FALSE NEIGHBOUR: 'it returns false'. Refute it at one input. -/
def valueLessWrong : ChangeSpec := { name := "valueLess", fn := fun _ => fun
  | [d1, d2, d3] => { results := [.lit (.bool false)], args := [d1, d2, d3] }
  | _ => none }
def ValueLessWrongFalsely : Prop := valueLessRow.holds Try.pinned (OpenSpec.ofChange valueLessWrong)

/-- 'stockadelaw10.ValueMakes': WHATEVER THE INPUT: true; the input reads as it did. -/
def valueMakesSpec : ChangeSpec := { name := "valueMakes", fn := fun _ => fun
  | [d] => { results := [.lit (.bool true)], args := [d] }
  | _ => none }
def valueMakesRow : OpenClaim := { program := "ytdeabmijoaepcaa", sum := "9da6413c8f3f312e122c9c88e83c10de7ed97a61fa08dbee7b3a75b8f2b73d96", func := "stockade/stockadelaw10.ValueMakes", spec := "valueMakes", inPlace := ["math.Float64frombits", "math.Float64bits"], apart := false }
def ValueMakesSaid : Prop := valueMakesRow.holds Try.pinned (OpenSpec.ofChange valueMakesSpec)

/-- ITS FALSE NEIGHBOUR: 'it returns false'. Refute it at one input. -/
def valueMakesWrong : ChangeSpec := { name := "valueMakes", fn := fun _ => fun
  | [d] => { results := [.lit (.bool false)], args := [d] }
  | _ => none }
def ValueMakesWrongFalsely : Prop := valueMakesRow.holds Try.pinned (OpenSpec.ofChange valueMakesWrong)

/- THE SECOND FORM. 'bulk': how many values and letters a reading holds, each counted each time it is reached (what is shared counts as often as it is met; a slice's spare places count too). A statement '..UptoSaid' is the law's where the arguments, and the package variables that the reading takes, are together of bulk at most 1048576: NARROWER than '..Said'. Prove '..Said' where nothing that the law and all that it calls make is longer than what came in: it says more and counts as full. Else prove '..UptoSaid'. A law counts once. -/
mutual
def uptoBulk {H : Type} : DataW H → Nat
  | .lit (.string bytes) => bytes.length + 1
  | .lit _ => 1
  | .nil => 1
  | .ptr d => uptoBulk d + 1
  | .slice elems spare => uptoBulkAll elems + uptoBulkAll spare + 1
  | .agg parts => uptoBulkAll parts + 1
  | .iface _ d => uptoBulk d + 1
  | .map entries => uptoBulkEntries entries + 1
  | .held _ => 1
def uptoBulkAll {H : Type} : List (DataW H) → Nat
  | [] => 0
  | d :: r => uptoBulk d + uptoBulkAll r
def uptoBulkEntries {H : Type} : List (Lit × DataW H) → Nat
  | [] => 0
  | x :: r => uptoBulkEntry x + uptoBulkEntries r
def uptoBulkEntry {H : Type} : Lit × DataW H → Nat
  | (.string bytes, d) => bytes.length + uptoBulk d + 1
  | (_, d) => uptoBulk d + 1
 end
def uptoSmall : (H : Type) → List (DataW H) → Bool := fun _ ds => decide (uptoBulkAll ds ≤ 1048576)
def OpenSpec.upto (s : _root_.Go.ChangeSpec) : _root_.Go.OpenSpec := { _root_.Go.OpenSpec.ofChange s with cond := some uptoSmall }

/-- 'stockadelaw10.ValueUnary', WHERE WHAT IT READS IS OF BULK AT MOST 1048576: true; the input reads as it did. -/
def valueUnaryUptoRow : OpenClaim := { program := "ytdeabmijoaepcaa", sum := "9da6413c8f3f312e122c9c88e83c10de7ed97a61fa08dbee7b3a75b8f2b73d96", func := "stockade/stockadelaw10.ValueUnary", spec := "valueUnary", inPlace := ["math.Float64frombits", "math.Float64bits"], apart := false, narrowed := true }
def ValueUnaryUptoSaid : Prop := valueUnaryUptoRow.holds Try.pinned (OpenSpec.upto valueUnarySpec)

/-- 'stockadelaw10.ValueBinary', WHERE WHAT IT READS IS OF BULK AT MOST 1048576: true; the input reads as it did. -/
def valueBinaryUptoRow : OpenClaim := { program := "ytdeabmijoaepcaa", sum := "9da6413c8f3f312e122c9c88e83c10de7ed97a61fa08dbee7b3a75b8f2b73d96", func := "stockade/stockadelaw10.ValueBinary", spec := "valueBinary", inPlace := ["math.Float64frombits", "math.Float64bits"], apart := false, narrowed := true }
def ValueBinaryUptoSaid : Prop := valueBinaryUptoRow.holds Try.pinned (OpenSpec.upto valueBinarySpec)

/-- 'stockadelaw10.ValueInts', WHERE WHAT IT READS IS OF BULK AT MOST 1048576: true; the input reads as it did. -/
def valueIntsUptoRow : OpenClaim := { program := "ytdeabmijoaepcaa", sum := "9da6413c8f3f312e122c9c88e83c10de7ed97a61fa08dbee7b3a75b8f2b73d96", func := "stockade/stockadelaw10.ValueInts", spec := "valueInts", inPlace := ["math.Float64frombits", "math.Float64bits"], apart := false, narrowed := true }
def ValueIntsUptoSaid : Prop := valueIntsUptoRow.holds Try.pinned (OpenSpec.upto valueIntsSpec)

/-- 'stockadelaw10.ValueThere', WHERE WHAT IT READS IS OF BULK AT MOST 1048576: true; the input reads as it did. -/
def valueThereUptoRow : OpenClaim := { program := "ytdeabmijoaepcaa", sum := "9da6413c8f3f312e122c9c88e83c10de7ed97a61fa08dbee7b3a75b8f2b73d96", func := "stockade/stockadelaw10.ValueThere", spec := "valueThere", inPlace := ["math.Float64frombits", "math.Float64bits"], apart := false, narrowed := true }
def ValueThereUptoSaid : Prop := valueThereUptoRow.holds Try.pinned (OpenSpec.upto valueThereSpec)

/-- 'stockadelaw10.ValueMinus', WHERE WHAT IT READS IS OF BULK AT MOST 1048576: true; the input reads as it did. -/
def valueMinusUptoRow : OpenClaim := { program := "ytdeabmijoaepcaa", sum := "9da6413c8f3f312e122c9c88e83c10de7ed97a61fa08dbee7b3a75b8f2b73d96", func := "stockade/stockadelaw10.ValueMinus", spec := "valueMinus", inPlace := ["math.Float64frombits", "math.Float64bits"], apart := false, narrowed := true }
def ValueMinusUptoSaid : Prop := valueMinusUptoRow.holds Try.pinned (OpenSpec.upto valueMinusSpec)

/-- 'stockadelaw10.ValueFloats', WHERE WHAT IT READS IS OF BULK AT MOST 1048576: true; the input reads as it did. -/
def valueFloatsUptoRow : OpenClaim := { program := "ytdeabmijoaepcaa", sum := "9da6413c8f3f312e122c9c88e83c10de7ed97a61fa08dbee7b3a75b8f2b73d96", func := "stockade/stockadelaw10.ValueFloats", spec := "valueFloats", inPlace := ["math.Float64frombits", "math.Float64bits"], unfollowed := true, recurses := true, apart := false, narrowed := true }
def ValueFloatsUptoSaid : Prop := valueFloatsUptoRow.holds Try.pinned (OpenSpec.upto valueFloatsSpec)

/-- 'stockadelaw10.ValueBools', WHERE WHAT IT READS IS OF BULK AT MOST 1048576: true; the input reads as it did. -/
def valueBoolsUptoRow : OpenClaim := { program := "ytdeabmijoaepcaa", sum := "9da6413c8f3f312e122c9c88e83c10de7ed97a61fa08dbee7b3a75b8f2b73d96", func := "stockade/stockadelaw10.ValueBools", spec := "valueBools", inPlace := ["math.Float64frombits", "math.Float64bits"], apart := false, narrowed := true }
def ValueBoolsUptoSaid : Prop := valueBoolsUptoRow.holds Try.pinned (OpenSpec.upto valueBoolsSpec)

/-- 'stockadelaw10.ValueLess', WHERE WHAT IT READS IS OF BULK AT MOST 1048576: true; the input reads as it did. -/
def valueLessUptoRow : OpenClaim := { program := "ytdeabmijoaepcaa", sum := "9da6413c8f3f312e122c9c88e83c10de7ed97a61fa08dbee7b3a75b8f2b73d96", func := "stockade/stockadelaw10.ValueLess", spec := "valueLess", inPlace := ["math.Float64frombits", "math.Float64bits"], unfollowed := true, recurses := true, apart := false, narrowed := true }
def ValueLessUptoSaid : Prop := valueLessUptoRow.holds Try.pinned (OpenSpec.upto valueLessSpec)

/-- 'stockadelaw10.ValueMakes', WHERE WHAT IT READS IS OF BULK AT MOST 1048576: true; the input reads as it did. -/
def valueMakesUptoRow : OpenClaim := { program := "ytdeabmijoaepcaa", sum := "9da6413c8f3f312e122c9c88e83c10de7ed97a61fa08dbee7b3a75b8f2b73d96", func := "stockade/stockadelaw10.ValueMakes", spec := "valueMakes", inPlace := ["math.Float64frombits", "math.Float64bits"], apart := false, narrowed := true }
def ValueMakesUptoSaid : Prop := valueMakesUptoRow.holds Try.pinned (OpenSpec.upto valueMakesSpec)

end Rows
end Go.Proofs.Ytdeabmijoaepcaa
