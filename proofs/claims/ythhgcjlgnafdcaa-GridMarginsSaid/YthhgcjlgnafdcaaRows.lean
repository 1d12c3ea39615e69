/-
  No cell of these rows narrows 'for every input' (looked for: loops, veiled, ifaces, maps, wideKeys, modest, calm, conditions, laid).
  DERIVED. THE GIVEN ROWS OF THIS SEAT. 9 by the template 'for every input the law returns true; each argument reads behind the call as it read before'; 0 by the template 'total and deterministic' (their statements: YthhgcjlgnafdcaaTotals.lean).
  GIVEN WITH THE SEED: the statements are not yours to turn. If you find one false, say at which input.
  Laid BY PROGRAM, IN A SANDBOX (cutbox-rows.mjs): the forced cells as the released guide's own fill.sh prints them over the translation a0b67dbf0b39fbac… (all of the seat's roots in one cut). By AI agents, Wed Nov 11 2026. No macro, syntax, notation, axiom, sorry.
-/
import Derived.Test.YthhgcjlgnafdcaaChecked
import GoSem.Claim
import GoSem.ClaimJoined
import GoSem.ClaimMapViews
import Derived.JoinedTies
import Derived.KernelRfl
namespace Go.Proofs.Ythhgcjlgnafdcaa
/- THE CELL 'sum', in the pinned program and in every row, IS THE sha256 OF THE DUMP (.gsa) THAT YthhgcjlgnafdcaaProg.lean LOADS. Nothing in Lean hashes anything: it is a label: what it is worth is what the hold of that sum in a sandbox is worth. -/
noncomputable def Try.pinned : Pinned := { name := "ythhgcjlgnafdcaa", sum := "a0b67dbf0b39fbac683f4b997b0bc4b58f5d54022e47c94e70262c3180d17670", checked := Try.checked }
namespace Rows
def none {H : Type} : Left H := { results := [], args := [] }

/-- 'clevislaw19.PriceMoves': WHATEVER THE INPUT: true; the input reads as it did. -/
def priceMovesSpec : ChangeSpec := { name := "priceMoves", fn := fun _ => fun
  | [d1, d2, d3] => { results := [.lit (.bool true)], args := [d1, d2, d3] }
  | _ => none }
def priceMovesRow : OpenClaim := { program := "ythhgcjlgnafdcaa", sum := "a0b67dbf0b39fbac683f4b997b0bc4b58f5d54022e47c94e70262c3180d17670", func := "clevis/clevislaw19.PriceMoves", spec := "priceMoves", inPlace := ["slices.overlaps[clevis/table.Row[string, int64]]", "math/bits.Add64"], unfollowed := true, recurses := true, named := ["math/bits.divideError", "math/bits.overflowError"], apart := false }
def PriceMovesSaid : Prop := priceMovesRow.holds Try.pinned (OpenSpec.ofChange priceMovesSpec)

/-- ITS FALSE NEIGHBOUR: 'it returns false'. Refute it at one input. -/
def priceMovesWrong : ChangeSpec := { name := "priceMoves", fn := fun _ => fun
  | [d1, d2, d3] => { results := [.lit (.bool false)], args := [d1, d2, d3] }
  | _ => none }
def PriceMovesWrongFalsely : Prop := priceMovesRow.holds Try.pinned (OpenSpec.ofChange priceMovesWrong)

/-- 'clevislaw19.PriceValues': WHATEVER THE INPUT: true; the input reads as it did. -/
def priceValuesSpec : ChangeSpec := { name := "priceValues", fn := fun _ => fun
  | [d1, d2, d3] => { results := [.lit (.bool true)], args := [d1, d2, d3] }
  | _ => none }
def priceValuesRow : OpenClaim := { program := "ythhgcjlgnafdcaa", sum := "a0b67dbf0b39fbac683f4b997b0bc4b58f5d54022e47c94e70262c3180d17670", func := "clevis/clevislaw19.PriceValues", spec := "priceValues", inPlace := ["slices.overlaps[clevis/table.Row[string, int64]]", "math/bits.Add64"], unfollowed := true, recurses := true, named := ["math/bits.divideError", "math/bits.overflowError"], apart := false }
def PriceValuesSaid : Prop := priceValuesRow.holds Try.pinned (OpenSpec.ofChange priceValuesSpec)

/-- ITS FALSE NEIGHBOUR: 'it returns false'. Refute it at one input. -/
def priceValuesWrong : ChangeSpec := { name := "priceValues", fn := fun _ => fun
  | [d1, d2, d3] => { results := [.lit (.bool false)], args := [d1, d2, d3] }
  | _ => none }
def PriceValuesWrongFalsely : Prop := priceValuesRow.holds Try.pinned (OpenSpec.ofChange priceValuesWrong)

/-- 'clevislaw19.PriceSets': WHATEVER THE INPUT: true; the input reads as it did. -/
def priceSetsSpec : ChangeSpec := { name := "priceSets", fn := fun _ => fun
  | [d1, d2] => { results := [.lit (.bool true)], args := [d1, d2] }
  | _ => none }
def priceSetsRow : OpenClaim := { program := "ythhgcjlgnafdcaa", sum := "a0b67dbf0b39fbac683f4b997b0bc4b58f5d54022e47c94e70262c3180d17670", func := "clevis/clevislaw19.PriceSets", spec := "priceSets", inPlace := ["slices.overlaps[clevis/table.Row[string, int64]]", "math/bits.Add64"], unfollowed := true, recurses := true, named := ["math/bits.divideError", "math/bits.overflowError"], apart := false }
def PriceSetsSaid : Prop := priceSetsRow.holds Try.pinned (OpenSpec.ofChange priceSetsSpec)

/-- ITS FALSE NEIGHBOUR: 'it returns false'. Refute it at one input. -/
def priceSetsWrong : ChangeSpec := { name := "priceSets", fn := fun _ => fun
  | [d1, d2] => { results := [.lit (.bool false)], args := [d1, d2] }
  | _ => none }
def PriceSetsWrongFalsely : Prop := priceSetsRow.holds Try.pinned (OpenSpec.ofChange priceSetsWrong)

/-- 'clevislaw19.PriceNil': WHATEVER THE INPUT: true; the input reads as it did. -/
def priceNilSpec : ChangeSpec := { name := "priceNil", fn := fun _ => fun
  | [d1, d2] => { results := [.lit (.bool true)], args := [d1, d2] }
  | _ => none }
def priceNilRow : OpenClaim := { program := "ythhgcjlgnafdcaa", sum := "a0b67dbf0b39fbac683f4b997b0bc4b58f5d54022e47c94e70262c3180d17670", func := "clevis/clevislaw19.PriceNil", spec := "priceNil", inPlace := ["math/bits.Add64", "slices.overlaps[clevis/table.Row[string, int64]]"], unfollowed := true, recurses := true, named := ["math/bits.divideError", "math/bits.overflowError"], apart := false }
def PriceNilSaid : Prop := priceNilRow.holds Try.pinned (OpenSpec.ofChange priceNilSpec)

/-- ITS FALSE NEIGHBOUR: 'it returns false'. Refute it at one input. -/
def priceNilWrong : ChangeSpec := { name := "priceNil", fn := fun _ => fun
  | [d1, d2] => { results := [.lit (.bool false)], args := [d1, d2] }
  | _ => none }
def PriceNilWrongFalsely : Prop := priceNilRow.holds Try.pinned (OpenSpec.ofChange priceNilWrong)

/-- 'clevislaw19.PriceSums': WHATEVER THE INPUT: true; the input reads as it did. -/
def priceSumsSpec : ChangeSpec := { name := "priceSums", fn := fun _ => fun
  | [d1, d2, d3] => { results := [.lit (.bool true)], args := [d1, d2, d3] }
  | _ => none }
def priceSumsRow : OpenClaim := { program := "ythhgcjlgnafdcaa", sum := "a0b67dbf0b39fbac683f4b997b0bc4b58f5d54022e47c94e70262c3180d17670", func := "clevis/clevislaw19.PriceSums", spec := "priceSums", inPlace := ["slices.overlaps[clevis/table.Row[string, int64]]", "math/bits.Add64"], unfollowed := true, recurses := true, named := ["math/bits.divideError", "math/bits.overflowError"], apart := false }
def PriceSumsSaid : Prop := priceSumsRow.holds Try.pinned (OpenSpec.ofChange priceSumsSpec)

/-- ITS FALSE NEIGHBOUR: 'it returns false'. Refute it at one input. -/
def priceSumsWrong : ChangeSpec := { name := "priceSums", fn := fun _ => fun
  | [d1, d2, d3] => { results := [.lit (.bool false)], args := [d1, d2, d3] }
  | _ => none }
def PriceSumsWrongFalsely : Prop := priceSumsRow.holds Try.pinned (OpenSpec.ofChange priceSumsWrong)

/-- 'clevislaw20.GridChecks': WHATEVER THE INPUT: true; the input reads as it did. -/
def gridChecksSpec : ChangeSpec := { name := "gridChecks", fn := fun _ => fun
  | [d1, d2] => { results := [.lit (.bool true)], args := [d1, d2] }
  | _ => none }
def gridChecksRow : OpenClaim := { program := "ythhgcjlgnafdcaa", sum := "a0b67dbf0b39fbac683f4b997b0bc4b58f5d54022e47c94e70262c3180d17670", func := "clevis/clevislaw20.GridChecks", spec := "gridChecks", inPlace := ["slices.overlaps[clevis/table.Row[string, int64]]", "math/bits.Add64"], unfollowed := true, recurses := true, named := ["math/bits.divideError", "math/bits.overflowError"], apart := false }
def GridChecksSaid : Prop := gridChecksRow.holds Try.pinned (OpenSpec.ofChange gridChecksSpec)

/-- ITS FALSE NEIGHBOUR: 'it returns false'. Refute it at one input. -/
def gridChecksWrong : ChangeSpec := { name := "gridChecks", fn := fun _ => fun
  | [d1, d2] => { results := [.lit (.bool false)], args := [d1, d2] }
  | _ => none }
def GridChecksWrongFalsely : Prop := gridChecksRow.holds Try.pinned (OpenSpec.ofChange gridChecksWrong)

/-- 'clevislaw20.GridLosses': WHATEVER THE INPUT: true; the input reads as it did. -/
def gridLossesSpec : ChangeSpec := { name := "gridLosses", fn := fun _ => fun
  | [d1, d2, d3] => { results := [.lit (.bool true)], args := [d1, d2, d3] }
  | _ => none }
def gridLossesRow : OpenClaim := { program := "ythhgcjlgnafdcaa", sum := "a0b67dbf0b39fbac683f4b997b0bc4b58f5d54022e47c94e70262c3180d17670", func := "clevis/clevislaw20.GridLosses", spec := "gridLosses", inPlace := ["slices.overlaps[clevis/table.Row[string, int64]]", "math/bits.Add64"], unfollowed := true, recurses := true, named := ["math/bits.divideError", "math/bits.overflowError"], apart := false }
def GridLossesSaid : Prop := gridLossesRow.holds Try.pinned (OpenSpec.ofChange gridLossesSpec)

/-- ITS FALSE NEIGHBOUR: 'it returns false'. Refute it at one input. -/
def gridLossesWrong : ChangeSpec := { name := "gridLosses", fn := fun _ => fun
  | [d1, d2, d3] => { results := [.lit (.bool false)], args := [d1, d2, d3] }
  | _ => none }
def GridLossesWrongFalsely : Prop := gridLossesRow.holds Try.pinned (OpenSpec.ofChange gridLossesWrong)

/-- 'clevislaw20.GridMargins': WHATEVER THE INPUT: true; the input reads as it did. -/
def gridMarginsSpec : ChangeSpec := { name := "gridMargins", fn := fun _ => fun
  | [d1, d2, d3, d4] => { results := [.lit (.bool true)], args := [d1, d2, d3, d4] }
  | _ => none }
def gridMarginsRow : OpenClaim := { program := "ythhgcjlgnafdcaa", sum := "a0b67dbf0b39fbac683f4b997b0bc4b58f5d54022e47c94e70262c3180d17670", func := "clevis/clevislaw20.GridMargins", spec := "gridMargins", inPlace := ["slices.overlaps[clevis/table.Row[string, int64]]", "math/bits.Add64"], unfollowed := true, recurses := true, named := ["math/bits.divideError", "math/bits.overflowError"], apart := false }
def GridMarginsSaid : Prop := gridMarginsRow.holds Try.pinned (OpenSpec.ofChange gridMarginsSpec)

/-- ITS FALSE NEIGHBOUR: 'it returns false'. Refute it at one input. -/
def gridMarginsWrong : ChangeSpec := { name := "gridMargins", fn := fun _ => fun
  | [d1, d2, d3, d4] => { results := [.lit (.bool false)], args := [d1, d2, d3, d4] }
  | _ => none }
def GridMarginsWrongFalsely : Prop := gridMarginsRow.holds Try.pinned (OpenSpec.ofChange gridMarginsWrong)

/-- 'clevislaw20.GridNil': WHATEVER THE INPUT: true; the input reads as it did. -/
def gridNilSpec : ChangeSpec := { name := "gridNil", fn := fun _ => fun
  | [d] => { results := [.lit (.bool true)], args := [d] }
  | _ => none }
def gridNilRow : OpenClaim := { program := "ythhgcjlgnafdcaa", sum := "a0b67dbf0b39fbac683f4b997b0bc4b58f5d54022e47c94e70262c3180d17670", func := "clevis/clevislaw20.GridNil", spec := "gridNil", inPlace := ["slices.overlaps[clevis/table.Row[string, int64]]", "math/bits.Add64"], unfollowed := true, recurses := true, named := ["math/bits.divideError", "math/bits.overflowError"], apart := false }
def GridNilSaid : Prop := gridNilRow.holds Try.pinned (OpenSpec.ofChange gridNilSpec)

/-- ITS FALSE NEIGHBOUR: 'it returns false'. Refute it at one input. -/
def gridNilWrong : ChangeSpec := { name := "gridNil", fn := fun _ => fun
  | [d] => { results := [.lit (.bool false)], args := [d] }
  | _ => none }
def GridNilWrongFalsely : Prop := gridNilRow.holds Try.pinned (OpenSpec.ofChange gridNilWrong)

/- THE SECOND FORM. 'bulk': how many values and letters a reading holds, each counted each time it is reached (what is shared counts as often as it is met; a slice's spare places count too). A statement '..UptoSaid' is the law's where the arguments, and the package variables that the reading takes, are together of bulk at most 1048576: NARROWER than '..Said'. Prove '..Said' where nothing that the law and all that it calls make is longer than what came in: it says more and counts as full. Else prove '..UptoSaid'. A law counts once. -/
mutual
def uptoBulk {H : Type} : DataW H → Nat
  | .lit (.string bytes) => bytes.length + 1
  | .lit _ => 1
  | .nil => 1
  | .ptr d => uptoBulk d + 1
  | .slice elems spare => uptoBulkAll elems + uptoBulkAll spare + 1
  | .agg parts => uptoBulkAll parts + 1
  | .iface _ d => uptoBulk d + 1
  | .map entries => uptoBulkEntries entries + 1
  | .held _ => 1
def uptoBulkAll {H : Type} : List (DataW H) → Nat
  | [] => 0
  | d :: r => uptoBulk d + uptoBulkAll r
def uptoBulkEntries {H : Type} : List (Lit × DataW H) → Nat
  | [] => 0
  | x :: r => uptoBulkEntry x + uptoBulkEntries r
def uptoBulkEntry {H : Type} : Lit × DataW H → Nat
  | (.string bytes, d) => bytes.length + uptoBulk d + 1
  | (_, d) => uptoBulk d + 1
 end
def uptoSmall : (H : Type) → List (DataW H) → Bool := fun _ ds => decide (uptoBulkAll ds ≤ 1048576)
def OpenSpec.upto (s : _root_.Go.ChangeSpec) : _root_.Go.OpenSpec := { _root_.Go.OpenSpec.ofChange s with cond := some uptoSmall }

/-- 'clevislaw19.PriceMoves', WHERE WHAT IT READS IS OF BULK AT MOST 1048576: true; the input reads as it did. -/
def priceMovesUptoRow : OpenClaim := { program := "ythhgcjlgnafdcaa", sum := "a0b67dbf0b39fbac683f4b997b0bc4b58f5d54022e47c94e70262c3180d17670", func := "clevis/clevislaw19.PriceMoves", spec := "priceMoves", inPlace := ["slices.overlaps[clevis/table.Row[string, int64]]", "math/bits.Add64"], unfollowed := true, recurses := true, named := ["math/bits.divideError", "math/bits.overflowError"], apart := false, narrowed := true }
def PriceMovesUptoSaid : Prop := priceMovesUptoRow.holds Try.pinned (OpenSpec.upto priceMovesSpec)

/-- 'clevislaw19.PriceValues', WHERE WHAT IT READS IS OF BULK AT MOST 1048576: true; the input reads as it did. -/
def priceValuesUptoRow : OpenClaim := { program := "ythhgcjlgnafdcaa", sum := "a0b67dbf0b39fbac683f4b997b0bc4b58f5d54022e47c94e70262c3180d17670", func := "clevis/clevislaw19.PriceValues", spec := "priceValues", inPlace := ["slices.overlaps[clevis/table.Row[string, int64]]", "math/bits.Add64"], unfollowed := true, recurses := true, named := ["math/bits.divideError", "math/bits.overflowError"], apart := false, narrowed := true }
def PriceValuesUptoSaid : Prop := priceValuesUptoRow.holds Try.pinned (OpenSpec.upto priceValuesSpec)

/-- 'clevislaw19.PriceSets', WHERE WHAT IT READS IS OF BULK AT MOST 1048576: true; the input reads as it did. -/
def priceSetsUptoRow : OpenClaim := { program := "ythhgcjlgnafdcaa", sum := "a0b67dbf0b39fbac683f4b997b0bc4b58f5d54022e47c94e70262c3180d17670", func := "clevis/clevislaw19.PriceSets", spec := "priceSets", inPlace := ["slices.overlaps[clevis/table.Row[string, int64]]", "math/bits.Add64"], unfollowed := true, recurses := true, named := ["math/bits.divideError", "math/bits.overflowError"], apart := false, narrowed := true }
def PriceSetsUptoSaid : Prop := priceSetsUptoRow.holds Try.pinned (OpenSpec.upto priceSetsSpec)

/-- 'clevislaw19.PriceNil', WHERE WHAT IT READS IS OF BULK AT MOST 1048576: true; the input reads as it did. -/
def priceNilUptoRow : OpenClaim := { program := "ythhgcjlgnafdcaa", sum := "a0b67dbf0b39fbac683f4b997b0bc4b58f5d54022e47c94e70262c3180d17670", func := "clevis/clevislaw19.PriceNil", spec := "priceNil", inPlace := ["math/bits.Add64", "slices.overlaps[clevis/table.Row[string, int64]]"], unfollowed := true, recurses := true, named := ["math/bits.divideError", "math/bits.overflowError"], apart := false, narrowed := true }
def PriceNilUptoSaid : Prop := priceNilUptoRow.holds Try.pinned (OpenSpec.upto priceNilSpec)

/-- 'clevislaw19.PriceSums', WHERE WHAT IT READS IS OF BULK AT MOST 1048576: true; the input reads as it did. -/
def priceSumsUptoRow : OpenClaim := { program := "ythhgcjlgnafdcaa", sum := "a0b67dbf0b39fbac683f4b997b0bc4b58f5d54022e47c94e70262c3180d17670", func := "clevis/clevislaw19.PriceSums", spec := "priceSums", inPlace := ["slices.overlaps[clevis/table.Row[string, int64]]", "math/bits.Add64"], unfollowed := true, recurses := true, named := ["math/bits.divideError", "math/bits.overflowError"], apart := false, narrowed := true }
def PriceSumsUptoSaid : Prop := priceSumsUptoRow.holds Try.pinned (OpenSpec.upto priceSumsSpec)

/-- 'clevislaw20.GridChecks', WHERE WHAT IT READS IS OF BULK AT MOST 1048576: true; the input reads as it did. -/
def gridChecksUptoRow : OpenClaim := { program := "ythhgcjlgnafdcaa", sum := "a0b67dbf0b39fbac683f4b997b0bc4b58f5d54022e47c94e70262c3180d17670", func := "clevis/clevislaw20.GridChecks", spec := "gridChecks", inPlace := ["slices.overlaps[clevis/table.Row[string, int64]]", "math/bits.Add64"], unfollowed := true, recurses := true, named := ["math/bits.divideError", "math/bits.overflowError"], apart := false, narrowed := true }
def GridChecksUptoSaid : Prop := gridChecksUptoRow.holds Try.pinned (OpenSpec.upto gridChecksSpec)

/-- 'clevislaw20.GridLosses', WHERE WHAT IT READS IS OF BULK AT MOST 1048576: true; the input reads as it did. -/
def gridLossesUptoRow : OpenClaim := { program := "ythhgcjlgnafdcaa", sum := "a0b67dbf0b39fbac683f4b997b0bc4b58f5d54022e47c94e70262c3180d17670", func := "clevis/clevislaw20.GridLosses", spec := "gridLosses", inPlace := ["slices.overlaps[clevis/table.Row[string, int64]]", "math/bits.Add64"], unfollowed := true, recurses := true, named := ["math/bits.divideError", "math/bits.overflowError"], apart := false, narrowed := true }
def GridLossesUptoSaid : Prop := gridLossesUptoRow.holds Try.pinned (OpenSpec.upto gridLossesSpec)

/-- 'clevislaw20.GridMargins', WHERE WHAT IT READS IS OF BULK AT MOST 1048576: true; the input reads as it did. -/
def gridMarginsUptoRow : OpenClaim := { program := "ythhgcjlgnafdcaa", sum := "a0b67dbf0b39fbac683f4b997b0bc4b58f5d54022e47c94e70262c3180d17670", func := "clevis/clevislaw20.GridMargins", spec := "gridMargins", inPlace := ["slices.overlaps[clevis/table.Row[string, int64]]", "math/bits.Add64"], unfollowed := true, recurses := true, named := ["math/bits.divideError", "math/bits.overflowError"], apart := false, narrowed := true }
def GridMarginsUptoSaid : Prop := gridMarginsUptoRow.holds Try.pinned (OpenSpec.upto gridMarginsSpec)

/-- 'clevislaw20.GridNil', WHERE WHAT IT READS IS OF BULK AT MOST 1048576: true; the input reads as it did. -/
def gridNilUptoRow : OpenClaim := { program := "ythhgcjlgnafdcaa", sum := "a0b67dbf0b39fbac683f4b997b0bc4b58f5d54022e47c94e70262c3180d17670", func := "clevis/clevislaw20.GridNil", spec := "gridNil", inPlace := ["slices.overlaps[clevis/table.Row[string, int64]]", "math/bits.Add64"], unfollowed := true, recurses := true, named := ["math/bits.divideError", "math/bits.overflowError"], apart := false, narrowed := true }
def GridNilUptoSaid : Prop := gridNilUptoRow.holds Try.pinned (OpenSpec.upto gridNilSpec)

end Rows
end Go.Proofs.Ythhgcjlgnafdcaa
