/-
  No cell of these rows narrows 'for every input' (looked for: loops, veiled, ifaces, maps, wideKeys, modest, calm, conditions, laid).
  DERIVED. THE GIVEN ROWS OF THIS SEAT. 5 by the template 'for every input the law returns true; each argument reads behind the call as it read before'; 0 by the template 'total and deterministic' (their statements: YtjbcigiffihjaaaTotals.lean).
  GIVEN WITH THE SEED: the statements are not yours to turn. If you find one false, say at which input.
  Laid BY PROGRAM, IN A SANDBOX (cutbox-rows.mjs): the forced cells as the released guide's own fill.sh prints them over the translation 8c5c9a1c5454ed94… (all of the seat's roots in one cut). By AI agents, Wed Nov 11 2026. No macro, syntax, notation, axiom, sorry.
-/
import Derived.Test.YtjbcigiffihjaaaChecked
import GoSem.Claim
import GoSem.ClaimJoined
import GoSem.ClaimMapViews
import Derived.JoinedTies
import Derived.KernelRfl
namespace Go.Proofs.Ytjbcigiffihjaaa
/- THE CELL 'sum', in the pinned program and in every row, IS THE sha256 OF THE DUMP (.gsa) THAT YtjbcigiffihjaaaProg.lean LOADS. Nothing in Lean hashes anything: it is a label: what it is worth is what the hold of that sum in a sandbox is worth. -/
noncomputable def Try.pinned : Pinned := { name := "ytjbcigiffihjaaa", sum := "8c5c9a1c5454ed9460d52e6c9868d1d84f1982b03040024d303eaa11a985ee88", checked := Try.checked }
namespace Rows
def none {H : Type} : Left H := { results := [], args := [] }

/-- 'clevislaw01.FixedDivides': WHATEVER THE INPUT: true; the input reads as it did. -/
def fixedDividesSpec : ChangeSpec := { name := "fixedDivides", fn := fun _ => fun
  | [d1, d2, d3] => { results := [.lit (.bool true)], args := [d1, d2, d3] }
  | _ => none }
def fixedDividesRow : OpenClaim := { program := "ytjbcigiffihjaaa", sum := "8c5c9a1c5454ed9460d52e6c9868d1d84f1982b03040024d303eaa11a985ee88", func := "clevis/clevislaw01.FixedDivides", spec := "fixedDivides", inPlace := ["math/bits.Add64"], named := ["math/bits.divideError", "math/bits.overflowError"], apart := false }
def FixedDividesSaid : Prop := fixedDividesRow.holds Try.pinned (OpenSpec.ofChange fixedDividesSpec)

/-- ITS FALSE NEIGHBOUR: 'it returns false'. Refute it at one input. -/
def fixedDividesWrong : ChangeSpec := { name := "fixedDivides", fn := fun _ => fun
  | [d1, d2, d3] => { results := [.lit (.bool false)], args := [d1, d2, d3] }
  | _ => none }
def FixedDividesWrongFalsely : Prop := fixedDividesRow.holds Try.pinned (OpenSpec.ofChange fixedDividesWrong)

/-- 'clevislaw01.FixedTexts': WHATEVER THE INPUT: true; the input reads as it did. -/
def fixedTextsSpec : ChangeSpec := { name := "fixedTexts", fn := fun _ => fun
  | [d1, d2] => { results := [.lit (.bool true)], args := [d1, d2] }
  | _ => none }
def fixedTextsRow : OpenClaim := { program := "ytjbcigiffihjaaa", sum := "8c5c9a1c5454ed9460d52e6c9868d1d84f1982b03040024d303eaa11a985ee88", func := "clevis/clevislaw01.FixedTexts", spec := "fixedTexts", inPlace := ["math/bits.Add64"], named := ["math/bits.divideError", "math/bits.overflowError"], apart := false }
def FixedTextsSaid : Prop := fixedTextsRow.holds Try.pinned (OpenSpec.ofChange fixedTextsSpec)

/-- ITS FALSE NEIGHBOUR: 'it returns false'. Refute it at one input. -/
def fixedTextsWrong : ChangeSpec := { name := "fixedTexts", fn := fun _ => fun
  | [d1, d2] => { results := [.lit (.bool false)], args := [d1, d2] }
  | _ => none }
def FixedTextsWrongFalsely : Prop := fixedTextsRow.holds Try.pinned (OpenSpec.ofChange fixedTextsWrong)

/-- 'clevislaw01.FixedWide': WHATEVER THE INPUT: true; the input reads as it did. -/
def fixedWideSpec : ChangeSpec := { name := "fixedWide", fn := fun _ => fun
  | [d1, d2, d3] => { results := [.lit (.bool true)], args := [d1, d2, d3] }
  | _ => none }
def fixedWideRow : OpenClaim := { program := "ytjbcigiffihjaaa", sum := "8c5c9a1c5454ed9460d52e6c9868d1d84f1982b03040024d303eaa11a985ee88", func := "clevis/clevislaw01.FixedWide", spec := "fixedWide", inPlace := ["math/bits.Add64"], named := ["math/bits.divideError", "math/bits.overflowError"], apart := false }
def FixedWideSaid : Prop := fixedWideRow.holds Try.pinned (OpenSpec.ofChange fixedWideSpec)

/-- ITS FALSE NEIGHBOUR: 'it returns false'. Refute it at one input. -/
def fixedWideWrong : ChangeSpec := { name := "fixedWide", fn := fun _ => fun
  | [d1, d2, d3] => { results := [.lit (.bool false)], args := [d1, d2, d3] }
  | _ => none }
def FixedWideWrongFalsely : Prop := fixedWideRow.holds Try.pinned (OpenSpec.ofChange fixedWideWrong)

/-- 'clevislaw01.FixedOrders': WHATEVER THE INPUT: true; the input reads as it did. -/
def fixedOrdersSpec : ChangeSpec := { name := "fixedOrders", fn := fun _ => fun
  | [d1, d2, d3, d4] => { results := [.lit (.bool true)], args := [d1, d2, d3, d4] }
  | _ => none }
def fixedOrdersRow : OpenClaim := { program := "ytjbcigiffihjaaa", sum := "8c5c9a1c5454ed9460d52e6c9868d1d84f1982b03040024d303eaa11a985ee88", func := "clevis/clevislaw01.FixedOrders", spec := "fixedOrders", inPlace := ["math/bits.Add64"], named := ["math/bits.divideError", "math/bits.overflowError"], apart := false }
def FixedOrdersSaid : Prop := fixedOrdersRow.holds Try.pinned (OpenSpec.ofChange fixedOrdersSpec)

/-- ITS FALSE NEIGHBOUR: 'it returns false'. Refute it at one input. -/
def fixedOrdersWrong : ChangeSpec := { name := "fixedOrders", fn := fun _ => fun
  | [d1, d2, d3, d4] => { results := [.lit (.bool false)], args := [d1, d2, d3, d4] }
  | _ => none }
def FixedOrdersWrongFalsely : Prop := fixedOrdersRow.holds Try.pinned (OpenSpec.ofChange fixedOrdersWrong)

/-- 'clevislaw01.FixedNarrow': WHATEVER THE INPUT: true; the input reads as it did. -/
def fixedNarrowSpec : ChangeSpec := { name := "fixedNarrow", fn := fun _ => fun
  | [d1, d2, d3] => { results := [.lit (.bool true)], args := [d1, d2, d3] }
  | _ => none }
def fixedNarrowRow : OpenClaim := { program := "ytjbcigiffihjaaa", sum := "8c5c9a1c5454ed9460d52e6c9868d1d84f1982b03040024d303eaa11a985ee88", func := "clevis/clevislaw01.FixedNarrow", spec := "fixedNarrow", inPlace := ["math/bits.Add64"], named := ["math/bits.divideError", "math/bits.overflowError"], apart := false }
def FixedNarrowSaid : Prop := fixedNarrowRow.holds Try.pinned (OpenSpec.ofChange fixedNarrowSpec)

/-- ITS FALSE NEIGHBOUR: 'it returns false'. Refute it at one input. -/
def fixedNarrowWrong : ChangeSpec := { name := "fixedNarrow", fn := fun _ => fun
  | [d1, d2, d3] => { results := [.lit (.bool false)], args := [d1, d2, d3] }
  | _ => none }
def FixedNarrowWrongFalsely : Prop := fixedNarrowRow.holds Try.pinned (OpenSpec.ofChange fixedNarrowWrong)

/- THE SECOND FORM. 'bulk': how many values and letters a reading holds, each counted each time it is reached (what is shared counts as often as it is met; a slice's spare places count too). A statement '..UptoSaid' is the law's where the arguments, and the package variables that the reading takes, are together of bulk at most 1048576: NARROWER than '..Said'. Prove '..Said' where nothing that the law and all that it calls make is longer than what came in: it says more and counts as full. Else prove '..UptoSaid'. A law counts once. -/
mutual
def uptoBulk {H : Type} : DataW H → Nat
  | .lit (.string bytes) => bytes.length + 1
  | .lit _ => 1
  | .nil => 1
  | .ptr d => uptoBulk d + 1
  | .slice elems spare => uptoBulkAll elems + uptoBulkAll spare + 1
  | .agg parts => uptoBulkAll parts + 1
  | .iface _ d => uptoBulk d + 1
  | .map entries => uptoBulkEntries entries + 1
  | .held _ => 1
def uptoBulkAll {H : Type} : List (DataW H) → Nat
  | [] => 0
  | d :: r => uptoBulk d + uptoBulkAll r
def uptoBulkEntries {H : Type} : List (Lit × DataW H) → Nat
  | [] => 0
  | x :: r => uptoBulkEntry x + uptoBulkEntries r
def uptoBulkEntry {H : Type} : Lit × DataW H → Nat
  | (.string bytes, d) => bytes.length + uptoBulk d + 1
  | (_, d) => uptoBulk d + 1
 end
def uptoSmall : (H : Type) → List (DataW H) → Bool := fun _ ds => decide (uptoBulkAll ds ≤ 1048576)
def OpenSpec.upto (s : _root_.Go.ChangeSpec) : _root_.Go.OpenSpec := { _root_.Go.OpenSpec.ofChange s with cond := some uptoSmall }

/-- 'clevislaw01.FixedDivides', WHERE WHAT IT READS IS OF BULK AT MOST 1048576: true; the input reads as it did. -/
def fixedDividesUptoRow : OpenClaim := { program := "ytjbcigiffihjaaa", sum := "8c5c9a1c5454ed9460d52e6c9868d1d84f1982b03040024d303eaa11a985ee88", func := "clevis/clevislaw01.FixedDivides", spec := "fixedDivides", inPlace := ["math/bits.Add64"], named := ["math/bits.divideError", "math/bits.overflowError"], apart := false, narrowed := true }
def FixedDividesUptoSaid : Prop := fixedDividesUptoRow.holds Try.pinned (OpenSpec.upto fixedDividesSpec)

/-- 'clevislaw01.FixedTexts', WHERE WHAT IT READS IS OF BULK AT MOST 1048576: true; the input reads as it did. -/
def fixedTextsUptoRow : OpenClaim := { program := "ytjbcigiffihjaaa", sum := "8c5c9a1c5454ed9460d52e6c9868d1d84f1982b03040024d303eaa11a985ee88", func := "clevis/clevislaw01.FixedTexts", spec := "fixedTexts", inPlace := ["math/bits.Add64"], named := ["math/bits.divideError", "math/bits.overflowError"], apart := false, narrowed := true }
def FixedTextsUptoSaid : Prop := fixedTextsUptoRow.holds Try.pinned (OpenSpec.upto fixedTextsSpec)

/-- 'clevislaw01.FixedWide', WHERE WHAT IT READS IS OF BULK AT MOST 1048576: true; the input reads as it did. -/
def fixedWideUptoRow : OpenClaim := { program := "ytjbcigiffihjaaa", sum := "8c5c9a1c5454ed9460d52e6c9868d1d84f1982b03040024d303eaa11a985ee88", func := "clevis/clevislaw01.FixedWide", spec := "fixedWide", inPlace := ["math/bits.Add64"], named := ["math/bits.divideError", "math/bits.overflowError"], apart := false, narrowed := true }
def FixedWideUptoSaid : Prop := fixedWideUptoRow.holds Try.pinned (OpenSpec.upto fixedWideSpec)

/-- 'clevislaw01.FixedOrders', WHERE WHAT IT READS IS OF BULK AT MOST 1048576: true; the input reads as it did. -/
def fixedOrdersUptoRow : OpenClaim := { program := "ytjbcigiffihjaaa", sum := "8c5c9a1c5454ed9460d52e6c9868d1d84f1982b03040024d303eaa11a985ee88", func := "clevis/clevislaw01.FixedOrders", spec := "fixedOrders", inPlace := ["math/bits.Add64"], named := ["math/bits.divideError", "math/bits.overflowError"], apart := false, narrowed := true }
def FixedOrdersUptoSaid : Prop := fixedOrdersUptoRow.holds Try.pinned (OpenSpec.upto fixedOrdersSpec)

/-- 'clevislaw01.FixedNarrow', WHERE WHAT IT READS IS OF BULK AT MOST 1048576: true; the input reads as it did. -/
def fixedNarrowUptoRow : OpenClaim := { program := "ytjbcigiffihjaaa", sum := "8c5c9a1c5454ed9460d52e6c9868d1d84f1982b03040024d303eaa11a985ee88", func := "clevis/clevislaw01.FixedNarrow", spec := "fixedNarrow", inPlace := ["math/bits.Add64"], named := ["math/bits.divideError", "math/bits.overflowError"], apart := false, narrowed := true }
def FixedNarrowUptoSaid : Prop := fixedNarrowUptoRow.holds Try.pinned (OpenSpec.upto fixedNarrowSpec)

end Rows
end Go.Proofs.Ytjbcigiffihjaaa
