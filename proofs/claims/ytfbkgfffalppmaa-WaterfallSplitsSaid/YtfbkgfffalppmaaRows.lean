/-
  No cell of these rows narrows 'for every input' (looked for: loops, veiled, ifaces, maps, wideKeys, modest, calm, conditions, laid).
  DERIVED. THE GIVEN ROWS OF THIS SEAT. 6 by the template 'for every input the law returns true; each argument reads behind the call as it read before'; 0 by the template 'total and deterministic' (their statements: YtfbkgfffalppmaaTotals.lean).
  GIVEN WITH THE SEED: the statements are not yours to turn. If you find one false, say at which input.
  Laid BY PROGRAM, IN A SANDBOX (cutbox-rows.mjs): the forced cells as the released guide's own fill.sh prints them over the translation e236f4af14be249f… (all of the seat's roots in one cut). By AI agents, Wed Nov 11 2026. No macro, syntax, notation, axiom, sorry.
-/
import Derived.Test.YtfbkgfffalppmaaChecked
import GoSem.Claim
import GoSem.ClaimJoined
import GoSem.ClaimMapViews
import Derived.JoinedTies
import Derived.KernelRfl
namespace Go.Proofs.Ytfbkgfffalppmaa
/- THE CELL 'sum', in the pinned program and in every row, IS THE sha256 OF THE DUMP (.gsa) THAT YtfbkgfffalppmaaProg.lean LOADS. Nothing in Lean hashes anything: it is a label: what it is worth is what the hold of that sum in a sandbox is worth. -/
noncomputable def Try.pinned : Pinned := { name := "ytfbkgfffalppmaa", sum := "e236f4af14be249f12b9c436258fed5a8142abb665eea663d4f3cbf11d900296", checked := Try.checked }
namespace Rows
def none {H : Type} : Left H := { results := [], args := [] }

/-- 'clevislaw28.WaterfallSplits': WHATEVER THE INPUT: true; the input reads as it did. -/
def waterfallSplitsSpec : ChangeSpec := { name := "waterfallSplits", fn := fun _ => fun
  | [d1, d2] => { results := [.lit (.bool true)], args := [d1, d2] }
  | _ => none }
def waterfallSplitsRow : OpenClaim := { program := "ytfbkgfffalppmaa", sum := "e236f4af14be249f12b9c436258fed5a8142abb665eea663d4f3cbf11d900296", func := "clevis/clevislaw28.WaterfallSplits", spec := "waterfallSplits", inPlace := ["math/bits.Add64"], unfollowed := true, recurses := true, named := ["math/bits.divideError", "math/bits.overflowError"], apart := false }
def WaterfallSplitsSaid : Prop := waterfallSplitsRow.holds Try.pinned (OpenSpec.ofChange waterfallSplitsSpec)

/-- ITS FALSE NEIGHBOUR: 'it returns false'. Refute it at one input. -/
def waterfallSplitsWrong : ChangeSpec := { name := "waterfallSplits", fn := fun _ => fun
  | [d1, d2] => { results := [.lit (.bool false)], args := [d1, d2] }
  | _ => none }
def WaterfallSplitsWrongFalsely : Prop := waterfallSplitsRow.holds Try.pinned (OpenSpec.ofChange waterfallSplitsWrong)

/-- 'clevislaw28.WaterfallMore': WHATEVER THE INPUT: true; the input reads as it did. -/
def waterfallMoreSpec : ChangeSpec := { name := "waterfallMore", fn := fun _ => fun
  | [d1, d2, d3] => { results := [.lit (.bool true)], args := [d1, d2, d3] }
  | _ => none }
def waterfallMoreRow : OpenClaim := { program := "ytfbkgfffalppmaa", sum := "e236f4af14be249f12b9c436258fed5a8142abb665eea663d4f3cbf11d900296", func := "clevis/clevislaw28.WaterfallMore", spec := "waterfallMore", inPlace := ["math/bits.Add64"], unfollowed := true, recurses := true, named := ["math/bits.divideError", "math/bits.overflowError"], apart := false }
def WaterfallMoreSaid : Prop := waterfallMoreRow.holds Try.pinned (OpenSpec.ofChange waterfallMoreSpec)

/-- ITS FALSE NEIGHBOUR: 'it returns false'. Refute it at one input. -/
def waterfallMoreWrong : ChangeSpec := { name := "waterfallMore", fn := fun _ => fun
  | [d1, d2, d3] => { results := [.lit (.bool false)], args := [d1, d2, d3] }
  | _ => none }
def WaterfallMoreWrongFalsely : Prop := waterfallMoreRow.holds Try.pinned (OpenSpec.ofChange waterfallMoreWrong)

/-- 'clevislaw28.WaterfallChecks': WHATEVER THE INPUT: true; the input reads as it did. -/
def waterfallChecksSpec : ChangeSpec := { name := "waterfallChecks", fn := fun _ => fun
  | [d] => { results := [.lit (.bool true)], args := [d] }
  | _ => none }
def waterfallChecksRow : OpenClaim := { program := "ytfbkgfffalppmaa", sum := "e236f4af14be249f12b9c436258fed5a8142abb665eea663d4f3cbf11d900296", func := "clevis/clevislaw28.WaterfallChecks", spec := "waterfallChecks", inPlace := ["math/bits.Add64"], unfollowed := true, recurses := true, named := ["math/bits.divideError", "math/bits.overflowError"], apart := false }
def WaterfallChecksSaid : Prop := waterfallChecksRow.holds Try.pinned (OpenSpec.ofChange waterfallChecksSpec)

/-- ITS FALSE NEIGHBOUR: 'it returns false'. Refute it at one input. -/
def waterfallChecksWrong : ChangeSpec := { name := "waterfallChecks", fn := fun _ => fun
  | [d] => { results := [.lit (.bool false)], args := [d] }
  | _ => none }
def WaterfallChecksWrongFalsely : Prop := waterfallChecksRow.holds Try.pinned (OpenSpec.ofChange waterfallChecksWrong)

/-- 'clevislaw28.WaterfallRuns': WHATEVER THE INPUT: true; the input reads as it did. -/
def waterfallRunsSpec : ChangeSpec := { name := "waterfallRuns", fn := fun _ => fun
  | [d1, d2] => { results := [.lit (.bool true)], args := [d1, d2] }
  | _ => none }
def waterfallRunsRow : OpenClaim := { program := "ytfbkgfffalppmaa", sum := "e236f4af14be249f12b9c436258fed5a8142abb665eea663d4f3cbf11d900296", func := "clevis/clevislaw28.WaterfallRuns", spec := "waterfallRuns", inPlace := ["math/bits.Add64"], unfollowed := true, recurses := true, named := ["math/bits.divideError", "math/bits.overflowError"], apart := false }
def WaterfallRunsSaid : Prop := waterfallRunsRow.holds Try.pinned (OpenSpec.ofChange waterfallRunsSpec)

/-- ITS FALSE NEIGHBOUR: 'it returns false'. Refute it at one input. -/
def waterfallRunsWrong : ChangeSpec := { name := "waterfallRuns", fn := fun _ => fun
  | [d1, d2] => { results := [.lit (.bool false)], args := [d1, d2] }
  | _ => none }
def WaterfallRunsWrongFalsely : Prop := waterfallRunsRow.holds Try.pinned (OpenSpec.ofChange waterfallRunsWrong)

/-- 'clevislaw28.WaterfallOwed': WHATEVER THE INPUT: true; the input reads as it did. -/
def waterfallOwedSpec : ChangeSpec := { name := "waterfallOwed", fn := fun _ => fun
  | [d] => { results := [.lit (.bool true)], args := [d] }
  | _ => none }
def waterfallOwedRow : OpenClaim := { program := "ytfbkgfffalppmaa", sum := "e236f4af14be249f12b9c436258fed5a8142abb665eea663d4f3cbf11d900296", func := "clevis/clevislaw28.WaterfallOwed", spec := "waterfallOwed", inPlace := ["math/bits.Add64"], unfollowed := true, recurses := true, named := ["math/bits.divideError", "math/bits.overflowError"], apart := false }
def WaterfallOwedSaid : Prop := waterfallOwedRow.holds Try.pinned (OpenSpec.ofChange waterfallOwedSpec)

/-- ITS FALSE NEIGHBOUR: 'it returns false'. Refute it at one input. -/
def waterfallOwedWrong : ChangeSpec := { name := "waterfallOwed", fn := fun _ => fun
  | [d] => { results := [.lit (.bool false)], args := [d] }
  | _ => none }
def WaterfallOwedWrongFalsely : Prop := waterfallOwedRow.holds Try.pinned (OpenSpec.ofChange waterfallOwedWrong)

/-- 'clevislaw28.WaterfallLefts': WHATEVER THE INPUT: true; the input reads as it did. -/
def waterfallLeftsSpec : ChangeSpec := { name := "waterfallLefts", fn := fun _ => fun
  | [d1, d2, d3, d4] => { results := [.lit (.bool true)], args := [d1, d2, d3, d4] }
  | _ => none }
def waterfallLeftsRow : OpenClaim := { program := "ytfbkgfffalppmaa", sum := "e236f4af14be249f12b9c436258fed5a8142abb665eea663d4f3cbf11d900296", func := "clevis/clevislaw28.WaterfallLefts", spec := "waterfallLefts", inPlace := ["math/bits.Add64"], unfollowed := true, recurses := true, named := ["math/bits.divideError", "math/bits.overflowError"], apart := false }
def WaterfallLeftsSaid : Prop := waterfallLeftsRow.holds Try.pinned (OpenSpec.ofChange waterfallLeftsSpec)

/-- ITS FALSE NEIGHBOUR: 'it returns false'. Refute it at one input. -/
def waterfallLeftsWrong : ChangeSpec := { name := "waterfallLefts", fn := fun _ => fun
  | [d1, d2, d3, d4] => { results := [.lit (.bool false)], args := [d1, d2, d3, d4] }
  | _ => none }
def WaterfallLeftsWrongFalsely : Prop := waterfallLeftsRow.holds Try.pinned (OpenSpec.ofChange waterfallLeftsWrong)

/- THE SECOND FORM. 'bulk': how many values and letters a reading holds, each counted each time it is reached (what is shared counts as often as it is met; a slice's spare places count too). A statement '..UptoSaid' is the law's where the arguments, and the package variables that the reading takes, are together of bulk at most 1048576: NARROWER than '..Said'. Prove '..Said' where nothing that the law and all that it calls make is longer than what came in: it says more and counts as full. Else prove '..UptoSaid'. A law counts once. -/
mutual
def uptoBulk {H : Type} : DataW H → Nat
  | .lit (.string bytes) => bytes.length + 1
  | .lit _ => 1
  | .nil => 1
  | .ptr d => uptoBulk d + 1
  | .slice elems spare => uptoBulkAll elems + uptoBulkAll spare + 1
  | .agg parts => uptoBulkAll parts + 1
  | .iface _ d => uptoBulk d + 1
  | .map entries => uptoBulkEntries entries + 1
  | .held _ => 1
def uptoBulkAll {H : Type} : List (DataW H) → Nat
  | [] => 0
  | d :: r => uptoBulk d + uptoBulkAll r
def uptoBulkEntries {H : Type} : List (Lit × DataW H) → Nat
  | [] => 0
  | x :: r => uptoBulkEntry x + uptoBulkEntries r
def uptoBulkEntry {H : Type} : Lit × DataW H → Nat
  | (.string bytes, d) => bytes.length + uptoBulk d + 1
  | (_, d) => uptoBulk d + 1
 end
def uptoSmall : (H : Type) → List (DataW H) → Bool := fun _ ds => decide (uptoBulkAll ds ≤ 1048576)
def OpenSpec.upto (s : _root_.Go.ChangeSpec) : _root_.Go.OpenSpec := { _root_.Go.OpenSpec.ofChange s with cond := some uptoSmall }

/-- 'clevislaw28.WaterfallSplits', WHERE WHAT IT READS IS OF BULK AT MOST 1048576: true; the input reads as it did. -/
def waterfallSplitsUptoRow : OpenClaim := { program := "ytfbkgfffalppmaa", sum := "e236f4af14be249f12b9c436258fed5a8142abb665eea663d4f3cbf11d900296", func := "clevis/clevislaw28.WaterfallSplits", spec := "waterfallSplits", inPlace := ["math/bits.Add64"], unfollowed := true, recurses := true, named := ["math/bits.divideError", "math/bits.overflowError"], apart := false, narrowed := true }
def WaterfallSplitsUptoSaid : Prop := waterfallSplitsUptoRow.holds Try.pinned (OpenSpec.upto waterfallSplitsSpec)

/-- 'clevislaw28.WaterfallMore', WHERE WHAT IT READS IS OF BULK AT MOST 1048576: true; the input reads as it did. -/
def waterfallMoreUptoRow : OpenClaim := { program := "ytfbkgfffalppmaa", sum := "e236f4af14be249f12b9c436258fed5a8142abb665eea663d4f3cbf11d900296", func := "clevis/clevislaw28.WaterfallMore", spec := "waterfallMore", inPlace := ["math/bits.Add64"], unfollowed := true, recurses := true, named := ["math/bits.divideError", "math/bits.overflowError"], apart := false, narrowed := true }
def WaterfallMoreUptoSaid : Prop := waterfallMoreUptoRow.holds Try.pinned (OpenSpec.upto waterfallMoreSpec)

/-- 'clevislaw28.WaterfallChecks', WHERE WHAT IT READS IS OF BULK AT MOST 1048576: true; the input reads as it did. -/
def waterfallChecksUptoRow : OpenClaim := { program := "ytfbkgfffalppmaa", sum := "e236f4af14be249f12b9c436258fed5a8142abb665eea663d4f3cbf11d900296", func := "clevis/clevislaw28.WaterfallChecks", spec := "waterfallChecks", inPlace := ["math/bits.Add64"], unfollowed := true, recurses := true, named := ["math/bits.divideError", "math/bits.overflowError"], apart := false, narrowed := true }
def WaterfallChecksUptoSaid : Prop := waterfallChecksUptoRow.holds Try.pinned (OpenSpec.upto waterfallChecksSpec)

/-- 'clevislaw28.WaterfallRuns', WHERE WHAT IT READS IS OF BULK AT MOST 1048576: true; the input reads as it did. -/
def waterfallRunsUptoRow : OpenClaim := { program := "ytfbkgfffalppmaa", sum := "e236f4af14be249f12b9c436258fed5a8142abb665eea663d4f3cbf11d900296", func := "clevis/clevislaw28.WaterfallRuns", spec := "waterfallRuns", inPlace := ["math/bits.Add64"], unfollowed := true, recurses := true, named := ["math/bits.divideError", "math/bits.overflowError"], apart := false, narrowed := true }
def WaterfallRunsUptoSaid : Prop := waterfallRunsUptoRow.holds Try.pinned (OpenSpec.upto waterfallRunsSpec)

/-- 'clevislaw28.WaterfallOwed', WHERE WHAT IT READS IS OF BULK AT MOST 1048576: true; the input reads as it did. -/
def waterfallOwedUptoRow : OpenClaim := { program := "ytfbkgfffalppmaa", sum := "e236f4af14be249f12b9c436258fed5a8142abb665eea663d4f3cbf11d900296", func := "clevis/clevislaw28.WaterfallOwed", spec := "waterfallOwed", inPlace := ["math/bits.Add64"], unfollowed := true, recurses := true, named := ["math/bits.divideError", "math/bits.overflowError"], apart := false, narrowed := true }
def WaterfallOwedUptoSaid : Prop := waterfallOwedUptoRow.holds Try.pinned (OpenSpec.upto waterfallOwedSpec)

/-- 'clevislaw28.WaterfallLefts', WHERE WHAT IT READS IS OF BULK AT MOST 1048576: true; the input reads as it did. -/
def waterfallLeftsUptoRow : OpenClaim := { program := "ytfbkgfffalppmaa", sum := "e236f4af14be249f12b9c436258fed5a8142abb665eea663d4f3cbf11d900296", func := "clevis/clevislaw28.WaterfallLefts", spec := "waterfallLefts", inPlace := ["math/bits.Add64"], unfollowed := true, recurses := true, named := ["math/bits.divideError", "math/bits.overflowError"], apart := false, narrowed := true }
def WaterfallLeftsUptoSaid : Prop := waterfallLeftsUptoRow.holds Try.pinned (OpenSpec.upto waterfallLeftsSpec)

end Rows
end Go.Proofs.Ytfbkgfffalppmaa
