/-
  No cell of these rows narrows 'for every input' (looked for: loops, veiled, ifaces, maps, wideKeys, modest, calm, conditions, laid).
  DERIVED. THE GIVEN ROWS OF THIS SEAT. 5 by the template 'for every input the law returns true; each argument reads behind the call as it read before'; 0 by the template 'total and deterministic' (their statements: YtcbpmmcpidfllaaTotals.lean).
  GIVEN WITH THE SEED: the statements are not yours to turn. If you find one false, say at which input.
  Laid BY PROGRAM, IN A SANDBOX (cutbox-rows.mjs): the forced cells as the released guide's own fill.sh prints them over the translation a3186daa39d42e95… (all of the seat's roots in one cut). By AI agents, Wed Nov 11 2026. No macro, syntax, notation, axiom, sorry.
-/
import Derived.Test.YtcbpmmcpidfllaaChecked
import GoSem.Claim
import GoSem.ClaimJoined
import GoSem.ClaimMapViews
import Derived.JoinedTies
import Derived.KernelRfl
namespace Go.Proofs.Ytcbpmmcpidfllaa
/- THE CELL 'sum', in the pinned program and in every row, IS THE sha256 OF THE DUMP (.gsa) THAT YtcbpmmcpidfllaaProg.lean LOADS. Nothing in Lean hashes anything: it is a label: what it is worth is what the hold of that sum in a sandbox is worth. -/
noncomputable def Try.pinned : Pinned := { name := "ytcbpmmcpidfllaa", sum := "a3186daa39d42e9560e7b17be93c0f1aa663f2e8c01ceb08eebe23aadd7bb93e", checked := Try.checked }
namespace Rows
def none {H : Type} : Left H := { results := [], args := [] }

/-- 'clevislaw08.RosterNews': WHATEVER THE INPUT: true; the input reads as it did. -/
def rosterNewsSpec : ChangeSpec := { name := "rosterNews", fn := fun _ => fun
  | [d] => { results := [.lit (.bool true)], args := [d] }
  | _ => none }
def rosterNewsRow : OpenClaim := { program := "ytcbpmmcpidfllaa", sum := "a3186daa39d42e9560e7b17be93c0f1aa663f2e8c01ceb08eebe23aadd7bb93e", func := "clevis/clevislaw08.RosterNews", spec := "rosterNews", inPlace := ["slices.overlaps[clevis/table.Row[string, int]]", "slices.overlaps[clevis/table.Row[string, bool]]"], unfollowed := true, recurses := true, apart := false }
def RosterNewsSaid : Prop := rosterNewsRow.holds Try.pinned (OpenSpec.ofChange rosterNewsSpec)

/-- ITS FALSE NEIGHBOUR: 'it returns false'. Refute it at one input. -/
def rosterNewsWrong : ChangeSpec := { name := "rosterNews", fn := fun _ => fun
  | [d] => { results := [.lit (.bool false)], args := [d] }
  | _ => none }
def RosterNewsWrongFalsely : Prop := rosterNewsRow.holds Try.pinned (OpenSpec.ofChange rosterNewsWrong)

/-- 'clevislaw08.RosterHomes': WHATEVER THE INPUT: true; the input reads as it did. -/
def rosterHomesSpec : ChangeSpec := { name := "rosterHomes", fn := fun _ => fun
  | [d] => { results := [.lit (.bool true)], args := [d] }
  | _ => none }
def rosterHomesRow : OpenClaim := { program := "ytcbpmmcpidfllaa", sum := "a3186daa39d42e9560e7b17be93c0f1aa663f2e8c01ceb08eebe23aadd7bb93e", func := "clevis/clevislaw08.RosterHomes", spec := "rosterHomes", inPlace := ["slices.overlaps[clevis/table.Row[string, int]]", "slices.overlaps[clevis/table.Row[string, bool]]"], unfollowed := true, recurses := true, apart := false }
def RosterHomesSaid : Prop := rosterHomesRow.holds Try.pinned (OpenSpec.ofChange rosterHomesSpec)

/-- ITS FALSE NEIGHBOUR: 'it returns false'. Refute it at one input. -/
def rosterHomesWrong : ChangeSpec := { name := "rosterHomes", fn := fun _ => fun
  | [d] => { results := [.lit (.bool false)], args := [d] }
  | _ => none }
def RosterHomesWrongFalsely : Prop := rosterHomesRow.holds Try.pinned (OpenSpec.ofChange rosterHomesWrong)

/-- 'clevislaw08.RosterTells': WHATEVER THE INPUT: true; the input reads as it did. -/
def rosterTellsSpec : ChangeSpec := { name := "rosterTells", fn := fun _ => fun
  | [d1, d2, d3, d4] => { results := [.lit (.bool true)], args := [d1, d2, d3, d4] }
  | _ => none }
def rosterTellsRow : OpenClaim := { program := "ytcbpmmcpidfllaa", sum := "a3186daa39d42e9560e7b17be93c0f1aa663f2e8c01ceb08eebe23aadd7bb93e", func := "clevis/clevislaw08.RosterTells", spec := "rosterTells", inPlace := ["slices.overlaps[clevis/table.Row[string, int]]", "slices.overlaps[clevis/table.Row[string, bool]]"], unfollowed := true, recurses := true, apart := false }
def RosterTellsSaid : Prop := rosterTellsRow.holds Try.pinned (OpenSpec.ofChange rosterTellsSpec)

/-- ITS FALSE NEIGHBOUR: 'it returns false'. Refute it at one input. -/
def rosterTellsWrong : ChangeSpec := { name := "rosterTells", fn := fun _ => fun
  | [d1, d2, d3, d4] => { results := [.lit (.bool false)], args := [d1, d2, d3, d4] }
  | _ => none }
def RosterTellsWrongFalsely : Prop := rosterTellsRow.holds Try.pinned (OpenSpec.ofChange rosterTellsWrong)

/-- 'clevislaw08.RosterRoutes': WHATEVER THE INPUT: true; the input reads as it did. -/
def rosterRoutesSpec : ChangeSpec := { name := "rosterRoutes", fn := fun _ => fun
  | [d1, d2] => { results := [.lit (.bool true)], args := [d1, d2] }
  | _ => none }
def rosterRoutesRow : OpenClaim := { program := "ytcbpmmcpidfllaa", sum := "a3186daa39d42e9560e7b17be93c0f1aa663f2e8c01ceb08eebe23aadd7bb93e", func := "clevis/clevislaw08.RosterRoutes", spec := "rosterRoutes", inPlace := ["slices.overlaps[clevis/table.Row[string, int]]", "slices.overlaps[clevis/table.Row[string, bool]]"], unfollowed := true, recurses := true, apart := false }
def RosterRoutesSaid : Prop := rosterRoutesRow.holds Try.pinned (OpenSpec.ofChange rosterRoutesSpec)

/-- ITS FALSE NEIGHBOUR: 'it returns false'. Refute it at one input. -/
def rosterRoutesWrong : ChangeSpec := { name := "rosterRoutes", fn := fun _ => fun
  | [d1, d2] => { results := [.lit (.bool false)], args := [d1, d2] }
  | _ => none }
def RosterRoutesWrongFalsely : Prop := rosterRoutesRow.holds Try.pinned (OpenSpec.ofChange rosterRoutesWrong)

/-- 'clevislaw08.RosterNil': WHATEVER THE INPUT: true; the input reads as it did. -/
def rosterNilSpec : ChangeSpec := { name := "rosterNil", fn := fun _ => fun
  | [d1, d2, d3] => { results := [.lit (.bool true)], args := [d1, d2, d3] }
  | _ => none }
def rosterNilRow : OpenClaim := { program := "ytcbpmmcpidfllaa", sum := "a3186daa39d42e9560e7b17be93c0f1aa663f2e8c01ceb08eebe23aadd7bb93e", func := "clevis/clevislaw08.RosterNil", spec := "rosterNil", inPlace := ["slices.overlaps[clevis/table.Row[string, int]]", "slices.overlaps[clevis/table.Row[string, bool]]"], unfollowed := true, recurses := true, apart := false }
def RosterNilSaid : Prop := rosterNilRow.holds Try.pinned (OpenSpec.ofChange rosterNilSpec)

/-- ITS FALSE NEIGHBOUR: 'it returns false'. Refute it at one input. -/
def rosterNilWrong : ChangeSpec := { name := "rosterNil", fn := fun _ => fun
  | [d1, d2, d3] => { results := [.lit (.bool false)], args := [d1, d2, d3] }
  | _ => none }
def RosterNilWrongFalsely : Prop := rosterNilRow.holds Try.pinned (OpenSpec.ofChange rosterNilWrong)

/- THE SECOND FORM. 'bulk': how many values and letters a reading holds, each counted each time it is reached (what is shared counts as often as it is met; a slice's spare places count too). A statement '..UptoSaid' is the law's where the arguments, and the package variables that the reading takes, are together of bulk at most 1048576: NARROWER than '..Said'. Prove '..Said' where nothing that the law and all that it calls make is longer than what came in: it says more and counts as full. Else prove '..UptoSaid'. A law counts once. -/
mutual
def uptoBulk {H : Type} : DataW H → Nat
  | .lit (.string bytes) => bytes.length + 1
  | .lit _ => 1
  | .nil => 1
  | .ptr d => uptoBulk d + 1
  | .slice elems spare => uptoBulkAll elems + uptoBulkAll spare + 1
  | .agg parts => uptoBulkAll parts + 1
  | .iface _ d => uptoBulk d + 1
  | .map entries => uptoBulkEntries entries + 1
  | .held _ => 1
def uptoBulkAll {H : Type} : List (DataW H) → Nat
  | [] => 0
  | d :: r => uptoBulk d + uptoBulkAll r
def uptoBulkEntries {H : Type} : List (Lit × DataW H) → Nat
  | [] => 0
  | x :: r => uptoBulkEntry x + uptoBulkEntries r
def uptoBulkEntry {H : Type} : Lit × DataW H → Nat
  | (.string bytes, d) => bytes.length + uptoBulk d + 1
  | (_, d) => uptoBulk d + 1
 end
def uptoSmall : (H : Type) → List (DataW H) → Bool := fun _ ds => decide (uptoBulkAll ds ≤ 1048576)
def OpenSpec.upto (s : _root_.Go.ChangeSpec) : _root_.Go.OpenSpec := { _root_.Go.OpenSpec.ofChange s with cond := some uptoSmall }

/-- 'clevislaw08.RosterNews', WHERE WHAT IT READS IS OF BULK AT MOST 1048576: true; the input reads as it did. -/
def rosterNewsUptoRow : OpenClaim := { program := "ytcbpmmcpidfllaa", sum := "a3186daa39d42e9560e7b17be93c0f1aa663f2e8c01ceb08eebe23aadd7bb93e", func := "clevis/clevislaw08.RosterNews", spec := "rosterNews", inPlace := ["slices.overlaps[clevis/table.Row[string, int]]", "slices.overlaps[clevis/table.Row[string, bool]]"], unfollowed := true, recurses := true, apart := false, narrowed := true }
def RosterNewsUptoSaid : Prop := rosterNewsUptoRow.holds Try.pinned (OpenSpec.upto rosterNewsSpec)

/-- 'clevislaw08.RosterHomes', WHERE WHAT IT READS IS OF BULK AT MOST 1048576: true; the input reads as it did. -/
def rosterHomesUptoRow : OpenClaim := { program := "ytcbpmmcpidfllaa", sum := "a3186daa39d42e9560e7b17be93c0f1aa663f2e8c01ceb08eebe23aadd7bb93e", func := "clevis/clevislaw08.RosterHomes", spec := "rosterHomes", inPlace := ["slices.overlaps[clevis/table.Row[string, int]]", "slices.overlaps[clevis/table.Row[string, bool]]"], unfollowed := true, recurses := true, apart := false, narrowed := true }
def RosterHomesUptoSaid : Prop := rosterHomesUptoRow.holds Try.pinned (OpenSpec.upto rosterHomesSpec)

/-- 'clevislaw08.RosterTells', WHERE WHAT IT READS IS OF BULK AT MOST 1048576: true; the input reads as it did. -/
def rosterTellsUptoRow : OpenClaim := { program := "ytcbpmmcpidfllaa", sum := "a3186daa39d42e9560e7b17be93c0f1aa663f2e8c01ceb08eebe23aadd7bb93e", func := "clevis/clevislaw08.RosterTells", spec := "rosterTells", inPlace := ["slices.overlaps[clevis/table.Row[string, int]]", "slices.overlaps[clevis/table.Row[string, bool]]"], unfollowed := true, recurses := true, apart := false, narrowed := true }
def RosterTellsUptoSaid : Prop := rosterTellsUptoRow.holds Try.pinned (OpenSpec.upto rosterTellsSpec)

/-- 'clevislaw08.RosterRoutes', WHERE WHAT IT READS IS OF BULK AT MOST 1048576: true; the input reads as it did. -/
def rosterRoutesUptoRow : OpenClaim := { program := "ytcbpmmcpidfllaa", sum := "a3186daa39d42e9560e7b17be93c0f1aa663f2e8c01ceb08eebe23aadd7bb93e", func := "clevis/clevislaw08.RosterRoutes", spec := "rosterRoutes", inPlace := ["slices.overlaps[clevis/table.Row[string, int]]", "slices.overlaps[clevis/table.Row[string, bool]]"], unfollowed := true, recurses := true, apart := false, narrowed := true }
def RosterRoutesUptoSaid : Prop := rosterRoutesUptoRow.holds Try.pinned (OpenSpec.upto rosterRoutesSpec)

/-- 'clevislaw08.RosterNil', WHERE WHAT IT READS IS OF BULK AT MOST 1048576: true; the input reads as it did. -/
def rosterNilUptoRow : OpenClaim := { program := "ytcbpmmcpidfllaa", sum := "a3186daa39d42e9560e7b17be93c0f1aa663f2e8c01ceb08eebe23aadd7bb93e", func := "clevis/clevislaw08.RosterNil", spec := "rosterNil", inPlace := ["slices.overlaps[clevis/table.Row[string, int]]", "slices.overlaps[clevis/table.Row[string, bool]]"], unfollowed := true, recurses := true, apart := false, narrowed := true }
def RosterNilUptoSaid : Prop := rosterNilUptoRow.holds Try.pinned (OpenSpec.upto rosterNilSpec)

end Rows
end Go.Proofs.Ytcbpmmcpidfllaa
