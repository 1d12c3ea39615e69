-- Written by a program of ours (pf.sh), for this seat.
import Derived.Test.YthhmfpfmhklapaaId0
namespace Go.Proofs.Ythhmfpfmhklapaa.Id
open Go.RowKit Go.Proofs.YthhmfpfmhklapaaW.PrintWords Go.Proofs.YthhmfpfmhklapaaW.PrintLast Go.Proofs.YthhmfpfmhklapaaW.PrintMore
attribute [local go_sem] max2_int min2_int max_two min_two max_three min_three max_four min_four   -- for this text's walks alone
set_option linter.unusedVariables false
set_option linter.unusedSimpArgs false

/-! ### ident_Node: function 29 -/
def ident_Node.f (a0 : ByteArray) : Option (Int × Int) := if 0 ≤ Jd.nodeN a0 then some (Jd.nodeN a0, 0) else some (0, 5)
set_option maxHeartbeats 2000000 in
theorem ident_Node.calls (a0 : ByteArray) (r1 : Int) (r2 : Int) (w : World) (h : ident_Node.f a0 = some (r1, r2)) :
    Calls Try.prog 29 #[.string a0] w fun e w' => e = .returned (.tuple #[.int .i64 r1, .int .i64 r2]) ∧ Below w.heap.size w w' := by
  exact Jd.node_calls a0 r1 r2 w h

end Go.Proofs.Ythhmfpfmhklapaa.Id
