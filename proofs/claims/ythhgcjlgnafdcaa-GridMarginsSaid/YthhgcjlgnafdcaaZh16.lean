/- Texts of this seat, put together (Zh16). -/
import Derived.RangeFuncNested
import Derived.RangeFuncBound
import Derived.RangeFuncCalls
import Derived.RangeFuncLeaves
import Derived.RangeFuncFrom
import Derived.Shelf.Abstract
import Derived.Shelf.RegionOpen
import Derived.WalkKit
import Derived.OwnWalkIn
import Derived.TacticsInMore
import Derived.LoopNIn
import Derived.LoopIn
import Derived.Test.YthhgcjlgnafdcaaZh14
section
namespace Go.Proofs.Ythhgcjlgnafdcaa.Tj
set_option linter.unusedVariables false
set_option linter.unusedSimpArgs false
open Go Go.RowKit Go.Shelf Go.Proofs.YthhgcjlgnafdcaaW.PrintWords Go.Proofs.YthhgcjlgnafdcaaW.PrintLast Go.Proofs.Ythhgcjlgnafdcaa.Hd Go.Proofs.Ythhgcjlgnafdcaa.Os Go.Proofs.Ythhgcjlgnafdcaa.Tb Go.Proofs.Ythhgcjlgnafdcaa.Tm
def rows (l : List (ByteArray × Int)) : Rws := l.map fun r => (r.1, (fun y : Int => .int .i64 y) r.2)
theorem rows_length (l : List (ByteArray × Int)) : (rows l).length = l.length := List.length_map _
section
attribute [local go_sem] Oper.semAt_some
end
end Go.Proofs.Ythhgcjlgnafdcaa.Tj
end
