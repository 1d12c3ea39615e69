/- Texts of this seat, put together (Ze10). -/
import Derived.Laws.StructEq
import Derived.Test.YtcbpmmcpidfllaaZe0
section
namespace Go.Proofs.YtcbpmmcpidfllaaW.PrintWords
open Go.RowKit
section
variable {P : Program} {d : Nat} {xs ys : Array Value} {f : Field} {fs : List Field} {a b : Value} {r s : Bool} {w : World}
end
end Go.Proofs.YtcbpmmcpidfllaaW.PrintWords
end
