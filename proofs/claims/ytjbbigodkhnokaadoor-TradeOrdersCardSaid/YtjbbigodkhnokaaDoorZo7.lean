/- Texts of this seat, put together (Zo7). -/
import Derived.Laws.StructEq
import Derived.Test.YtjbbigodkhnokaaDoorZo1
section
namespace Go.Proofs.YtjbbigodkhnokaaDoorW.PrintWords
open Go.RowKit
section
variable {P : Program} {d : Nat} {xs ys : Array Value} {f : Field} {fs : List Field} {a b : Value} {r s : Bool} {w : World}
end
end Go.Proofs.YtjbbigodkhnokaaDoorW.PrintWords
end
