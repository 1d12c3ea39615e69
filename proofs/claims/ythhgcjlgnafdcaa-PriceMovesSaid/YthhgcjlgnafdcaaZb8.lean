/- Texts of this seat, put together (Zb8). -/
import Derived.Laws.StructEq
import Derived.Test.YthhgcjlgnafdcaaZb0
section
namespace Go.Proofs.YthhgcjlgnafdcaaW.PrintWords
open Go.RowKit
section
variable {P : Program} {d : Nat} {xs ys : Array Value} {f : Field} {fs : List Field} {a b : Value} {r s : Bool} {w : World}
end
end Go.Proofs.YthhgcjlgnafdcaaW.PrintWords
end
