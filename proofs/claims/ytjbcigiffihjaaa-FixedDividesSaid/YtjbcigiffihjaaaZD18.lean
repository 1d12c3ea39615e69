/- Texts of this seat, put together (ZD18). -/
import Derived.SizedLaws
import Derived.ChangeSlices
section
namespace Go.Proofs.YtjbcigiffihjaaaW.PrintWords
open Go.ChangeShapes Go.WideShapes
end Go.Proofs.YtjbcigiffihjaaaW.PrintWords
end
