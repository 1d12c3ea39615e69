/- Texts of this seat, put together (Zs13). -/
import Derived.SizedLaws
import Derived.ChangeSlices
section
namespace Go.Proofs.YtfbkgfffalppmaaW.PrintWords
open Go.ChangeShapes Go.WideShapes
end Go.Proofs.YtfbkgfffalppmaaW.PrintWords
end
