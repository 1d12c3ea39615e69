/- Texts of this seat, put together (Ze19). -/
import Derived.Test.YtcbpmmcpidfllaaRows
import Derived.Test.YtcbpmmcpidfllaaZe18
section
namespace Go.Proofs.Ytcbpmmcpidfllaa.Rt
set_option linter.unusedSimpArgs false
set_option linter.unusedVariables false
open Go Go.RowKit Go.ChangeShapes Go.WideShapes Go.ChangeAt Go.Deep Go.Proofs.YtcbpmmcpidfllaaW.PrintWords Go.Proofs.YtcbpmmcpidfllaaW.PrintMore Go.Proofs.YtcbpmmcpidfllaaW.PrintLast Go.Proofs.Ytcbpmmcpidfllaa.Opn
section
variable {H : Type} {enc : TypeId × Value → H} {w : World} {base : Nat} {sp : Nat → Bool} {held : Bool}
end
end Go.Proofs.Ytcbpmmcpidfllaa.Rt
end
