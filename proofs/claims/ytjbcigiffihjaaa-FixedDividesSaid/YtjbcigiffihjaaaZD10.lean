/- Texts of this seat, put together (ZD10). -/
import Derived.Lib.Strings
import Derived.Test.YtjbcigiffihjaaaZD6
import Derived.Test.YtjbcigiffihjaaaZD8
import Derived.Test.YtjbcigiffihjaaaZD9
section
namespace Go.Proofs.Ytjbcigiffihjaaa.Fc
set_option linter.unusedSimpArgs false
set_option linter.unusedVariables false
open Go Go.RowKit Go.Proofs.Ytjbcigiffihjaaa.Fx Go.Proofs.YtjbcigiffihjaaaW.PrintWords Go.Proofs.YtjbcigiffihjaaaW.PrintMore Go.Proofs.Ytjbcigiffihjaaa.Fv
def dv (l : List Int) : Int := l.foldl (fun v c => 10 * v + (c - 48)) 0
def hasMinus (l : List Int) : Bool := decide (rd l 0 = 45)
def body (l : List Int) : List Int := if hasMinus l = true then l.drop 1 else l
def value (l : List Int) : Int := if hasMinus l = true then -dv (body l) else dv (body l)
end Go.Proofs.Ytjbcigiffihjaaa.Fc
end
section
namespace Go.Proofs.Ytjbcigiffihjaaa.Fc
set_option linter.unusedSimpArgs false
set_option linter.unusedVariables false
open Go Go.RowKit Go.Proofs.Ytjbcigiffihjaaa.Fx Go.Proofs.YtjbcigiffihjaaaW.PrintWords Go.Proofs.YtjbcigiffihjaaaW.PrintMore Go.Proofs.Ytjbcigiffihjaaa.Fv
end Go.Proofs.Ytjbcigiffihjaaa.Fc
end
