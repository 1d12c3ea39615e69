/- Texts of this seat, put together (Zh5). -/
import Derived.Laws.NewBlocks
import Derived.Test.YthhgcjlgnafdcaaZh4
section
namespace Go.Proofs.Ythhgcjlgnafdcaa.Nu
set_option linter.unusedSimpArgs false
set_option linter.unusedVariables false
open Go Go.RowKit Go.Proofs.YthhgcjlgnafdcaaW.PrintWords Go.Proofs.YthhgcjlgnafdcaaW.PrintLast Go.Proofs.YthhgcjlgnafdcaaW.PrintMore Go.Proofs.Ythhgcjlgnafdcaa.Hd
section
variable {w : World} {ok ok' ok3 : Nat → Prop} {A A' A3 : Option Addr} {c c' c3 : Nat} {d d' : List Int}
instance (x : Int) : Decidable (I64 x) := inferInstanceAs (Decidable (_ ∧ _))
def I128 (x : Int) : Prop := -170141183460469231731687303715884105728 ≤ x ∧ x ≤ 170141183460469231731687303715884105727
instance (x : Int) : Decidable (I128 x) := inferInstanceAs (Decidable (_ ∧ _))
end
end Go.Proofs.Ythhgcjlgnafdcaa.Nu
end
