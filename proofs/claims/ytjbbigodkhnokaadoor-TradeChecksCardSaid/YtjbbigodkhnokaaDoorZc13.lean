/- Texts of this seat, put together (Zc13). -/
import Derived.Laws.NewBlocks
import Derived.Test.YtjbbigodkhnokaaDoorZc5
section
namespace Go.Proofs.YtjbbigodkhnokaaDoor.Nu
set_option linter.unusedSimpArgs false
set_option linter.unusedVariables false
open Go Go.RowKit Go.Proofs.YtjbbigodkhnokaaDoorW.PrintWords Go.Proofs.YtjbbigodkhnokaaDoorW.PrintLast Go.Proofs.YtjbbigodkhnokaaDoorW.PrintMore Go.Proofs.YtjbbigodkhnokaaDoor.Hd
section
variable {w : World} {ok ok' ok3 : Nat → Prop} {A A' A3 : Option Addr} {c c' c3 : Nat} {d d' : List Int}
instance (x : Int) : Decidable (I64 x) := inferInstanceAs (Decidable (_ ∧ _))
theorem B8 : B 8 = 340282366920938463463374607431768211456 := by rw [show 8 = 4 + 4 from rfl, B_add, B4]; rfl
def I128 (x : Int) : Prop := -170141183460469231731687303715884105728 ≤ x ∧ x ≤ 170141183460469231731687303715884105727
instance (x : Int) : Decidable (I128 x) := inferInstanceAs (Decidable (_ ∧ _))
end
end Go.Proofs.YtjbbigodkhnokaaDoor.Nu
end
