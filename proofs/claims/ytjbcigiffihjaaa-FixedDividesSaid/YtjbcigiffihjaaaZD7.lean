/- Texts of this seat, put together (ZD7). -/
import Derived.Laws.MathBits
import Derived.Laws.BitsAllLaws
import Derived.Test.YtjbcigiffihjaaaZD6
section
namespace Go.Proofs.Ytjbcigiffihjaaa.Fc
set_option linter.unusedSimpArgs false
set_option linter.unusedVariables false
open Go Go.RowKit Go.Proofs.Ytjbcigiffihjaaa.Fx Go.Proofs.YtjbcigiffihjaaaW.PrintWords Go.Proofs.Ytjbcigiffihjaaa.Fv
def I64 (x : Int) : Prop := -9223372036854775808 ≤ x ∧ x ≤ 9223372036854775807
def U64 (x : Int) : Prop := 0 ≤ x ∧ x < 18446744073709551616
def F128 (v : Int) : Prop := -170141183460469231731687303715884105728 ≤ v ∧ v ≤ 170141183460469231731687303715884105727
instance (x : Int) : Decidable (I64 x) := by unfold I64; exact inferInstance
instance (x : Int) : Decidable (F128 x) := by unfold F128; exact inferInstance
def Is128 (v r1 r2 r3 : Int) : Prop := (F128 v ∧ r3 = 0 ∧ I64 r1 ∧ U64 r2 ∧ W r1 r2 = v) ∨ (¬ F128 v ∧ r1 = 0 ∧ r2 = 0 ∧ r3 = 4)
theorem W_fits {h l : Int} (hh : I64 h) (hl : U64 l) : F128 (W h l) := by
  unfold F128 W
  unfold I64 at hh
  unfold U64 at hl
  omega
theorem addHi_eq {x y c : Int} (hx : 0 ≤ x) (hy : 0 ≤ y) (hc : 0 ≤ c) : addHi x y c = (x + y + c) / 18446744073709551616 := by
  unfold addHi
  rw [Int.toNat_of_nonneg hx, Int.toNat_of_nonneg hy, Int.toNat_of_nonneg hc]
theorem addLo_eq {x y c : Int} (hx : 0 ≤ x) (hy : 0 ≤ y) (hc : 0 ≤ c) : addLo x y c = (x + y + c) % 18446744073709551616 := by
  unfold addLo
  rw [Int.toNat_of_nonneg hx, Int.toNat_of_nonneg hy, Int.toNat_of_nonneg hc]
end Go.Proofs.Ytjbcigiffihjaaa.Fc
end
