/- Texts of this seat, put together (ZO9). -/
import Derived.Laws.MathBits
import Derived.Laws.BitsAllLaws
import Derived.Test.YtjbcigiffihjaaaZO5
import Derived.Test.YtjbcigiffihjaaaZO6
import Derived.Test.YtjbcigiffihjaaaZO8
section
namespace Go.Proofs.Ytjbcigiffihjaaa.Fc
set_option linter.unusedSimpArgs false
set_option linter.unusedVariables false
open Go Go.RowKit Go.Proofs.Ytjbcigiffihjaaa.Fx Go.Proofs.YtjbcigiffihjaaaW.PrintWords Go.Proofs.Ytjbcigiffihjaaa.Fv
def I64 (x : Int) : Prop := -9223372036854775808 ≤ x ∧ x ≤ 9223372036854775807
def U64 (x : Int) : Prop := 0 ≤ x ∧ x < 18446744073709551616
def F128 (v : Int) : Prop := -170141183460469231731687303715884105728 ≤ v ∧ v ≤ 170141183460469231731687303715884105727
instance (x : Int) : Decidable (I64 x) := by unfold I64; exact inferInstance
instance (x : Int) : Decidable (F128 x) := by unfold F128; exact inferInstance
def Is64 (v r1 r2 : Int) : Prop := (I64 v ∧ r1 = v ∧ r2 = 0) ∨ (¬ I64 v ∧ r1 = 0 ∧ r2 = 4)
theorem addHi_eq {x y c : Int} (hx : 0 ≤ x) (hy : 0 ≤ y) (hc : 0 ≤ c) : addHi x y c = (x + y + c) / 18446744073709551616 := by
  unfold addHi
  rw [Int.toNat_of_nonneg hx, Int.toNat_of_nonneg hy, Int.toNat_of_nonneg hc]
theorem addLo_eq {x y c : Int} (hx : 0 ≤ x) (hy : 0 ≤ y) (hc : 0 ≤ c) : addLo x y c = (x + y + c) % 18446744073709551616 := by
  unfold addLo
  rw [Int.toNat_of_nonneg hx, Int.toNat_of_nonneg hy, Int.toNat_of_nonneg hc]
theorem Int_f {h l : Int} (hh : I64 h) (hl : U64 l) : ∃ r1 r2, fixed_Int.f h l = some (r1, r2) ∧ Is64 (W h l) r1 r2 := by
  have hw : wrap64 l = if l < 9223372036854775808 then l else l - 18446744073709551616 := by unfold U64 at hl; unfold wrap64; split <;> omega
  obtain ⟨x, hx⟩ : ∃ x, wrap64 l = x := ⟨_, rfl⟩
  unfold fixed_Int.f
  rw [hx]
  rw [hx] at hw
  clear hx
  unfold U64 at hl
  unfold I64 at hh
  by_cases hb : h = x / 9223372036854775808
  · rw [if_pos hb]
    refine ⟨_, _, rfl, Or.inl ⟨?_, ?_, rfl⟩⟩
    · unfold I64 W
      split at hw <;> omega
    · unfold W
      split at hw <;> omega
  · rw [if_neg hb]
    refine ⟨_, _, rfl, Or.inr ⟨?_, rfl, rfl⟩⟩
    unfold I64 W
    split at hw <;> omega
theorem of_W {a : Int} (h : I64 a) : I64 (a / 9223372036854775808) ∧ U64 (IntKind.u64.wrap a) ∧ W (a / 9223372036854775808) (IntKind.u64.wrap a) = a := by
  have hue : IntKind.u64.wrap a = if a < 0 then a + 18446744073709551616 else a := by unfold I64 at h; rw [IntKind.wrap_u64]; split <;> omega
  unfold I64 at h
  rw [hue]
  unfold I64 U64 W
  split <;> refine ⟨?_, ?_, ?_⟩ <;> omega
end Go.Proofs.Ytjbcigiffihjaaa.Fc
end
