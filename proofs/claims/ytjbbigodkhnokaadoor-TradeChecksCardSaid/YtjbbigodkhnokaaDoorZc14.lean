/- Texts of this seat, put together (Zc14). -/
import Derived.Laws.MathBits
import Derived.Laws.BitsAllLaws
import Derived.Laws.DeepNot64
import Derived.Test.YtjbbigodkhnokaaDoorZc5
import Derived.Test.YtjbbigodkhnokaaDoorZc8
import Derived.Test.YtjbbigodkhnokaaDoorZc13
section
namespace Go.Proofs.YtjbbigodkhnokaaDoor.Fp
set_option linter.unusedSimpArgs false
set_option linter.unusedVariables false
open Go Go.RowKit Go.Proofs.YtjbbigodkhnokaaDoor.Tr Go.Proofs.YtjbbigodkhnokaaDoorW.PrintWords Go.Proofs.YtjbbigodkhnokaaDoorW.PrintLast
open Go.Proofs.YtjbbigodkhnokaaDoor.Nu (I64 U64 I128 w64 wd sgn)
abbrev W (hi lo : Int) : Int := wd hi lo
theorem addHi_eq {x y c : Int} (hx : 0 ≤ x) (hy : 0 ≤ y) (hc : 0 ≤ c) : addHi x y c = (x + y + c) / 18446744073709551616 := by
  unfold addHi
  rw [Int.toNat_of_nonneg hx, Int.toNat_of_nonneg hy, Int.toNat_of_nonneg hc]
theorem addLo_eq {x y c : Int} (hx : 0 ≤ x) (hy : 0 ≤ y) (hc : 0 ≤ c) : addLo x y c = (x + y + c) % 18446744073709551616 := by
  unfold addLo
  rw [Int.toNat_of_nonneg hx, Int.toNat_of_nonneg hy, Int.toNat_of_nonneg hc]
def L (s : Int × Int × Int) : Int := s.1 * 340282366920938463463374607431768211456 + s.2.1 * 18446744073709551616 + s.2.2
theorem not_u64 {a : Int} (h : U64 a) : Go.bits .xor .u64 18446744073709551615 a = 18446744073709551615 - a := by
  obtain ⟨n, rfl⟩ := Int.eq_ofNat_of_zero_le h.1
  have hn : n < 18446744073709551616 := by have := h.2; omega
  show IntKind.u64.wrap ((BitVec.ofInt 64 18446744073709551615 ^^^ BitVec.ofInt 64 (n : Int)).toNat : Int) = _
  have h1 : BitVec.ofInt 64 18446744073709551615 = BitVec.allOnes 64 := by decide
  rw [h1, BitVec.allOnes_xor, BitVec.toNat_not, ofInt_u64 n hn, IntKind.wrap_u64]
  omega
theorem turned_f {h l : Int} (hh : I64 h) (hl : U64 l) (hm : h ≠ -9223372036854775808 ∨ l ≠ 0) : ∃ r1 r2, fixed_turned.f h l = some (r1, r2) ∧ I64 r1 ∧ U64 r2 ∧ W r1 r2 = -W h l := by
  have hue : IntKind.u64.wrap h = if h < 0 then h + 18446744073709551616 else h := by unfold I64 at hh; rw [IntKind.wrap_u64]; split <;> omega
  obtain ⟨u, hu⟩ : ∃ u, IntKind.u64.wrap h = u := ⟨_, rfl⟩
  have hu0 : U64 u := by rw [← hu, IntKind.wrap_u64]; unfold U64; omega
  unfold fixed_turned.f
  rw [hu, not_u64 hu0, not_u64 hl]
  rw [hu] at hue
  clear hu
  unfold U64 at hl hu0
  rw [addHi_eq (by omega) (by omega) (by omega), addLo_eq (by omega) (by omega) (by omega)]
  refine ⟨_, _, rfl, ?_, ?_, ?_⟩
  · unfold I64 wrap64
    omega
  · unfold U64
    omega
  · unfold I64 at hh
    unfold W wd
    by_cases h0 : l = 0
    · subst h0
      have e1 : ((18446744073709551615 : Int) - 0 + 1 + 0) / 18446744073709551616 = 1 := by decide
      have e2 : ((18446744073709551615 : Int) - 0 + 1 + 0) % 18446744073709551616 = 0 := by decide
      rw [e1, e2, IntKind.wrap_u64]
      unfold wrap64
      split at hue <;> omega
    · have e1 : (18446744073709551615 - l + 1 + 0) / 18446744073709551616 = 0 := by omega
      have e2 : (18446744073709551615 - l + 1 + 0) % 18446744073709551616 = 18446744073709551616 - l := by omega
      rw [e1, e2, IntKind.wrap_u64]
      unfold wrap64
      split at hue <;> omega
theorem size_u {a : Int} (h : I64 a) : fixed_size.f a = some (a.natAbs : Int) := by
  unfold I64 at h
  unfold fixed_size.f
  split
  · rw [IntKind.wrap_u64, IntKind.wrap_u64]
    congr 1
    omega
  · rw [IntKind.wrap_u64]
    congr 1
    omega
theorem Mul64_f {x y : Int} (hx : U64 x) (hy : U64 y) : bits_Mul64.f x y = some (x * y / 18446744073709551616, x * y % 18446744073709551616) := by
  unfold bits_Mul64.f
  simp only [and_low32 x hx.1 hx.2, and_low32 y hy.1 hy.2]
  rw [and_low32 _ (by rw [IntKind.wrap_u64]; omega) (by rw [IntKind.wrap_u64]; omega)]
  simp only [IntKind.wrap_u64]
  rw [mul64_arith x y hx.1 hx.2 hy.1 hy.2]
theorem Times_f {a b : Int} (ha : I64 a) (hb : I64 b) : ∃ r1 r2, fixed_Times.f a b = some (r1, r2) ∧ I64 r1 ∧ U64 r2 ∧ W r1 r2 = a * b := by
  have ux : U64 (a.natAbs : Int) := by unfold U64; unfold I64 at ha; omega
  have uy : U64 (b.natAbs : Int) := by unfold U64; unfold I64 at hb; omega
  have hle : (a.natAbs : Int) * (b.natAbs : Int) ≤ 9223372036854775808 * 9223372036854775808 := by
    apply Int.mul_le_mul
    · unfold I64 at ha; omega
    · unfold I64 at hb; omega
    · omega
    · omega
  have h0 : 0 ≤ (a.natAbs : Int) * (b.natAbs : Int) := Int.mul_nonneg (by omega) (by omega)
  have hab : a * b = if ((decide (a < 0)) != (decide (b < 0))) = true then -((a.natAbs : Int) * (b.natAbs : Int)) else (a.natAbs : Int) * (b.natAbs : Int) := by
    by_cases h1 : a < 0 <;> by_cases h2 : b < 0
    · rw [if_neg (by simp [h1, h2]), show (a.natAbs : Int) = -a by omega, show (b.natAbs : Int) = -b by omega, Int.neg_mul_neg]
    · rw [if_pos (by simp [h1, h2]), show (a.natAbs : Int) = -a by omega, show (b.natAbs : Int) = b by omega, Int.neg_mul, Int.neg_neg]
    · rw [if_pos (by simp [h1, h2]), show (a.natAbs : Int) = a by omega, show (b.natAbs : Int) = -b by omega, Int.mul_neg, Int.neg_neg]
    · rw [if_neg (by simp [h1, h2]), show (a.natAbs : Int) = a by omega, show (b.natAbs : Int) = b by omega]
  rw [hab]
  unfold fixed_Times.f
  rw [size_u ha, size_u hb, Option.bind_some, Option.bind_some, Mul64_f ux uy, Option.bind_some]
  dsimp only
  generalize (a.natAbs : Int) * (b.natAbs : Int) = p at *
  clear hab ux uy
  have hw : wrap64 (p / 18446744073709551616) = p / 18446744073709551616 := w64 (by omega) (by omega)
  have e1 : I64 (p / 18446744073709551616) := by unfold I64; omega
  have e2 : U64 (p % 18446744073709551616) := by unfold U64; omega
  have e3 : W (p / 18446744073709551616) (p % 18446744073709551616) = p := by unfold W wd; omega
  rw [hw]
  split
  · obtain ⟨r1, r2, k1, k2, k3, k4⟩ := turned_f e1 e2 (Or.inl (by omega))
    refine ⟨r1, r2, ?_, k2, k3, by rw [k4, e3]⟩
    rw [k1]
    rfl
  · exact ⟨_, _, rfl, e1, e2, e3⟩
end Go.Proofs.YtjbbigodkhnokaaDoor.Fp
end
