/- Texts of this seat, put together (ZD11). -/
import Derived.Laws.DeepNot64
import Derived.Test.YtjbcigiffihjaaaZD7
section
namespace Go.Proofs.Ytjbcigiffihjaaa.Fc
set_option linter.unusedSimpArgs false
set_option linter.unusedVariables false
open Go Go.RowKit Go.Proofs.Ytjbcigiffihjaaa.Fx Go.Proofs.YtjbcigiffihjaaaW.PrintWords Go.Proofs.Ytjbcigiffihjaaa.Fv
theorem not_u64 {a : Int} (h : U64 a) : Go.bits .xor .u64 18446744073709551615 a = 18446744073709551615 - a := by
  obtain ⟨n, rfl⟩ := Int.eq_ofNat_of_zero_le h.1
  have hn : n < 18446744073709551616 := by have := h.2; omega
  show IntKind.u64.wrap ((BitVec.ofInt 64 18446744073709551615 ^^^ BitVec.ofInt 64 (n : Int)).toNat : Int) = _
  have h1 : BitVec.ofInt 64 18446744073709551615 = BitVec.allOnes 64 := by decide
  rw [h1, BitVec.allOnes_xor, BitVec.toNat_not, ofInt_u64 n hn, IntKind.wrap_u64]
  omega
theorem turned_f {h l : Int} (hh : I64 h) (hl : U64 l) (hm : h ≠ -9223372036854775808 ∨ l ≠ 0) : ∃ r1 r2, fixed_turned.f h l = some (r1, r2) ∧ I64 r1 ∧ U64 r2 ∧ W r1 r2 = -W h l := by
  have hue : IntKind.u64.wrap h = if h < 0 then h + 18446744073709551616 else h := by unfold I64 at hh; rw [IntKind.wrap_u64]; split <;> omega
  obtain ⟨u, hu⟩ : ∃ u, IntKind.u64.wrap h = u := ⟨_, rfl⟩
  have hu0 : U64 u := by rw [← hu, IntKind.wrap_u64]; unfold U64; omega
  unfold fixed_turned.f
  rw [hu, not_u64 hu0, not_u64 hl]
  rw [hu] at hue
  clear hu
  unfold U64 at hl hu0
  rw [addHi_eq (by omega) (by omega) (by omega), addLo_eq (by omega) (by omega) (by omega)]
  refine ⟨_, _, rfl, ?_, ?_, ?_⟩
  · unfold I64 wrap64
    omega
  · unfold U64
    omega
  · unfold I64 at hh
    unfold W
    by_cases h0 : l = 0
    · subst h0
      have e1 : ((18446744073709551615 : Int) - 0 + 1 + 0) / 18446744073709551616 = 1 := by decide
      have e2 : ((18446744073709551615 : Int) - 0 + 1 + 0) % 18446744073709551616 = 0 := by decide
      rw [e1, e2, IntKind.wrap_u64]
      unfold wrap64
      split at hue <;> omega
    · have e1 : (18446744073709551615 - l + 1 + 0) / 18446744073709551616 = 0 := by omega
      have e2 : (18446744073709551615 - l + 1 + 0) % 18446744073709551616 = 18446744073709551616 - l := by omega
      rw [e1, e2, IntKind.wrap_u64]
      unfold wrap64
      split at hue <;> omega
theorem size_u {a : Int} (h : I64 a) : fixed_size.f a = some (a.natAbs : Int) := by
  unfold I64 at h
  unfold fixed_size.f
  split
  · rw [IntKind.wrap_u64, IntKind.wrap_u64]
    congr 1
    omega
  · rw [IntKind.wrap_u64]
    congr 1
    omega
end Go.Proofs.Ytjbcigiffihjaaa.Fc
end
