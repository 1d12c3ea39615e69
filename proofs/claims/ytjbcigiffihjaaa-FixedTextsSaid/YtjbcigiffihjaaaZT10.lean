/- Texts of this seat, put together (ZT10). -/
import Derived.Laws.DeepNot64
import Derived.Test.YtjbcigiffihjaaaZT8
section
namespace Go.Proofs.Ytjbcigiffihjaaa.Fc
set_option linter.unusedSimpArgs false
set_option linter.unusedVariables false
open Go Go.RowKit Go.Proofs.Ytjbcigiffihjaaa.Fx Go.Proofs.YtjbcigiffihjaaaW.PrintWords Go.Proofs.Ytjbcigiffihjaaa.Fv
theorem not_u64 {a : Int} (h : U64 a) : Go.bits .xor .u64 18446744073709551615 a = 18446744073709551615 - a := by
  obtain ⟨n, rfl⟩ := Int.eq_ofNat_of_zero_le h.1
  have hn : n < 18446744073709551616 := by have := h.2; omega
  show IntKind.u64.wrap ((BitVec.ofInt 64 18446744073709551615 ^^^ BitVec.ofInt 64 (n : Int)).toNat : Int) = _
  have h1 : BitVec.ofInt 64 18446744073709551615 = BitVec.allOnes 64 := by decide
  rw [h1, BitVec.allOnes_xor, BitVec.toNat_not, ofInt_u64 n hn, IntKind.wrap_u64]
  omega
theorem turned_f {h l : Int} (hh : I64 h) (hl : U64 l) (hm : h ≠ -9223372036854775808 ∨ l ≠ 0) : ∃ r1 r2, fixed_turned.f h l = some (r1, r2) ∧ I64 r1 ∧ U64 r2 ∧ W r1 r2 = -W h l := by
  have hue : IntKind.u64.wrap h = if h < 0 then h + 18446744073709551616 else h := by unfold I64 at hh; rw [IntKind.wrap_u64]; split <;> omega
  obtain ⟨u, hu⟩ : ∃ u, IntKind.u64.wrap h = u := ⟨_, rfl⟩
  have hu0 : U64 u := by rw [← hu, IntKind.wrap_u64]; unfold U64; omega
  unfold fixed_turned.f
  rw [hu, not_u64 hu0, not_u64 hl]
  rw [hu] at hue
  clear hu
  unfold U64 at hl hu0
  rw [addHi_eq (by omega) (by omega) (by omega), addLo_eq (by omega) (by omega) (by omega)]
  refine ⟨_, _, rfl, ?_, ?_, ?_⟩
  · unfold I64 wrap64
    omega
  · unfold U64
    omega
  · unfold I64 at hh
    unfold W
    by_cases h0 : l = 0
    · subst h0
      have e1 : ((18446744073709551615 : Int) - 0 + 1 + 0) / 18446744073709551616 = 1 := by decide
      have e2 : ((18446744073709551615 : Int) - 0 + 1 + 0) % 18446744073709551616 = 0 := by decide
      rw [e1, e2, IntKind.wrap_u64]
      unfold wrap64
      split at hue <;> omega
    · have e1 : (18446744073709551615 - l + 1 + 0) / 18446744073709551616 = 0 := by omega
      have e2 : (18446744073709551615 - l + 1 + 0) % 18446744073709551616 = 18446744073709551616 - l := by omega
      rw [e1, e2, IntKind.wrap_u64]
      unfold wrap64
      split at hue <;> omega
theorem Mul64_f {x y : Int} (hx : U64 x) (hy : U64 y) : bits_Mul64.f x y = some (x * y / 18446744073709551616, x * y % 18446744073709551616) := by
  unfold bits_Mul64.f
  simp only [and_low32 x hx.1 hx.2, and_low32 y hy.1 hy.2]
  rw [and_low32 _ (by rw [IntKind.wrap_u64]; omega) (by rw [IntKind.wrap_u64]; omega)]
  simp only [IntKind.wrap_u64]
  rw [mul64_arith x y hx.1 hx.2 hy.1 hy.2]
theorem judge128 {v r1 r2 r3 : Int} {n : Bool} {d : List Int} (h : Is128 v r1 r2 r3) (hn : Nm v n d) : ∃ K, ∀ e, clevislaw01_wide.f (K + e) r1 r2 r3 n d = some true := by
  obtain ⟨K, hK⟩ := fits128 hn
  rcases h with ⟨h1, rfl, h2, h3, rfl⟩ | ⟨h1, rfl, rfl, rfl⟩
  · obtain ⟨K1, n1, d1, k1, k2, k3⟩ := Num_f r1 r2 h2.1 h2.2 h3.1 h3.2
    obtain ⟨K2, hK2⟩ := Compare_f k2 hn
    dsimp only at k1
    refine ⟨K + K1 + K2, fun e => ?_⟩
    unfold clevislaw01_wide.f
    rw [show K + K1 + K2 + e = K + (K1 + K2 + e) by omega, hK, Option.bind_some, if_pos (by rw [decide_eq_true_eq]; exact h1), if_pos rfl, show K + (K1 + K2 + e) = K1 + (K + K2 + e) by omega, k1, Option.bind_some, show K1 + (K + K2 + e) = K2 + (K + K1 + e) by omega, hK2, Option.bind_some]
    unfold sgn
    rw [if_neg (by omega), if_neg (by omega)]
    rfl
  · refine ⟨K, fun e => ?_⟩
    unfold clevislaw01_wide.f
    rw [hK, Option.bind_some, if_neg (by rw [decide_eq_true_eq]; exact h1), if_pos rfl]
    rfl
end Go.Proofs.Ytjbcigiffihjaaa.Fc
end
