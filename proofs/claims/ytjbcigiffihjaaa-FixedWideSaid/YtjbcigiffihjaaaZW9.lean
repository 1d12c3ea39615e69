/- Texts of this seat, put together (ZW9). -/
import Derived.Laws.DeepNot64
import Derived.Test.YtjbcigiffihjaaaZW8
section
namespace Go.Proofs.Ytjbcigiffihjaaa.Fc
set_option linter.unusedSimpArgs false
set_option linter.unusedVariables false
open Go Go.RowKit Go.Proofs.Ytjbcigiffihjaaa.Fx Go.Proofs.YtjbcigiffihjaaaW.PrintWords Go.Proofs.Ytjbcigiffihjaaa.Fv
theorem not_u64 {a : Int} (h : U64 a) : Go.bits .xor .u64 18446744073709551615 a = 18446744073709551615 - a := by
  obtain ⟨n, rfl⟩ := Int.eq_ofNat_of_zero_le h.1
  have hn : n < 18446744073709551616 := by have := h.2; omega
  show IntKind.u64.wrap ((BitVec.ofInt 64 18446744073709551615 ^^^ BitVec.ofInt 64 (n : Int)).toNat : Int) = _
  have h1 : BitVec.ofInt 64 18446744073709551615 = BitVec.allOnes 64 := by decide
  rw [h1, BitVec.allOnes_xor, BitVec.toNat_not, ofInt_u64 n hn, IntKind.wrap_u64]
  omega
theorem not_i64 {a : Int} (h : I64 a) : Go.bits .xor .i64 (-1) a = -1 - a := by
  unfold I64 at h
  show IntKind.i64.wrap ((BitVec.ofInt 64 (-1) ^^^ BitVec.ofInt 64 a).toNat : Int) = _
  have h1 : BitVec.ofInt 64 (-1) = BitVec.allOnes 64 := by decide
  rw [h1, BitVec.allOnes_xor, BitVec.toNat_not, BitVec.toNat_ofInt, IntKind.wrap_i64]
  omega
theorem Minus_f {a0 a1 b0 b1 : Int} (ha : I64 a0) (ua : U64 a1) (hb : I64 b0) (ub : U64 b1) : ∃ r1 r2 r3, fixed_Minus.f a0 a1 b0 b1 = some (r1, r2, r3) ∧ Is128 (W a0 a1 - W b0 b1) r1 r2 r3 := by
  obtain ⟨s, k1, k2⟩ := long_add long_start (by omega) ha ua
  obtain ⟨t, m1, m2⟩ := long_add k2 (by omega) (a0 := -1 - b0) (a1 := 18446744073709551615 - b1) (by unfold I64 at *; omega) (by unfold U64 at *; omega)
  obtain ⟨u, l1, l2⟩ := long_add m2 (by omega) (a0 := 0) (a1 := 1) (by unfold I64; omega) (by unfold U64; omega)
  obtain ⟨r1, r2, r3, j1, j2⟩ := long_wide l2
  refine ⟨r1, r2, r3, ?_, ?_⟩
  · unfold fixed_Minus.f
    rw [not_i64 hb, not_u64 ub]
    dsimp only at k1
    rw [k1, Option.bind_some, m1, Option.bind_some, l1, Option.bind_some, j1]
  · have e : 0 + W a0 a1 + W (-1 - b0) (18446744073709551615 - b1) + W 0 1 = W a0 a1 - W b0 b1 := by unfold W; omega
    rw [e] at j2
    exact j2
theorem Opposite_f {a0 a1 : Int} (ha : I64 a0) (ua : U64 a1) : ∃ r1 r2 r3, fixed_Opposite.f a0 a1 = some (r1, r2, r3) ∧ Is128 (-W a0 a1) r1 r2 r3 := by
  obtain ⟨r1, r2, r3, h1, h2⟩ := Minus_f (a0 := 0) (a1 := 0) (by unfold I64; omega) (by unfold U64; omega) ha ua
  refine ⟨r1, r2, r3, ?_, ?_⟩
  · unfold fixed_Opposite.f
    rw [h1]
    rfl
  · rw [show W 0 0 - W a0 a1 = -W a0 a1 by unfold W; omega] at h2
    exact h2
theorem judge128 {v r1 r2 r3 : Int} {n : Bool} {d : List Int} (h : Is128 v r1 r2 r3) (hn : Nm v n d) : ∃ K, ∀ e, clevislaw01_wide.f (K + e) r1 r2 r3 n d = some true := by
  obtain ⟨K, hK⟩ := fits128 hn
  rcases h with ⟨h1, rfl, h2, h3, rfl⟩ | ⟨h1, rfl, rfl, rfl⟩
  · obtain ⟨K1, n1, d1, k1, k2, k3⟩ := Num_f r1 r2 h2.1 h2.2 h3.1 h3.2
    obtain ⟨K2, hK2⟩ := Compare_f k2 hn
    dsimp only at k1
    refine ⟨K + K1 + K2, fun e => ?_⟩
    unfold clevislaw01_wide.f
    rw [show K + K1 + K2 + e = K + (K1 + K2 + e) by omega, hK, Option.bind_some, if_pos (by rw [decide_eq_true_eq]; exact h1), if_pos rfl, show K + (K1 + K2 + e) = K1 + (K + K2 + e) by omega, k1, Option.bind_some, show K1 + (K + K2 + e) = K2 + (K + K1 + e) by omega, hK2, Option.bind_some]
    unfold sgn
    rw [if_neg (by omega), if_neg (by omega)]
    rfl
  · refine ⟨K, fun e => ?_⟩
    unfold clevislaw01_wide.f
    rw [hK, Option.bind_some, if_neg (by rw [decide_eq_true_eq]; exact h1), if_pos rfl]
    rfl
end Go.Proofs.Ytjbcigiffihjaaa.Fc
end
