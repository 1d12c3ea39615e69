/- Texts of this seat, put together (ZN10). -/
import Derived.Laws.DeepNot64
import Derived.Test.YtjbcigiffihjaaaZN9
section
namespace Go.Proofs.Ytjbcigiffihjaaa.Fc
set_option linter.unusedSimpArgs false
set_option linter.unusedVariables false
open Go Go.RowKit Go.Proofs.Ytjbcigiffihjaaa.Fx Go.Proofs.YtjbcigiffihjaaaW.PrintWords Go.Proofs.Ytjbcigiffihjaaa.Fv
theorem not_u64 {a : Int} (h : U64 a) : Go.bits .xor .u64 18446744073709551615 a = 18446744073709551615 - a := by
  obtain ⟨n, rfl⟩ := Int.eq_ofNat_of_zero_le h.1
  have hn : n < 18446744073709551616 := by have := h.2; omega
  show IntKind.u64.wrap ((BitVec.ofInt 64 18446744073709551615 ^^^ BitVec.ofInt 64 (n : Int)).toNat : Int) = _
  have h1 : BitVec.ofInt 64 18446744073709551615 = BitVec.allOnes 64 := by decide
  rw [h1, BitVec.allOnes_xor, BitVec.toNat_not, ofInt_u64 n hn, IntKind.wrap_u64]
  omega
theorem not_i64 {a : Int} (h : I64 a) : Go.bits .xor .i64 (-1) a = -1 - a := by
  unfold I64 at h
  show IntKind.i64.wrap ((BitVec.ofInt 64 (-1) ^^^ BitVec.ofInt 64 a).toNat : Int) = _
  have h1 : BitVec.ofInt 64 (-1) = BitVec.allOnes 64 := by decide
  rw [h1, BitVec.allOnes_xor, BitVec.toNat_not, BitVec.toNat_ofInt, IntKind.wrap_i64]
  omega
theorem Minus_f {a0 a1 b0 b1 : Int} (ha : I64 a0) (ua : U64 a1) (hb : I64 b0) (ub : U64 b1) : ∃ r1 r2 r3, fixed_Minus.f a0 a1 b0 b1 = some (r1, r2, r3) ∧ Is128 (W a0 a1 - W b0 b1) r1 r2 r3 := by
  obtain ⟨s, k1, k2⟩ := long_add long_start (by omega) ha ua
  obtain ⟨t, m1, m2⟩ := long_add k2 (by omega) (a0 := -1 - b0) (a1 := 18446744073709551615 - b1) (by unfold I64 at *; omega) (by unfold U64 at *; omega)
  obtain ⟨u, l1, l2⟩ := long_add m2 (by omega) (a0 := 0) (a1 := 1) (by unfold I64; omega) (by unfold U64; omega)
  obtain ⟨r1, r2, r3, j1, j2⟩ := long_wide l2
  refine ⟨r1, r2, r3, ?_, ?_⟩
  · unfold fixed_Minus.f
    rw [not_i64 hb, not_u64 ub]
    dsimp only at k1
    rw [k1, Option.bind_some, m1, Option.bind_some, l1, Option.bind_some, j1]
  · have e : 0 + W a0 a1 + W (-1 - b0) (18446744073709551615 - b1) + W 0 1 = W a0 a1 - W b0 b1 := by unfold W; omega
    rw [e] at j2
    exact j2
theorem Sub_narrow {a b : Int} (ha : I64 a) (hb : I64 b) : ∃ r1 r2, fixed_Sub.f a b = some (r1, r2) ∧ Is64 (a - b) r1 r2 := by
  have h1 := of_W ha
  have h2 := of_W hb
  obtain ⟨r1, r2, r3, j1, j2⟩ := Minus_f h1.1 h1.2.1 h2.1 h2.2.1
  rw [h1.2.2, h2.2.2] at j2
  obtain ⟨q1, q2, i1, i2⟩ := narrow_f j2
  refine ⟨q1, q2, ?_, i2⟩
  unfold fixed_Sub.f fixed_Of.f
  simp only [Option.bind_some]
  rw [j1, Option.bind_some, i1]
  rfl
theorem turned_f {h l : Int} (hh : I64 h) (hl : U64 l) (hm : h ≠ -9223372036854775808 ∨ l ≠ 0) : ∃ r1 r2, fixed_turned.f h l = some (r1, r2) ∧ I64 r1 ∧ U64 r2 ∧ W r1 r2 = -W h l := by
  have hue : IntKind.u64.wrap h = if h < 0 then h + 18446744073709551616 else h := by unfold I64 at hh; rw [IntKind.wrap_u64]; split <;> omega
  obtain ⟨u, hu⟩ : ∃ u, IntKind.u64.wrap h = u := ⟨_, rfl⟩
  have hu0 : U64 u := by rw [← hu, IntKind.wrap_u64]; unfold U64; omega
  unfold fixed_turned.f
  rw [hu, not_u64 hu0, not_u64 hl]
  rw [hu] at hue
  clear hu
  unfold U64 at hl hu0
  rw [addHi_eq (by omega) (by omega) (by omega), addLo_eq (by omega) (by omega) (by omega)]
  refine ⟨_, _, rfl, ?_, ?_, ?_⟩
  · unfold I64 wrap64
    omega
  · unfold U64
    omega
  · unfold I64 at hh
    unfold W
    by_cases h0 : l = 0
    · subst h0
      have e1 : ((18446744073709551615 : Int) - 0 + 1 + 0) / 18446744073709551616 = 1 := by decide
      have e2 : ((18446744073709551615 : Int) - 0 + 1 + 0) % 18446744073709551616 = 0 := by decide
      rw [e1, e2, IntKind.wrap_u64]
      unfold wrap64
      split at hue <;> omega
    · have e1 : (18446744073709551615 - l + 1 + 0) / 18446744073709551616 = 0 := by omega
      have e2 : (18446744073709551615 - l + 1 + 0) % 18446744073709551616 = 18446744073709551616 - l := by omega
      rw [e1, e2, IntKind.wrap_u64]
      unfold wrap64
      split at hue <;> omega
theorem size_u {a : Int} (h : I64 a) : fixed_size.f a = some (a.natAbs : Int) := by
  unfold I64 at h
  unfold fixed_size.f
  split
  · rw [IntKind.wrap_u64, IntKind.wrap_u64]
    congr 1
    omega
  · rw [IntKind.wrap_u64]
    congr 1
    omega
theorem Mul64_f {x y : Int} (hx : U64 x) (hy : U64 y) : bits_Mul64.f x y = some (x * y / 18446744073709551616, x * y % 18446744073709551616) := by
  unfold bits_Mul64.f
  simp only [and_low32 x hx.1 hx.2, and_low32 y hy.1 hy.2]
  rw [and_low32 _ (by rw [IntKind.wrap_u64]; omega) (by rw [IntKind.wrap_u64]; omega)]
  simp only [IntKind.wrap_u64]
  rw [mul64_arith x y hx.1 hx.2 hy.1 hy.2]
theorem Times_f {a b : Int} (ha : I64 a) (hb : I64 b) : ∃ r1 r2, fixed_Times.f a b = some (r1, r2) ∧ I64 r1 ∧ U64 r2 ∧ W r1 r2 = a * b := by
  have ux : U64 (a.natAbs : Int) := by unfold U64; unfold I64 at ha; omega
  have uy : U64 (b.natAbs : Int) := by unfold U64; unfold I64 at hb; omega
  have hle : (a.natAbs : Int) * (b.natAbs : Int) ≤ 9223372036854775808 * 9223372036854775808 := by
    apply Int.mul_le_mul
    · unfold I64 at ha; omega
    · unfold I64 at hb; omega
    · omega
    · omega
  have h0 : 0 ≤ (a.natAbs : Int) * (b.natAbs : Int) := Int.mul_nonneg (by omega) (by omega)
  have hab : a * b = if ((decide (a < 0)) != (decide (b < 0))) = true then -((a.natAbs : Int) * (b.natAbs : Int)) else (a.natAbs : Int) * (b.natAbs : Int) := by
    by_cases h1 : a < 0 <;> by_cases h2 : b < 0
    · rw [if_neg (by simp [h1, h2]), show (a.natAbs : Int) = -a by omega, show (b.natAbs : Int) = -b by omega, Int.neg_mul_neg]
    · rw [if_pos (by simp [h1, h2]), show (a.natAbs : Int) = -a by omega, show (b.natAbs : Int) = b by omega, Int.neg_mul, Int.neg_neg]
    · rw [if_pos (by simp [h1, h2]), show (a.natAbs : Int) = a by omega, show (b.natAbs : Int) = -b by omega, Int.mul_neg, Int.neg_neg]
    · rw [if_neg (by simp [h1, h2]), show (a.natAbs : Int) = a by omega, show (b.natAbs : Int) = b by omega]
  rw [hab]
  unfold fixed_Times.f
  rw [size_u ha, size_u hb, Option.bind_some, Option.bind_some, Mul64_f ux uy, Option.bind_some]
  dsimp only
  generalize (a.natAbs : Int) * (b.natAbs : Int) = p at *
  clear hab ux uy
  have hw : wrap64 (p / 18446744073709551616) = p / 18446744073709551616 := w64 (by omega) (by omega)
  have e1 : I64 (p / 18446744073709551616) := by unfold I64; omega
  have e2 : U64 (p % 18446744073709551616) := by unfold U64; omega
  have e3 : W (p / 18446744073709551616) (p % 18446744073709551616) = p := by unfold W; omega
  rw [hw]
  split
  · obtain ⟨r1, r2, k1, k2, k3, k4⟩ := turned_f e1 e2 (Or.inl (by omega))
    refine ⟨r1, r2, ?_, k2, k3, by rw [k4, e3]⟩
    rw [k1]
    rfl
  · exact ⟨_, _, rfl, e1, e2, e3⟩
theorem Mul_narrow {a b : Int} (ha : I64 a) (hb : I64 b) : ∃ r1 r2, fixed_Mul.f a b = some (r1, r2) ∧ Is64 (a * b) r1 r2 := by
  obtain ⟨r1, r2, h1, h2, h3, h4⟩ := Times_f ha hb
  have h5 := W_fits h2 h3
  rw [h4] at h5
  obtain ⟨q1, q2, i1, i2⟩ := narrow_f (v := a * b) (r3 := 0) (Or.inl ⟨h5, rfl, h2, h3, h4⟩)
  refine ⟨q1, q2, ?_, i2⟩
  unfold fixed_Mul.f
  rw [h1, Option.bind_some, i1]
  rfl
theorem judge64 {v r1 r2 : Int} {n : Bool} {d : List Int} (h : Is64 v r1 r2) (hn : Nm v n d) : ∃ K, ∀ e, clevislaw01_narrow.f (K + e) r1 r2 n d = some true := by
  obtain ⟨K, hK⟩ := fits64 hn
  rcases h with ⟨h1, rfl, rfl⟩ | ⟨h1, rfl, rfl⟩
  · obtain ⟨K1, n1, d1, k1, k2, k3⟩ := Narrow_f r1 h1.1 h1.2
    obtain ⟨K2, hK2⟩ := Compare_f k2 hn
    dsimp only at k1
    refine ⟨K + K1 + K2, fun e => ?_⟩
    unfold clevislaw01_narrow.f
    rw [show K + K1 + K2 + e = K + (K1 + K2 + e) by omega, hK, Option.bind_some, if_pos (by rw [decide_eq_true_eq]; exact h1), if_pos rfl, show K + (K1 + K2 + e) = K1 + (K + K2 + e) by omega, k1, Option.bind_some, show K1 + (K + K2 + e) = K2 + (K + K1 + e) by omega, hK2, Option.bind_some]
    unfold sgn
    rw [if_neg (by omega), if_neg (by omega)]
    rfl
  · refine ⟨K, fun e => ?_⟩
    unfold clevislaw01_narrow.f
    rw [hK, Option.bind_some, if_neg (by rw [decide_eq_true_eq]; exact h1), if_pos rfl]
    rfl
end Go.Proofs.Ytjbcigiffihjaaa.Fc
end
