/- Texts of this seat, put together (ZD12). -/
import Derived.Test.YtjbcigiffihjaaaZD6
import Derived.Test.YtjbcigiffihjaaaZD10
import Derived.Test.YtjbcigiffihjaaaZD11
section
namespace Go.Proofs.Ytjbcigiffihjaaa.Fc
set_option linter.unusedSimpArgs false
set_option linter.unusedVariables false
open Go Go.RowKit Go.Proofs.Ytjbcigiffihjaaa.Fx Go.Proofs.YtjbcigiffihjaaaW.PrintWords Go.Proofs.YtjbcigiffihjaaaW.PrintMore Go.Proofs.Ytjbcigiffihjaaa.Fv
theorem signed_f {hi lo : Int} (neg : Bool) (h1 : U64 hi) (h2 : U64 lo) (hz : neg = true → ¬ (hi = 0 ∧ lo = 0)) (e : Nat) : ∃ r1 r2 r3, fixed_signed.f (e + 1) hi lo neg = some (r1, r2, r3) ∧ Is128 (if neg = true then -(hi * 18446744073709551616 + lo) else hi * 18446744073709551616 + lo) r1 r2 r3 := by
  have hw : wrap64 hi = if hi < 9223372036854775808 then hi else hi - 18446744073709551616 := by unfold U64 at h1; unfold wrap64; split <;> omega
  unfold fixed_signed.f
  cases neg
  · rw [if_neg (show ¬ (false = true) by simp), if_neg (show ¬ (false = true) by simp), fixed_signed.j0, if_neg (by simp)]
    by_cases c : hi ≥ 9223372036854775808
    · rw [if_pos c]
      refine ⟨0, 0, 4, rfl, Or.inr ⟨?_, rfl, rfl, rfl⟩⟩
      unfold F128; unfold U64 at h2
      omega
    · rw [if_neg c, if_neg (by simp), hw, if_pos (by omega)]
      refine ⟨_, _, _, rfl, Or.inl ⟨?_, rfl, ?_, h2, rfl⟩⟩
      · unfold F128; unfold U64 at h1 h2
        omega
      · unfold I64; unfold U64 at h1
        omega
  · rw [if_pos rfl, if_pos rfl]
    have hz2 := hz rfl
    by_cases c : hi = 9223372036854775808
    · rw [if_pos c, fixed_signed.j0]
      by_cases c2 : lo = 0
      · rw [if_pos (by simpa using c2), hw, if_neg (by omega)]
        refine ⟨_, _, _, rfl, Or.inl ⟨?_, rfl, ?_, h2, ?_⟩⟩
        · unfold F128; omega
        · unfold I64; omega
        · unfold W; omega
      · rw [if_neg (by simpa using c2), if_pos (by omega)]
        refine ⟨0, 0, 4, rfl, Or.inr ⟨?_, rfl, rfl, rfl⟩⟩
        unfold F128; unfold U64 at h2
        omega
    · rw [if_neg c, fixed_signed.j0, if_neg (by simp)]
      by_cases c2 : hi ≥ 9223372036854775808
      · rw [if_pos c2]
        refine ⟨0, 0, 4, rfl, Or.inr ⟨?_, rfl, rfl, rfl⟩⟩
        unfold F128; unfold U64 at h2
        omega
      · rw [if_neg c2, if_pos rfl, hw, if_pos (by omega)]
        obtain ⟨r1, r2, k1, k2, k3, k4⟩ := turned_f (h := hi) (l := lo) (by unfold I64; unfold U64 at h1; omega) h2 (Or.inl (by unfold U64 at h1; omega))
        rw [k1, Option.bind_some]
        refine ⟨_, _, _, rfl, Or.inl ⟨?_, rfl, k2, k3, ?_⟩⟩
        · unfold F128; unfold U64 at h1 h2
          omega
        · rw [k4]
          rfl
end Go.Proofs.Ytjbcigiffihjaaa.Fc
end
section
namespace Go.Proofs.Ytjbcigiffihjaaa.Fc
set_option linter.unusedSimpArgs false
set_option linter.unusedVariables false
open Go Go.RowKit Go.Proofs.Ytjbcigiffihjaaa.Fx Go.Proofs.YtjbcigiffihjaaaW.PrintWords Go.Proofs.YtjbcigiffihjaaaW.PrintMore Go.Proofs.Ytjbcigiffihjaaa.Fv
theorem turned_least : fixed_turned.f (-9223372036854775808) 0 = some (-9223372036854775808, 0) := by decide +kernel
theorem away_f {a0 a1 : Int} (ha : I64 a0) (hu : U64 a1) : ∃ h l, fixed_away.f a0 a1 = some (h, l, decide (W a0 a1 < 0)) ∧ U64 h ∧ U64 l ∧ h ≤ 9223372036854775808 ∧ h * 18446744073709551616 + l = (W a0 a1).natAbs := by
  unfold fixed_away.f
  by_cases c : a0 < 0
  · have hn : W a0 a1 < 0 := by unfold W; unfold U64 at hu; omega
    rw [if_pos c, decide_eq_true hn]
    by_cases c2 : a0 = -9223372036854775808 ∧ a1 = 0
    · obtain ⟨rfl, rfl⟩ := c2
      rw [turned_least]
      exact ⟨_, _, rfl, by unfold U64; decide, by unfold U64; decide, by decide, by decide⟩
    · obtain ⟨r1, r2, h1, h2, h3, h4⟩ := turned_f ha hu (by omega)
      rw [h1]
      have h5 : 0 ≤ r1 := by unfold W at h4 hn; unfold U64 at h3; unfold I64 at h2; omega
      refine ⟨_, _, rfl, ?_, h3, ?_, ?_⟩
      · rw [IntKind.wrap_u64]; unfold U64; omega
      · rw [IntKind.wrap_u64]; unfold I64 at h2; omega
      · dsimp only
        rw [wu h5 (by unfold I64 at h2; omega)]
        unfold W at h4 hn ⊢
        omega
  · have hn : ¬ W a0 a1 < 0 := by unfold W; unfold U64 at hu; omega
    rw [if_neg c, decide_eq_false hn]
    refine ⟨_, _, rfl, ?_, hu, ?_, ?_⟩
    · rw [IntKind.wrap_u64]; unfold U64; omega
    · rw [IntKind.wrap_u64]; unfold I64 at ha; omega
    · rw [wu (by omega) (by unfold I64 at ha; omega)]
      unfold W at hn ⊢
      omega
end Go.Proofs.Ytjbcigiffihjaaa.Fc
end
