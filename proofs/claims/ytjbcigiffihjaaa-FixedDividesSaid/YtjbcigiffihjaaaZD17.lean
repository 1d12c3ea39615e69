/- Texts of this seat, put together (ZD17). -/
import Derived.Test.YtjbcigiffihjaaaZD15
import Derived.Test.YtjbcigiffihjaaaZD16
section
namespace Go.Proofs.Ytjbcigiffihjaaa.Fc
set_option linter.unusedSimpArgs false
set_option linter.unusedVariables false
open Go Go.RowKit Go.Proofs.Ytjbcigiffihjaaa.Fx Go.Proofs.YtjbcigiffihjaaaW.PrintWords Go.Proofs.YtjbcigiffihjaaaW.PrintMore Go.Proofs.Ytjbcigiffihjaaa.Fv
theorem qt_fits {A d how : Int} (hA : F128 A) (h0 : d ≠ 0) (hh : 0 ≤ how ∧ how ≤ 3) (h : ¬ F128 (qt A d how)) : A = -170141183460469231731687303715884105728 ∧ d = -1 := by
  have e1 := Int.mul_ediv_add_emod (A.natAbs : Int) (d.natAbs : Int)
  have e2 := Int.emod_nonneg (A.natAbs : Int) (show (d.natAbs : Int) ≠ 0 by omega)
  have e3 := Int.emod_lt_of_pos (A.natAbs : Int) (show (0 : Int) < d.natAbs by omega)
  have e4 : 0 ≤ (A.natAbs : Int) / d.natAbs := Int.ediv_nonneg (by omega) (by omega)
  unfold qt at h
  by_cases hd : d.natAbs = 1
  · have hR : (A.natAbs : Int) % d.natAbs = 0 := by rw [hd]; simp
    have hQ : (A.natAbs : Int) / d.natAbs = A.natAbs := by rw [hd]; simp
    have hu : ∀ bl Q b, upB how bl Q 0 b = false := fun bl Q b => by unfold upB; rw [if_pos rfl]
    dsimp only at h
    rw [hR, hQ, hu] at h
    simp only [Bool.false_eq_true, if_false, Int.add_zero] at h
    unfold F128 at h hA
    by_cases c1 : A < 0 <;> by_cases c2 : d < 0 <;> simp only [c1, c2, decide_true, decide_false, bne_self_eq_false, Bool.true_bne, Bool.false_bne, Bool.not_true, Bool.not_false, if_true, if_false, Bool.false_eq_true] at h <;> omega
  · exfalso
    apply h
    have hb : 2 ≤ (d.natAbs : Int) := by omega
    have hle : 2 * ((A.natAbs : Int) / d.natAbs) ≤ A.natAbs := by
      have := Int.mul_le_mul_of_nonneg_right hb e4
      omega
    dsimp only
    clear e1 e2 e3 h
    unfold F128 at hA ⊢
    generalize (A.natAbs : Int) / d.natAbs = Q at *
    split <;> split <;> omega
theorem pureFixedDivides (a0 a1 d how : Int) (ha : I64 a0) (hu : U64 a1) (hd : I64 d) : ∃ k, clevislaw01_FixedDivides.f k a0 a1 d how = some true := by
  have hk : clevislaw01_known.f = some true := rfl
  by_cases hbad : d = 0 ∨ how < 0 ∨ how > 3
  · refine ⟨2, ?_⟩
    unfold clevislaw01_FixedDivides.f
    rw [show (2 : Nat) = 1 + 1 by rfl, Divide_bad a0 a1 d how hbad 1, Option.bind_some]
    have key : clevislaw01_FixedDivides.j0 (1 + 1) d how 1 true a0 a1 0 0 = some true := by
      rw [clevislaw01_FixedDivides.j0, if_pos rfl, hk, Option.bind_some, if_pos rfl, if_pos rfl]
      rfl
    dsimp only
    by_cases c1 : d = 0
    · rw [if_pos c1]; exact key
    · rw [if_neg c1]
      by_cases c2 : how < 0
      · rw [if_pos c2]; exact key
      · rw [if_neg c2, decide_eq_true (by omega)]; exact key
  · have h0 : d ≠ 0 := by omega
    have hh : 0 ≤ how ∧ how ≤ 3 := by omega
    obtain ⟨K1, r1, r2, r3, k1, k2⟩ := Divide_f ha hu hd h0 hh
    have start : ∀ K, (∀ e, clevislaw01_FixedDivides.j0 (K + e) d how r3 false a0 a1 r1 r2 = some true) → ∃ k, clevislaw01_FixedDivides.f k a0 a1 d how = some true := fun K hK => by
      refine ⟨K1 + K, ?_⟩
      unfold clevislaw01_FixedDivides.f
      rw [k1, Option.bind_some, if_neg h0, if_neg (by omega), decide_eq_false (by omega), show K1 + K = K + K1 by omega]
      exact hK _
    rcases k2 with ⟨hF, rfl, i1, i2, hW⟩ | ⟨hF, rfl, rfl, rfl⟩
    · obtain ⟨K2, n2, d2, u1, u2, u3⟩ := Num_f a0 a1 ha.1 ha.2 hu.1 hu.2
      obtain ⟨K3, n3, d3, v1, v2, v3⟩ := Narrow_f d hd.1 hd.2
      obtain ⟨K4, n4, d4, w1, w2, w3⟩ := Num_f r1 r2 i1.1 i1.2 i2.1 i2.2
      rw [hW] at w2
      obtain ⟨K5, x1⟩ := Rounded_f u2 v2 w2 (by omega) (by omega) (by omega) hh (qt_Rd h0 hh)
      dsimp only at u1 v1 w1
      refine start (K2 + K3 + K4 + K5 + 1) (fun e => ?_)
      rw [show K2 + K3 + K4 + K5 + 1 + e = (K2 + (K3 + K4 + K5 + e)) + 1 by omega, clevislaw01_FixedDivides.j0, if_neg (by simp), if_neg (by omega), hk, Option.bind_some, if_pos rfl, if_pos rfl, u1, Option.bind_some]
      dsimp only
      rw [show K2 + (K3 + K4 + K5 + e) = K3 + (K2 + K4 + K5 + e) by omega, v1, Option.bind_some]
      dsimp only
      rw [show K3 + (K2 + K4 + K5 + e) = K4 + (K2 + K3 + K5 + e) by omega, w1, Option.bind_some]
      dsimp only
      rw [show K4 + (K2 + K3 + K5 + e) = K5 + (K2 + K3 + K4 + e) by omega, x1]
      rfl
    · obtain ⟨hA, hd1⟩ := qt_fits (W_fits ha hu) h0 hh hF
      have hx : a0 = -9223372036854775808 ∧ a1 = 0 := by unfold W at hA; unfold I64 at ha; unfold U64 at hu; omega
      obtain ⟨rfl, rfl⟩ := hx
      subst hd1
      refine start 1 (fun e => ?_)
      rw [show 1 + e = e + 1 by omega, clevislaw01_FixedDivides.j0, if_neg (by simp), if_pos rfl, hk, Option.bind_some, if_pos rfl, if_pos (by decide), if_pos rfl]
      rfl
theorem divides_c (a0 a1 d how : Int) (w : World) (ha : I64 a0) (hu : U64 a1) (hd : I64 d) : Calls Try.prog 3 #[.agg #[.int .i64 a0, .int .u64 a1], .int .i64 d, .int .i64 how] w fun e w' => e = .returned (.bool true) ∧ Below w.heap.size w w' := by
  obtain ⟨k, hk⟩ := pureFixedDivides a0 a1 d how ha hu hd
  exact clevislaw01_FixedDivides.calls k a0 a1 d how true w hk
end Go.Proofs.Ytjbcigiffihjaaa.Fc
end
