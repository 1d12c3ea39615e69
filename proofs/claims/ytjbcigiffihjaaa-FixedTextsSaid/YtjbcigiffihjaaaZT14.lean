/- Texts of this seat, put together (ZT14). -/
import Derived.Test.YtjbcigiffihjaaaZT11
import Derived.Test.YtjbcigiffihjaaaZT12
import Derived.Test.YtjbcigiffihjaaaZT13
section
namespace Go.Proofs.Ytjbcigiffihjaaa.Fc
set_option linter.unusedSimpArgs false
set_option linter.unusedVariables false
open Go Go.RowKit Go.Proofs.Ytjbcigiffihjaaa.Fx Go.Proofs.YtjbcigiffihjaaaW.PrintWords Go.Proofs.YtjbcigiffihjaaaW.PrintMore Go.Proofs.Ytjbcigiffihjaaa.Fv
theorem W_inj {a0 a1 b0 b1 : Int} (ha : U64 a1) (hb : U64 b1) (h : W a0 a1 = W b0 b1) : a0 = b0 ∧ a1 = b1 := by
  unfold U64 at ha hb
  unfold W at h
  omega
theorem Parse_any (s : ByteArray) (hl : s.size ≤ 1000) : ∃ K r1 r2 r3, (∀ e, fixed_Parse.f (K + e) s = some (r1, r2, r3)) ∧ (valid (bytesOf s) = true → Is128 (value (bytesOf s)) r1 r2 r3) ∧ (valid (bytesOf s) = false → r1 = 0 ∧ r2 = 0 ∧ r3 = 3) := by
  by_cases h : valid (bytesOf s) = true
  · obtain ⟨K, r1, r2, r3, h1, h2⟩ := Parse_f s hl h
    exact ⟨K, r1, r2, r3, h1, fun _ => h2, fun h3 => by rw [h] at h3; cases h3⟩
  · have h0 : valid (bytesOf s) = false := by simpa using h
    exact ⟨s.size + 5, 0, 0, 3, fun e => Parse_bad s hl h0 e, fun h3 => absurd h3 h, fun _ => ⟨rfl, rfl, rfl⟩⟩
theorem pureFixedTexts (a0 a1 : Int) (s : ByteArray) (ha : I64 a0) (hu : U64 a1) (hs : s.size ≤ 140737488351232) : ∃ k, clevislaw01_FixedTexts.f k a0 a1 s = some true := by
  have hmn : 0 ≤ mn (s.size : Int) 200 ∧ mn (s.size : Int) 200 ≤ (s.size : Int) ∧ mn (s.size : Int) 200 ≤ 200 := by unfold mn; omega
  have hcl : (s.extract 0 (mn (s.size : Int) 200).toNat).size ≤ 1000 := by simp; omega
  generalize hu2 : s.extract 0 (mn (s.size : Int) 200).toNat = u at hcl
  obtain ⟨K1, t, t1, t2, t3, t4⟩ := Text_f ha hu
  obtain ⟨K2, n2, d2, p1, p2⟩ := Digits_f t (by omega)
  have p3 := p2 t3
  obtain ⟨K3, b1, b2, b3, q1, q2, _⟩ := Parse_any t (by omega)
  have q3 := q2 t3
  obtain ⟨K4, c1, c2, c3, r1, r2, r3⟩ := Parse_any u hcl
  obtain ⟨K5, n5, d5, s1, s2⟩ := Digits_f u hcl
  obtain ⟨K6, n6, d6, u1, u2, u3⟩ := Num_f a0 a1 ha.1 ha.2 hu.1 hu.2
  rw [t4] at p3 q3
  obtain ⟨K7, v1⟩ := Compare_f p3 u2
  rw [t3, if_pos rfl] at p1
  dsimp only at p1 u1
  have hb : b1 = a0 ∧ b2 = a1 ∧ b3 = 0 := by
    rcases q3 with ⟨_, h3, h4, h5, h6⟩ | ⟨h, _⟩
    · exact ⟨(W_inj h5 hu h6).1, (W_inj h5 hu h6).2, h3⟩
    · exact absurd (W_fits ha hu) h
  obtain ⟨rfl, rfl, rfl⟩ := hb
  have hsg : sgn (W b1 b2) (W b1 b2) = 0 := by unfold sgn; rw [if_neg (by omega), if_neg (by omega)]
  -- the end
  have hj : ∃ K8, ∀ e, clevislaw01_FixedTexts.j0 (K8 + e) c3 (if valid (bytesOf u) = true then (n5, d5, true) else (false, [], false)).2.2 (!(b1 == b1) || (!(b2 == b2))) c1 c2 (if valid (bytesOf u) = true then (n5, d5, true) else (false, [], false)).1 (if valid (bytesOf u) = true then (n5, d5, true) else (false, [], false)).2.1 = some true := by
    have e0 : (!(b1 == b1) || (!(b2 == b2))) = false := by simp
    rw [e0]
    by_cases hv : valid (bytesOf u) = true
    · obtain ⟨K, hK⟩ := judge128 (r2 hv) (s2 hv)
      refine ⟨K + 1, fun e => ?_⟩
      rw [if_pos hv, show K + 1 + e = (K + e) + 1 by omega, clevislaw01_FixedTexts.j0, if_neg (by simp), if_pos rfl, hK]
      rfl
    · have h0 : valid (bytesOf u) = false := by simpa using hv
      obtain ⟨rfl, rfl, rfl⟩ := r3 h0
      refine ⟨1, fun e => ?_⟩
      rw [if_neg hv, show 1 + e = e + 1 by omega, clevislaw01_FixedTexts.j0, if_neg (by simp), if_neg (by simp), if_pos rfl]
      rfl
  obtain ⟨K8, hj⟩ := hj
  refine ⟨K1 + K2 + K3 + K4 + K5 + K6 + K7 + K8, ?_⟩
  unfold clevislaw01_FixedTexts.f
  rw [if_pos hmn.1, if_pos hmn.2.1, hu2]
  have hk : clevislaw01_known.f = some true := rfl
  rw [show K1 + K2 + K3 + K4 + K5 + K6 + K7 + K8 = K1 + (K2 + K3 + K4 + K5 + K6 + K7 + K8) by omega, t1, Option.bind_some]
  rw [show K1 + (K2 + K3 + K4 + K5 + K6 + K7 + K8) = K2 + (K1 + K3 + K4 + K5 + K6 + K7 + K8) by omega, p1, Option.bind_some]
  rw [show K2 + (K1 + K3 + K4 + K5 + K6 + K7 + K8) = K3 + (K1 + K2 + K4 + K5 + K6 + K7 + K8) by omega, q1, Option.bind_some]
  rw [show K3 + (K1 + K2 + K4 + K5 + K6 + K7 + K8) = K4 + (K1 + K2 + K3 + K5 + K6 + K7 + K8) by omega, r1, Option.bind_some]
  rw [show K4 + (K1 + K2 + K3 + K5 + K6 + K7 + K8) = K5 + (K1 + K2 + K3 + K4 + K6 + K7 + K8) by omega, s1, Option.bind_some]
  rw [hk, Option.bind_some, if_pos rfl]
  dsimp only
  rw [if_pos rfl]
  rw [show K5 + (K1 + K2 + K3 + K4 + K6 + K7 + K8) = K6 + (K1 + K2 + K3 + K4 + K5 + K7 + K8) by omega, u1, Option.bind_some]
  dsimp only
  rw [show K6 + (K1 + K2 + K3 + K4 + K5 + K7 + K8) = K7 + (K1 + K2 + K3 + K4 + K5 + K6 + K8) by omega, v1, Option.bind_some, hsg, if_pos rfl, if_pos rfl]
  rw [show K7 + (K1 + K2 + K3 + K4 + K5 + K6 + K8) = K8 + (K1 + K2 + K3 + K4 + K5 + K6 + K7) by omega]
  exact hj _
theorem texts_c (a0 a1 : Int) (s : ByteArray) (w : World) (ha : I64 a0) (hu : U64 a1) (hs : s.size ≤ 140737488351232) : Calls Try.prog 4 #[.agg #[.int .i64 a0, .int .u64 a1], .string s] w fun e w' => e = .returned (.bool true) ∧ Below w.heap.size w w' := by
  obtain ⟨k, hk⟩ := pureFixedTexts a0 a1 s ha hu hs
  exact clevislaw01_FixedTexts.calls k a0 a1 s true w hk
end Go.Proofs.Ytjbcigiffihjaaa.Fc
end
