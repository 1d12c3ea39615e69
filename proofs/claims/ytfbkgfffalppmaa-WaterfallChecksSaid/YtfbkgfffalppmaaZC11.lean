/- Texts of this seat, put together (ZC11). -/
import Derived.Laws.MathBits
import Derived.Laws.BitsAllLaws
import Derived.Test.YtfbkgfffalppmaaZC4
import Derived.Test.YtfbkgfffalppmaaZC5
import Derived.Test.YtfbkgfffalppmaaZC10
section
namespace Go.Proofs.Ytfbkgfffalppmaa.Fc
set_option linter.unusedSimpArgs false
set_option linter.unusedVariables false
open Go Go.RowKit Go.Proofs.Ytfbkgfffalppmaa.Wf Go.Proofs.YtfbkgfffalppmaaW.PrintWords Go.Proofs.Ytfbkgfffalppmaa.Fv
def I64 (x : Int) : Prop := -9223372036854775808 ≤ x ∧ x ≤ 9223372036854775807
def U64 (x : Int) : Prop := 0 ≤ x ∧ x < 18446744073709551616
def F128 (v : Int) : Prop := -170141183460469231731687303715884105728 ≤ v ∧ v ≤ 170141183460469231731687303715884105727
instance (x : Int) : Decidable (I64 x) := by unfold I64; exact inferInstance
instance (x : Int) : Decidable (F128 x) := by unfold F128; exact inferInstance
def Is128 (v r1 r2 r3 : Int) : Prop := (F128 v ∧ r3 = 0 ∧ I64 r1 ∧ U64 r2 ∧ W r1 r2 = v) ∨ (¬ F128 v ∧ r1 = 0 ∧ r2 = 0 ∧ r3 = 4)
def Is64 (v r1 r2 : Int) : Prop := (I64 v ∧ r1 = v ∧ r2 = 0) ∨ (¬ I64 v ∧ r1 = 0 ∧ r2 = 4)
theorem addHi_eq {x y c : Int} (hx : 0 ≤ x) (hy : 0 ≤ y) (hc : 0 ≤ c) : addHi x y c = (x + y + c) / 18446744073709551616 := by
  unfold addHi
  rw [Int.toNat_of_nonneg hx, Int.toNat_of_nonneg hy, Int.toNat_of_nonneg hc]
theorem addLo_eq {x y c : Int} (hx : 0 ≤ x) (hy : 0 ≤ y) (hc : 0 ≤ c) : addLo x y c = (x + y + c) % 18446744073709551616 := by
  unfold addLo
  rw [Int.toNat_of_nonneg hx, Int.toNat_of_nonneg hy, Int.toNat_of_nonneg hc]
def L (s : Int × Int × Int) : Int := s.1 * 340282366920938463463374607431768211456 + s.2.1 * 18446744073709551616 + s.2.2
def Long (n v : Int) (s : Int × Int × Int) : Prop := U64 s.2.1 ∧ U64 s.2.2 ∧ -n ≤ s.1 ∧ s.1 ≤ n ∧ L s = v
theorem long_add {n v a0 a1 : Int} {s : Int × Int × Int} (h : Long n v s) (hn : n ≤ 1000000) (ha : I64 a0) (hu : U64 a1) : ∃ r, fixed_long_add.f s.1 s.2.1 s.2.2 a0 a1 = some r ∧ Long (n + 1) (v + W a0 a1) r := by
  obtain ⟨s0, s1, s2⟩ := s
  obtain ⟨h1, h2, h3, h4, h5⟩ := h
  dsimp only at h1 h2 h3 h4 h5
  unfold U64 at h1 h2 hu
  unfold I64 at ha
  unfold L at h5
  dsimp only at h5
  have e1 : addHi s2 a1 0 = (s2 + a1) / 18446744073709551616 := by rw [addHi_eq h2.1 hu.1 (by omega), Int.add_zero]
  have e2 : addLo s2 a1 0 = (s2 + a1) % 18446744073709551616 := by rw [addLo_eq h2.1 hu.1 (by omega), Int.add_zero]
  obtain ⟨c, hc⟩ : ∃ c, (s2 + a1) / 18446744073709551616 = c := ⟨_, rfl⟩
  obtain ⟨lo, hlo⟩ : ∃ c, (s2 + a1) % 18446744073709551616 = c := ⟨_, rfl⟩
  have hs : s2 + a1 = c * 18446744073709551616 + lo := by omega
  have c0 : 0 ≤ c ∧ c ≤ 1 := by omega
  have l0 : 0 ≤ lo ∧ lo < 18446744073709551616 := by omega
  rw [hc] at e1
  rw [hlo] at e2
  clear hc hlo
  have hue : IntKind.u64.wrap a0 = if a0 < 0 then a0 + 18446744073709551616 else a0 := by rw [IntKind.wrap_u64]; split <;> omega
  obtain ⟨u, hu1⟩ : ∃ u, IntKind.u64.wrap a0 = u := ⟨_, rfl⟩
  have u0 : 0 ≤ u ∧ u < 18446744073709551616 := by rw [← hu1, IntKind.wrap_u64]; omega
  rw [hu1] at hue
  have f1 : addHi s1 u c = (s1 + u + c) / 18446744073709551616 := addHi_eq h1.1 u0.1 c0.1
  have f2 : addLo s1 u c = (s1 + u + c) % 18446744073709551616 := addLo_eq h1.1 u0.1 c0.1
  obtain ⟨d, hd⟩ : ∃ z, (s1 + u + c) / 18446744073709551616 = z := ⟨_, rfl⟩
  obtain ⟨mi, hmi⟩ : ∃ z, (s1 + u + c) % 18446744073709551616 = z := ⟨_, rfl⟩
  have hs' : s1 + u + c = d * 18446744073709551616 + mi := by omega
  have d0 : 0 ≤ d ∧ d ≤ 1 := by omega
  have m0 : 0 ≤ mi ∧ mi < 18446744073709551616 := by omega
  rw [hd] at f1
  rw [hmi] at f2
  clear hd hmi
  have g1 : wrap64 d = d := w64 (by omega) (by omega)
  have g2 : a0 / 9223372036854775808 = if a0 < 0 then -1 else 0 := by split <;> omega
  obtain ⟨q, hq⟩ : ∃ q, (if a0 < 0 then (-1 : Int) else 0) = q := ⟨_, rfl⟩
  rw [hq] at g2
  have q0 : -1 ≤ q ∧ q ≤ 0 := by rw [← hq]; split <;> omega
  have g3 : wrap64 (q + d) = q + d := w64 (by omega) (by omega)
  have g4 : wrap64 (s0 + (q + d)) = s0 + (q + d) := w64 (by omega) (by omega)
  refine ⟨(s0 + (q + d), mi, lo), ?_, m0, l0, ?_, ?_, ?_⟩
  · show fixed_long_add.f s0 s1 s2 a0 a1 = _
    unfold fixed_long_add.f
    rw [e1, e2, hu1, f1, f2, g1, g2, g3, g4, if_pos c0.2]
  · show -(n + 1) ≤ s0 + (q + d)
    omega
  · show s0 + (q + d) ≤ n + 1
    omega
  · unfold L W
    dsimp only
    clear g1 g2 g3 g4 e1 e2 f1 f2 hu1
    by_cases ha0 : a0 < 0
    · rw [if_pos ha0] at hue hq
      omega
    · rw [if_neg ha0] at hue hq
      omega
theorem long_start : Long 0 0 (0, 0, 0) := ⟨⟨by simp, by simp⟩, ⟨by simp, by simp⟩, by simp, by simp, rfl⟩
theorem long_wide {n v : Int} {s : Int × Int × Int} (h : Long n v s) : ∃ r1 r2 r3, longWide s = some (r1, r2, r3) ∧ Is128 v r1 r2 r3 := by
  obtain ⟨s0, s1, s2⟩ := s
  obtain ⟨h1, h2, h3, h4, h5⟩ := h
  dsimp only at h1 h2 h3 h4 h5
  unfold L at h5
  dsimp only at h5
  have hw : wrap64 s1 = if s1 < 9223372036854775808 then s1 else s1 - 18446744073709551616 := by unfold U64 at h1; unfold wrap64; split <;> omega
  obtain ⟨x, hx⟩ : ∃ x, wrap64 s1 = x := ⟨_, rfl⟩
  have hx0 : I64 x := by rw [← hx]; unfold I64 wrap64; omega
  unfold longWide fixed_fits.f
  dsimp only
  rw [hx]
  rw [hx] at hw
  clear hx
  by_cases hb : s0 = x / 9223372036854775808
  · rw [if_pos (by simpa using hb)]
    refine ⟨_, _, _, rfl, Or.inl ⟨?_, rfl, hx0, h2, ?_⟩⟩
    · unfold F128
      unfold U64 at h1 h2
      unfold I64 at hx0
      split at hw <;> omega
    · unfold W
      unfold U64 at h1 h2
      unfold I64 at hx0
      split at hw <;> omega
  · rw [if_neg (by simpa using hb)]
    refine ⟨_, _, _, rfl, Or.inr ⟨?_, rfl, rfl, rfl⟩⟩
    unfold F128
    unfold U64 at h1 h2
    unfold I64 at hx0
    split at hw <;> omega
theorem Int_f {h l : Int} (hh : I64 h) (hl : U64 l) : ∃ r1 r2, fixed_Int.f h l = some (r1, r2) ∧ Is64 (W h l) r1 r2 := by
  have hw : wrap64 l = if l < 9223372036854775808 then l else l - 18446744073709551616 := by unfold U64 at hl; unfold wrap64; split <;> omega
  obtain ⟨x, hx⟩ : ∃ x, wrap64 l = x := ⟨_, rfl⟩
  unfold fixed_Int.f
  rw [hx]
  rw [hx] at hw
  clear hx
  unfold U64 at hl
  unfold I64 at hh
  by_cases hb : h = x / 9223372036854775808
  · rw [if_pos hb]
    refine ⟨_, _, rfl, Or.inl ⟨?_, ?_, rfl⟩⟩
    · unfold I64 W
      split at hw <;> omega
    · unfold W
      split at hw <;> omega
  · rw [if_neg hb]
    refine ⟨_, _, rfl, Or.inr ⟨?_, rfl, rfl⟩⟩
    unfold I64 W
    split at hw <;> omega
theorem narrow_f {v r1 r2 r3 : Int} (h : Is128 v r1 r2 r3) : ∃ q1 q2, fixed_narrow.f r1 r2 r3 = some (q1, q2) ∧ Is64 v q1 q2 := by
  rcases h with ⟨h1, rfl, h2, h3, rfl⟩ | ⟨h1, rfl, rfl, rfl⟩
  · obtain ⟨q1, q2, k1, k2⟩ := Int_f h2 h3
    refine ⟨q1, q2, ?_, k2⟩
    unfold fixed_narrow.f
    rw [if_pos rfl, k1]
    rfl
  · refine ⟨0, 4, by unfold fixed_narrow.f; rw [if_neg (by omega)], Or.inr ⟨?_, rfl, rfl⟩⟩
    unfold F128 at h1
    unfold I64
    omega
theorem of_W {a : Int} (h : I64 a) : I64 (a / 9223372036854775808) ∧ U64 (IntKind.u64.wrap a) ∧ W (a / 9223372036854775808) (IntKind.u64.wrap a) = a := by
  have hue : IntKind.u64.wrap a = if a < 0 then a + 18446744073709551616 else a := by unfold I64 at h; rw [IntKind.wrap_u64]; split <;> omega
  unfold I64 at h
  rw [hue]
  unfold I64 U64 W
  split <;> refine ⟨?_, ?_, ?_⟩ <;> omega
theorem longSum_f : ∀ (l : List Int) (n v : Int) (s : Int × Int × Int), Long n v s → n + l.length ≤ 1000000 → (∀ a ∈ l, I64 a) → ∃ r m, longSum l s = some r ∧ Long m (v + l.sum) r
  | [], n, v, s, h, hn, ha => ⟨s, n, rfl, by simpa using h⟩
  | a :: l, n, v, s, h, hn, ha => by
    have h0 := of_W (ha a (by simp))
    rw [List.length_cons] at hn
    obtain ⟨t, k1, k2⟩ := long_add h (by omega) h0.1 h0.2.1
    rw [h0.2.2] at k2
    obtain ⟨r, m, j1, j2⟩ := longSum_f l (n + 1) _ t k2 (by omega) (fun x hx => ha x (by simp [hx]))
    refine ⟨r, m, ?_, ?_⟩
    · rw [longSum, k1]
      exact j1
    · rw [show v + (a :: l).sum = v + a + l.sum by simp; omega]
      exact j2
theorem Sum_f (l : List Int) (hl : l.length ≤ 1000000) (ha : ∀ a ∈ l, I64 a) : ∃ r1 r2, fixed_Sum.f l = some (r1, r2) ∧ Is64 l.sum r1 r2 := by
  obtain ⟨s, m, k1, k2⟩ := longSum_f l 0 0 _ long_start (by omega) ha
  obtain ⟨r1, r2, r3, j1, j2⟩ := long_wide k2
  obtain ⟨q1, q2, i1, i2⟩ := narrow_f j2
  refine ⟨q1, q2, ?_, by simpa using i2⟩
  unfold fixed_Sum.f
  rw [k1, Option.bind_some, j1]
  exact i1
end Go.Proofs.Ytfbkgfffalppmaa.Fc
end
