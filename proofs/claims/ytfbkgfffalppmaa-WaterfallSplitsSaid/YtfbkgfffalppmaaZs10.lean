/- Texts of this seat, put together (Zs10). -/
import Derived.Laws.MathBits
import Derived.Laws.BitsAllLaws
import Derived.KernelRfl
import Derived.Test.YtfbkgfffalppmaaZs6
import Derived.Test.YtfbkgfffalppmaaZs9
section
namespace Go.Proofs.Ytfbkgfffalppmaa.Fc
set_option linter.unusedSimpArgs false
set_option linter.unusedVariables false
open Go Go.RowKit Go.Proofs.Ytfbkgfffalppmaa.Wf Go.Proofs.YtfbkgfffalppmaaW.PrintWords Go.Proofs.Ytfbkgfffalppmaa.Fv
def I64 (x : Int) : Prop := -9223372036854775808 ≤ x ∧ x ≤ 9223372036854775807
def U64 (x : Int) : Prop := 0 ≤ x ∧ x < 18446744073709551616
def F128 (v : Int) : Prop := -170141183460469231731687303715884105728 ≤ v ∧ v ≤ 170141183460469231731687303715884105727
instance (x : Int) : Decidable (I64 x) := by unfold I64; exact inferInstance
instance (x : Int) : Decidable (F128 x) := by unfold F128; exact inferInstance
def Is128 (v r1 r2 r3 : Int) : Prop := (F128 v ∧ r3 = 0 ∧ I64 r1 ∧ U64 r2 ∧ W r1 r2 = v) ∨ (¬ F128 v ∧ r1 = 0 ∧ r2 = 0 ∧ r3 = 4)
def Is64 (v r1 r2 : Int) : Prop := (I64 v ∧ r1 = v ∧ r2 = 0) ∨ (¬ I64 v ∧ r1 = 0 ∧ r2 = 4)
theorem addHi_eq {x y c : Int} (hx : 0 ≤ x) (hy : 0 ≤ y) (hc : 0 ≤ c) : addHi x y c = (x + y + c) / 18446744073709551616 := by
  unfold addHi
  rw [Int.toNat_of_nonneg hx, Int.toNat_of_nonneg hy, Int.toNat_of_nonneg hc]
theorem addLo_eq {x y c : Int} (hx : 0 ≤ x) (hy : 0 ≤ y) (hc : 0 ≤ c) : addLo x y c = (x + y + c) % 18446744073709551616 := by
  unfold addLo
  rw [Int.toNat_of_nonneg hx, Int.toNat_of_nonneg hy, Int.toNat_of_nonneg hc]
def L (s : Int × Int × Int) : Int := s.1 * 340282366920938463463374607431768211456 + s.2.1 * 18446744073709551616 + s.2.2
def Long (n v : Int) (s : Int × Int × Int) : Prop := U64 s.2.1 ∧ U64 s.2.2 ∧ -n ≤ s.1 ∧ s.1 ≤ n ∧ L s = v
theorem long_add {n v a0 a1 : Int} {s : Int × Int × Int} (h : Long n v s) (hn : n ≤ 1000000) (ha : I64 a0) (hu : U64 a1) : ∃ r, fixed_long_add.f s.1 s.2.1 s.2.2 a0 a1 = some r ∧ Long (n + 1) (v + W a0 a1) r := by
  obtain ⟨s0, s1, s2⟩ := s
  obtain ⟨h1, h2, h3, h4, h5⟩ := h
  dsimp only at h1 h2 h3 h4 h5
  unfold U64 at h1 h2 hu
  unfold I64 at ha
  unfold L at h5
  dsimp only at h5
  have e1 : addHi s2 a1 0 = (s2 + a1) / 18446744073709551616 := by rw [addHi_eq h2.1 hu.1 (by omega), Int.add_zero]
  have e2 : addLo s2 a1 0 = (s2 + a1) % 18446744073709551616 := by rw [addLo_eq h2.1 hu.1 (by omega), Int.add_zero]
  obtain ⟨c, hc⟩ : ∃ c, (s2 + a1) / 18446744073709551616 = c := ⟨_, rfl⟩
  obtain ⟨lo, hlo⟩ : ∃ c, (s2 + a1) % 18446744073709551616 = c := ⟨_, rfl⟩
  have hs : s2 + a1 = c * 18446744073709551616 + lo := by omega
  have c0 : 0 ≤ c ∧ c ≤ 1 := by omega
  have l0 : 0 ≤ lo ∧ lo < 18446744073709551616 := by omega
  rw [hc] at e1
  rw [hlo] at e2
  clear hc hlo
  have hue : IntKind.u64.wrap a0 = if a0 < 0 then a0 + 18446744073709551616 else a0 := by rw [IntKind.wrap_u64]; split <;> omega
  obtain ⟨u, hu1⟩ : ∃ u, IntKind.u64.wrap a0 = u := ⟨_, rfl⟩
  have u0 : 0 ≤ u ∧ u < 18446744073709551616 := by rw [← hu1, IntKind.wrap_u64]; omega
  rw [hu1] at hue
  have f1 : addHi s1 u c = (s1 + u + c) / 18446744073709551616 := addHi_eq h1.1 u0.1 c0.1
  have f2 : addLo s1 u c = (s1 + u + c) % 18446744073709551616 := addLo_eq h1.1 u0.1 c0.1
  obtain ⟨d, hd⟩ : ∃ z, (s1 + u + c) / 18446744073709551616 = z := ⟨_, rfl⟩
  obtain ⟨mi, hmi⟩ : ∃ z, (s1 + u + c) % 18446744073709551616 = z := ⟨_, rfl⟩
  have hs' : s1 + u + c = d * 18446744073709551616 + mi := by omega
  have d0 : 0 ≤ d ∧ d ≤ 1 := by omega
  have m0 : 0 ≤ mi ∧ mi < 18446744073709551616 := by omega
  rw [hd] at f1
  rw [hmi] at f2
  clear hd hmi
  have g1 : wrap64 d = d := w64 (by omega) (by omega)
  have g2 : a0 / 9223372036854775808 = if a0 < 0 then -1 else 0 := by split <;> omega
  obtain ⟨q, hq⟩ : ∃ q, (if a0 < 0 then (-1 : Int) else 0) = q := ⟨_, rfl⟩
  rw [hq] at g2
  have q0 : -1 ≤ q ∧ q ≤ 0 := by rw [← hq]; split <;> omega
  have g3 : wrap64 (q + d) = q + d := w64 (by omega) (by omega)
  have g4 : wrap64 (s0 + (q + d)) = s0 + (q + d) := w64 (by omega) (by omega)
  refine ⟨(s0 + (q + d), mi, lo), ?_, m0, l0, ?_, ?_, ?_⟩
  · show fixed_long_add.f s0 s1 s2 a0 a1 = _
    unfold fixed_long_add.f
    rw [e1, e2, hu1, f1, f2, g1, g2, g3, g4, if_pos c0.2]
  · show -(n + 1) ≤ s0 + (q + d)
    omega
  · show s0 + (q + d) ≤ n + 1
    omega
  · unfold L W
    dsimp only
    clear g1 g2 g3 g4 e1 e2 f1 f2 hu1
    by_cases ha0 : a0 < 0
    · rw [if_pos ha0] at hue hq
      omega
    · rw [if_neg ha0] at hue hq
      omega
theorem long_start : Long 0 0 (0, 0, 0) := ⟨⟨by simp, by simp⟩, ⟨by simp, by simp⟩, by simp, by simp, rfl⟩
theorem long_wide {n v : Int} {s : Int × Int × Int} (h : Long n v s) : ∃ r1 r2 r3, longWide s = some (r1, r2, r3) ∧ Is128 v r1 r2 r3 := by
  obtain ⟨s0, s1, s2⟩ := s
  obtain ⟨h1, h2, h3, h4, h5⟩ := h
  dsimp only at h1 h2 h3 h4 h5
  unfold L at h5
  dsimp only at h5
  have hw : wrap64 s1 = if s1 < 9223372036854775808 then s1 else s1 - 18446744073709551616 := by unfold U64 at h1; unfold wrap64; split <;> omega
  obtain ⟨x, hx⟩ : ∃ x, wrap64 s1 = x := ⟨_, rfl⟩
  have hx0 : I64 x := by rw [← hx]; unfold I64 wrap64; omega
  unfold longWide fixed_fits.f
  dsimp only
  rw [hx]
  rw [hx] at hw
  clear hx
  by_cases hb : s0 = x / 9223372036854775808
  · rw [if_pos (by simpa using hb)]
    refine ⟨_, _, _, rfl, Or.inl ⟨?_, rfl, hx0, h2, ?_⟩⟩
    · unfold F128
      unfold U64 at h1 h2
      unfold I64 at hx0
      split at hw <;> omega
    · unfold W
      unfold U64 at h1 h2
      unfold I64 at hx0
      split at hw <;> omega
  · rw [if_neg (by simpa using hb)]
    refine ⟨_, _, _, rfl, Or.inr ⟨?_, rfl, rfl, rfl⟩⟩
    unfold F128
    unfold U64 at h1 h2
    unfold I64 at hx0
    split at hw <;> omega
theorem Int_f {h l : Int} (hh : I64 h) (hl : U64 l) : ∃ r1 r2, fixed_Int.f h l = some (r1, r2) ∧ Is64 (W h l) r1 r2 := by
  have hw : wrap64 l = if l < 9223372036854775808 then l else l - 18446744073709551616 := by unfold U64 at hl; unfold wrap64; split <;> omega
  obtain ⟨x, hx⟩ : ∃ x, wrap64 l = x := ⟨_, rfl⟩
  unfold fixed_Int.f
  rw [hx]
  rw [hx] at hw
  clear hx
  unfold U64 at hl
  unfold I64 at hh
  by_cases hb : h = x / 9223372036854775808
  · rw [if_pos hb]
    refine ⟨_, _, rfl, Or.inl ⟨?_, ?_, rfl⟩⟩
    · unfold I64 W
      split at hw <;> omega
    · unfold W
      split at hw <;> omega
  · rw [if_neg hb]
    refine ⟨_, _, rfl, Or.inr ⟨?_, rfl, rfl⟩⟩
    unfold I64 W
    split at hw <;> omega
theorem narrow_f {v r1 r2 r3 : Int} (h : Is128 v r1 r2 r3) : ∃ q1 q2, fixed_narrow.f r1 r2 r3 = some (q1, q2) ∧ Is64 v q1 q2 := by
  rcases h with ⟨h1, rfl, h2, h3, rfl⟩ | ⟨h1, rfl, rfl, rfl⟩
  · obtain ⟨q1, q2, k1, k2⟩ := Int_f h2 h3
    refine ⟨q1, q2, ?_, k2⟩
    unfold fixed_narrow.f
    rw [if_pos rfl, k1]
    rfl
  · refine ⟨0, 4, by unfold fixed_narrow.f; rw [if_neg (by omega)], Or.inr ⟨?_, rfl, rfl⟩⟩
    unfold F128 at h1
    unfold I64
    omega
theorem of_W {a : Int} (h : I64 a) : I64 (a / 9223372036854775808) ∧ U64 (IntKind.u64.wrap a) ∧ W (a / 9223372036854775808) (IntKind.u64.wrap a) = a := by
  have hue : IntKind.u64.wrap a = if a < 0 then a + 18446744073709551616 else a := by unfold I64 at h; rw [IntKind.wrap_u64]; split <;> omega
  unfold I64 at h
  rw [hue]
  unfold I64 U64 W
  split <;> refine ⟨?_, ?_, ?_⟩ <;> omega
theorem longSum_f : ∀ (l : List Int) (n v : Int) (s : Int × Int × Int), Long n v s → n + l.length ≤ 1000000 → (∀ a ∈ l, I64 a) → ∃ r m, longSum l s = some r ∧ Long m (v + l.sum) r
  | [], n, v, s, h, hn, ha => ⟨s, n, rfl, by simpa using h⟩
  | a :: l, n, v, s, h, hn, ha => by
    have h0 := of_W (ha a (by simp))
    rw [List.length_cons] at hn
    obtain ⟨t, k1, k2⟩ := long_add h (by omega) h0.1 h0.2.1
    rw [h0.2.2] at k2
    obtain ⟨r, m, j1, j2⟩ := longSum_f l (n + 1) _ t k2 (by omega) (fun x hx => ha x (by simp [hx]))
    refine ⟨r, m, ?_, ?_⟩
    · rw [longSum, k1]
      exact j1
    · rw [show v + (a :: l).sum = v + a + l.sum by simp; omega]
      exact j2
theorem Sum_f (l : List Int) (hl : l.length ≤ 1000000) (ha : ∀ a ∈ l, I64 a) : ∃ r1 r2, fixed_Sum.f l = some (r1, r2) ∧ Is64 l.sum r1 r2 := by
  obtain ⟨s, m, k1, k2⟩ := longSum_f l 0 0 _ long_start (by omega) ha
  obtain ⟨r1, r2, r3, j1, j2⟩ := long_wide k2
  obtain ⟨q1, q2, i1, i2⟩ := narrow_f j2
  refine ⟨q1, q2, ?_, by simpa using i2⟩
  unfold fixed_Sum.f
  rw [k1, Option.bind_some, j1]
  exact i1
end Go.Proofs.Ytfbkgfffalppmaa.Fc
end
section
namespace Go.Proofs.Ytfbkgfffalppmaa.Fc
set_option linter.unusedSimpArgs false
set_option linter.unusedVariables false
open Go Go.RowKit Go.Proofs.Ytfbkgfffalppmaa.Wf Go.Proofs.YtfbkgfffalppmaaW.PrintWords Go.Proofs.Ytfbkgfffalppmaa.Fv
structure Dig (y y1 y0 u un q r : Int) : Prop where
  ey : y = y1 * 4294967296 + y0
  h0 : 0 ≤ y0 ∧ y0 < 4294967296
  h1 : 2147483648 ≤ y1 ∧ y1 < 4294967296
  hu : 0 ≤ u ∧ u < y
  hn : 0 ≤ un ∧ un < 4294967296
  eq : q * y1 + r = u
  hq : 0 ≤ q ∧ q ≤ 17179869184
  hr : 0 ≤ r
  le : (u * 4294967296 + un) / y ≤ q
theorem Dig.pos {y y1 y0 u un q r : Int} (h : Dig y y1 y0 u un q r) : 0 < y := by
  have := h.ey; have := h.h0; have := h.h1; omega
theorem Dig.small {y y1 y0 u un q r : Int} (h : Dig y y1 y0 u un q r) : (u * 4294967296 + un) / y < 4294967296 := by
  apply Int.ediv_lt_of_lt_mul h.pos
  have h2 := h.hu; have h3 := h.hn; have := h.pos
  omega
theorem Dig.test {y y1 y0 u un q r : Int} (h : Dig y y1 y0 u un q r) : q * y0 > 4294967296 * r + un ↔ (u * 4294967296 + un) / y < q := by
  have hp := h.pos
  have e1 : q * y = q * y1 * 4294967296 + q * y0 := by rw [h.ey, Int.mul_add, Int.mul_assoc]
  have e2 := h.eq
  rw [Int.ediv_lt_iff_lt_mul hp]
  generalize q * y = a at *
  generalize q * y1 = b at *
  generalize q * y0 = c at *
  clear h
  omega
theorem Dig.next {y y1 y0 u un q r : Int} (h : Dig y y1 y0 u un q r) (hl : (u * 4294967296 + un) / y < q) : Dig y y1 y0 u un (q - 1) (r + y1) := by
  have hs : 0 ≤ (u * 4294967296 + un) / y := Int.ediv_nonneg (by have := h.hu; have := h.hn; omega) (by have := h.pos; omega)
  refine ⟨h.ey, h.h0, h.h1, h.hu, h.hn, ?_, ?_, ?_, by omega⟩
  · have := h.eq
    rw [Int.sub_mul, Int.one_mul]
    omega
  · have := h.hq; omega
  · have := h.hr; have := h.h1; omega
theorem Dig.last {y y1 y0 u un q r : Int} (h : Dig y y1 y0 u un q r) (hr : 4294967296 ≤ r) : q = (u * 4294967296 + un) / y := by
  have hq : q < 4294967296 := by
    have e := h.eq; have h1 := h.h1; have h2 := h.hu; have h3 := h.ey; have h4 := h.h0
    rcases Int.lt_or_le q 4294967296 with h5 | h5
    · exact h5
    · have h6 : 4294967296 * y1 ≤ q * y1 := Int.mul_le_mul_of_nonneg_right h5 (by omega)
      generalize q * y1 = b at *
      omega
  have h7 : q * y0 ≤ 4294967295 * y0 := Int.mul_le_mul_of_nonneg_right (by omega) h.h0.1
  have h8 : ¬ (u * 4294967296 + un) / y < q := by
    rw [← h.test]
    have := h.h0; have := h.hn
    generalize q * y0 = c at *
    omega
  have := h.le
  omega
theorem Dig.first {y y1 y0 u un : Int} (ey : y = y1 * 4294967296 + y0) (h0 : 0 ≤ y0 ∧ y0 < 4294967296) (h1 : 2147483648 ≤ y1 ∧ y1 < 4294967296) (hu : 0 ≤ u ∧ u < y) (hn : 0 ≤ un ∧ un < 4294967296) : Dig y y1 y0 u un (u / y1) (u - u / y1 * y1) ∧ u - u / y1 * y1 < 4294967296 := by
  have hp : 0 < y1 := by omega
  have e1 := Int.mul_ediv_add_emod u y1
  have e2 := Int.emod_nonneg u (Int.ne_of_gt hp)
  have e3 := Int.emod_lt_of_pos u hp
  have e4 : y1 * (u / y1) = u / y1 * y1 := Int.mul_comm _ _
  have hq0 : 0 ≤ u / y1 := Int.ediv_nonneg hu.1 (by omega)
  have hq1 : u / y1 ≤ 17179869184 := by
    have h5 : u / y1 < 17179869184 := by
      apply Int.ediv_lt_of_lt_mul hp
      omega
    omega
  refine ⟨⟨ey, h0, h1, hu, hn, by omega, ⟨hq0, hq1⟩, by omega, ?_⟩, by omega⟩
  have hy : 0 < y := by omega
  have h6 : (u * 4294967296 + un) / y < u / y1 + 1 := by
    apply Int.ediv_lt_of_lt_mul hy
    rw [ey, Int.mul_add, Int.add_mul, Int.one_mul, ← Int.mul_assoc, Int.add_mul]
    have h7 : 0 ≤ u / y1 * y0 := Int.mul_nonneg hq0 h0.1
    have h8 : (u / y1 + 1) * y0 = u / y1 * y0 + y0 := by rw [Int.add_mul, Int.one_mul]
    generalize u / y1 * y1 = a at *
    generalize u / y1 * y0 = b at *
    omega
  omega
theorem wu {x : Int} (h0 : 0 ≤ x) (h1 : x < 18446744073709551616) : IntKind.u64.wrap x = x := by rw [IntKind.wrap_u64]; omega
theorem Dig.bool {y y1 y0 u un q r : Int} (h : Dig y y1 y0 u un q r) (hr : r < 4294967296) (hq : q < 4294967296) : decide (IntKind.u64.wrap (q * y0) > IntKind.u64.wrap (IntKind.u64.wrap (4294967296 * r) + un)) = decide ((u * 4294967296 + un) / y < q) := by
  have h1 := h.h0; have h2 := h.hn; have h3 := h.hr; have h4 := h.hq
  have h5 : q * y0 ≤ 4294967295 * y0 := Int.mul_le_mul_of_nonneg_right (by omega) h1.1
  have h6 : 0 ≤ q * y0 := Int.mul_nonneg h4.1 h1.1
  rw [wu h6 (by omega), wu (x := 4294967296 * r) (by omega) (by omega), wu (x := 4294967296 * r + un) (by omega) (by omega), decide_eq_decide]
  exact h.test
theorem Dig.notneg {y y1 y0 u un q r : Int} (h : Dig y y1 y0 u un q r) : 0 ≤ (u * 4294967296 + un) / y := Int.ediv_nonneg (by have := h.hu; have := h.hn; omega) (by have := h.pos; omega)
theorem l0_f {y s y1 y0 u un x14 : Int} {K0 : Nat} {R : Int × Int} (hc : ∀ e, bits_Div64.j2 (K0 + e) y s y1 y0 u un x14 ((u * 4294967296 + un) / y) = some R) : ∀ (n : Nat) (q r : Int), Dig y y1 y0 u un q r → r < 4294967296 → 4294967296 ≤ r + n * 2147483648 → ∃ K, ∀ e, bits_Div64.l0 (K + e) y s y1 y0 u un x14 q r = some R
  | 0, q, r, h, hr, hn => by
    exfalso
    have : ((0 : Nat) : Int) * 2147483648 = 0 := by simp
    omega
  | n + 1, q, r, h, hr, hn => by
    have key : ∃ K, ∀ e, bits_Div64.j1 (K + e) y s y1 y0 u un x14 q r (decide ((u * 4294967296 + un) / y < q)) = some R := by
      by_cases hl : (u * 4294967296 + un) / y < q
      · have hx := h.next hl
        have h1 := h.h1; have h3 := h.hr; have h4 := h.hq; have h5 := h.notneg
        have e1 : IntKind.u64.wrap (r + y1) = r + y1 := wu (by omega) (by omega)
        have e2 : IntKind.u64.wrap (q - 1) = q - 1 := wu (by omega) (by omega)
        by_cases hb : 4294967296 ≤ r + y1
        · refine ⟨K0 + 1, fun e => ?_⟩
          rw [show K0 + 1 + e = (K0 + e) + 1 by omega, bits_Div64.j1, if_pos (by simpa using hl), e1, if_pos hb, e2, hx.last hb]
          exact hc e
        · have hn2 : 4294967296 ≤ r + y1 + n * 2147483648 := by
            have : ((n + 1 : Nat) : Int) * 2147483648 = (n : Int) * 2147483648 + 2147483648 := by rw [Int.natCast_add, Int.add_mul]; simp
            omega
          obtain ⟨K, hK⟩ := l0_f hc n (q - 1) (r + y1) hx (by omega) hn2
          refine ⟨K + 1, fun e => ?_⟩
          rw [show K + 1 + e = (K + e) + 1 by omega, bits_Div64.j1, if_pos (by simpa using hl), e1, if_neg hb, e2]
          exact hK e
      · have hq : q = (u * 4294967296 + un) / y := by have := h.le; omega
        refine ⟨K0 + 1, fun e => ?_⟩
        rw [show K0 + 1 + e = (K0 + e) + 1 by omega, bits_Div64.j1, if_neg (by simpa using hl), hq]
        exact hc e
    obtain ⟨K, hK⟩ := key
    refine ⟨K + 1, fun e => ?_⟩
    rw [show K + 1 + e = (K + e) + 1 by omega, bits_Div64.l0]
    by_cases hq : q ≥ 4294967296
    · rw [if_pos hq]
      have hs := h.small
      have hk := hK e
      rw [decide_eq_true (by omega)] at hk
      exact hk
    · rw [if_neg hq, h.bool hr (by omega)]
      exact hK e
def Rest (y s x14 q1 un21 : Int) : Int × Int := (q1 * 4294967296 + (un21 * 4294967296 + x14) / y, shr .u64 (un21 * 4294967296 + x14 - (un21 * 4294967296 + x14) / y * y) s)
theorem tail_ok {y y1 y0 un21 x14 q1 s q r : Int} (h : Dig y y1 y0 un21 x14 q r) (hy : y < 18446744073709551616) (hq1 : 0 ≤ q1 ∧ q1 < 4294967296) : (IntKind.u64.wrap ((IntKind.u64.wrap (q1 * 4294967296)) + (un21 * 4294967296 + x14) / y), shr .u64 (IntKind.u64.wrap ((IntKind.u64.wrap ((IntKind.u64.wrap (un21 * 4294967296)) + x14)) - (IntKind.u64.wrap ((un21 * 4294967296 + x14) / y * y)))) s) = Rest y s x14 q1 un21 := by
  have hs := h.small; have h5 := h.notneg; have hp := h.pos
  have e0 := Int.mul_ediv_add_emod (un21 * 4294967296 + x14) y
  have e1 := Int.emod_nonneg (un21 * 4294967296 + x14) (Int.ne_of_gt hp)
  have e2 := Int.emod_lt_of_pos (un21 * 4294967296 + x14) hp
  have e3 : y * ((un21 * 4294967296 + x14) / y) = (un21 * 4294967296 + x14) / y * y := Int.mul_comm _ _
  unfold Rest
  rw [Prod.mk.injEq]
  refine ⟨?_, ?_⟩
  · rw [wu (x := q1 * 4294967296) (by omega) (by omega), wu (by omega) (by omega)]
  · congr 1
    simp only [IntKind.wrap_u64]
    generalize (un21 * 4294967296 + x14) / y * y = p at *
    omega
end Go.Proofs.Ytfbkgfffalppmaa.Fc
end
section
namespace Go.Proofs.Ytfbkgfffalppmaa.Fc
set_option linter.unusedSimpArgs false
set_option linter.unusedVariables false
open Go Go.RowKit Go.Proofs.Ytfbkgfffalppmaa.Wf Go.Proofs.YtfbkgfffalppmaaW.PrintWords Go.Proofs.Ytfbkgfffalppmaa.Fv
def tab8 : ByteArray := ⟨#[0, 1, 2, 2, 3, 3, 3, 3, 4, 4, 4, 4, 4, 4, 4, 4, 5, 5, 5, 5, 5, 5, 5, 5, 5, 5, 5, 5, 5, 5, 5, 5, 6, 6, 6, 6, 6, 6, 6, 6, 6, 6, 6, 6, 6, 6, 6, 6, 6, 6, 6, 6, 6, 6, 6, 6, 6, 6, 6, 6, 6, 6, 6, 6, 7, 7, 7, 7, 7, 7, 7, 7, 7, 7, 7, 7, 7, 7, 7, 7, 7, 7, 7, 7, 7, 7, 7, 7, 7, 7, 7, 7, 7, 7, 7, 7, 7, 7, 7, 7, 7, 7, 7, 7, 7, 7, 7, 7, 7, 7, 7, 7, 7, 7, 7, 7, 7, 7, 7, 7, 7, 7, 7, 7, 7, 7, 7, 7, 8, 8, 8, 8, 8, 8, 8, 8, 8, 8, 8, 8, 8, 8, 8, 8, 8, 8, 8, 8, 8, 8, 8, 8, 8, 8, 8, 8, 8, 8, 8, 8, 8, 8, 8, 8, 8, 8, 8, 8, 8, 8, 8, 8, 8, 8, 8, 8, 8, 8, 8, 8, 8, 8, 8, 8, 8, 8, 8, 8, 8, 8, 8, 8, 8, 8, 8, 8, 8, 8, 8, 8, 8, 8, 8, 8, 8, 8, 8, 8, 8, 8, 8, 8, 8, 8, 8, 8, 8, 8, 8, 8, 8, 8, 8, 8, 8, 8, 8, 8, 8, 8, 8, 8, 8, 8, 8, 8, 8, 8, 8, 8, 8, 8, 8, 8, 8, 8, 8, 8, 8, 8, 8, 8, 8, 8, 8, 8]⟩
set_option maxRecDepth 100000 in
theorem tab8_all : ∀ j : Fin 256, (let n := (bt tab8 (j.val : Int)).toNat; decide (n ≤ 8) && decide (j.val < 2 ^ n) && (decide (j.val = 0) || decide (2 ^ n ≤ 2 * j.val))) = true := by decide +kernel
def Bitn (x n : Int) : Prop := ∃ m : Nat, n = m ∧ x < 2 ^ m ∧ 2 ^ m ≤ 2 * x
theorem tab8_ok {x : Int} (h0 : 0 < x) (h1 : x < 256) : Bitn x (bt tab8 x) ∧ bt tab8 x ≤ 8 := by
  obtain ⟨j, rfl⟩ := Int.eq_ofNat_of_zero_le (Int.le_of_lt h0)
  have h := tab8_all ⟨j, by omega⟩
  simp only [Bool.and_eq_true, Bool.or_eq_true, decide_eq_true_eq] at h
  obtain ⟨⟨h2, h3⟩, h4⟩ := h
  have hb := bt_range tab8 (j : Int)
  refine ⟨⟨(bt tab8 (j : Int)).toNat, by omega, by exact_mod_cast h3, ?_⟩, by omega⟩
  rcases h4 with h4 | h4
  · omega
  · exact_mod_cast h4
theorem Bitn.up {x n : Int} (b : Nat) (h : Bitn (x / 2 ^ b) n) : Bitn x (n + b) := by
  obtain ⟨m, rfl, h1, h2⟩ := h
  have hb : (0 : Int) < 2 ^ b := Int.pow_pos (by omega)
  refine ⟨m + b, by simp, ?_, ?_⟩
  · rw [Int.pow_add]
    exact (Int.ediv_lt_iff_lt_mul hb).1 h1
  · have e := Int.mul_ediv_add_emod x (2 ^ b)
    have e1 := Int.emod_nonneg x (Int.ne_of_gt hb)
    rw [Int.pow_add]
    have h3 : 2 ^ m * 2 ^ b ≤ 2 * (x / 2 ^ b) * 2 ^ b := Int.mul_le_mul_of_nonneg_right h2 (Int.le_of_lt hb)
    have h4 : 2 * (x / 2 ^ b) * 2 ^ b = 2 * (2 ^ b * (x / 2 ^ b)) := by rw [Int.mul_assoc, Int.mul_comm (x / 2 ^ b)]
    omega
theorem j0_eq (k : Nat) (x0 x2 : Int) : bits_Len64.j0 (k + 1) x0 x2 = if x0 ≥ 65536 then (if (x0 / 65536) ≥ 256 then (if 0 ≤ (((x0 / 65536) / 256) % 256) then (if (((x0 / 65536) / 256) % 256) < 256 then (some (wrap64 ((wrap64 ((wrap64 (x2 + 16)) + 8)) + (wrap64 (bt tab8 (((x0 / 65536) / 256) % 256)))))) else (none)) else (none)) else (if 0 ≤ ((x0 / 65536) % 256) then (if ((x0 / 65536) % 256) < 256 then (some (wrap64 ((wrap64 (x2 + 16)) + (wrap64 (bt tab8 ((x0 / 65536) % 256)))))) else (none)) else (none))) else (if x0 ≥ 256 then (if 0 ≤ ((x0 / 256) % 256) then (if ((x0 / 256) % 256) < 256 then (some (wrap64 ((wrap64 (x2 + 8)) + (wrap64 (bt tab8 ((x0 / 256) % 256)))))) else (none)) else (none)) else (if 0 ≤ ((x0) % 256) then (if ((x0) % 256) < 256 then (some (wrap64 (x2 + (wrap64 (bt tab8 ((x0) % 256)))))) else (none)) else (none))) := rfl
attribute [irreducible] tab8
theorem j0_f {x : Int} (c : Int) (hc0 : 0 ≤ c) (hc : c ≤ 100) (h0 : 0 < x) (h1 : x < 4294967296) (k : Nat) : ∃ n : Int, bits_Len64.j0 (k + 1) x c = some (n + c) ∧ Bitn x n ∧ n ≤ 32 := by
  rw [j0_eq]
  have w : ∀ z : Int, 0 ≤ z → z ≤ 1000 → wrap64 z = z := fun z a b => w64 (by omega) (by omega)
  have ends : ∀ z : Int, 0 < z → z < 256 → z % 256 = z := fun z a b => by omega
  by_cases c1 : x ≥ 65536
  · rw [if_pos c1]
    by_cases c2 : x / 65536 ≥ 256
    · rw [if_pos c2, ends _ (by omega) (by omega), if_pos (by omega), if_pos (by omega)]
      obtain ⟨t1, t2⟩ := tab8_ok (x := x / 65536 / 256) (by omega) (by omega)
      have t3 := (bt_range tab8 (x / 65536 / 256)).1
      refine ⟨bt tab8 (x / 65536 / 256) + 24, ?_, ?_, by omega⟩
      · rw [w (c + 16) (by omega) (by omega), w (bt tab8 _) t3 (by omega), w (c + 16 + 8) (by omega) (by omega), w _ (by omega) (by omega)]
        congr 1
        omega
      · exact Bitn.up 24 (by rw [show x / 2 ^ 24 = x / 65536 / 256 by omega]; exact t1)
    · rw [if_neg c2, ends _ (by omega) (by omega), if_pos (by omega), if_pos (by omega)]
      obtain ⟨t1, t2⟩ := tab8_ok (x := x / 65536) (by omega) (by omega)
      have t3 := (bt_range tab8 (x / 65536)).1
      refine ⟨bt tab8 (x / 65536) + 16, ?_, ?_, by omega⟩
      · rw [w (c + 16) (by omega) (by omega), w (bt tab8 _) t3 (by omega), w _ (by omega) (by omega)]
        congr 1
        omega
      · exact Bitn.up 16 (by rw [show x / 2 ^ 16 = x / 65536 by omega]; exact t1)
  · rw [if_neg c1]
    by_cases c2 : x ≥ 256
    · rw [if_pos c2, ends _ (by omega) (by omega), if_pos (by omega), if_pos (by omega)]
      obtain ⟨t1, t2⟩ := tab8_ok (x := x / 256) (by omega) (by omega)
      have t3 := (bt_range tab8 (x / 256)).1
      refine ⟨bt tab8 (x / 256) + 8, ?_, ?_, by omega⟩
      · rw [w (c + 8) (by omega) (by omega), w (bt tab8 _) t3 (by omega), w _ (by omega) (by omega)]
        congr 1
        omega
      · exact Bitn.up 8 (by rw [show x / 2 ^ 8 = x / 256 by omega]; exact t1)
    · rw [if_neg c2, ends _ (by omega) (by omega), if_pos (by omega), if_pos (by omega)]
      obtain ⟨t1, t2⟩ := tab8_ok (x := x) (by omega) (by omega)
      have t3 := (bt_range tab8 x).1
      refine ⟨bt tab8 x, ?_, t1, by omega⟩
      rw [w (bt tab8 _) t3 (by omega), w _ (by omega) (by omega)]
      congr 1
      omega
theorem lz_f {x : Int} (h0 : 0 < x) (h1 : x < 18446744073709551616) (k : Nat) : ∃ s : Nat, bits_LeadingZeros64.f (k + 1) x = some (s : Int) ∧ s ≤ 63 ∧ 9223372036854775808 ≤ x * 2 ^ s ∧ x * 2 ^ s < 18446744073709551616 := by
  obtain ⟨n, hn, ⟨m, rfl, hm1, hm2⟩, hm3⟩ : ∃ n : Int, bits_Len64.f (k + 1) x = some n ∧ Bitn x n ∧ n ≤ 64 := by
    unfold bits_Len64.f
    by_cases c : x ≥ 4294967296
    · rw [if_pos c]
      obtain ⟨n, h2, h3, h4⟩ := j0_f (x := x / 4294967296) 32 (by omega) (by omega) (by omega) (by omega) k
      exact ⟨n + 32, h2, Bitn.up 32 h3, by omega⟩
    · rw [if_neg c]
      obtain ⟨n, h2, h3, h4⟩ := j0_f (x := x) 0 (by omega) (by omega) (by omega) (by omega) k
      exact ⟨n, by simpa using h2, h3, by omega⟩
  have hm0 : 1 ≤ m := by
    rcases Nat.eq_zero_or_pos m with e | e
    · subst e; simp at hm1; omega
    · exact e
  have hm4 : m ≤ 64 := by omega
  refine ⟨64 - m, ?_, by omega, ?_, ?_⟩
  · unfold bits_LeadingZeros64.f
    rw [hn, Option.bind_some, w64 (by omega) (by omega)]
    congr 1
    omega
  · have hp : (0 : Int) < 2 ^ (64 - m) := Int.pow_pos (by omega)
    have h3 : 2 ^ m * 2 ^ (64 - m) ≤ 2 * x * 2 ^ (64 - m) := Int.mul_le_mul_of_nonneg_right hm2 (Int.le_of_lt hp)
    rw [← Int.pow_add, show m + (64 - m) = 64 by omega, Int.mul_assoc] at h3
    have e : (2 : Int) ^ 64 = 18446744073709551616 := by decide
    omega
  · have hp : (0 : Int) < 2 ^ (64 - m) := Int.pow_pos (by omega)
    have h3 : x * 2 ^ (64 - m) < 2 ^ m * 2 ^ (64 - m) := Int.mul_lt_mul_of_pos_right hm1 hp
    rw [← Int.pow_add, show m + (64 - m) = 64 by omega] at h3
    have e : (2 : Int) ^ 64 = 18446744073709551616 := by decide
    omega
end Go.Proofs.Ytfbkgfffalppmaa.Fc
end
section
namespace Go.Proofs.Ytfbkgfffalppmaa.Fc
set_option linter.unusedSimpArgs false
set_option linter.unusedVariables false
open Go Go.RowKit Go.Proofs.Ytfbkgfffalppmaa.Wf Go.Proofs.YtfbkgfffalppmaaW.PrintWords Go.Proofs.YtfbkgfffalppmaaW.PrintMore Go.Proofs.Ytfbkgfffalppmaa.Fv
theorem l1_f {y s y1 y0 u un q1 : Int} (hs : 0 ≤ s) (hy : y < 18446744073709551616) (hq1 : 0 ≤ q1 ∧ q1 < 4294967296) : ∀ (n : Nat) (q r : Int), Dig y y1 y0 u un q r → r < 4294967296 → 4294967296 ≤ r + n * 2147483648 → ∃ K, ∀ e, bits_Div64.l1 (K + e) y s y1 y0 un q1 r u q = some (Rest y s un q1 u)
  | 0, q, r, h, hr, hn => by
    exfalso
    have : ((0 : Nat) : Int) * 2147483648 = 0 := by simp
    omega
  | n + 1, q, r, h, hr, hn => by
    have key : ∃ K, ∀ e, bits_Div64.j4 (K + e) y s y1 y0 un q1 r u q (decide ((u * 4294967296 + un) / y < q)) = some (Rest y s un q1 u) := by
      by_cases hl : (u * 4294967296 + un) / y < q
      · have hx := h.next hl
        have h1 := h.h1; have h3 := h.hr; have h4 := h.hq; have h5 := h.notneg
        have e1 : IntKind.u64.wrap (r + y1) = r + y1 := wu (by omega) (by omega)
        have e2 : IntKind.u64.wrap (q - 1) = q - 1 := wu (by omega) (by omega)
        by_cases hb : 4294967296 ≤ r + y1
        · refine ⟨1, fun e => ?_⟩
          rw [show 1 + e = e + 1 by omega, bits_Div64.j4, if_pos (by simpa using hl), e1, if_pos hb, e2, if_pos hs, hx.last hb, tail_ok h hy hq1]
        · have hn2 : 4294967296 ≤ r + y1 + n * 2147483648 := by
            have : ((n + 1 : Nat) : Int) * 2147483648 = (n : Int) * 2147483648 + 2147483648 := by rw [Int.natCast_add, Int.add_mul]; simp
            omega
          obtain ⟨K, hK⟩ := l1_f hs hy hq1 n (q - 1) (r + y1) hx (by omega) hn2
          refine ⟨K + 1, fun e => ?_⟩
          rw [show K + 1 + e = (K + e) + 1 by omega, bits_Div64.j4, if_pos (by simpa using hl), e1, if_neg hb, e2]
          exact hK e
      · have hq : q = (u * 4294967296 + un) / y := by have := h.le; omega
        refine ⟨1, fun e => ?_⟩
        rw [show 1 + e = e + 1 by omega, bits_Div64.j4, if_neg (by simpa using hl), if_pos hs, hq, tail_ok h hy hq1]
    obtain ⟨K, hK⟩ := key
    refine ⟨K + 1, fun e => ?_⟩
    rw [show K + 1 + e = (K + e) + 1 by omega, bits_Div64.l1]
    by_cases hq : q ≥ 4294967296
    · rw [if_pos hq]
      have hs := h.small
      have hk := hK e
      rw [decide_eq_true (by omega)] at hk
      exact hk
    · rw [if_neg hq, h.bool hr (by omega)]
      exact hK e
theorem j2_f {y s y1 y0 u1 un1 un0 : Int} (hs : 0 ≤ s) (hy : y < 18446744073709551616) (ey : y = y1 * 4294967296 + y0) (h0 : 0 ≤ y0 ∧ y0 < 4294967296) (h1 : 2147483648 ≤ y1 ∧ y1 < 4294967296) (hu : 0 ≤ u1 ∧ u1 < y) (hn1 : 0 ≤ un1 ∧ un1 < 4294967296) (hn0 : 0 ≤ un0 ∧ un0 < 4294967296) :
    ∃ K, ∀ e, bits_Div64.j2 (K + e) y s y1 y0 u1 un1 un0 ((u1 * 4294967296 + un1) / y) = some (Rest y s un0 ((u1 * 4294967296 + un1) / y) ((u1 * 4294967296 + un1) % y)) := by
  have hd := (Dig.first ey h0 h1 hu hn1).1
  have hs1 := hd.small
  have hs0 := hd.notneg
  have hp := hd.pos
  have e0 := Int.mul_ediv_add_emod (u1 * 4294967296 + un1) y
  have e1 := Int.emod_nonneg (u1 * 4294967296 + un1) (Int.ne_of_gt hp)
  have e2 := Int.emod_lt_of_pos (u1 * 4294967296 + un1) hp
  have e3 : y * ((u1 * 4294967296 + un1) / y) = (u1 * 4294967296 + un1) / y * y := Int.mul_comm _ _
  have hun : IntKind.u64.wrap ((IntKind.u64.wrap ((IntKind.u64.wrap (u1 * 4294967296)) + un1)) - (IntKind.u64.wrap ((u1 * 4294967296 + un1) / y * y))) = (u1 * 4294967296 + un1) % y := by
    simp only [IntKind.wrap_u64]
    generalize (u1 * 4294967296 + un1) / y * y = p at *
    generalize (u1 * 4294967296 + un1) % y = q at *
    omega
  generalize (u1 * 4294967296 + un1) / y = Q at *
  generalize (u1 * 4294967296 + un1) % y = U at *
  obtain ⟨d2, d3⟩ := Dig.first ey h0 h1 ⟨e1, e2⟩ hn0
  have d4 := d2.hq
  have ht : IntKind.u64.wrap (Int.tdiv U y1) = U / y1 := by rw [Int.tdiv_eq_ediv_of_nonneg e1]; exact wu d4.1 (by omega)
  have hm : 0 ≤ U / y1 * y1 ∧ U / y1 * y1 ≤ U := by
    have a1 := Int.mul_ediv_add_emod U y1
    have a2 := Int.emod_nonneg U (show y1 ≠ 0 by omega)
    have a3 : y1 * (U / y1) = U / y1 * y1 := Int.mul_comm _ _
    have a4 := d2.hr
    exact ⟨Int.mul_nonneg d4.1 (by omega), by omega⟩
  have hr1 : IntKind.u64.wrap (U - IntKind.u64.wrap (U / y1 * y1)) = U - U / y1 * y1 := by
    rw [wu (x := U / y1 * y1) hm.1 (by omega)]
    exact wu (by omega) (by omega)
  obtain ⟨K, hK⟩ := l1_f hs hy ⟨hs0, hs1⟩ 2 (U / y1) (U - U / y1 * y1) d2 d3 (by have := d2.hr; omega)
  refine ⟨K + 1, fun e => ?_⟩
  rw [show K + 1 + e = (K + e) + 1 by omega, bits_Div64.j2, if_neg (by omega), hun, ht, hr1]
  exact hK e
theorem l0_all {y s y1 y0 u1 un1 un0 : Int} (hs : 0 ≤ s) (hy : y < 18446744073709551616) (ey : y = y1 * 4294967296 + y0) (h0 : 0 ≤ y0 ∧ y0 < 4294967296) (h1 : 2147483648 ≤ y1 ∧ y1 < 4294967296) (hu : 0 ≤ u1 ∧ u1 < y) (hn1 : 0 ≤ un1 ∧ un1 < 4294967296) (hn0 : 0 ≤ un0 ∧ un0 < 4294967296) :
    ∃ K, ∀ e, bits_Div64.l0 (K + e) y s y1 y0 u1 un1 un0 (IntKind.u64.wrap (Int.tdiv u1 y1)) (IntKind.u64.wrap (u1 - IntKind.u64.wrap (IntKind.u64.wrap (Int.tdiv u1 y1) * y1))) = some (Rest y s un0 ((u1 * 4294967296 + un1) / y) ((u1 * 4294967296 + un1) % y)) := by
  obtain ⟨d2, d3⟩ := Dig.first ey h0 h1 hu hn1
  have d4 := d2.hq
  have ht : IntKind.u64.wrap (Int.tdiv u1 y1) = u1 / y1 := by rw [Int.tdiv_eq_ediv_of_nonneg hu.1]; exact wu d4.1 (by omega)
  have hm : 0 ≤ u1 / y1 * y1 ∧ u1 / y1 * y1 ≤ u1 := by
    have a1 := Int.mul_ediv_add_emod u1 y1
    have a2 := Int.emod_nonneg u1 (show y1 ≠ 0 by omega)
    have a3 : y1 * (u1 / y1) = u1 / y1 * y1 := Int.mul_comm _ _
    exact ⟨Int.mul_nonneg d4.1 (by omega), by omega⟩
  have hr1 : IntKind.u64.wrap (u1 - IntKind.u64.wrap (u1 / y1 * y1)) = u1 - u1 / y1 * y1 := by
    rw [wu (x := u1 / y1 * y1) hm.1 (by omega)]
    exact wu (by omega) (by omega)
  rw [ht, hr1]
  obtain ⟨K0, hK0⟩ := j2_f hs hy ey h0 h1 hu hn1 hn0
  exact l0_f hK0 2 _ _ d2 d3 (by have := d2.hr; omega)
theorem two_digits {y u1 un1 un0 X : Int} (hy : 0 < y) (hX : X = (u1 * 4294967296 + un1) * 4294967296 + un0) (hn0 : 0 ≤ un0 ∧ un0 < 4294967296) : (u1 * 4294967296 + un1) / y * 4294967296 + ((u1 * 4294967296 + un1) % y * 4294967296 + un0) / y = X / y ∧ ((u1 * 4294967296 + un1) % y * 4294967296 + un0) % y = X % y := by
  have e0 := Int.mul_ediv_add_emod (u1 * 4294967296 + un1) y
  generalize u1 * 4294967296 + un1 = T at *
  have e : X = y * (T / y * 4294967296) + (T % y * 4294967296 + un0) := by
    rw [← Int.mul_assoc]
    generalize y * (T / y) = p at *
    generalize T % y = q at *
    omega
  rw [e]
  constructor
  · rw [Int.add_comm (y * _), Int.add_mul_ediv_left _ _ (Int.ne_of_gt hy)]
    omega
  · rw [Int.add_comm (y * _), Int.add_mul_emod_self_left]
theorem pow2_le {m n : Nat} (h : m ≤ n) : (2 : Int) ^ m ≤ 2 ^ n := by
  obtain ⟨k, rfl⟩ := Nat.exists_eq_add_of_le h
  have h1 : (0 : Int) < 2 ^ m := Int.pow_pos (by omega)
  have h2 : (0 : Int) < 2 ^ k := Int.pow_pos (by omega)
  rw [Int.pow_add]
  have := Int.mul_le_mul_of_nonneg_left (show (1 : Int) ≤ 2 ^ k by omega) (Int.le_of_lt h1)
  omega
theorem mul_emod_mul (a b : Int) {c : Int} (hc : 0 < c) : a * c % (b * c) = a % b * c := by
  rw [Int.emod_def, Int.emod_def, Int.mul_ediv_mul_of_pos_left _ _ hc, Int.sub_mul, Int.mul_right_comm]
theorem or_add {a b : Int} (s : Nat) (ha : 0 ≤ a) (hb : 0 ≤ b) (hb2 : b < 2 ^ s) (h : a * 2 ^ s < 18446744073709551616) (hb3 : b < 18446744073709551616) : Go.bits .or .u64 (a * 2 ^ s) b = a * 2 ^ s + b := by
  obtain ⟨m, rfl⟩ := Int.eq_ofNat_of_zero_le ha
  obtain ⟨n, rfl⟩ := Int.eq_ofNat_of_zero_le hb
  have e : ((m : Int) * 2 ^ s) = ((m * 2 ^ s : Nat) : Int) := by simp
  rw [e] at h ⊢
  have hn : n < 2 ^ s := by exact_mod_cast hb2
  rw [u64_or_nat _ _ (by omega) (by omega), Nat.mul_comm, ← Nat.two_pow_add_eq_or_of_lt hn]
  simp
theorem Div64_f {a0 a1 a2 : Int} (h0 : U64 a0) (h1 : U64 a1) (h2 : U64 a2) (hl : a0 < a2) : ∃ K, ∀ e, bits_Div64.f (K + e) a0 a1 a2 = some ((a0 * 18446744073709551616 + a1) / a2, (a0 * 18446744073709551616 + a1) % a2) := by
  unfold U64 at h0 h1 h2
  by_cases hz : a0 = 0
  · subst hz
    refine ⟨0, fun e => ?_⟩
    have hq : 0 ≤ a1 / a2 := Int.ediv_nonneg h1.1 (by omega)
    have hq2 : a1 / a2 ≤ a1 := Int.ediv_le_self _ h1.1
    unfold bits_Div64.f
    rw [if_neg (by omega), if_neg (by omega), if_pos rfl, Int.tdiv_eq_ediv_of_nonneg h1.1, Int.tmod_eq_emod_of_nonneg h1.1, wu hq (by omega), Int.zero_mul, Int.zero_add]
  · have hp2 : 0 < a2 := by omega
    obtain ⟨s, _, hs, hy1, hy2⟩ := lz_f hp2 h2.2 0
    have hlz : ∀ k, bits_LeadingZeros64.f (k + 1) a2 = some (s : Int) := fun k => by
      obtain ⟨s', k1, k2, k3, k4⟩ := lz_f hp2 h2.2 k
      have : s' = s := by
        rcases Nat.lt_trichotomy s' s with q | q | q
        · exfalso
          have p1 : (2 : Int) ^ (s' + 1) ≤ 2 ^ s := pow2_le q
          rw [Int.pow_succ] at p1
          have p2 : a2 * (2 ^ s' * 2) ≤ a2 * 2 ^ s := Int.mul_le_mul_of_nonneg_left p1 (by omega)
          rw [← Int.mul_assoc] at p2
          omega
        · exact q
        · exfalso
          have p1 : (2 : Int) ^ (s + 1) ≤ 2 ^ s' := pow2_le q
          rw [Int.pow_succ] at p1
          have p2 : a2 * (2 ^ s * 2) ≤ a2 * 2 ^ s' := Int.mul_le_mul_of_nonneg_left p1 (by omega)
          rw [← Int.mul_assoc] at p2
          omega
      rw [← this]
      exact k1
    have hS : (0 : Int) < 2 ^ s := Int.pow_pos (by omega)
    have hR : (0 : Int) < 2 ^ (64 - s) := Int.pow_pos (by omega)
    have hRS : (2 : Int) ^ (64 - s) * 2 ^ s = 18446744073709551616 := by
      rw [← Int.pow_add, show 64 - s + s = 64 by omega]
      decide
    have ws : IntKind.u64.wrap (s : Int) = s := wu (by omega) (by omega)
    have wt : IntKind.u64.wrap (64 - (s : Int)) = ((64 - s : Nat) : Int) := by rw [wu (by omega) (by omega)]; omega
    have hb : IntKind.u64.bits = 64 := rfl
    have sh : ∀ x : Int, shl .u64 x (s : Int) = IntKind.u64.wrap (x * 2 ^ s) := fun x => by
      unfold shl
      rw [hb, Int.toNat_natCast, Nat.min_eq_left (by omega)]
    have sr : shr .u64 a1 ((64 - s : Nat) : Int) = a1 / 2 ^ (64 - s) := by
      unfold shr
      rw [hb, Int.toNat_natCast, Nat.min_eq_left (by omega)]
    have hle : a0 * 2 ^ s + 2 ^ s ≤ a2 * 2 ^ s := by
      have := Int.mul_le_mul_of_nonneg_right (show a0 + 1 ≤ a2 by omega) (Int.le_of_lt hS)
      rw [Int.add_mul, Int.one_mul] at this
      exact this
    have ha0 : 0 ≤ a0 * 2 ^ s := Int.mul_nonneg h0.1 (Int.le_of_lt hS)
    have ha1 : 0 ≤ a1 * 2 ^ s := Int.mul_nonneg h1.1 (Int.le_of_lt hS)
    have hc0 : 0 ≤ a1 / 2 ^ (64 - s) := Int.ediv_nonneg h1.1 (Int.le_of_lt hR)
    have hc1 : a1 / 2 ^ (64 - s) < 2 ^ s := Int.ediv_lt_of_lt_mul hR (by rw [Int.mul_comm, hRS]; exact h1.2)
    have e1 : IntKind.u64.wrap (a2 * 2 ^ s) = a2 * 2 ^ s := wu (by omega) hy2
    have e2 : IntKind.u64.wrap (a0 * 2 ^ s) = a0 * 2 ^ s := wu ha0 (by omega)
    have e3 : a1 * 2 ^ s / 18446744073709551616 = a1 / 2 ^ (64 - s) := by rw [← hRS, Int.mul_ediv_mul_of_pos_left _ _ hS]
    have e4 : IntKind.u64.wrap (a1 * 2 ^ s) = a1 * 2 ^ s % 18446744073709551616 := IntKind.wrap_u64 _
    have e5 : Go.bits .or .u64 (a0 * 2 ^ s) (a1 / 2 ^ (64 - s)) = a0 * 2 ^ s + a1 / 2 ^ (64 - s) := or_add s h0.1 hc0 hc1 (by omega) (by omega)
    have hX : (a0 * 18446744073709551616 + a1) * 2 ^ s = (a0 * 2 ^ s + a1 / 2 ^ (64 - s)) * 18446744073709551616 + a1 * 2 ^ s % 18446744073709551616 := by
      have := Int.mul_ediv_add_emod (a1 * 2 ^ s) 18446744073709551616
      rw [e3] at this
      rw [Int.add_mul, Int.mul_right_comm]
      generalize a0 * 2 ^ s = p at *
      generalize a1 * 2 ^ s = q at *
      omega
    have hv0 := Int.emod_nonneg (a1 * 2 ^ s) (show (18446744073709551616 : Int) ≠ 0 by decide)
    have hv1 := Int.emod_lt_of_pos (a1 * 2 ^ s) (show (0 : Int) < 18446744073709551616 by decide)
    have hq1 : (a0 * 18446744073709551616 + a1) * 2 ^ s / (a2 * 2 ^ s) = (a0 * 18446744073709551616 + a1) / a2 := Int.mul_ediv_mul_of_pos_left _ _ hS
    have hq2 : (a0 * 18446744073709551616 + a1) * 2 ^ s % (a2 * 2 ^ s) / 2 ^ s = (a0 * 18446744073709551616 + a1) % a2 := by
      rw [mul_emod_mul _ _ hS, Int.mul_ediv_cancel _ (Int.ne_of_gt hS)]
    generalize hyd : a2 * 2 ^ s = y at *
    generalize hud : a0 * 2 ^ s + a1 / 2 ^ (64 - s) = u1 at *
    generalize hvd : a1 * 2 ^ s % 18446744073709551616 = v at *
    have hu1 : 0 ≤ u1 ∧ u1 < y := by omega
    obtain ⟨K, hK⟩ := l0_all (s := (s : Int)) (y := y) (y1 := y / 4294967296) (y0 := y % 4294967296) (u1 := u1) (un1 := v / 4294967296) (un0 := v % 4294967296) (by omega) hy2 (by omega) (by omega) (by omega) hu1 (by omega) (by omega)
    refine ⟨K + 1, fun e => ?_⟩
    unfold bits_Div64.f
    rw [if_neg (by omega), if_neg (by omega), if_neg hz, show K + 1 + e = (K + e) + 1 by omega, hlz, Option.bind_some, ws, wt, if_pos (by omega), if_pos (by omega), sh, sh, sh, sr, hyd, e1, e2, e4, e5, if_neg (by omega), and_low32 y (by omega) hy2, and_low32 v hv0 hv1, show K + e + 1 = K + (e + 1) by omega, hK (e + 1)]
    have htd := two_digits (y := y) (u1 := u1) (un1 := v / 4294967296) (un0 := v % 4294967296) (X := (a0 * 18446744073709551616 + a1) * 2 ^ s) (by omega) (by rw [hX]; omega) (by omega)
    unfold Rest shr
    rw [htd.1, hq1, hb, Int.toNat_natCast, Nat.min_eq_left (by omega)]
    have hz2 : (u1 * 4294967296 + v / 4294967296) % y * 4294967296 + v % 4294967296 - ((u1 * 4294967296 + v / 4294967296) % y * 4294967296 + v % 4294967296) / y * y = (a0 * 18446744073709551616 + a1) * 2 ^ s % y := by
      rw [← htd.2]
      generalize (u1 * 4294967296 + v / 4294967296) % y * 4294967296 + v % 4294967296 = Z
      have := Int.mul_ediv_add_emod Z y
      rw [Int.mul_comm] at this
      omega
    rw [hz2, hq2]
end Go.Proofs.Ytfbkgfffalppmaa.Fc
end
