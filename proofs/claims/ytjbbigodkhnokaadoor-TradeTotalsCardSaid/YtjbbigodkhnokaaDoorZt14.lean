/- Texts of this seat, put together (Zt14). -/
import Derived.Laws.MathBits
import Derived.Laws.BitsAllLaws
import Derived.Laws.DeepNot64
import Derived.Test.YtjbbigodkhnokaaDoorZt5
import Derived.Test.YtjbbigodkhnokaaDoorZt8
import Derived.Test.YtjbbigodkhnokaaDoorZt12
import Derived.Test.YtjbbigodkhnokaaDoorZt13
section
namespace Go.Proofs.YtjbbigodkhnokaaDoor.Fp
set_option linter.unusedSimpArgs false
set_option linter.unusedVariables false
open Go Go.RowKit Go.Proofs.YtjbbigodkhnokaaDoor.Tr Go.Proofs.YtjbbigodkhnokaaDoorW.PrintWords Go.Proofs.YtjbbigodkhnokaaDoorW.PrintLast
open Go.Proofs.YtjbbigodkhnokaaDoor.Nu (I64 U64 I128 w64 wd sgn)
abbrev W (hi lo : Int) : Int := wd hi lo
def Is128 (v r1 r2 r3 : Int) : Prop := (I128 v ∧ r3 = 0 ∧ I64 r1 ∧ U64 r2 ∧ W r1 r2 = v) ∨ (¬ I128 v ∧ r1 = 0 ∧ r2 = 0 ∧ r3 = 4)
theorem addHi_eq {x y c : Int} (hx : 0 ≤ x) (hy : 0 ≤ y) (hc : 0 ≤ c) : addHi x y c = (x + y + c) / 18446744073709551616 := by
  unfold addHi
  rw [Int.toNat_of_nonneg hx, Int.toNat_of_nonneg hy, Int.toNat_of_nonneg hc]
theorem addLo_eq {x y c : Int} (hx : 0 ≤ x) (hy : 0 ≤ y) (hc : 0 ≤ c) : addLo x y c = (x + y + c) % 18446744073709551616 := by
  unfold addLo
  rw [Int.toNat_of_nonneg hx, Int.toNat_of_nonneg hy, Int.toNat_of_nonneg hc]
def L (s : Int × Int × Int) : Int := s.1 * 340282366920938463463374607431768211456 + s.2.1 * 18446744073709551616 + s.2.2
def Long (n v : Int) (s : Int × Int × Int) : Prop := U64 s.2.1 ∧ U64 s.2.2 ∧ -n ≤ s.1 ∧ s.1 ≤ n ∧ L s = v
theorem long_add {n v a0 a1 : Int} {s : Int × Int × Int} (h : Long n v s) (hn : n ≤ 1000000) (ha : I64 a0) (hu : U64 a1) : ∃ r, fixed_long_add.f s.1 s.2.1 s.2.2 a0 a1 = some r ∧ Long (n + 1) (v + W a0 a1) r := by
  obtain ⟨s0, s1, s2⟩ := s
  obtain ⟨h1, h2, h3, h4, h5⟩ := h
  dsimp only at h1 h2 h3 h4 h5
  unfold U64 at h1 h2 hu
  unfold I64 at ha
  unfold L at h5
  dsimp only at h5
  have e1 : addHi s2 a1 0 = (s2 + a1) / 18446744073709551616 := by rw [addHi_eq h2.1 hu.1 (by omega), Int.add_zero]
  have e2 : addLo s2 a1 0 = (s2 + a1) % 18446744073709551616 := by rw [addLo_eq h2.1 hu.1 (by omega), Int.add_zero]
  obtain ⟨c, hc⟩ : ∃ c, (s2 + a1) / 18446744073709551616 = c := ⟨_, rfl⟩
  obtain ⟨lo, hlo⟩ : ∃ c, (s2 + a1) % 18446744073709551616 = c := ⟨_, rfl⟩
  have hs : s2 + a1 = c * 18446744073709551616 + lo := by omega
  have c0 : 0 ≤ c ∧ c ≤ 1 := by omega
  have l0 : 0 ≤ lo ∧ lo < 18446744073709551616 := by omega
  rw [hc] at e1
  rw [hlo] at e2
  clear hc hlo
  have hue : IntKind.u64.wrap a0 = if a0 < 0 then a0 + 18446744073709551616 else a0 := by rw [IntKind.wrap_u64]; split <;> omega
  obtain ⟨u, hu1⟩ : ∃ u, IntKind.u64.wrap a0 = u := ⟨_, rfl⟩
  have u0 : 0 ≤ u ∧ u < 18446744073709551616 := by rw [← hu1, IntKind.wrap_u64]; omega
  rw [hu1] at hue
  have f1 : addHi s1 u c = (s1 + u + c) / 18446744073709551616 := addHi_eq h1.1 u0.1 c0.1
  have f2 : addLo s1 u c = (s1 + u + c) % 18446744073709551616 := addLo_eq h1.1 u0.1 c0.1
  obtain ⟨d, hd⟩ : ∃ z, (s1 + u + c) / 18446744073709551616 = z := ⟨_, rfl⟩
  obtain ⟨mi, hmi⟩ : ∃ z, (s1 + u + c) % 18446744073709551616 = z := ⟨_, rfl⟩
  have hs' : s1 + u + c = d * 18446744073709551616 + mi := by omega
  have d0 : 0 ≤ d ∧ d ≤ 1 := by omega
  have m0 : 0 ≤ mi ∧ mi < 18446744073709551616 := by omega
  rw [hd] at f1
  rw [hmi] at f2
  clear hd hmi
  have g1 : wrap64 d = d := w64 (by omega) (by omega)
  have g2 : a0 / 9223372036854775808 = if a0 < 0 then -1 else 0 := by split <;> omega
  obtain ⟨q, hq⟩ : ∃ q, (if a0 < 0 then (-1 : Int) else 0) = q := ⟨_, rfl⟩
  rw [hq] at g2
  have q0 : -1 ≤ q ∧ q ≤ 0 := by rw [← hq]; split <;> omega
  have g3 : wrap64 (q + d) = q + d := w64 (by omega) (by omega)
  have g4 : wrap64 (s0 + (q + d)) = s0 + (q + d) := w64 (by omega) (by omega)
  refine ⟨(s0 + (q + d), mi, lo), ?_, m0, l0, ?_, ?_, ?_⟩
  · show fixed_long_add.f s0 s1 s2 a0 a1 = _
    unfold fixed_long_add.f
    rw [e1, e2, hu1, f1, f2, g1, g2, g3, g4, if_pos c0.2]
  · show -(n + 1) ≤ s0 + (q + d)
    omega
  · show s0 + (q + d) ≤ n + 1
    omega
  · unfold L W wd
    dsimp only
    clear g1 g2 g3 g4 e1 e2 f1 f2 hu1
    by_cases ha0 : a0 < 0
    · rw [if_pos ha0] at hue hq
      omega
    · rw [if_neg ha0] at hue hq
      omega
theorem long_start : Long 0 0 (0, 0, 0) := ⟨⟨by simp, by simp⟩, ⟨by simp, by simp⟩, by simp, by simp, rfl⟩
theorem long_wide {n v : Int} {s : Int × Int × Int} (h : Long n v s) : ∃ r1 r2 r3, longWide s = some (r1, r2, r3) ∧ Is128 v r1 r2 r3 := by
  obtain ⟨s0, s1, s2⟩ := s
  obtain ⟨h1, h2, h3, h4, h5⟩ := h
  dsimp only at h1 h2 h3 h4 h5
  unfold L at h5
  dsimp only at h5
  have hw : wrap64 s1 = if s1 < 9223372036854775808 then s1 else s1 - 18446744073709551616 := by unfold U64 at h1; unfold wrap64; split <;> omega
  obtain ⟨x, hx⟩ : ∃ x, wrap64 s1 = x := ⟨_, rfl⟩
  have hx0 : I64 x := by rw [← hx]; unfold I64 wrap64; omega
  unfold longWide fixed_fits.f
  dsimp only
  rw [hx]
  rw [hx] at hw
  clear hx
  by_cases hb : s0 = x / 9223372036854775808
  · rw [if_pos (by simpa using hb)]
    refine ⟨_, _, _, rfl, Or.inl ⟨?_, rfl, hx0, h2, ?_⟩⟩
    · unfold I128
      unfold U64 at h1 h2
      unfold I64 at hx0
      split at hw <;> omega
    · unfold W wd
      unfold U64 at h1 h2
      unfold I64 at hx0
      split at hw <;> omega
  · rw [if_neg (by simpa using hb)]
    refine ⟨_, _, _, rfl, Or.inr ⟨?_, rfl, rfl, rfl⟩⟩
    unfold I128
    unfold U64 at h1 h2
    unfold I64 at hx0
    split at hw <;> omega
def totW (l : List S35) : Int := (l.map fun a => W a.f0 a.f1).sum
theorem longAll_f : ∀ (l : List S35) (n v : Int) (s : Int × Int × Int), Long n v s → n + l.length ≤ 1000000 → (∀ a ∈ l, I64 a.f0 ∧ U64 a.f1) → ∃ r m, longAll l s = some r ∧ Long m (v + totW l) r
  | [], n, v, s, h, hn, ha => ⟨s, n, rfl, by simpa [totW] using h⟩
  | a :: l, n, v, s, h, hn, ha => by
    have h0 := ha a (by simp)
    rw [List.length_cons] at hn
    obtain ⟨t, k1, k2⟩ := long_add h (by omega) h0.1 h0.2
    obtain ⟨r, m, j1, j2⟩ := longAll_f l (n + 1) _ t k2 (by omega) (fun x hx => ha x (by simp [hx]))
    refine ⟨r, m, ?_, ?_⟩
    · rw [longAll, k1]
      exact j1
    · rw [show v + totW (a :: l) = v + W a.f0 a.f1 + totW l by simp [totW]; omega]
      exact j2
theorem Plus_f (l : List S35) (hl : l.length ≤ 1000000) (ha : ∀ a ∈ l, I64 a.f0 ∧ U64 a.f1) : ∃ r1 r2 r3, fixed_Plus.f l = some (r1, r2, r3) ∧ Is128 (totW l) r1 r2 r3 := by
  obtain ⟨s, m, k1, k2⟩ := longAll_f l 0 0 _ long_start (by omega) ha
  obtain ⟨r1, r2, r3, j1, j2⟩ := long_wide k2
  refine ⟨r1, r2, r3, ?_, by simpa using j2⟩
  unfold fixed_Plus.f
  rw [k1]
  exact j1
theorem not_u64 {a : Int} (h : U64 a) : Go.bits .xor .u64 18446744073709551615 a = 18446744073709551615 - a := by
  obtain ⟨n, rfl⟩ := Int.eq_ofNat_of_zero_le h.1
  have hn : n < 18446744073709551616 := by have := h.2; omega
  show IntKind.u64.wrap ((BitVec.ofInt 64 18446744073709551615 ^^^ BitVec.ofInt 64 (n : Int)).toNat : Int) = _
  have h1 : BitVec.ofInt 64 18446744073709551615 = BitVec.allOnes 64 := by decide
  rw [h1, BitVec.allOnes_xor, BitVec.toNat_not, ofInt_u64 n hn, IntKind.wrap_u64]
  omega
theorem turned_f {h l : Int} (hh : I64 h) (hl : U64 l) (hm : h ≠ -9223372036854775808 ∨ l ≠ 0) : ∃ r1 r2, fixed_turned.f h l = some (r1, r2) ∧ I64 r1 ∧ U64 r2 ∧ W r1 r2 = -W h l := by
  have hue : IntKind.u64.wrap h = if h < 0 then h + 18446744073709551616 else h := by unfold I64 at hh; rw [IntKind.wrap_u64]; split <;> omega
  obtain ⟨u, hu⟩ : ∃ u, IntKind.u64.wrap h = u := ⟨_, rfl⟩
  have hu0 : U64 u := by rw [← hu, IntKind.wrap_u64]; unfold U64; omega
  unfold fixed_turned.f
  rw [hu, not_u64 hu0, not_u64 hl]
  rw [hu] at hue
  clear hu
  unfold U64 at hl hu0
  rw [addHi_eq (by omega) (by omega) (by omega), addLo_eq (by omega) (by omega) (by omega)]
  refine ⟨_, _, rfl, ?_, ?_, ?_⟩
  · unfold I64 wrap64
    omega
  · unfold U64
    omega
  · unfold I64 at hh
    unfold W wd
    by_cases h0 : l = 0
    · subst h0
      have e1 : ((18446744073709551615 : Int) - 0 + 1 + 0) / 18446744073709551616 = 1 := by decide
      have e2 : ((18446744073709551615 : Int) - 0 + 1 + 0) % 18446744073709551616 = 0 := by decide
      rw [e1, e2, IntKind.wrap_u64]
      unfold wrap64
      split at hue <;> omega
    · have e1 : (18446744073709551615 - l + 1 + 0) / 18446744073709551616 = 0 := by omega
      have e2 : (18446744073709551615 - l + 1 + 0) % 18446744073709551616 = 18446744073709551616 - l := by omega
      rw [e1, e2, IntKind.wrap_u64]
      unfold wrap64
      split at hue <;> omega
theorem size_u {a : Int} (h : I64 a) : fixed_size.f a = some (a.natAbs : Int) := by
  unfold I64 at h
  unfold fixed_size.f
  split
  · rw [IntKind.wrap_u64, IntKind.wrap_u64]
    congr 1
    omega
  · rw [IntKind.wrap_u64]
    congr 1
    omega
theorem Mul64_f {x y : Int} (hx : U64 x) (hy : U64 y) : bits_Mul64.f x y = some (x * y / 18446744073709551616, x * y % 18446744073709551616) := by
  unfold bits_Mul64.f
  simp only [and_low32 x hx.1 hx.2, and_low32 y hy.1 hy.2]
  rw [and_low32 _ (by rw [IntKind.wrap_u64]; omega) (by rw [IntKind.wrap_u64]; omega)]
  simp only [IntKind.wrap_u64]
  rw [mul64_arith x y hx.1 hx.2 hy.1 hy.2]
theorem Times_f {a b : Int} (ha : I64 a) (hb : I64 b) : ∃ r1 r2, fixed_Times.f a b = some (r1, r2) ∧ I64 r1 ∧ U64 r2 ∧ W r1 r2 = a * b := by
  have ux : U64 (a.natAbs : Int) := by unfold U64; unfold I64 at ha; omega
  have uy : U64 (b.natAbs : Int) := by unfold U64; unfold I64 at hb; omega
  have hle : (a.natAbs : Int) * (b.natAbs : Int) ≤ 9223372036854775808 * 9223372036854775808 := by
    apply Int.mul_le_mul
    · unfold I64 at ha; omega
    · unfold I64 at hb; omega
    · omega
    · omega
  have h0 : 0 ≤ (a.natAbs : Int) * (b.natAbs : Int) := Int.mul_nonneg (by omega) (by omega)
  have hab : a * b = if ((decide (a < 0)) != (decide (b < 0))) = true then -((a.natAbs : Int) * (b.natAbs : Int)) else (a.natAbs : Int) * (b.natAbs : Int) := by
    by_cases h1 : a < 0 <;> by_cases h2 : b < 0
    · rw [if_neg (by simp [h1, h2]), show (a.natAbs : Int) = -a by omega, show (b.natAbs : Int) = -b by omega, Int.neg_mul_neg]
    · rw [if_pos (by simp [h1, h2]), show (a.natAbs : Int) = -a by omega, show (b.natAbs : Int) = b by omega, Int.neg_mul, Int.neg_neg]
    · rw [if_pos (by simp [h1, h2]), show (a.natAbs : Int) = a by omega, show (b.natAbs : Int) = -b by omega, Int.mul_neg, Int.neg_neg]
    · rw [if_neg (by simp [h1, h2]), show (a.natAbs : Int) = a by omega, show (b.natAbs : Int) = b by omega]
  rw [hab]
  unfold fixed_Times.f
  rw [size_u ha, size_u hb, Option.bind_some, Option.bind_some, Mul64_f ux uy, Option.bind_some]
  dsimp only
  generalize (a.natAbs : Int) * (b.natAbs : Int) = p at *
  clear hab ux uy
  have hw : wrap64 (p / 18446744073709551616) = p / 18446744073709551616 := w64 (by omega) (by omega)
  have e1 : I64 (p / 18446744073709551616) := by unfold I64; omega
  have e2 : U64 (p % 18446744073709551616) := by unfold U64; omega
  have e3 : W (p / 18446744073709551616) (p % 18446744073709551616) = p := by unfold W wd; omega
  rw [hw]
  split
  · obtain ⟨r1, r2, k1, k2, k3, k4⟩ := turned_f e1 e2 (Or.inl (by omega))
    refine ⟨r1, r2, ?_, k2, k3, by rw [k4, e3]⟩
    rw [k1]
    rfl
  · exact ⟨_, _, rfl, e1, e2, e3⟩
end Go.Proofs.YtjbbigodkhnokaaDoor.Fp
end
