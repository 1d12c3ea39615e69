/- Texts of this seat, put together (Zh9). -/
import Derived.Laws.MathBits
import Derived.Laws.BitsAllLaws
import Derived.Laws.DeepNot64
import Derived.KernelRfl
import Derived.Test.YthhgcjlgnafdcaaZh3
import Derived.Test.YthhgcjlgnafdcaaZh4
import Derived.Test.YthhgcjlgnafdcaaZh5
import Derived.Test.YthhgcjlgnafdcaaZh8
section
namespace Go.Proofs.Ythhgcjlgnafdcaa.Fp
set_option linter.unusedSimpArgs false
set_option linter.unusedVariables false
open Go Go.RowKit Go.Proofs.Ythhgcjlgnafdcaa.Px Go.Proofs.YthhgcjlgnafdcaaW.PrintWords Go.Proofs.YthhgcjlgnafdcaaW.PrintLast
open Go.Proofs.Ythhgcjlgnafdcaa.Nu (I64 U64 I128 w64 wd sgn)
abbrev W (hi lo : Int) : Int := wd hi lo
def Is128 (v r1 r2 r3 : Int) : Prop := (I128 v ∧ r3 = 0 ∧ I64 r1 ∧ U64 r2 ∧ W r1 r2 = v) ∨ (¬ I128 v ∧ r1 = 0 ∧ r2 = 0 ∧ r3 = 4)
def Is64 (v r1 r2 : Int) : Prop := (I64 v ∧ r1 = v ∧ r2 = 0) ∨ (¬ I64 v ∧ r1 = 0 ∧ r2 = 4)
theorem addHi_eq {x y c : Int} (hx : 0 ≤ x) (hy : 0 ≤ y) (hc : 0 ≤ c) : addHi x y c = (x + y + c) / 18446744073709551616 := by
  unfold addHi
  rw [Int.toNat_of_nonneg hx, Int.toNat_of_nonneg hy, Int.toNat_of_nonneg hc]
theorem addLo_eq {x y c : Int} (hx : 0 ≤ x) (hy : 0 ≤ y) (hc : 0 ≤ c) : addLo x y c = (x + y + c) % 18446744073709551616 := by
  unfold addLo
  rw [Int.toNat_of_nonneg hx, Int.toNat_of_nonneg hy, Int.toNat_of_nonneg hc]
def L (s : Int × Int × Int) : Int := s.1 * 340282366920938463463374607431768211456 + s.2.1 * 18446744073709551616 + s.2.2
def Long (n v : Int) (s : Int × Int × Int) : Prop := U64 s.2.1 ∧ U64 s.2.2 ∧ -n ≤ s.1 ∧ s.1 ≤ n ∧ L s = v
theorem long_add {n v a0 a1 : Int} {s : Int × Int × Int} (h : Long n v s) (hn : n ≤ 1000000) (ha : I64 a0) (hu : U64 a1) : ∃ r, fixed_long_add.f s.1 s.2.1 s.2.2 a0 a1 = some r ∧ Long (n + 1) (v + W a0 a1) r := by
  obtain ⟨s0, s1, s2⟩ := s
  obtain ⟨h1, h2, h3, h4, h5⟩ := h
  dsimp only at h1 h2 h3 h4 h5
  unfold U64 at h1 h2 hu
  unfold I64 at ha
  unfold L at h5
  dsimp only at h5
  have e1 : addHi s2 a1 0 = (s2 + a1) / 18446744073709551616 := by rw [addHi_eq h2.1 hu.1 (by omega), Int.add_zero]
  have e2 : addLo s2 a1 0 = (s2 + a1) % 18446744073709551616 := by rw [addLo_eq h2.1 hu.1 (by omega), Int.add_zero]
  obtain ⟨c, hc⟩ : ∃ c, (s2 + a1) / 18446744073709551616 = c := ⟨_, rfl⟩
  obtain ⟨lo, hlo⟩ : ∃ c, (s2 + a1) % 18446744073709551616 = c := ⟨_, rfl⟩
  have hs : s2 + a1 = c * 18446744073709551616 + lo := by omega
  have c0 : 0 ≤ c ∧ c ≤ 1 := by omega
  have l0 : 0 ≤ lo ∧ lo < 18446744073709551616 := by omega
  rw [hc] at e1
  rw [hlo] at e2
  clear hc hlo
  have hue : IntKind.u64.wrap a0 = if a0 < 0 then a0 + 18446744073709551616 else a0 := by rw [IntKind.wrap_u64]; split <;> omega
  obtain ⟨u, hu1⟩ : ∃ u, IntKind.u64.wrap a0 = u := ⟨_, rfl⟩
  have u0 : 0 ≤ u ∧ u < 18446744073709551616 := by rw [← hu1, IntKind.wrap_u64]; omega
  rw [hu1] at hue
  have f1 : addHi s1 u c = (s1 + u + c) / 18446744073709551616 := addHi_eq h1.1 u0.1 c0.1
  have f2 : addLo s1 u c = (s1 + u + c) % 18446744073709551616 := addLo_eq h1.1 u0.1 c0.1
  obtain ⟨d, hd⟩ : ∃ z, (s1 + u + c) / 18446744073709551616 = z := ⟨_, rfl⟩
  obtain ⟨mi, hmi⟩ : ∃ z, (s1 + u + c) % 18446744073709551616 = z := ⟨_, rfl⟩
  have hs' : s1 + u + c = d * 18446744073709551616 + mi := by omega
  have d0 : 0 ≤ d ∧ d ≤ 1 := by omega
  have m0 : 0 ≤ mi ∧ mi < 18446744073709551616 := by omega
  rw [hd] at f1
  rw [hmi] at f2
  clear hd hmi
  have g1 : wrap64 d = d := w64 (by omega) (by omega)
  have g2 : a0 / 9223372036854775808 = if a0 < 0 then -1 else 0 := by split <;> omega
  obtain ⟨q, hq⟩ : ∃ q, (if a0 < 0 then (-1 : Int) else 0) = q := ⟨_, rfl⟩
  rw [hq] at g2
  have q0 : -1 ≤ q ∧ q ≤ 0 := by rw [← hq]; split <;> omega
  have g3 : wrap64 (q + d) = q + d := w64 (by omega) (by omega)
  have g4 : wrap64 (s0 + (q + d)) = s0 + (q + d) := w64 (by omega) (by omega)
  refine ⟨(s0 + (q + d), mi, lo), ?_, m0, l0, ?_, ?_, ?_⟩
  · show fixed_long_add.f s0 s1 s2 a0 a1 = _
    unfold fixed_long_add.f
    rw [e1, e2, hu1, f1, f2, g1, g2, g3, g4, if_pos c0.2]
  · show -(n + 1) ≤ s0 + (q + d)
    omega
  · show s0 + (q + d) ≤ n + 1
    omega
  · unfold L W wd
    dsimp only
    clear g1 g2 g3 g4 e1 e2 f1 f2 hu1
    by_cases ha0 : a0 < 0
    · rw [if_pos ha0] at hue hq
      omega
    · rw [if_neg ha0] at hue hq
      omega
theorem long_start : Long 0 0 (0, 0, 0) := ⟨⟨by simp, by simp⟩, ⟨by simp, by simp⟩, by simp, by simp, rfl⟩
theorem long_wide {n v : Int} {s : Int × Int × Int} (h : Long n v s) : ∃ r1 r2 r3, longWide s = some (r1, r2, r3) ∧ Is128 v r1 r2 r3 := by
  obtain ⟨s0, s1, s2⟩ := s
  obtain ⟨h1, h2, h3, h4, h5⟩ := h
  dsimp only at h1 h2 h3 h4 h5
  unfold L at h5
  dsimp only at h5
  have hw : wrap64 s1 = if s1 < 9223372036854775808 then s1 else s1 - 18446744073709551616 := by unfold U64 at h1; unfold wrap64; split <;> omega
  obtain ⟨x, hx⟩ : ∃ x, wrap64 s1 = x := ⟨_, rfl⟩
  have hx0 : I64 x := by rw [← hx]; unfold I64 wrap64; omega
  unfold longWide fixed_fits.f
  dsimp only
  rw [hx]
  rw [hx] at hw
  clear hx
  by_cases hb : s0 = x / 9223372036854775808
  · rw [if_pos (by simpa using hb)]
    refine ⟨_, _, _, rfl, Or.inl ⟨?_, rfl, hx0, h2, ?_⟩⟩
    · unfold I128
      unfold U64 at h1 h2
      unfold I64 at hx0
      split at hw <;> omega
    · unfold W wd
      unfold U64 at h1 h2
      unfold I64 at hx0
      split at hw <;> omega
  · rw [if_neg (by simpa using hb)]
    refine ⟨_, _, _, rfl, Or.inr ⟨?_, rfl, rfl, rfl⟩⟩
    unfold I128
    unfold U64 at h1 h2
    unfold I64 at hx0
    split at hw <;> omega
theorem Int_f {h l : Int} (hh : I64 h) (hl : U64 l) : ∃ r1 r2, fixed_Int.f h l = some (r1, r2) ∧ Is64 (W h l) r1 r2 := by
  have hw : wrap64 l = if l < 9223372036854775808 then l else l - 18446744073709551616 := by unfold U64 at hl; unfold wrap64; split <;> omega
  obtain ⟨x, hx⟩ : ∃ x, wrap64 l = x := ⟨_, rfl⟩
  unfold fixed_Int.f
  rw [hx]
  rw [hx] at hw
  clear hx
  unfold U64 at hl
  unfold I64 at hh
  by_cases hb : h = x / 9223372036854775808
  · rw [if_pos hb]
    refine ⟨_, _, rfl, Or.inl ⟨?_, ?_, rfl⟩⟩
    · unfold I64 W wd
      split at hw <;> omega
    · unfold W wd
      split at hw <;> omega
  · rw [if_neg hb]
    refine ⟨_, _, rfl, Or.inr ⟨?_, rfl, rfl⟩⟩
    unfold I64 W wd
    split at hw <;> omega
theorem narrow_f {v r1 r2 r3 : Int} (h : Is128 v r1 r2 r3) : ∃ q1 q2, fixed_narrow.f r1 r2 r3 = some (q1, q2) ∧ Is64 v q1 q2 := by
  rcases h with ⟨h1, rfl, h2, h3, rfl⟩ | ⟨h1, rfl, rfl, rfl⟩
  · obtain ⟨q1, q2, k1, k2⟩ := Int_f h2 h3
    refine ⟨q1, q2, ?_, k2⟩
    unfold fixed_narrow.f
    rw [if_pos rfl, k1]
    rfl
  · refine ⟨0, 4, by unfold fixed_narrow.f; rw [if_neg (by omega)], Or.inr ⟨?_, rfl, rfl⟩⟩
    unfold I128 at h1
    unfold I64
    omega
def totW (l : List S43) : Int := (l.map fun a => W a.f0 a.f1).sum
theorem longAll_f : ∀ (l : List S43) (n v : Int) (s : Int × Int × Int), Long n v s → n + l.length ≤ 1000000 → (∀ a ∈ l, I64 a.f0 ∧ U64 a.f1) → ∃ r m, longAll l s = some r ∧ Long m (v + totW l) r
  | [], n, v, s, h, hn, ha => ⟨s, n, rfl, by simpa [totW] using h⟩
  | a :: l, n, v, s, h, hn, ha => by
    have h0 := ha a (by simp)
    rw [List.length_cons] at hn
    obtain ⟨t, k1, k2⟩ := long_add h (by omega) h0.1 h0.2
    obtain ⟨r, m, j1, j2⟩ := longAll_f l (n + 1) _ t k2 (by omega) (fun x hx => ha x (by simp [hx]))
    refine ⟨r, m, ?_, ?_⟩
    · rw [longAll, k1]
      exact j1
    · rw [show v + totW (a :: l) = v + W a.f0 a.f1 + totW l by simp [totW]; omega]
      exact j2
theorem Plus_f (l : List S43) (hl : l.length ≤ 1000000) (ha : ∀ a ∈ l, I64 a.f0 ∧ U64 a.f1) : ∃ r1 r2 r3, fixed_Plus.f l = some (r1, r2, r3) ∧ Is128 (totW l) r1 r2 r3 := by
  obtain ⟨s, m, k1, k2⟩ := longAll_f l 0 0 _ long_start (by omega) ha
  obtain ⟨r1, r2, r3, j1, j2⟩ := long_wide k2
  refine ⟨r1, r2, r3, ?_, by simpa using j2⟩
  unfold fixed_Plus.f
  rw [k1]
  exact j1
theorem of_W {a : Int} (h : I64 a) : I64 (a / 9223372036854775808) ∧ U64 (IntKind.u64.wrap a) ∧ W (a / 9223372036854775808) (IntKind.u64.wrap a) = a := by
  have hue : IntKind.u64.wrap a = if a < 0 then a + 18446744073709551616 else a := by unfold I64 at h; rw [IntKind.wrap_u64]; split <;> omega
  unfold I64 at h
  rw [hue]
  unfold I64 U64 W wd
  split <;> refine ⟨?_, ?_, ?_⟩ <;> omega
theorem not_u64 {a : Int} (h : U64 a) : Go.bits .xor .u64 18446744073709551615 a = 18446744073709551615 - a := by
  obtain ⟨n, rfl⟩ := Int.eq_ofNat_of_zero_le h.1
  have hn : n < 18446744073709551616 := by have := h.2; omega
  show IntKind.u64.wrap ((BitVec.ofInt 64 18446744073709551615 ^^^ BitVec.ofInt 64 (n : Int)).toNat : Int) = _
  have h1 : BitVec.ofInt 64 18446744073709551615 = BitVec.allOnes 64 := by decide
  rw [h1, BitVec.allOnes_xor, BitVec.toNat_not, ofInt_u64 n hn, IntKind.wrap_u64]
  omega
theorem not_i64 {a : Int} (h : I64 a) : Go.bits .xor .i64 (-1) a = -1 - a := by
  unfold I64 at h
  show IntKind.i64.wrap ((BitVec.ofInt 64 (-1) ^^^ BitVec.ofInt 64 a).toNat : Int) = _
  have h1 : BitVec.ofInt 64 (-1) = BitVec.allOnes 64 := by decide
  rw [h1, BitVec.allOnes_xor, BitVec.toNat_not, BitVec.toNat_ofInt, IntKind.wrap_i64]
  omega
theorem Minus_f {a0 a1 b0 b1 : Int} (ha : I64 a0) (ua : U64 a1) (hb : I64 b0) (ub : U64 b1) : ∃ r1 r2 r3, fixed_Minus.f a0 a1 b0 b1 = some (r1, r2, r3) ∧ Is128 (W a0 a1 - W b0 b1) r1 r2 r3 := by
  obtain ⟨s, k1, k2⟩ := long_add long_start (by omega) ha ua
  obtain ⟨t, m1, m2⟩ := long_add k2 (by omega) (a0 := -1 - b0) (a1 := 18446744073709551615 - b1) (by unfold I64 at *; omega) (by unfold U64 at *; omega)
  obtain ⟨u, l1, l2⟩ := long_add m2 (by omega) (a0 := 0) (a1 := 1) (by unfold I64; omega) (by unfold U64; omega)
  obtain ⟨r1, r2, r3, j1, j2⟩ := long_wide l2
  refine ⟨r1, r2, r3, ?_, ?_⟩
  · unfold fixed_Minus.f
    rw [not_i64 hb, not_u64 ub]
    dsimp only at k1
    rw [k1, Option.bind_some, m1, Option.bind_some, l1, Option.bind_some, j1]
  · have e : 0 + W a0 a1 + W (-1 - b0) (18446744073709551615 - b1) + W 0 1 = W a0 a1 - W b0 b1 := by unfold W wd; omega
    rw [e] at j2
    exact j2
theorem Sub_narrow {a b : Int} (ha : I64 a) (hb : I64 b) : ∃ r1 r2, fixed_Sub.f a b = some (r1, r2) ∧ Is64 (a - b) r1 r2 := by
  have h1 := of_W ha
  have h2 := of_W hb
  obtain ⟨r1, r2, r3, j1, j2⟩ := Minus_f h1.1 h1.2.1 h2.1 h2.2.1
  rw [h1.2.2, h2.2.2] at j2
  obtain ⟨q1, q2, i1, i2⟩ := narrow_f j2
  refine ⟨q1, q2, ?_, i2⟩
  unfold fixed_Sub.f fixed_Of.f
  simp only [Option.bind_some]
  rw [j1, Option.bind_some, i1]
  rfl
theorem turned_f {h l : Int} (hh : I64 h) (hl : U64 l) (hm : h ≠ -9223372036854775808 ∨ l ≠ 0) : ∃ r1 r2, fixed_turned.f h l = some (r1, r2) ∧ I64 r1 ∧ U64 r2 ∧ W r1 r2 = -W h l := by
  have hue : IntKind.u64.wrap h = if h < 0 then h + 18446744073709551616 else h := by unfold I64 at hh; rw [IntKind.wrap_u64]; split <;> omega
  obtain ⟨u, hu⟩ : ∃ u, IntKind.u64.wrap h = u := ⟨_, rfl⟩
  have hu0 : U64 u := by rw [← hu, IntKind.wrap_u64]; unfold U64; omega
  unfold fixed_turned.f
  rw [hu, not_u64 hu0, not_u64 hl]
  rw [hu] at hue
  clear hu
  unfold U64 at hl hu0
  rw [addHi_eq (by omega) (by omega) (by omega), addLo_eq (by omega) (by omega) (by omega)]
  refine ⟨_, _, rfl, ?_, ?_, ?_⟩
  · unfold I64 wrap64
    omega
  · unfold U64
    omega
  · unfold I64 at hh
    unfold W wd
    by_cases h0 : l = 0
    · subst h0
      have e1 : ((18446744073709551615 : Int) - 0 + 1 + 0) / 18446744073709551616 = 1 := by decide
      have e2 : ((18446744073709551615 : Int) - 0 + 1 + 0) % 18446744073709551616 = 0 := by decide
      rw [e1, e2, IntKind.wrap_u64]
      unfold wrap64
      split at hue <;> omega
    · have e1 : (18446744073709551615 - l + 1 + 0) / 18446744073709551616 = 0 := by omega
      have e2 : (18446744073709551615 - l + 1 + 0) % 18446744073709551616 = 18446744073709551616 - l := by omega
      rw [e1, e2, IntKind.wrap_u64]
      unfold wrap64
      split at hue <;> omega
theorem size_u {a : Int} (h : I64 a) : fixed_size.f a = some (a.natAbs : Int) := by
  unfold I64 at h
  unfold fixed_size.f
  split
  · rw [IntKind.wrap_u64, IntKind.wrap_u64]
    congr 1
    omega
  · rw [IntKind.wrap_u64]
    congr 1
    omega
theorem Mul64_f {x y : Int} (hx : U64 x) (hy : U64 y) : bits_Mul64.f x y = some (x * y / 18446744073709551616, x * y % 18446744073709551616) := by
  unfold bits_Mul64.f
  simp only [and_low32 x hx.1 hx.2, and_low32 y hy.1 hy.2]
  rw [and_low32 _ (by rw [IntKind.wrap_u64]; omega) (by rw [IntKind.wrap_u64]; omega)]
  simp only [IntKind.wrap_u64]
  rw [mul64_arith x y hx.1 hx.2 hy.1 hy.2]
theorem Times_f {a b : Int} (ha : I64 a) (hb : I64 b) : ∃ r1 r2, fixed_Times.f a b = some (r1, r2) ∧ I64 r1 ∧ U64 r2 ∧ W r1 r2 = a * b := by
  have ux : U64 (a.natAbs : Int) := by unfold U64; unfold I64 at ha; omega
  have uy : U64 (b.natAbs : Int) := by unfold U64; unfold I64 at hb; omega
  have hle : (a.natAbs : Int) * (b.natAbs : Int) ≤ 9223372036854775808 * 9223372036854775808 := by
    apply Int.mul_le_mul
    · unfold I64 at ha; omega
    · unfold I64 at hb; omega
    · omega
    · omega
  have h0 : 0 ≤ (a.natAbs : Int) * (b.natAbs : Int) := Int.mul_nonneg (by omega) (by omega)
  have hab : a * b = if ((decide (a < 0)) != (decide (b < 0))) = true then -((a.natAbs : Int) * (b.natAbs : Int)) else (a.natAbs : Int) * (b.natAbs : Int) := by
    by_cases h1 : a < 0 <;> by_cases h2 : b < 0
    · rw [if_neg (by simp [h1, h2]), show (a.natAbs : Int) = -a by omega, show (b.natAbs : Int) = -b by omega, Int.neg_mul_neg]
    · rw [if_pos (by simp [h1, h2]), show (a.natAbs : Int) = -a by omega, show (b.natAbs : Int) = b by omega, Int.neg_mul, Int.neg_neg]
    · rw [if_pos (by simp [h1, h2]), show (a.natAbs : Int) = a by omega, show (b.natAbs : Int) = -b by omega, Int.mul_neg, Int.neg_neg]
    · rw [if_neg (by simp [h1, h2]), show (a.natAbs : Int) = a by omega, show (b.natAbs : Int) = b by omega]
  rw [hab]
  unfold fixed_Times.f
  rw [size_u ha, size_u hb, Option.bind_some, Option.bind_some, Mul64_f ux uy, Option.bind_some]
  dsimp only
  generalize (a.natAbs : Int) * (b.natAbs : Int) = p at *
  clear hab ux uy
  have hw : wrap64 (p / 18446744073709551616) = p / 18446744073709551616 := w64 (by omega) (by omega)
  have e1 : I64 (p / 18446744073709551616) := by unfold I64; omega
  have e2 : U64 (p % 18446744073709551616) := by unfold U64; omega
  have e3 : W (p / 18446744073709551616) (p % 18446744073709551616) = p := by unfold W wd; omega
  rw [hw]
  split
  · obtain ⟨r1, r2, k1, k2, k3, k4⟩ := turned_f e1 e2 (Or.inl (by omega))
    refine ⟨r1, r2, ?_, k2, k3, by rw [k4, e3]⟩
    rw [k1]
    rfl
  · exact ⟨_, _, rfl, e1, e2, e3⟩
theorem Compare_w {a0 a1 b0 b1 : Int} (ha : I64 a0) (ua : U64 a1) (hb : I64 b0) (ub : U64 b1) (e : Nat) : fixed_Compare.f (4 + e) a0 a1 b0 b1 = some (sgn (W a0 a1) (W b0 b1)) := by
  have c1 : cmp_Compare_int64.f a0 b0 = some (sgn a0 b0) := by
    unfold cmp_Compare_int64.f cmp_isNaN_int64.f sgn
    simp
    split
    · rfl
    · split <;> simp_all
  have c2 : cmp_Compare_uint64.f a1 b1 = some (sgn a1 b1) := by
    unfold cmp_Compare_uint64.f cmp_isNaN_uint64.f sgn
    simp
    split
    · rfl
    · split <;> simp_all
  have c3 : ∀ x y : Int, cmp_Or_int.f (4 + e) [x, y] = some (if x = 0 then y else x) := by
    intro x y
    unfold cmp_Or_int.f
    rw [show 4 + e = e + 3 + 1 by omega, cmp_Or_int.l0]
    simp only [List.length_cons, List.length_nil]
    rw [if_pos (by omega), if_pos (by omega), if_pos (by omega), show rd [x, y] 0 = x from rfl]
    by_cases hx : x = 0
    · rw [if_pos hx, if_pos hx, show wrap64 (0 + 1) = 1 by unfold wrap64; omega, show e + 3 = e + 2 + 1 by omega, cmp_Or_int.l0]
      simp only [List.length_cons, List.length_nil]
      rw [if_pos (by omega), if_pos (by omega), if_pos (by omega), show rd [x, y] 1 = y from rfl]
      by_cases hy : y = 0
      · rw [if_pos hy, show wrap64 (1 + 1) = 2 by unfold wrap64; omega, show e + 2 = e + 1 + 1 by omega, cmp_Or_int.l0]
        simp [hy]
      · rw [if_neg hy]
    · rw [if_neg hx, if_neg hx]
  unfold fixed_Compare.f
  rw [c1, Option.bind_some, c2, Option.bind_some, c3, Option.bind_some]
  congr 1
  unfold sgn W wd
  unfold I64 at ha hb
  unfold U64 at ua ub
  (repeat' split) <;> omega
theorem Sign_w {a0 a1 : Int} (ha : I64 a0) (ua : U64 a1) (e : Nat) : fixed_Sign.f (4 + e) a0 a1 = some (sgn (W a0 a1) 0) := by
  unfold fixed_Sign.f
  rw [Compare_w ha ua (b0 := 0) (b1 := 0) (by unfold I64; omega) (by unfold U64; omega) e, show W 0 0 = 0 by unfold W wd; omega]
  rfl
end Go.Proofs.Ythhgcjlgnafdcaa.Fp
end
section
namespace Go.Proofs.Ythhgcjlgnafdcaa.Fq
set_option linter.unusedSimpArgs false
set_option linter.unusedVariables false
open Go Go.RowKit Go.Proofs.Ythhgcjlgnafdcaa.Px Go.Proofs.YthhgcjlgnafdcaaW.PrintWords Go.Proofs.YthhgcjlgnafdcaaW.PrintMore Go.Proofs.YthhgcjlgnafdcaaW.PrintLast Go.Proofs.Ythhgcjlgnafdcaa.Fp
open Go.Proofs.Ythhgcjlgnafdcaa.Nu (I64 U64 I128 w64 wd sgn)
structure Dig (y y1 y0 u un q r : Int) : Prop where
  ey : y = y1 * 4294967296 + y0
  h0 : 0 ≤ y0 ∧ y0 < 4294967296
  h1 : 2147483648 ≤ y1 ∧ y1 < 4294967296
  hu : 0 ≤ u ∧ u < y
  hn : 0 ≤ un ∧ un < 4294967296
  eq : q * y1 + r = u
  hq : 0 ≤ q ∧ q ≤ 17179869184
  hr : 0 ≤ r
  le : (u * 4294967296 + un) / y ≤ q
theorem Dig.pos {y y1 y0 u un q r : Int} (h : Dig y y1 y0 u un q r) : 0 < y := by
  have := h.ey; have := h.h0; have := h.h1; omega
theorem Dig.small {y y1 y0 u un q r : Int} (h : Dig y y1 y0 u un q r) : (u * 4294967296 + un) / y < 4294967296 := by
  apply Int.ediv_lt_of_lt_mul h.pos
  have h2 := h.hu; have h3 := h.hn; have := h.pos
  omega
theorem Dig.test {y y1 y0 u un q r : Int} (h : Dig y y1 y0 u un q r) : q * y0 > 4294967296 * r + un ↔ (u * 4294967296 + un) / y < q := by
  have hp := h.pos
  have e1 : q * y = q * y1 * 4294967296 + q * y0 := by rw [h.ey, Int.mul_add, Int.mul_assoc]
  have e2 := h.eq
  rw [Int.ediv_lt_iff_lt_mul hp]
  generalize q * y = a at *
  generalize q * y1 = b at *
  generalize q * y0 = c at *
  clear h
  omega
theorem Dig.next {y y1 y0 u un q r : Int} (h : Dig y y1 y0 u un q r) (hl : (u * 4294967296 + un) / y < q) : Dig y y1 y0 u un (q - 1) (r + y1) := by
  have hs : 0 ≤ (u * 4294967296 + un) / y := Int.ediv_nonneg (by have := h.hu; have := h.hn; omega) (by have := h.pos; omega)
  refine ⟨h.ey, h.h0, h.h1, h.hu, h.hn, ?_, ?_, ?_, by omega⟩
  · have := h.eq
    rw [Int.sub_mul, Int.one_mul]
    omega
  · have := h.hq; omega
  · have := h.hr; have := h.h1; omega
theorem Dig.last {y y1 y0 u un q r : Int} (h : Dig y y1 y0 u un q r) (hr : 4294967296 ≤ r) : q = (u * 4294967296 + un) / y := by
  have hq : q < 4294967296 := by
    have e := h.eq; have h1 := h.h1; have h2 := h.hu; have h3 := h.ey; have h4 := h.h0
    rcases Int.lt_or_le q 4294967296 with h5 | h5
    · exact h5
    · have h6 : 4294967296 * y1 ≤ q * y1 := Int.mul_le_mul_of_nonneg_right h5 (by omega)
      generalize q * y1 = b at *
      omega
  have h7 : q * y0 ≤ 4294967295 * y0 := Int.mul_le_mul_of_nonneg_right (by omega) h.h0.1
  have h8 : ¬ (u * 4294967296 + un) / y < q := by
    rw [← h.test]
    have := h.h0; have := h.hn
    generalize q * y0 = c at *
    omega
  have := h.le
  omega
theorem Dig.first {y y1 y0 u un : Int} (ey : y = y1 * 4294967296 + y0) (h0 : 0 ≤ y0 ∧ y0 < 4294967296) (h1 : 2147483648 ≤ y1 ∧ y1 < 4294967296) (hu : 0 ≤ u ∧ u < y) (hn : 0 ≤ un ∧ un < 4294967296) : Dig y y1 y0 u un (u / y1) (u - u / y1 * y1) ∧ u - u / y1 * y1 < 4294967296 := by
  have hp : 0 < y1 := by omega
  have e1 := Int.mul_ediv_add_emod u y1
  have e2 := Int.emod_nonneg u (Int.ne_of_gt hp)
  have e3 := Int.emod_lt_of_pos u hp
  have e4 : y1 * (u / y1) = u / y1 * y1 := Int.mul_comm _ _
  have hq0 : 0 ≤ u / y1 := Int.ediv_nonneg hu.1 (by omega)
  have hq1 : u / y1 ≤ 17179869184 := by
    have h5 : u / y1 < 17179869184 := by
      apply Int.ediv_lt_of_lt_mul hp
      omega
    omega
  refine ⟨⟨ey, h0, h1, hu, hn, by omega, ⟨hq0, hq1⟩, by omega, ?_⟩, by omega⟩
  have hy : 0 < y := by omega
  have h6 : (u * 4294967296 + un) / y < u / y1 + 1 := by
    apply Int.ediv_lt_of_lt_mul hy
    rw [ey, Int.mul_add, Int.add_mul, Int.one_mul, ← Int.mul_assoc, Int.add_mul]
    have h7 : 0 ≤ u / y1 * y0 := Int.mul_nonneg hq0 h0.1
    have h8 : (u / y1 + 1) * y0 = u / y1 * y0 + y0 := by rw [Int.add_mul, Int.one_mul]
    generalize u / y1 * y1 = a at *
    generalize u / y1 * y0 = b at *
    omega
  omega
theorem wu {x : Int} (h0 : 0 ≤ x) (h1 : x < 18446744073709551616) : IntKind.u64.wrap x = x := by rw [IntKind.wrap_u64]; omega
theorem Dig.bool {y y1 y0 u un q r : Int} (h : Dig y y1 y0 u un q r) (hr : r < 4294967296) (hq : q < 4294967296) : decide (IntKind.u64.wrap (q * y0) > IntKind.u64.wrap (IntKind.u64.wrap (4294967296 * r) + un)) = decide ((u * 4294967296 + un) / y < q) := by
  have h1 := h.h0; have h2 := h.hn; have h3 := h.hr; have h4 := h.hq
  have h5 : q * y0 ≤ 4294967295 * y0 := Int.mul_le_mul_of_nonneg_right (by omega) h1.1
  have h6 : 0 ≤ q * y0 := Int.mul_nonneg h4.1 h1.1
  rw [wu h6 (by omega), wu (x := 4294967296 * r) (by omega) (by omega), wu (x := 4294967296 * r + un) (by omega) (by omega), decide_eq_decide]
  exact h.test
theorem Dig.notneg {y y1 y0 u un q r : Int} (h : Dig y y1 y0 u un q r) : 0 ≤ (u * 4294967296 + un) / y := Int.ediv_nonneg (by have := h.hu; have := h.hn; omega) (by have := h.pos; omega)
theorem l0_f {y s y1 y0 u un x14 : Int} {K0 : Nat} {R : Int × Int} (hc : ∀ e, bits_Div64.j2 (K0 + e) y s y1 y0 u un x14 ((u * 4294967296 + un) / y) = some R) : ∀ (n : Nat) (q r : Int), Dig y y1 y0 u un q r → r < 4294967296 → 4294967296 ≤ r + n * 2147483648 → ∃ K, ∀ e, bits_Div64.l0 (K + e) y s y1 y0 u un x14 q r = some R
  | 0, q, r, h, hr, hn => by
    exfalso
    have : ((0 : Nat) : Int) * 2147483648 = 0 := by simp
    omega
  | n + 1, q, r, h, hr, hn => by
    have key : ∃ K, ∀ e, bits_Div64.j1 (K + e) y s y1 y0 u un x14 q r (decide ((u * 4294967296 + un) / y < q)) = some R := by
      by_cases hl : (u * 4294967296 + un) / y < q
      · have hx := h.next hl
        have h1 := h.h1; have h3 := h.hr; have h4 := h.hq; have h5 := h.notneg
        have e1 : IntKind.u64.wrap (r + y1) = r + y1 := wu (by omega) (by omega)
        have e2 : IntKind.u64.wrap (q - 1) = q - 1 := wu (by omega) (by omega)
        by_cases hb : 4294967296 ≤ r + y1
        · refine ⟨K0 + 1, fun e => ?_⟩
          rw [show K0 + 1 + e = (K0 + e) + 1 by omega, bits_Div64.j1, if_pos (by simpa using hl), e1, if_pos hb, e2, hx.last hb]
          exact hc e
        · have hn2 : 4294967296 ≤ r + y1 + n * 2147483648 := by
            have : ((n + 1 : Nat) : Int) * 2147483648 = (n : Int) * 2147483648 + 2147483648 := by rw [Int.natCast_add, Int.add_mul]; simp
            omega
          obtain ⟨K, hK⟩ := l0_f hc n (q - 1) (r + y1) hx (by omega) hn2
          refine ⟨K + 1, fun e => ?_⟩
          rw [show K + 1 + e = (K + e) + 1 by omega, bits_Div64.j1, if_pos (by simpa using hl), e1, if_neg hb, e2]
          exact hK e
      · have hq : q = (u * 4294967296 + un) / y := by have := h.le; omega
        refine ⟨K0 + 1, fun e => ?_⟩
        rw [show K0 + 1 + e = (K0 + e) + 1 by omega, bits_Div64.j1, if_neg (by simpa using hl), hq]
        exact hc e
    obtain ⟨K, hK⟩ := key
    refine ⟨K + 1, fun e => ?_⟩
    rw [show K + 1 + e = (K + e) + 1 by omega, bits_Div64.l0]
    by_cases hq : q ≥ 4294967296
    · rw [if_pos hq]
      have hs := h.small
      have hk := hK e
      rw [decide_eq_true (by omega)] at hk
      exact hk
    · rw [if_neg hq, h.bool hr (by omega)]
      exact hK e
def Rest (y s x14 q1 un21 : Int) : Int × Int := (q1 * 4294967296 + (un21 * 4294967296 + x14) / y, shr .u64 (un21 * 4294967296 + x14 - (un21 * 4294967296 + x14) / y * y) s)
theorem tail_ok {y y1 y0 un21 x14 q1 s q r : Int} (h : Dig y y1 y0 un21 x14 q r) (hy : y < 18446744073709551616) (hq1 : 0 ≤ q1 ∧ q1 < 4294967296) : (IntKind.u64.wrap ((IntKind.u64.wrap (q1 * 4294967296)) + (un21 * 4294967296 + x14) / y), shr .u64 (IntKind.u64.wrap ((IntKind.u64.wrap ((IntKind.u64.wrap (un21 * 4294967296)) + x14)) - (IntKind.u64.wrap ((un21 * 4294967296 + x14) / y * y)))) s) = Rest y s x14 q1 un21 := by
  have hs := h.small; have h5 := h.notneg; have hp := h.pos
  have e0 := Int.mul_ediv_add_emod (un21 * 4294967296 + x14) y
  have e1 := Int.emod_nonneg (un21 * 4294967296 + x14) (Int.ne_of_gt hp)
  have e2 := Int.emod_lt_of_pos (un21 * 4294967296 + x14) hp
  have e3 : y * ((un21 * 4294967296 + x14) / y) = (un21 * 4294967296 + x14) / y * y := Int.mul_comm _ _
  unfold Rest
  rw [Prod.mk.injEq]
  refine ⟨?_, ?_⟩
  · rw [wu (x := q1 * 4294967296) (by omega) (by omega), wu (by omega) (by omega)]
  · congr 1
    simp only [IntKind.wrap_u64]
    generalize (un21 * 4294967296 + x14) / y * y = p at *
    omega
def tab8 : ByteArray := ⟨#[0, 1, 2, 2, 3, 3, 3, 3, 4, 4, 4, 4, 4, 4, 4, 4, 5, 5, 5, 5, 5, 5, 5, 5, 5, 5, 5, 5, 5, 5, 5, 5, 6, 6, 6, 6, 6, 6, 6, 6, 6, 6, 6, 6, 6, 6, 6, 6, 6, 6, 6, 6, 6, 6, 6, 6, 6, 6, 6, 6, 6, 6, 6, 6, 7, 7, 7, 7, 7, 7, 7, 7, 7, 7, 7, 7, 7, 7, 7, 7, 7, 7, 7, 7, 7, 7, 7, 7, 7, 7, 7, 7, 7, 7, 7, 7, 7, 7, 7, 7, 7, 7, 7, 7, 7, 7, 7, 7, 7, 7, 7, 7, 7, 7, 7, 7, 7, 7, 7, 7, 7, 7, 7, 7, 7, 7, 7, 7, 8, 8, 8, 8, 8, 8, 8, 8, 8, 8, 8, 8, 8, 8, 8, 8, 8, 8, 8, 8, 8, 8, 8, 8, 8, 8, 8, 8, 8, 8, 8, 8, 8, 8, 8, 8, 8, 8, 8, 8, 8, 8, 8, 8, 8, 8, 8, 8, 8, 8, 8, 8, 8, 8, 8, 8, 8, 8, 8, 8, 8, 8, 8, 8, 8, 8, 8, 8, 8, 8, 8, 8, 8, 8, 8, 8, 8, 8, 8, 8, 8, 8, 8, 8, 8, 8, 8, 8, 8, 8, 8, 8, 8, 8, 8, 8, 8, 8, 8, 8, 8, 8, 8, 8, 8, 8, 8, 8, 8, 8, 8, 8, 8, 8, 8, 8, 8, 8, 8, 8, 8, 8, 8, 8, 8, 8, 8, 8]⟩
set_option maxRecDepth 100000 in
theorem tab8_all : ∀ j : Fin 256, (let n := (bt tab8 (j.val : Int)).toNat; decide (n ≤ 8) && decide (j.val < 2 ^ n) && (decide (j.val = 0) || decide (2 ^ n ≤ 2 * j.val))) = true := by decide +kernel
def Bitn (x n : Int) : Prop := ∃ m : Nat, n = m ∧ x < 2 ^ m ∧ 2 ^ m ≤ 2 * x
theorem tab8_ok {x : Int} (h0 : 0 < x) (h1 : x < 256) : Bitn x (bt tab8 x) ∧ bt tab8 x ≤ 8 := by
  obtain ⟨j, rfl⟩ := Int.eq_ofNat_of_zero_le (Int.le_of_lt h0)
  have h := tab8_all ⟨j, by omega⟩
  simp only [Bool.and_eq_true, Bool.or_eq_true, decide_eq_true_eq] at h
  obtain ⟨⟨h2, h3⟩, h4⟩ := h
  have hb := bt_range tab8 (j : Int)
  refine ⟨⟨(bt tab8 (j : Int)).toNat, by omega, by exact_mod_cast h3, ?_⟩, by omega⟩
  rcases h4 with h4 | h4
  · omega
  · exact_mod_cast h4
theorem Bitn.up {x n : Int} (b : Nat) (h : Bitn (x / 2 ^ b) n) : Bitn x (n + b) := by
  obtain ⟨m, rfl, h1, h2⟩ := h
  have hb : (0 : Int) < 2 ^ b := Int.pow_pos (by omega)
  refine ⟨m + b, by simp, ?_, ?_⟩
  · rw [Int.pow_add]
    exact (Int.ediv_lt_iff_lt_mul hb).1 h1
  · have e := Int.mul_ediv_add_emod x (2 ^ b)
    have e1 := Int.emod_nonneg x (Int.ne_of_gt hb)
    rw [Int.pow_add]
    have h3 : 2 ^ m * 2 ^ b ≤ 2 * (x / 2 ^ b) * 2 ^ b := Int.mul_le_mul_of_nonneg_right h2 (Int.le_of_lt hb)
    have h4 : 2 * (x / 2 ^ b) * 2 ^ b = 2 * (2 ^ b * (x / 2 ^ b)) := by rw [Int.mul_assoc, Int.mul_comm (x / 2 ^ b)]
    omega
theorem j0_eq (k : Nat) (x0 x2 : Int) : bits_Len64.j0 (k + 1) x0 x2 = if x0 ≥ 65536 then (if (x0 / 65536) ≥ 256 then (if 0 ≤ (((x0 / 65536) / 256) % 256) then (if (((x0 / 65536) / 256) % 256) < 256 then (some (wrap64 ((wrap64 ((wrap64 (x2 + 16)) + 8)) + (wrap64 (bt tab8 (((x0 / 65536) / 256) % 256)))))) else (none)) else (none)) else (if 0 ≤ ((x0 / 65536) % 256) then (if ((x0 / 65536) % 256) < 256 then (some (wrap64 ((wrap64 (x2 + 16)) + (wrap64 (bt tab8 ((x0 / 65536) % 256)))))) else (none)) else (none))) else (if x0 ≥ 256 then (if 0 ≤ ((x0 / 256) % 256) then (if ((x0 / 256) % 256) < 256 then (some (wrap64 ((wrap64 (x2 + 8)) + (wrap64 (bt tab8 ((x0 / 256) % 256)))))) else (none)) else (none)) else (if 0 ≤ ((x0) % 256) then (if ((x0) % 256) < 256 then (some (wrap64 (x2 + (wrap64 (bt tab8 ((x0) % 256)))))) else (none)) else (none))) := rfl
attribute [irreducible] tab8
theorem j0_f {x : Int} (c : Int) (hc0 : 0 ≤ c) (hc : c ≤ 100) (h0 : 0 < x) (h1 : x < 4294967296) (k : Nat) : ∃ n : Int, bits_Len64.j0 (k + 1) x c = some (n + c) ∧ Bitn x n ∧ n ≤ 32 := by
  rw [j0_eq]
  have w : ∀ z : Int, 0 ≤ z → z ≤ 1000 → wrap64 z = z := fun z a b => w64 (by omega) (by omega)
  have ends : ∀ z : Int, 0 < z → z < 256 → z % 256 = z := fun z a b => by omega
  by_cases c1 : x ≥ 65536
  · rw [if_pos c1]
    by_cases c2 : x / 65536 ≥ 256
    · rw [if_pos c2, ends _ (by omega) (by omega), if_pos (by omega), if_pos (by omega)]
      obtain ⟨t1, t2⟩ := tab8_ok (x := x / 65536 / 256) (by omega) (by omega)
      have t3 := (bt_range tab8 (x / 65536 / 256)).1
      refine ⟨bt tab8 (x / 65536 / 256) + 24, ?_, ?_, by omega⟩
      · rw [w (c + 16) (by omega) (by omega), w (bt tab8 _) t3 (by omega), w (c + 16 + 8) (by omega) (by omega), w _ (by omega) (by omega)]
        congr 1
        omega
      · exact Bitn.up 24 (by rw [show x / 2 ^ 24 = x / 65536 / 256 by omega]; exact t1)
    · rw [if_neg c2, ends _ (by omega) (by omega), if_pos (by omega), if_pos (by omega)]
      obtain ⟨t1, t2⟩ := tab8_ok (x := x / 65536) (by omega) (by omega)
      have t3 := (bt_range tab8 (x / 65536)).1
      refine ⟨bt tab8 (x / 65536) + 16, ?_, ?_, by omega⟩
      · rw [w (c + 16) (by omega) (by omega), w (bt tab8 _) t3 (by omega), w _ (by omega) (by omega)]
        congr 1
        omega
      · exact Bitn.up 16 (by rw [show x / 2 ^ 16 = x / 65536 by omega]; exact t1)
  · rw [if_neg c1]
    by_cases c2 : x ≥ 256
    · rw [if_pos c2, ends _ (by omega) (by omega), if_pos (by omega), if_pos (by omega)]
      obtain ⟨t1, t2⟩ := tab8_ok (x := x / 256) (by omega) (by omega)
      have t3 := (bt_range tab8 (x / 256)).1
      refine ⟨bt tab8 (x / 256) + 8, ?_, ?_, by omega⟩
      · rw [w (c + 8) (by omega) (by omega), w (bt tab8 _) t3 (by omega), w _ (by omega) (by omega)]
        congr 1
        omega
      · exact Bitn.up 8 (by rw [show x / 2 ^ 8 = x / 256 by omega]; exact t1)
    · rw [if_neg c2, ends _ (by omega) (by omega), if_pos (by omega), if_pos (by omega)]
      obtain ⟨t1, t2⟩ := tab8_ok (x := x) (by omega) (by omega)
      have t3 := (bt_range tab8 x).1
      refine ⟨bt tab8 x, ?_, t1, by omega⟩
      rw [w (bt tab8 _) t3 (by omega), w _ (by omega) (by omega)]
      congr 1
      omega
theorem lz_f {x : Int} (h0 : 0 < x) (h1 : x < 18446744073709551616) (k : Nat) : ∃ s : Nat, bits_LeadingZeros64.f (k + 1) x = some (s : Int) ∧ s ≤ 63 ∧ 9223372036854775808 ≤ x * 2 ^ s ∧ x * 2 ^ s < 18446744073709551616 := by
  obtain ⟨n, hn, ⟨m, rfl, hm1, hm2⟩, hm3⟩ : ∃ n : Int, bits_Len64.f (k + 1) x = some n ∧ Bitn x n ∧ n ≤ 64 := by
    unfold bits_Len64.f
    by_cases c : x ≥ 4294967296
    · rw [if_pos c]
      obtain ⟨n, h2, h3, h4⟩ := j0_f (x := x / 4294967296) 32 (by omega) (by omega) (by omega) (by omega) k
      exact ⟨n + 32, h2, Bitn.up 32 h3, by omega⟩
    · rw [if_neg c]
      obtain ⟨n, h2, h3, h4⟩ := j0_f (x := x) 0 (by omega) (by omega) (by omega) (by omega) k
      exact ⟨n, by simpa using h2, h3, by omega⟩
  have hm0 : 1 ≤ m := by
    rcases Nat.eq_zero_or_pos m with e | e
    · subst e; simp at hm1; omega
    · exact e
  have hm4 : m ≤ 64 := by omega
  refine ⟨64 - m, ?_, by omega, ?_, ?_⟩
  · unfold bits_LeadingZeros64.f
    rw [hn, Option.bind_some, w64 (by omega) (by omega)]
    congr 1
    omega
  · have hp : (0 : Int) < 2 ^ (64 - m) := Int.pow_pos (by omega)
    have h3 : 2 ^ m * 2 ^ (64 - m) ≤ 2 * x * 2 ^ (64 - m) := Int.mul_le_mul_of_nonneg_right hm2 (Int.le_of_lt hp)
    rw [← Int.pow_add, show m + (64 - m) = 64 by omega, Int.mul_assoc] at h3
    have e : (2 : Int) ^ 64 = 18446744073709551616 := by decide
    omega
  · have hp : (0 : Int) < 2 ^ (64 - m) := Int.pow_pos (by omega)
    have h3 : x * 2 ^ (64 - m) < 2 ^ m * 2 ^ (64 - m) := Int.mul_lt_mul_of_pos_right hm1 hp
    rw [← Int.pow_add, show m + (64 - m) = 64 by omega] at h3
    have e : (2 : Int) ^ 64 = 18446744073709551616 := by decide
    omega
theorem l1_f {y s y1 y0 u un q1 : Int} (hs : 0 ≤ s) (hy : y < 18446744073709551616) (hq1 : 0 ≤ q1 ∧ q1 < 4294967296) : ∀ (n : Nat) (q r : Int), Dig y y1 y0 u un q r → r < 4294967296 → 4294967296 ≤ r + n * 2147483648 → ∃ K, ∀ e, bits_Div64.l1 (K + e) y s y1 y0 un q1 r u q = some (Rest y s un q1 u)
  | 0, q, r, h, hr, hn => by
    exfalso
    have : ((0 : Nat) : Int) * 2147483648 = 0 := by simp
    omega
  | n + 1, q, r, h, hr, hn => by
    have key : ∃ K, ∀ e, bits_Div64.j4 (K + e) y s y1 y0 un q1 r u q (decide ((u * 4294967296 + un) / y < q)) = some (Rest y s un q1 u) := by
      by_cases hl : (u * 4294967296 + un) / y < q
      · have hx := h.next hl
        have h1 := h.h1; have h3 := h.hr; have h4 := h.hq; have h5 := h.notneg
        have e1 : IntKind.u64.wrap (r + y1) = r + y1 := wu (by omega) (by omega)
        have e2 : IntKind.u64.wrap (q - 1) = q - 1 := wu (by omega) (by omega)
        by_cases hb : 4294967296 ≤ r + y1
        · refine ⟨1, fun e => ?_⟩
          rw [show 1 + e = e + 1 by omega, bits_Div64.j4, if_pos (by simpa using hl), e1, if_pos hb, e2, if_pos hs, hx.last hb, tail_ok h hy hq1]
        · have hn2 : 4294967296 ≤ r + y1 + n * 2147483648 := by
            have : ((n + 1 : Nat) : Int) * 2147483648 = (n : Int) * 2147483648 + 2147483648 := by rw [Int.natCast_add, Int.add_mul]; simp
            omega
          obtain ⟨K, hK⟩ := l1_f hs hy hq1 n (q - 1) (r + y1) hx (by omega) hn2
          refine ⟨K + 1, fun e => ?_⟩
          rw [show K + 1 + e = (K + e) + 1 by omega, bits_Div64.j4, if_pos (by simpa using hl), e1, if_neg hb, e2]
          exact hK e
      · have hq : q = (u * 4294967296 + un) / y := by have := h.le; omega
        refine ⟨1, fun e => ?_⟩
        rw [show 1 + e = e + 1 by omega, bits_Div64.j4, if_neg (by simpa using hl), if_pos hs, hq, tail_ok h hy hq1]
    obtain ⟨K, hK⟩ := key
    refine ⟨K + 1, fun e => ?_⟩
    rw [show K + 1 + e = (K + e) + 1 by omega, bits_Div64.l1]
    by_cases hq : q ≥ 4294967296
    · rw [if_pos hq]
      have hs := h.small
      have hk := hK e
      rw [decide_eq_true (by omega)] at hk
      exact hk
    · rw [if_neg hq, h.bool hr (by omega)]
      exact hK e
theorem j2_f {y s y1 y0 u1 un1 un0 : Int} (hs : 0 ≤ s) (hy : y < 18446744073709551616) (ey : y = y1 * 4294967296 + y0) (h0 : 0 ≤ y0 ∧ y0 < 4294967296) (h1 : 2147483648 ≤ y1 ∧ y1 < 4294967296) (hu : 0 ≤ u1 ∧ u1 < y) (hn1 : 0 ≤ un1 ∧ un1 < 4294967296) (hn0 : 0 ≤ un0 ∧ un0 < 4294967296) :
    ∃ K, ∀ e, bits_Div64.j2 (K + e) y s y1 y0 u1 un1 un0 ((u1 * 4294967296 + un1) / y) = some (Rest y s un0 ((u1 * 4294967296 + un1) / y) ((u1 * 4294967296 + un1) % y)) := by
  have hd := (Dig.first ey h0 h1 hu hn1).1
  have hs1 := hd.small
  have hs0 := hd.notneg
  have hp := hd.pos
  have e0 := Int.mul_ediv_add_emod (u1 * 4294967296 + un1) y
  have e1 := Int.emod_nonneg (u1 * 4294967296 + un1) (Int.ne_of_gt hp)
  have e2 := Int.emod_lt_of_pos (u1 * 4294967296 + un1) hp
  have e3 : y * ((u1 * 4294967296 + un1) / y) = (u1 * 4294967296 + un1) / y * y := Int.mul_comm _ _
  have hun : IntKind.u64.wrap ((IntKind.u64.wrap ((IntKind.u64.wrap (u1 * 4294967296)) + un1)) - (IntKind.u64.wrap ((u1 * 4294967296 + un1) / y * y))) = (u1 * 4294967296 + un1) % y := by
    simp only [IntKind.wrap_u64]
    generalize (u1 * 4294967296 + un1) / y * y = p at *
    generalize (u1 * 4294967296 + un1) % y = q at *
    omega
  generalize (u1 * 4294967296 + un1) / y = Q at *
  generalize (u1 * 4294967296 + un1) % y = U at *
  obtain ⟨d2, d3⟩ := Dig.first ey h0 h1 ⟨e1, e2⟩ hn0
  have d4 := d2.hq
  have ht : IntKind.u64.wrap (Int.tdiv U y1) = U / y1 := by rw [Int.tdiv_eq_ediv_of_nonneg e1]; exact wu d4.1 (by omega)
  have hm : 0 ≤ U / y1 * y1 ∧ U / y1 * y1 ≤ U := by
    have a1 := Int.mul_ediv_add_emod U y1
    have a2 := Int.emod_nonneg U (show y1 ≠ 0 by omega)
    have a3 : y1 * (U / y1) = U / y1 * y1 := Int.mul_comm _ _
    have a4 := d2.hr
    exact ⟨Int.mul_nonneg d4.1 (by omega), by omega⟩
  have hr1 : IntKind.u64.wrap (U - IntKind.u64.wrap (U / y1 * y1)) = U - U / y1 * y1 := by
    rw [wu (x := U / y1 * y1) hm.1 (by omega)]
    exact wu (by omega) (by omega)
  obtain ⟨K, hK⟩ := l1_f hs hy ⟨hs0, hs1⟩ 2 (U / y1) (U - U / y1 * y1) d2 d3 (by have := d2.hr; omega)
  refine ⟨K + 1, fun e => ?_⟩
  rw [show K + 1 + e = (K + e) + 1 by omega, bits_Div64.j2, if_neg (by omega), hun, ht, hr1]
  exact hK e
theorem l0_all {y s y1 y0 u1 un1 un0 : Int} (hs : 0 ≤ s) (hy : y < 18446744073709551616) (ey : y = y1 * 4294967296 + y0) (h0 : 0 ≤ y0 ∧ y0 < 4294967296) (h1 : 2147483648 ≤ y1 ∧ y1 < 4294967296) (hu : 0 ≤ u1 ∧ u1 < y) (hn1 : 0 ≤ un1 ∧ un1 < 4294967296) (hn0 : 0 ≤ un0 ∧ un0 < 4294967296) :
    ∃ K, ∀ e, bits_Div64.l0 (K + e) y s y1 y0 u1 un1 un0 (IntKind.u64.wrap (Int.tdiv u1 y1)) (IntKind.u64.wrap (u1 - IntKind.u64.wrap (IntKind.u64.wrap (Int.tdiv u1 y1) * y1))) = some (Rest y s un0 ((u1 * 4294967296 + un1) / y) ((u1 * 4294967296 + un1) % y)) := by
  obtain ⟨d2, d3⟩ := Dig.first ey h0 h1 hu hn1
  have d4 := d2.hq
  have ht : IntKind.u64.wrap (Int.tdiv u1 y1) = u1 / y1 := by rw [Int.tdiv_eq_ediv_of_nonneg hu.1]; exact wu d4.1 (by omega)
  have hm : 0 ≤ u1 / y1 * y1 ∧ u1 / y1 * y1 ≤ u1 := by
    have a1 := Int.mul_ediv_add_emod u1 y1
    have a2 := Int.emod_nonneg u1 (show y1 ≠ 0 by omega)
    have a3 : y1 * (u1 / y1) = u1 / y1 * y1 := Int.mul_comm _ _
    exact ⟨Int.mul_nonneg d4.1 (by omega), by omega⟩
  have hr1 : IntKind.u64.wrap (u1 - IntKind.u64.wrap (u1 / y1 * y1)) = u1 - u1 / y1 * y1 := by
    rw [wu (x := u1 / y1 * y1) hm.1 (by omega)]
    exact wu (by omega) (by omega)
  rw [ht, hr1]
  obtain ⟨K0, hK0⟩ := j2_f hs hy ey h0 h1 hu hn1 hn0
  exact l0_f hK0 2 _ _ d2 d3 (by have := d2.hr; omega)
theorem two_digits {y u1 un1 un0 X : Int} (hy : 0 < y) (hX : X = (u1 * 4294967296 + un1) * 4294967296 + un0) (hn0 : 0 ≤ un0 ∧ un0 < 4294967296) : (u1 * 4294967296 + un1) / y * 4294967296 + ((u1 * 4294967296 + un1) % y * 4294967296 + un0) / y = X / y ∧ ((u1 * 4294967296 + un1) % y * 4294967296 + un0) % y = X % y := by
  have e0 := Int.mul_ediv_add_emod (u1 * 4294967296 + un1) y
  generalize u1 * 4294967296 + un1 = T at *
  have e : X = y * (T / y * 4294967296) + (T % y * 4294967296 + un0) := by
    rw [← Int.mul_assoc]
    generalize y * (T / y) = p at *
    generalize T % y = q at *
    omega
  rw [e]
  constructor
  · rw [Int.add_comm (y * _), Int.add_mul_ediv_left _ _ (Int.ne_of_gt hy)]
    omega
  · rw [Int.add_comm (y * _), Int.add_mul_emod_self_left]
theorem pow2_le {m n : Nat} (h : m ≤ n) : (2 : Int) ^ m ≤ 2 ^ n := by
  obtain ⟨k, rfl⟩ := Nat.exists_eq_add_of_le h
  have h1 : (0 : Int) < 2 ^ m := Int.pow_pos (by omega)
  have h2 : (0 : Int) < 2 ^ k := Int.pow_pos (by omega)
  rw [Int.pow_add]
  have := Int.mul_le_mul_of_nonneg_left (show (1 : Int) ≤ 2 ^ k by omega) (Int.le_of_lt h1)
  omega
theorem mul_emod_mul (a b : Int) {c : Int} (hc : 0 < c) : a * c % (b * c) = a % b * c := by
  rw [Int.emod_def, Int.emod_def, Int.mul_ediv_mul_of_pos_left _ _ hc, Int.sub_mul, Int.mul_right_comm]
theorem or_add {a b : Int} (s : Nat) (ha : 0 ≤ a) (hb : 0 ≤ b) (hb2 : b < 2 ^ s) (h : a * 2 ^ s < 18446744073709551616) (hb3 : b < 18446744073709551616) : Go.bits .or .u64 (a * 2 ^ s) b = a * 2 ^ s + b := by
  obtain ⟨m, rfl⟩ := Int.eq_ofNat_of_zero_le ha
  obtain ⟨n, rfl⟩ := Int.eq_ofNat_of_zero_le hb
  have e : ((m : Int) * 2 ^ s) = ((m * 2 ^ s : Nat) : Int) := by simp
  rw [e] at h ⊢
  have hn : n < 2 ^ s := by exact_mod_cast hb2
  rw [u64_or_nat _ _ (by omega) (by omega), Nat.mul_comm, ← Nat.two_pow_add_eq_or_of_lt hn]
  simp
theorem Div64_f {a0 a1 a2 : Int} (h0 : U64 a0) (h1 : U64 a1) (h2 : U64 a2) (hl : a0 < a2) : ∃ K, ∀ e, bits_Div64.f (K + e) a0 a1 a2 = some ((a0 * 18446744073709551616 + a1) / a2, (a0 * 18446744073709551616 + a1) % a2) := by
  unfold U64 at h0 h1 h2
  by_cases hz : a0 = 0
  · subst hz
    refine ⟨0, fun e => ?_⟩
    have hq : 0 ≤ a1 / a2 := Int.ediv_nonneg h1.1 (by omega)
    have hq2 : a1 / a2 ≤ a1 := Int.ediv_le_self _ h1.1
    unfold bits_Div64.f
    rw [if_neg (by omega), if_neg (by omega), if_pos rfl, Int.tdiv_eq_ediv_of_nonneg h1.1, Int.tmod_eq_emod_of_nonneg h1.1, wu hq (by omega), Int.zero_mul, Int.zero_add]
  · have hp2 : 0 < a2 := by omega
    obtain ⟨s, _, hs, hy1, hy2⟩ := lz_f hp2 h2.2 0
    have hlz : ∀ k, bits_LeadingZeros64.f (k + 1) a2 = some (s : Int) := fun k => by
      obtain ⟨s', k1, k2, k3, k4⟩ := lz_f hp2 h2.2 k
      have : s' = s := by
        rcases Nat.lt_trichotomy s' s with q | q | q
        · exfalso
          have p1 : (2 : Int) ^ (s' + 1) ≤ 2 ^ s := pow2_le q
          rw [Int.pow_succ] at p1
          have p2 : a2 * (2 ^ s' * 2) ≤ a2 * 2 ^ s := Int.mul_le_mul_of_nonneg_left p1 (by omega)
          rw [← Int.mul_assoc] at p2
          omega
        · exact q
        · exfalso
          have p1 : (2 : Int) ^ (s + 1) ≤ 2 ^ s' := pow2_le q
          rw [Int.pow_succ] at p1
          have p2 : a2 * (2 ^ s * 2) ≤ a2 * 2 ^ s' := Int.mul_le_mul_of_nonneg_left p1 (by omega)
          rw [← Int.mul_assoc] at p2
          omega
      rw [← this]
      exact k1
    have hS : (0 : Int) < 2 ^ s := Int.pow_pos (by omega)
    have hR : (0 : Int) < 2 ^ (64 - s) := Int.pow_pos (by omega)
    have hRS : (2 : Int) ^ (64 - s) * 2 ^ s = 18446744073709551616 := by
      rw [← Int.pow_add, show 64 - s + s = 64 by omega]
      decide
    have ws : IntKind.u64.wrap (s : Int) = s := wu (by omega) (by omega)
    have wt : IntKind.u64.wrap (64 - (s : Int)) = ((64 - s : Nat) : Int) := by rw [wu (by omega) (by omega)]; omega
    have hb : IntKind.u64.bits = 64 := rfl
    have sh : ∀ x : Int, shl .u64 x (s : Int) = IntKind.u64.wrap (x * 2 ^ s) := fun x => by
      unfold shl
      rw [hb, Int.toNat_natCast, Nat.min_eq_left (by omega)]
    have sr : shr .u64 a1 ((64 - s : Nat) : Int) = a1 / 2 ^ (64 - s) := by
      unfold shr
      rw [hb, Int.toNat_natCast, Nat.min_eq_left (by omega)]
    have hle : a0 * 2 ^ s + 2 ^ s ≤ a2 * 2 ^ s := by
      have := Int.mul_le_mul_of_nonneg_right (show a0 + 1 ≤ a2 by omega) (Int.le_of_lt hS)
      rw [Int.add_mul, Int.one_mul] at this
      exact this
    have ha0 : 0 ≤ a0 * 2 ^ s := Int.mul_nonneg h0.1 (Int.le_of_lt hS)
    have ha1 : 0 ≤ a1 * 2 ^ s := Int.mul_nonneg h1.1 (Int.le_of_lt hS)
    have hc0 : 0 ≤ a1 / 2 ^ (64 - s) := Int.ediv_nonneg h1.1 (Int.le_of_lt hR)
    have hc1 : a1 / 2 ^ (64 - s) < 2 ^ s := Int.ediv_lt_of_lt_mul hR (by rw [Int.mul_comm, hRS]; exact h1.2)
    have e1 : IntKind.u64.wrap (a2 * 2 ^ s) = a2 * 2 ^ s := wu (by omega) hy2
    have e2 : IntKind.u64.wrap (a0 * 2 ^ s) = a0 * 2 ^ s := wu ha0 (by omega)
    have e3 : a1 * 2 ^ s / 18446744073709551616 = a1 / 2 ^ (64 - s) := by rw [← hRS, Int.mul_ediv_mul_of_pos_left _ _ hS]
    have e4 : IntKind.u64.wrap (a1 * 2 ^ s) = a1 * 2 ^ s % 18446744073709551616 := IntKind.wrap_u64 _
    have e5 : Go.bits .or .u64 (a0 * 2 ^ s) (a1 / 2 ^ (64 - s)) = a0 * 2 ^ s + a1 / 2 ^ (64 - s) := or_add s h0.1 hc0 hc1 (by omega) (by omega)
    have hX : (a0 * 18446744073709551616 + a1) * 2 ^ s = (a0 * 2 ^ s + a1 / 2 ^ (64 - s)) * 18446744073709551616 + a1 * 2 ^ s % 18446744073709551616 := by
      have := Int.mul_ediv_add_emod (a1 * 2 ^ s) 18446744073709551616
      rw [e3] at this
      rw [Int.add_mul, Int.mul_right_comm]
      generalize a0 * 2 ^ s = p at *
      generalize a1 * 2 ^ s = q at *
      omega
    have hv0 := Int.emod_nonneg (a1 * 2 ^ s) (show (18446744073709551616 : Int) ≠ 0 by decide)
    have hv1 := Int.emod_lt_of_pos (a1 * 2 ^ s) (show (0 : Int) < 18446744073709551616 by decide)
    have hq1 : (a0 * 18446744073709551616 + a1) * 2 ^ s / (a2 * 2 ^ s) = (a0 * 18446744073709551616 + a1) / a2 := Int.mul_ediv_mul_of_pos_left _ _ hS
    have hq2 : (a0 * 18446744073709551616 + a1) * 2 ^ s % (a2 * 2 ^ s) / 2 ^ s = (a0 * 18446744073709551616 + a1) % a2 := by
      rw [mul_emod_mul _ _ hS, Int.mul_ediv_cancel _ (Int.ne_of_gt hS)]
    generalize hyd : a2 * 2 ^ s = y at *
    generalize hud : a0 * 2 ^ s + a1 / 2 ^ (64 - s) = u1 at *
    generalize hvd : a1 * 2 ^ s % 18446744073709551616 = v at *
    have hu1 : 0 ≤ u1 ∧ u1 < y := by omega
    obtain ⟨K, hK⟩ := l0_all (s := (s : Int)) (y := y) (y1 := y / 4294967296) (y0 := y % 4294967296) (u1 := u1) (un1 := v / 4294967296) (un0 := v % 4294967296) (by omega) hy2 (by omega) (by omega) (by omega) hu1 (by omega) (by omega)
    refine ⟨K + 1, fun e => ?_⟩
    unfold bits_Div64.f
    rw [if_neg (by omega), if_neg (by omega), if_neg hz, show K + 1 + e = (K + e) + 1 by omega, hlz, Option.bind_some, ws, wt, if_pos (by omega), if_pos (by omega), sh, sh, sh, sr, hyd, e1, e2, e4, e5, if_neg (by omega), and_low32 y (by omega) hy2, and_low32 v hv0 hv1, show K + e + 1 = K + (e + 1) by omega, hK (e + 1)]
    have htd := two_digits (y := y) (u1 := u1) (un1 := v / 4294967296) (un0 := v % 4294967296) (X := (a0 * 18446744073709551616 + a1) * 2 ^ s) (by omega) (by rw [hX]; omega) (by omega)
    unfold Rest shr
    rw [htd.1, hq1, hb, Int.toNat_natCast, Nat.min_eq_left (by omega)]
    have hz2 : (u1 * 4294967296 + v / 4294967296) % y * 4294967296 + v % 4294967296 - ((u1 * 4294967296 + v / 4294967296) % y * 4294967296 + v % 4294967296) / y * y = (a0 * 18446744073709551616 + a1) * 2 ^ s % y := by
      rw [← htd.2]
      generalize (u1 * 4294967296 + v / 4294967296) % y * 4294967296 + v % 4294967296 = Z
      have := Int.mul_ediv_add_emod Z y
      rw [Int.mul_comm] at this
      omega
    rw [hz2, hq2]
end Go.Proofs.Ythhgcjlgnafdcaa.Fq
end
section
namespace Go.Proofs.Ythhgcjlgnafdcaa.Fq
set_option linter.unusedSimpArgs false
set_option linter.unusedVariables false
open Go Go.RowKit Go.Proofs.Ythhgcjlgnafdcaa.Px Go.Proofs.YthhgcjlgnafdcaaW.PrintWords Go.Proofs.YthhgcjlgnafdcaaW.PrintMore Go.Proofs.YthhgcjlgnafdcaaW.PrintLast Go.Proofs.Ythhgcjlgnafdcaa.Fp
open Go.Proofs.Ythhgcjlgnafdcaa.Nu (I64 U64 I128 w64 wd sgn)
theorem signed_f {hi lo : Int} (neg : Bool) (h1 : U64 hi) (h2 : U64 lo) (hz : neg = true → ¬ (hi = 0 ∧ lo = 0)) (e : Nat) : ∃ r1 r2 r3, fixed_signed.f (e + 1) hi lo neg = some (r1, r2, r3) ∧ Is128 (if neg = true then -(hi * 18446744073709551616 + lo) else hi * 18446744073709551616 + lo) r1 r2 r3 := by
  have hw : wrap64 hi = if hi < 9223372036854775808 then hi else hi - 18446744073709551616 := by unfold U64 at h1; unfold wrap64; split <;> omega
  unfold fixed_signed.f
  cases neg
  · rw [if_neg (show ¬ (false = true) by simp), if_neg (show ¬ (false = true) by simp), fixed_signed.j0, if_neg (by simp)]
    by_cases c : hi ≥ 9223372036854775808
    · rw [if_pos c]
      refine ⟨0, 0, 4, rfl, Or.inr ⟨?_, rfl, rfl, rfl⟩⟩
      unfold I128; unfold U64 at h2
      omega
    · rw [if_neg c, if_neg (by simp), hw, if_pos (by omega)]
      refine ⟨_, _, _, rfl, Or.inl ⟨?_, rfl, ?_, h2, rfl⟩⟩
      · unfold I128; unfold U64 at h1 h2
        omega
      · unfold I64; unfold U64 at h1
        omega
  · rw [if_pos rfl, if_pos rfl]
    have hz2 := hz rfl
    by_cases c : hi = 9223372036854775808
    · rw [if_pos c, fixed_signed.j0]
      by_cases c2 : lo = 0
      · rw [if_pos (by simpa using c2), hw, if_neg (by omega)]
        refine ⟨_, _, _, rfl, Or.inl ⟨?_, rfl, ?_, h2, ?_⟩⟩
        · unfold I128; omega
        · unfold I64; omega
        · unfold W wd; omega
      · rw [if_neg (by simpa using c2), if_pos (by omega)]
        refine ⟨0, 0, 4, rfl, Or.inr ⟨?_, rfl, rfl, rfl⟩⟩
        unfold I128; unfold U64 at h2
        omega
    · rw [if_neg c, fixed_signed.j0, if_neg (by simp)]
      by_cases c2 : hi ≥ 9223372036854775808
      · rw [if_pos c2]
        refine ⟨0, 0, 4, rfl, Or.inr ⟨?_, rfl, rfl, rfl⟩⟩
        unfold I128; unfold U64 at h2
        omega
      · rw [if_neg c2, if_pos rfl, hw, if_pos (by omega)]
        obtain ⟨r1, r2, k1, k2, k3, k4⟩ := turned_f (h := hi) (l := lo) (by unfold I64; unfold U64 at h1; omega) h2 (Or.inl (by unfold U64 at h1; omega))
        rw [k1, Option.bind_some]
        refine ⟨_, _, _, rfl, Or.inl ⟨?_, rfl, k2, k3, ?_⟩⟩
        · unfold I128; unfold U64 at h1 h2
          omega
        · rw [k4]
          rfl
theorem turned_least : fixed_turned.f (-9223372036854775808) 0 = some (-9223372036854775808, 0) := by decide +kernel
theorem away_f {a0 a1 : Int} (ha : I64 a0) (hu : U64 a1) : ∃ h l, fixed_away.f a0 a1 = some (h, l, decide (W a0 a1 < 0)) ∧ U64 h ∧ U64 l ∧ h ≤ 9223372036854775808 ∧ h * 18446744073709551616 + l = (W a0 a1).natAbs := by
  unfold fixed_away.f
  by_cases c : a0 < 0
  · have hn : W a0 a1 < 0 := by unfold W wd; unfold U64 at hu; omega
    rw [if_pos c, decide_eq_true hn]
    by_cases c2 : a0 = -9223372036854775808 ∧ a1 = 0
    · obtain ⟨rfl, rfl⟩ := c2
      rw [turned_least]
      exact ⟨_, _, rfl, by unfold U64; decide, by unfold U64; decide, by decide, by decide⟩
    · obtain ⟨r1, r2, h1, h2, h3, h4⟩ := turned_f ha hu (by omega)
      rw [h1]
      have h5 : 0 ≤ r1 := by unfold W wd at h4 hn; unfold U64 at h3; unfold I64 at h2; omega
      refine ⟨_, _, rfl, ?_, h3, ?_, ?_⟩
      · rw [IntKind.wrap_u64]; unfold U64; omega
      · rw [IntKind.wrap_u64]; unfold I64 at h2; omega
      · dsimp only
        rw [wu h5 (by unfold I64 at h2; omega)]
        unfold W wd at h4 hn ⊢
        omega
  · have hn : ¬ W a0 a1 < 0 := by unfold W wd; unfold U64 at hu; omega
    rw [if_neg c, decide_eq_false hn]
    refine ⟨_, _, rfl, ?_, hu, ?_, ?_⟩
    · rw [IntKind.wrap_u64]; unfold U64; omega
    · rw [IntKind.wrap_u64]; unfold I64 at ha; omega
    · rw [wu (by omega) (by unfold I64 at ha; omega)]
      unfold W wd at hn ⊢
      omega
theorem signed_g {hi lo : Int} (neg : Bool) (h1 : U64 hi) (h2 : U64 lo) (e : Nat) : ∃ r1 r2 r3, fixed_signed.f (e + 1) hi lo neg = some (r1, r2, r3) ∧ Is128 (if neg = true then -(hi * 18446744073709551616 + lo) else hi * 18446744073709551616 + lo) r1 r2 r3 := by
  by_cases hz : hi = 0 ∧ lo = 0
  · obtain ⟨rfl, rfl⟩ := hz
    refine ⟨0, 0, 0, ?_, Or.inl ⟨?_, rfl, ?_, ?_, ?_⟩⟩
    · have ht : fixed_turned.f 0 0 = some (0, 0) := by decide +kernel
      have hw : wrap64 0 = 0 := by unfold wrap64; omega
      unfold fixed_signed.f
      cases neg <;> simp [fixed_signed.j0, ht, hw]
    · unfold I128; split <;> omega
    · unfold I64; omega
    · unfold U64; omega
    · unfold W wd; split <;> omega
  · exact signed_f neg h1 h2 (fun _ => hz) e
def upB (how : Int) (below : Bool) (Q R b : Int) : Bool := if R = 0 then false else if how = 0 then below else if how = 1 then !below else if how = 2 then false else decide (R > b - R) || (decide (R = b - R) && decide (Q % 2 = 1))
def qt (A d how : Int) : Int := let below := decide (A < 0) != decide (d < 0); let Q := (A.natAbs : Int) / d.natAbs; let R := (A.natAbs : Int) % d.natAbs; let q := Q + if upB how below Q R d.natAbs = true then 1 else 0; if below = true then -q else q
theorem up_f {how Q R b : Int} (below : Bool) (hR : 0 ≤ R) (hb : R < b) (hb2 : b < 18446744073709551616) : fixed_up.f how below (Q % 2 == 1) R b = some (upB how below Q R b) := by
  have hw : IntKind.u64.wrap (b - R) = b - R := wu (by omega) (by omega)
  unfold fixed_up.f upB
  rw [hw]
  by_cases c1 : R = 0
  · rw [if_pos c1, if_pos c1]
  · rw [if_neg c1, if_neg c1]
    by_cases c2 : how = 0
    · rw [if_pos c2, if_pos c2]
    · rw [if_neg c2, if_neg c2]
      by_cases c3 : how = 1
      · rw [if_pos c3, if_pos c3]
      · rw [if_neg c3, if_neg c3]
        by_cases c4 : how = 2
        · rw [if_pos c4, if_pos c4]
        · rw [if_neg c4, if_neg c4]
          by_cases c5 : R > b - R
          · rw [if_pos c5, decide_eq_true c5]; rfl
          · rw [if_neg c5, decide_eq_false c5]
            by_cases c6 : R = b - R
            · rw [if_pos c6, decide_eq_true c6]
              congr 1
            · rw [if_neg c6, decide_eq_false c6]; rfl
theorem and_one {q : Int} (h : U64 q) : Go.bits .and .u64 q 1 = q % 2 := by
  unfold U64 at h
  rw [u64_and q 1 h.1 h.2 (by omega) (by omega)]
  have : (1 : Int).toNat = 1 := rfl
  rw [this, nat_mask1]
  omega
theorem Divide_f {a0 a1 d how : Int} (ha : I64 a0) (hu : U64 a1) (hd : I64 d) (h0 : d ≠ 0) (hh : 0 ≤ how ∧ how ≤ 3) : ∃ K r1 r2 r3, (∀ e, fixed_Divide.f (K + e) a0 a1 d how = some (r1, r2, r3)) ∧ Is128 (qt (W a0 a1) d how) r1 r2 r3 := by
  obtain ⟨h, l, e1, e2, e3, e4, e5⟩ := away_f ha hu
  have hby : 0 < (d.natAbs : Int) ∧ (d.natAbs : Int) < 18446744073709551616 := by unfold I64 at hd; omega
  unfold qt
  generalize decide (W a0 a1 < 0) = na at e1
  generalize hA : ((W a0 a1).natAbs : Int) = A at e5
  have hsz := size_u hd
  generalize hB : (d.natAbs : Int) = b at hby hsz
  have hA2 : A < 170141183460469231731687303715884105729 := by unfold U64 at e3; unfold I64 at ha; unfold U64 at hu; unfold W wd at hA; omega
  clear hA hB
  -- the two words' quotient
  have t1 : Int.tmod h b = h % b := Int.tmod_eq_emod_of_nonneg e2.1
  have t2 : Int.tdiv h b = h / b := Int.tdiv_eq_ediv_of_nonneg e2.1
  have g0 := Int.emod_nonneg h (show b ≠ 0 by omega)
  have g1 := Int.emod_lt_of_pos h hby.1
  have g2 : 0 ≤ h / b := Int.ediv_nonneg e2.1 (by omega)
  have g3 : h / b ≤ h := Int.ediv_le_self _ e2.1
  have hw : IntKind.u64.wrap (h / b) = h / b := wu g2 (by unfold U64 at e2; omega)
  obtain ⟨K1, hK1⟩ := Div64_f (a0 := h % b) (a1 := l) (a2 := b) (by unfold U64; omega) e3 (by unfold U64; omega) g1
  have hX : A = b * (h / b * 18446744073709551616) + (h % b * 18446744073709551616 + l) := by
    have := Int.mul_ediv_add_emod h b
    rw [← Int.mul_assoc, ← e5]
    generalize b * (h / b) = p at *
    omega
  have hQ : A / b = h / b * 18446744073709551616 + (h % b * 18446744073709551616 + l) / b := by
    rw [hX, Int.add_comm, Int.add_mul_ediv_left _ _ (by omega)]
    omega
  have hR : A % b = (h % b * 18446744073709551616 + l) % b := by rw [hX, Int.add_comm, Int.add_mul_emod_self_left]
  have q0 : 0 ≤ (h % b * 18446744073709551616 + l) / b := Int.ediv_nonneg (by unfold U64 at e3; omega) (by omega)
  have q1 : (h % b * 18446744073709551616 + l) / b < 18446744073709551616 := by
    apply Int.ediv_lt_of_lt_mul hby.1
    have := Int.mul_le_mul_of_nonneg_right (show h % b + 1 ≤ b by omega) (show (0 : Int) ≤ 18446744073709551616 by omega)
    unfold U64 at e3
    omega
  have r0 := Int.emod_nonneg (h % b * 18446744073709551616 + l) (show b ≠ 0 by omega)
  have r1 := Int.emod_lt_of_pos (h % b * 18446744073709551616 + l) hby.1
  rw [hQ, hR]
  clear hQ hR hX
  generalize (h % b * 18446744073709551616 + l) / b = q at *
  generalize (h % b * 18446744073709551616 + l) % b = r at *
  have hpar : (h / b * 18446744073709551616 + q) % 2 = q % 2 := by omega
  have hup : ∀ below : Bool, upB how below (h / b * 18446744073709551616 + q) r b = upB how below q r b := fun below => by unfold upB; rw [hpar]
  -- one way for each sign
  have main : ∀ below : Bool, ∃ K r1 r2 r3, (∀ e, fixed_Divide.j1 (K + e) d how h l below = some (r1, r2, r3)) ∧ Is128 (if below = true then -(h / b * 18446744073709551616 + q + if upB how below (h / b * 18446744073709551616 + q) r b = true then 1 else 0) else h / b * 18446744073709551616 + q + if upB how below (h / b * 18446744073709551616 + q) r b = true then 1 else 0) r1 r2 r3 := fun below => by
    rw [hup]
    have hu1 := up_f (how := how) (Q := q) below r0 r1 hby.2
    by_cases hub : upB how below q r b = true
    · rw [hub] at hu1
      rw [hub, if_pos rfl]
      have a1 : addHi q 1 0 = (q + 1) / 18446744073709551616 := by rw [addHi_eq q0 (by omega) (by omega), Int.add_zero]
      have a2 : addLo q 1 0 = (q + 1) % 18446744073709551616 := by rw [addLo_eq q0 (by omega) (by omega), Int.add_zero]
      have w1 : IntKind.u64.wrap (h / b + (q + 1) / 18446744073709551616) = h / b + (q + 1) / 18446744073709551616 := wu (by omega) (by omega)
      obtain ⟨s1, s2, s3, k1, k2⟩ := signed_g (hi := h / b + (q + 1) / 18446744073709551616) (lo := (q + 1) % 18446744073709551616) below (by unfold U64; omega) (by unfold U64; omega) 0
      have hm : ∀ e, fixed_signed.f (e + 1) (h / b + (q + 1) / 18446744073709551616) ((q + 1) % 18446744073709551616) below = fixed_signed.f (0 + 1) (h / b + (q + 1) / 18446744073709551616) ((q + 1) % 18446744073709551616) below := fun e => by
        unfold fixed_signed.f
        simp only [fixed_signed.j0]
      refine ⟨K1 + 2, s1, s2, s3, fun e => ?_, ?_⟩
      · rw [show K1 + 2 + e = (K1 + (1 + e)) + 1 by omega, fixed_Divide.j1, hsz, Option.bind_some, if_neg (by omega), t1, t2, hw, hK1, Option.bind_some]
        dsimp only
        rw [and_one (by unfold U64; omega), hu1, Option.bind_some, if_pos rfl, a1, a2, w1, show K1 + (1 + e) = (K1 + e) + 1 by omega, hm, k1]
        rfl
      · have ev : (h / b + (q + 1) / 18446744073709551616) * 18446744073709551616 + (q + 1) % 18446744073709551616 = h / b * 18446744073709551616 + q + 1 := by omega
        rw [ev] at k2
        exact k2
    · have hub2 : upB how below q r b = false := by simpa using hub
      rw [hub2] at hu1
      rw [hub2, if_neg (show ¬ (false = true) by simp), Int.add_zero]
      obtain ⟨s1, s2, s3, k1, k2⟩ := signed_g (hi := h / b) (lo := q) below (by unfold U64 at e2 ⊢; omega) (by unfold U64; omega) 0
      have hm : ∀ e, fixed_signed.f (e + 1) (h / b) q below = fixed_signed.f (0 + 1) (h / b) q below := fun e => by
        unfold fixed_signed.f
        simp only [fixed_signed.j0]
      refine ⟨K1 + 2, s1, s2, s3, fun e => ?_, k2⟩
      rw [show K1 + 2 + e = (K1 + (1 + e)) + 1 by omega, fixed_Divide.j1, hsz, Option.bind_some, if_neg (by omega), t1, t2, hw, hK1, Option.bind_some]
      dsimp only
      rw [and_one (by unfold U64; omega), hu1, Option.bind_some, if_neg (by simp), show K1 + (1 + e) = (K1 + e) + 1 by omega, hm, k1]
      rfl
  obtain ⟨K, s1, s2, s3, k1, k2⟩ := main (na != decide (d < 0))
  refine ⟨K + 1, s1, s2, s3, fun e => ?_, k2⟩
  unfold fixed_Divide.f
  rw [if_neg h0, if_neg (by omega), decide_eq_false (by omega), show K + 1 + e = (K + e) + 1 by omega, fixed_Divide.j0, if_neg (by simp), e1, Option.bind_some]
  dsimp only
  by_cases c : d < 0
  · rw [if_pos c, show (!na) = (na != decide (d < 0)) by rw [decide_eq_true c]; cases na <;> rfl]
    exact k1 e
  · rw [if_neg c]
    have : na = (na != decide (d < 0)) := by rw [decide_eq_false c]; cases na <;> rfl
    rw [← this] at k1
    exact k1 e
end Go.Proofs.Ythhgcjlgnafdcaa.Fq
end
section
namespace Go.Proofs.Ythhgcjlgnafdcaa.Wv
set_option linter.unusedSimpArgs false
set_option linter.unusedVariables false
open Go Go.RowKit Go.Proofs.Ythhgcjlgnafdcaa.Px Go.Proofs.YthhgcjlgnafdcaaW.PrintWords Go.Proofs.YthhgcjlgnafdcaaW.PrintLast Go.Proofs.Ythhgcjlgnafdcaa.Hd Go.Proofs.Ythhgcjlgnafdcaa.Fp Go.Proofs.Ythhgcjlgnafdcaa.Fq
open Go.Proofs.Ythhgcjlgnafdcaa.Nu (I64 U64 I128 wd sgn)
def hiW (v : Int) : Int := v / 18446744073709551616
def loW (v : Int) : Int := v % 18446744073709551616
abbrev wv (v : Int) : Value := .agg #[.int .i64 (hiW v), .int .u64 (loW v)]
def encW (v : Int) : List Value := [.int .i64 (hiW v), .int .u64 (loW v)]
theorem W_hl (v : Int) : W (hiW v) (loW v) = v := by unfold hiW loW W wd; omega
theorem hl_of {h l v : Int} (hl : U64 l) (e : W h l = v) : h = hiW v ∧ l = loW v := by
  unfold hiW loW
  unfold W wd at e
  unfold U64 at hl
  omega
theorem hi_I64 {v : Int} (h : I128 v) : I64 (hiW v) := by unfold I128 at h; unfold I64 hiW; omega
theorem lo_U64 (v : Int) : U64 (loW v) := by unfold U64 loW; omega
theorem i128_64 {v : Int} (h : I64 v) : I128 v := by unfold I128; unfold I64 at h; omega
instance (v : Int) : Decidable (I128 v) := by unfold I128; infer_instance
instance (v : Int) : Decidable (I64 v) := by unfold I64; infer_instance
def cut128 (v : Int) : Int := if I128 v then v else 0
def er128 (v : Int) : Int := if I128 v then 0 else 4
def cut64 (v : Int) : Int := if I64 v then v else 0
def er64 (v : Int) : Int := if I64 v then 0 else 4
theorem cut_I128 (v : Int) : I128 (cut128 v) := by
  unfold cut128
  split
  · assumption
  · unfold I128; omega
theorem of_128 {v r1 r2 r3 : Int} (h : Is128 v r1 r2 r3) : r1 = hiW (cut128 v) ∧ r2 = loW (cut128 v) ∧ r3 = er128 v := by
  unfold cut128 er128
  rcases h with ⟨h1, h2, h3, h4, h5⟩ | ⟨h1, h2, h3, h4⟩
  · rw [if_pos h1, if_pos h1]
    obtain ⟨e1, e2⟩ := hl_of h4 h5
    exact ⟨e1, e2, h2⟩
  · rw [if_neg h1, if_neg h1]
    exact ⟨h2, h3, h4⟩
theorem of_64 {v r1 r2 : Int} (h : Is64 v r1 r2) : r1 = cut64 v ∧ r2 = er64 v := by
  unfold cut64 er64
  rcases h with ⟨h1, h2, h3⟩ | ⟨h1, h2, h3⟩
  · rw [if_pos h1, if_pos h1]
    exact ⟨h2, h3⟩
  · rw [if_neg h1, if_neg h1]
    exact ⟨h2, h3⟩
abbrev kW : Kd Int := Kd.iso (Kd.pair (Kd.int .i64) (Kd.int .u64)) fun v => (hiW v, loW v)
theorem kW_K {w : World} {x : Int} {cs : List Value} (h : kW.K w x cs) : cs = encW x := by
  obtain ⟨c1, c2, rfl, h1, h2⟩ := h
  rw [show c1 = [.int .i64 (hiW x)] from h1, show c2 = [.int .u64 (loW x)] from h2]
  rfl
theorem kW_mk (w : World) (x : Int) : kW.K w x (encW x) := ⟨[.int .i64 (hiW x)], [.int .u64 (loW x)], rfl, rfl, rfl⟩
theorem encW_one (x : Int) : ∀ u ∈ encW x, u.oneCell' = true := fun u hu => by
  simp only [encW, List.mem_cons, List.not_mem_nil, or_false] at hu
  rcases hu with rfl | rfl <;> rfl
theorem C_wide {w : World} {A : Option Addr} {n : Nat} {l : List Int} (h : Kd.C kW w A n l) : Kd.C k43 w A n (l.map fun v => (⟨hiW v, loW v⟩ : S43)) := by
  obtain ⟨h1, h2, h3⟩ := h
  refine ⟨by rw [List.length_map]; exact h1, h2, fun hn => ?_⟩
  obtain ⟨ad, rfl, h4⟩ := h3 hn
  refine ⟨ad, rfl, fun j p hj => ?_⟩
  rw [List.getElem?_map] at hj
  obtain ⟨q, hq, rfl⟩ := Option.map_eq_some_iff.1 hj
  obtain ⟨cs, hl, hK, hc⟩ := h4 j q hq
  obtain rfl := kW_K hK
  exact ⟨_, hl, k43_mk w ⟨hiW q, loW q⟩, hc⟩
theorem totW_map (l : List Int) : totW (l.map fun v => (⟨hiW v, loW v⟩ : S43)) = l.sum := by
  unfold totW
  rw [List.map_map]
  congr 1
  conv => rhs; rw [← List.map_id l]
  exact List.map_congr_left fun v _ => W_hl v
section
variable {w : World} {A : Option Addr} {c : Nat} {a b v u d : Int}
theorem of_c (h : I64 a) : Tells Try.prog 35 #[.int .i64 a] w (wv a) := by
  obtain ⟨h1, h2, h3⟩ := of_W h
  obtain ⟨e1, e2⟩ := hl_of h2 h3
  refine fixed_Of.calls a _ _ w ?_
  rw [← e1, ← e2]
  rfl
theorem times_c (ha : I64 a) (hb : I64 b) : Tells Try.prog 61 #[.int .i64 a, .int .i64 b] w (wv (a * b)) := by
  obtain ⟨r1, r2, h, h1, h2, h3⟩ := Times_f ha hb
  obtain ⟨e1, e2⟩ := hl_of h2 h3
  rw [e1, e2] at h
  exact fixed_Times.calls a b _ _ w h
theorem plus_c {xs : List Int} (HR : Kd.C kW w A xs.length xs) (hc : xs.length ≤ c) (hl : xs.length ≤ 1000000) (hx : ∀ x ∈ xs, I128 x) : Tells Try.prog 38 #[.slice A xs.length c] w (.tuple #[wv (cut128 xs.sum), .int .i64 (er128 xs.sum)]) := by
  obtain ⟨r1, r2, r3, h, hI⟩ := Plus_f (xs.map fun v => (⟨hiW v, loW v⟩ : S43)) (by rw [List.length_map]; exact hl) fun a ha => by
    obtain ⟨q, hq, rfl⟩ := List.mem_map.1 ha
    exact ⟨hi_I64 (hx q hq), lo_U64 q⟩
  rw [totW_map] at hI
  obtain ⟨e1, e2, e3⟩ := of_128 hI
  rw [e1, e2, e3] at h
  have h2 := fixed_Plus.calls A c (xs.map fun v => (⟨hiW v, loW v⟩ : S43)) _ _ _ w (by rw [List.length_map]; exact C_wide HR) (by rw [List.length_map]; exact hc) h
  rw [List.length_map] at h2
  exact h2
theorem sub_c (ha : I64 a) (hb : I64 b) : Tells Try.prog 55 #[.int .i64 a, .int .i64 b] w (.tuple #[.int .i64 (cut64 (a - b)), .int .i64 (er64 (a - b))]) := by
  obtain ⟨r1, r2, h1, h2⟩ := Sub_narrow ha hb
  obtain ⟨e1, e2⟩ := of_64 h2
  rw [e1, e2] at h1
  exact fixed_Sub.calls a b _ _ w h1
theorem int_c (h : I128 v) : Tells Try.prog 62 #[wv v] w (.tuple #[.int .i64 (cut64 v), .int .i64 (er64 v)]) := by
  obtain ⟨r1, r2, h1, h2⟩ := Int_f (hi_I64 h) (lo_U64 v)
  rw [W_hl] at h2
  obtain ⟨e1, e2⟩ := of_64 h2
  rw [e1, e2] at h1
  exact fixed_Int.calls _ _ _ _ w h1
theorem compare_c (h : I128 v) (h2 : I128 u) : Tells Try.prog 56 #[wv v, wv u] w (.int .i64 (sgn v u)) := by
  have h1 := Compare_w (hi_I64 h) (lo_U64 v) (hi_I64 h2) (lo_U64 u) 0
  rw [W_hl, W_hl] at h1
  exact fixed_Compare.calls 4 _ _ _ _ _ w h1
theorem sign_c (h : I128 v) : Tells Try.prog 57 #[wv v] w (.int .i64 (sgn v 0)) := by
  have h1 := Sign_w (hi_I64 h) (lo_U64 v) 0
  rw [W_hl] at h1
  exact fixed_Sign.calls 4 _ _ _ w h1
theorem divide_c {how : Int} (h : I128 v) (hd : I64 d) (h0 : d ≠ 0) (hh : 0 ≤ how ∧ how ≤ 3) : Tells Try.prog 60 #[wv v, .int .i64 d, .int .i64 how] w (.tuple #[wv (cut128 (qt v d how)), .int .i64 (er128 (qt v d how))]) := by
  obtain ⟨K, r1, r2, r3, h1, h2⟩ := Divide_f (how := how) (hi_I64 h) (lo_U64 v) hd h0 hh
  rw [W_hl] at h2
  obtain ⟨e1, e2, e3⟩ := of_128 h2
  rw [e1, e2, e3] at h1
  exact fixed_Divide.calls (K + 0) _ _ _ _ _ _ _ w (h1 0)
theorem qt_floor (hv : 0 ≤ v) (hd : 0 < d) : qt v d 0 = v / d := by
  have e1 : decide (v < 0) = false := decide_eq_false (by omega)
  have e2 : decide (d < 0) = false := decide_eq_false (by omega)
  unfold qt upB
  rw [e1, e2]
  have e3 : (v.natAbs : Int) = v := by omega
  have e4 : (d.natAbs : Int) = d := by omega
  simp only [e3, e4]
  simp
end
end Go.Proofs.Ythhgcjlgnafdcaa.Wv
end
