/- Texts of this seat, put together (Zs11). -/
import Derived.Laws.DeepNot64
import Derived.Laws.BitsAllLaws
import Derived.Test.YtfbkgfffalppmaaZs6
import Derived.Test.YtfbkgfffalppmaaZs9
import Derived.Test.YtfbkgfffalppmaaZs10
section
namespace Go.Proofs.Ytfbkgfffalppmaa.Fc
set_option linter.unusedSimpArgs false
set_option linter.unusedVariables false
open Go Go.RowKit Go.Proofs.Ytfbkgfffalppmaa.Wf Go.Proofs.YtfbkgfffalppmaaW.PrintWords Go.Proofs.Ytfbkgfffalppmaa.Fv
theorem not_u64 {a : Int} (h : U64 a) : Go.bits .xor .u64 18446744073709551615 a = 18446744073709551615 - a := by
  obtain ⟨n, rfl⟩ := Int.eq_ofNat_of_zero_le h.1
  have hn : n < 18446744073709551616 := by have := h.2; omega
  show IntKind.u64.wrap ((BitVec.ofInt 64 18446744073709551615 ^^^ BitVec.ofInt 64 (n : Int)).toNat : Int) = _
  have h1 : BitVec.ofInt 64 18446744073709551615 = BitVec.allOnes 64 := by decide
  rw [h1, BitVec.allOnes_xor, BitVec.toNat_not, ofInt_u64 n hn, IntKind.wrap_u64]
  omega
theorem turned_f {h l : Int} (hh : I64 h) (hl : U64 l) (hm : h ≠ -9223372036854775808 ∨ l ≠ 0) : ∃ r1 r2, fixed_turned.f h l = some (r1, r2) ∧ I64 r1 ∧ U64 r2 ∧ W r1 r2 = -W h l := by
  have hue : IntKind.u64.wrap h = if h < 0 then h + 18446744073709551616 else h := by unfold I64 at hh; rw [IntKind.wrap_u64]; split <;> omega
  obtain ⟨u, hu⟩ : ∃ u, IntKind.u64.wrap h = u := ⟨_, rfl⟩
  have hu0 : U64 u := by rw [← hu, IntKind.wrap_u64]; unfold U64; omega
  unfold fixed_turned.f
  rw [hu, not_u64 hu0, not_u64 hl]
  rw [hu] at hue
  clear hu
  unfold U64 at hl hu0
  rw [addHi_eq (by omega) (by omega) (by omega), addLo_eq (by omega) (by omega) (by omega)]
  refine ⟨_, _, rfl, ?_, ?_, ?_⟩
  · unfold I64 wrap64
    omega
  · unfold U64
    omega
  · unfold I64 at hh
    unfold W
    by_cases h0 : l = 0
    · subst h0
      have e1 : ((18446744073709551615 : Int) - 0 + 1 + 0) / 18446744073709551616 = 1 := by decide
      have e2 : ((18446744073709551615 : Int) - 0 + 1 + 0) % 18446744073709551616 = 0 := by decide
      rw [e1, e2, IntKind.wrap_u64]
      unfold wrap64
      split at hue <;> omega
    · have e1 : (18446744073709551615 - l + 1 + 0) / 18446744073709551616 = 0 := by omega
      have e2 : (18446744073709551615 - l + 1 + 0) % 18446744073709551616 = 18446744073709551616 - l := by omega
      rw [e1, e2, IntKind.wrap_u64]
      unfold wrap64
      split at hue <;> omega
theorem size_u {a : Int} (h : I64 a) : fixed_size.f a = some (a.natAbs : Int) := by
  unfold I64 at h
  unfold fixed_size.f
  split
  · rw [IntKind.wrap_u64, IntKind.wrap_u64]
    congr 1
    omega
  · rw [IntKind.wrap_u64]
    congr 1
    omega
theorem Mul64_f {x y : Int} (hx : U64 x) (hy : U64 y) : bits_Mul64.f x y = some (x * y / 18446744073709551616, x * y % 18446744073709551616) := by
  unfold bits_Mul64.f
  simp only [and_low32 x hx.1 hx.2, and_low32 y hy.1 hy.2]
  rw [and_low32 _ (by rw [IntKind.wrap_u64]; omega) (by rw [IntKind.wrap_u64]; omega)]
  simp only [IntKind.wrap_u64]
  rw [mul64_arith x y hx.1 hx.2 hy.1 hy.2]
theorem Times_f {a b : Int} (ha : I64 a) (hb : I64 b) : ∃ r1 r2, fixed_Times.f a b = some (r1, r2) ∧ I64 r1 ∧ U64 r2 ∧ W r1 r2 = a * b := by
  have ux : U64 (a.natAbs : Int) := by unfold U64; unfold I64 at ha; omega
  have uy : U64 (b.natAbs : Int) := by unfold U64; unfold I64 at hb; omega
  have hle : (a.natAbs : Int) * (b.natAbs : Int) ≤ 9223372036854775808 * 9223372036854775808 := by
    apply Int.mul_le_mul
    · unfold I64 at ha; omega
    · unfold I64 at hb; omega
    · omega
    · omega
  have h0 : 0 ≤ (a.natAbs : Int) * (b.natAbs : Int) := Int.mul_nonneg (by omega) (by omega)
  have hab : a * b = if ((decide (a < 0)) != (decide (b < 0))) = true then -((a.natAbs : Int) * (b.natAbs : Int)) else (a.natAbs : Int) * (b.natAbs : Int) := by
    by_cases h1 : a < 0 <;> by_cases h2 : b < 0
    · rw [if_neg (by simp [h1, h2]), show (a.natAbs : Int) = -a by omega, show (b.natAbs : Int) = -b by omega, Int.neg_mul_neg]
    · rw [if_pos (by simp [h1, h2]), show (a.natAbs : Int) = -a by omega, show (b.natAbs : Int) = b by omega, Int.neg_mul, Int.neg_neg]
    · rw [if_pos (by simp [h1, h2]), show (a.natAbs : Int) = a by omega, show (b.natAbs : Int) = -b by omega, Int.mul_neg, Int.neg_neg]
    · rw [if_neg (by simp [h1, h2]), show (a.natAbs : Int) = a by omega, show (b.natAbs : Int) = b by omega]
  rw [hab]
  unfold fixed_Times.f
  rw [size_u ha, size_u hb, Option.bind_some, Option.bind_some, Mul64_f ux uy, Option.bind_some]
  dsimp only
  generalize (a.natAbs : Int) * (b.natAbs : Int) = p at *
  clear hab ux uy
  have hw : wrap64 (p / 18446744073709551616) = p / 18446744073709551616 := w64 (by omega) (by omega)
  have e1 : I64 (p / 18446744073709551616) := by unfold I64; omega
  have e2 : U64 (p % 18446744073709551616) := by unfold U64; omega
  have e3 : W (p / 18446744073709551616) (p % 18446744073709551616) = p := by unfold W; omega
  rw [hw]
  split
  · obtain ⟨r1, r2, k1, k2, k3, k4⟩ := turned_f e1 e2 (Or.inl (by omega))
    refine ⟨r1, r2, ?_, k2, k3, by rw [k4, e3]⟩
    rw [k1]
    rfl
  · exact ⟨_, _, rfl, e1, e2, e3⟩
end Go.Proofs.Ytfbkgfffalppmaa.Fc
end
section
namespace Go.Proofs.Ytfbkgfffalppmaa.Fc
set_option linter.unusedSimpArgs false
set_option linter.unusedVariables false
open Go Go.RowKit Go.Proofs.Ytfbkgfffalppmaa.Wf Go.Proofs.YtfbkgfffalppmaaW.PrintWords Go.Proofs.YtfbkgfffalppmaaW.PrintMore Go.Proofs.Ytfbkgfffalppmaa.Fv
theorem signed_f {hi lo : Int} (neg : Bool) (h1 : U64 hi) (h2 : U64 lo) (hz : neg = true → ¬ (hi = 0 ∧ lo = 0)) (e : Nat) : ∃ r1 r2 r3, fixed_signed.f (e + 1) hi lo neg = some (r1, r2, r3) ∧ Is128 (if neg = true then -(hi * 18446744073709551616 + lo) else hi * 18446744073709551616 + lo) r1 r2 r3 := by
  have hw : wrap64 hi = if hi < 9223372036854775808 then hi else hi - 18446744073709551616 := by unfold U64 at h1; unfold wrap64; split <;> omega
  unfold fixed_signed.f
  cases neg
  · rw [if_neg (show ¬ (false = true) by simp), if_neg (show ¬ (false = true) by simp), fixed_signed.j0, if_neg (by simp)]
    by_cases c : hi ≥ 9223372036854775808
    · rw [if_pos c]
      refine ⟨0, 0, 4, rfl, Or.inr ⟨?_, rfl, rfl, rfl⟩⟩
      unfold F128; unfold U64 at h2
      omega
    · rw [if_neg c, if_neg (by simp), hw, if_pos (by omega)]
      refine ⟨_, _, _, rfl, Or.inl ⟨?_, rfl, ?_, h2, rfl⟩⟩
      · unfold F128; unfold U64 at h1 h2
        omega
      · unfold I64; unfold U64 at h1
        omega
  · rw [if_pos rfl, if_pos rfl]
    have hz2 := hz rfl
    by_cases c : hi = 9223372036854775808
    · rw [if_pos c, fixed_signed.j0]
      by_cases c2 : lo = 0
      · rw [if_pos (by simpa using c2), hw, if_neg (by omega)]
        refine ⟨_, _, _, rfl, Or.inl ⟨?_, rfl, ?_, h2, ?_⟩⟩
        · unfold F128; omega
        · unfold I64; omega
        · unfold W; omega
      · rw [if_neg (by simpa using c2), if_pos (by omega)]
        refine ⟨0, 0, 4, rfl, Or.inr ⟨?_, rfl, rfl, rfl⟩⟩
        unfold F128; unfold U64 at h2
        omega
    · rw [if_neg c, fixed_signed.j0, if_neg (by simp)]
      by_cases c2 : hi ≥ 9223372036854775808
      · rw [if_pos c2]
        refine ⟨0, 0, 4, rfl, Or.inr ⟨?_, rfl, rfl, rfl⟩⟩
        unfold F128; unfold U64 at h2
        omega
      · rw [if_neg c2, if_pos rfl, hw, if_pos (by omega)]
        obtain ⟨r1, r2, k1, k2, k3, k4⟩ := turned_f (h := hi) (l := lo) (by unfold I64; unfold U64 at h1; omega) h2 (Or.inl (by unfold U64 at h1; omega))
        rw [k1, Option.bind_some]
        refine ⟨_, _, _, rfl, Or.inl ⟨?_, rfl, k2, k3, ?_⟩⟩
        · unfold F128; unfold U64 at h1 h2
          omega
        · rw [k4]
          rfl
theorem turned_least : fixed_turned.f (-9223372036854775808) 0 = some (-9223372036854775808, 0) := by decide +kernel
theorem away_f {a0 a1 : Int} (ha : I64 a0) (hu : U64 a1) : ∃ h l, fixed_away.f a0 a1 = some (h, l, decide (W a0 a1 < 0)) ∧ U64 h ∧ U64 l ∧ h ≤ 9223372036854775808 ∧ h * 18446744073709551616 + l = (W a0 a1).natAbs := by
  unfold fixed_away.f
  by_cases c : a0 < 0
  · have hn : W a0 a1 < 0 := by unfold W; unfold U64 at hu; omega
    rw [if_pos c, decide_eq_true hn]
    by_cases c2 : a0 = -9223372036854775808 ∧ a1 = 0
    · obtain ⟨rfl, rfl⟩ := c2
      rw [turned_least]
      exact ⟨_, _, rfl, by unfold U64; decide, by unfold U64; decide, by decide, by decide⟩
    · obtain ⟨r1, r2, h1, h2, h3, h4⟩ := turned_f ha hu (by omega)
      rw [h1]
      have h5 : 0 ≤ r1 := by unfold W at h4 hn; unfold U64 at h3; unfold I64 at h2; omega
      refine ⟨_, _, rfl, ?_, h3, ?_, ?_⟩
      · rw [IntKind.wrap_u64]; unfold U64; omega
      · rw [IntKind.wrap_u64]; unfold I64 at h2; omega
      · dsimp only
        rw [wu h5 (by unfold I64 at h2; omega)]
        unfold W at h4 hn ⊢
        omega
  · have hn : ¬ W a0 a1 < 0 := by unfold W; unfold U64 at hu; omega
    rw [if_neg c, decide_eq_false hn]
    refine ⟨_, _, rfl, ?_, hu, ?_, ?_⟩
    · rw [IntKind.wrap_u64]; unfold U64; omega
    · rw [IntKind.wrap_u64]; unfold I64 at ha; omega
    · rw [wu (by omega) (by unfold I64 at ha; omega)]
      unfold W at hn ⊢
      omega
theorem signed_g {hi lo : Int} (neg : Bool) (h1 : U64 hi) (h2 : U64 lo) (e : Nat) : ∃ r1 r2 r3, fixed_signed.f (e + 1) hi lo neg = some (r1, r2, r3) ∧ Is128 (if neg = true then -(hi * 18446744073709551616 + lo) else hi * 18446744073709551616 + lo) r1 r2 r3 := by
  by_cases hz : hi = 0 ∧ lo = 0
  · obtain ⟨rfl, rfl⟩ := hz
    refine ⟨0, 0, 0, ?_, Or.inl ⟨?_, rfl, ?_, ?_, ?_⟩⟩
    · have ht : fixed_turned.f 0 0 = some (0, 0) := by decide +kernel
      have hw : wrap64 0 = 0 := by unfold wrap64; omega
      unfold fixed_signed.f
      cases neg <;> simp [fixed_signed.j0, ht, hw]
    · unfold F128; split <;> omega
    · unfold I64; omega
    · unfold U64; omega
    · unfold W; split <;> omega
  · exact signed_f neg h1 h2 (fun _ => hz) e
def upB (how : Int) (below : Bool) (Q R b : Int) : Bool := if R = 0 then false else if how = 0 then below else if how = 1 then !below else if how = 2 then false else decide (R > b - R) || (decide (R = b - R) && decide (Q % 2 = 1))
def qt (A d how : Int) : Int := let below := decide (A < 0) != decide (d < 0); let Q := (A.natAbs : Int) / d.natAbs; let R := (A.natAbs : Int) % d.natAbs; let q := Q + if upB how below Q R d.natAbs = true then 1 else 0; if below = true then -q else q
theorem up_f {how Q R b : Int} (below : Bool) (hR : 0 ≤ R) (hb : R < b) (hb2 : b < 18446744073709551616) : fixed_up.f how below (Q % 2 == 1) R b = some (upB how below Q R b) := by
  have hw : IntKind.u64.wrap (b - R) = b - R := wu (by omega) (by omega)
  unfold fixed_up.f upB
  rw [hw]
  by_cases c1 : R = 0
  · rw [if_pos c1, if_pos c1]
  · rw [if_neg c1, if_neg c1]
    by_cases c2 : how = 0
    · rw [if_pos c2, if_pos c2]
    · rw [if_neg c2, if_neg c2]
      by_cases c3 : how = 1
      · rw [if_pos c3, if_pos c3]
      · rw [if_neg c3, if_neg c3]
        by_cases c4 : how = 2
        · rw [if_pos c4, if_pos c4]
        · rw [if_neg c4, if_neg c4]
          by_cases c5 : R > b - R
          · rw [if_pos c5, decide_eq_true c5]; rfl
          · rw [if_neg c5, decide_eq_false c5]
            by_cases c6 : R = b - R
            · rw [if_pos c6, decide_eq_true c6]
              congr 1
            · rw [if_neg c6, decide_eq_false c6]; rfl
theorem and_one {q : Int} (h : U64 q) : Go.bits .and .u64 q 1 = q % 2 := by
  unfold U64 at h
  rw [u64_and q 1 h.1 h.2 (by omega) (by omega)]
  have : (1 : Int).toNat = 1 := rfl
  rw [this, nat_mask1]
  omega
theorem Divide_f {a0 a1 d how : Int} (ha : I64 a0) (hu : U64 a1) (hd : I64 d) (h0 : d ≠ 0) (hh : 0 ≤ how ∧ how ≤ 3) : ∃ K r1 r2 r3, (∀ e, fixed_Divide.f (K + e) a0 a1 d how = some (r1, r2, r3)) ∧ Is128 (qt (W a0 a1) d how) r1 r2 r3 := by
  obtain ⟨h, l, e1, e2, e3, e4, e5⟩ := away_f ha hu
  have hby : 0 < (d.natAbs : Int) ∧ (d.natAbs : Int) < 18446744073709551616 := by unfold I64 at hd; omega
  unfold qt
  generalize decide (W a0 a1 < 0) = na at e1
  generalize hA : ((W a0 a1).natAbs : Int) = A at e5
  have hsz := size_u hd
  generalize hB : (d.natAbs : Int) = b at hby hsz
  have hA2 : A < 170141183460469231731687303715884105729 := by unfold U64 at e3; unfold I64 at ha; unfold U64 at hu; unfold W at hA; omega
  clear hA hB
  -- the two words' quotient
  have t1 : Int.tmod h b = h % b := Int.tmod_eq_emod_of_nonneg e2.1
  have t2 : Int.tdiv h b = h / b := Int.tdiv_eq_ediv_of_nonneg e2.1
  have g0 := Int.emod_nonneg h (show b ≠ 0 by omega)
  have g1 := Int.emod_lt_of_pos h hby.1
  have g2 : 0 ≤ h / b := Int.ediv_nonneg e2.1 (by omega)
  have g3 : h / b ≤ h := Int.ediv_le_self _ e2.1
  have hw : IntKind.u64.wrap (h / b) = h / b := wu g2 (by unfold U64 at e2; omega)
  obtain ⟨K1, hK1⟩ := Div64_f (a0 := h % b) (a1 := l) (a2 := b) (by unfold U64; omega) e3 (by unfold U64; omega) g1
  have hX : A = b * (h / b * 18446744073709551616) + (h % b * 18446744073709551616 + l) := by
    have := Int.mul_ediv_add_emod h b
    rw [← Int.mul_assoc, ← e5]
    generalize b * (h / b) = p at *
    omega
  have hQ : A / b = h / b * 18446744073709551616 + (h % b * 18446744073709551616 + l) / b := by
    rw [hX, Int.add_comm, Int.add_mul_ediv_left _ _ (by omega)]
    omega
  have hR : A % b = (h % b * 18446744073709551616 + l) % b := by rw [hX, Int.add_comm, Int.add_mul_emod_self_left]
  have q0 : 0 ≤ (h % b * 18446744073709551616 + l) / b := Int.ediv_nonneg (by unfold U64 at e3; omega) (by omega)
  have q1 : (h % b * 18446744073709551616 + l) / b < 18446744073709551616 := by
    apply Int.ediv_lt_of_lt_mul hby.1
    have := Int.mul_le_mul_of_nonneg_right (show h % b + 1 ≤ b by omega) (show (0 : Int) ≤ 18446744073709551616 by omega)
    unfold U64 at e3
    omega
  have r0 := Int.emod_nonneg (h % b * 18446744073709551616 + l) (show b ≠ 0 by omega)
  have r1 := Int.emod_lt_of_pos (h % b * 18446744073709551616 + l) hby.1
  rw [hQ, hR]
  clear hQ hR hX
  generalize (h % b * 18446744073709551616 + l) / b = q at *
  generalize (h % b * 18446744073709551616 + l) % b = r at *
  have hpar : (h / b * 18446744073709551616 + q) % 2 = q % 2 := by omega
  have hup : ∀ below : Bool, upB how below (h / b * 18446744073709551616 + q) r b = upB how below q r b := fun below => by unfold upB; rw [hpar]
  -- one way for each sign
  have main : ∀ below : Bool, ∃ K r1 r2 r3, (∀ e, fixed_Divide.j1 (K + e) d how h l below = some (r1, r2, r3)) ∧ Is128 (if below = true then -(h / b * 18446744073709551616 + q + if upB how below (h / b * 18446744073709551616 + q) r b = true then 1 else 0) else h / b * 18446744073709551616 + q + if upB how below (h / b * 18446744073709551616 + q) r b = true then 1 else 0) r1 r2 r3 := fun below => by
    rw [hup]
    have hu1 := up_f (how := how) (Q := q) below r0 r1 hby.2
    by_cases hub : upB how below q r b = true
    · rw [hub] at hu1
      rw [hub, if_pos rfl]
      have a1 : addHi q 1 0 = (q + 1) / 18446744073709551616 := by rw [addHi_eq q0 (by omega) (by omega), Int.add_zero]
      have a2 : addLo q 1 0 = (q + 1) % 18446744073709551616 := by rw [addLo_eq q0 (by omega) (by omega), Int.add_zero]
      have w1 : IntKind.u64.wrap (h / b + (q + 1) / 18446744073709551616) = h / b + (q + 1) / 18446744073709551616 := wu (by omega) (by omega)
      obtain ⟨s1, s2, s3, k1, k2⟩ := signed_g (hi := h / b + (q + 1) / 18446744073709551616) (lo := (q + 1) % 18446744073709551616) below (by unfold U64; omega) (by unfold U64; omega) 0
      have hm : ∀ e, fixed_signed.f (e + 1) (h / b + (q + 1) / 18446744073709551616) ((q + 1) % 18446744073709551616) below = fixed_signed.f (0 + 1) (h / b + (q + 1) / 18446744073709551616) ((q + 1) % 18446744073709551616) below := fun e => by
        unfold fixed_signed.f
        simp only [fixed_signed.j0]
      refine ⟨K1 + 2, s1, s2, s3, fun e => ?_, ?_⟩
      · rw [show K1 + 2 + e = (K1 + (1 + e)) + 1 by omega, fixed_Divide.j1, hsz, Option.bind_some, if_neg (by omega), t1, t2, hw, hK1, Option.bind_some]
        dsimp only
        rw [and_one (by unfold U64; omega), hu1, Option.bind_some, if_pos rfl, a1, a2, w1, show K1 + (1 + e) = (K1 + e) + 1 by omega, hm, k1]
        rfl
      · have ev : (h / b + (q + 1) / 18446744073709551616) * 18446744073709551616 + (q + 1) % 18446744073709551616 = h / b * 18446744073709551616 + q + 1 := by omega
        rw [ev] at k2
        exact k2
    · have hub2 : upB how below q r b = false := by simpa using hub
      rw [hub2] at hu1
      rw [hub2, if_neg (show ¬ (false = true) by simp), Int.add_zero]
      obtain ⟨s1, s2, s3, k1, k2⟩ := signed_g (hi := h / b) (lo := q) below (by unfold U64 at e2 ⊢; omega) (by unfold U64; omega) 0
      have hm : ∀ e, fixed_signed.f (e + 1) (h / b) q below = fixed_signed.f (0 + 1) (h / b) q below := fun e => by
        unfold fixed_signed.f
        simp only [fixed_signed.j0]
      refine ⟨K1 + 2, s1, s2, s3, fun e => ?_, k2⟩
      rw [show K1 + 2 + e = (K1 + (1 + e)) + 1 by omega, fixed_Divide.j1, hsz, Option.bind_some, if_neg (by omega), t1, t2, hw, hK1, Option.bind_some]
      dsimp only
      rw [and_one (by unfold U64; omega), hu1, Option.bind_some, if_neg (by simp), show K1 + (1 + e) = (K1 + e) + 1 by omega, hm, k1]
      rfl
  obtain ⟨K, s1, s2, s3, k1, k2⟩ := main (na != decide (d < 0))
  refine ⟨K + 1, s1, s2, s3, fun e => ?_, k2⟩
  unfold fixed_Divide.f
  rw [if_neg h0, if_neg (by omega), decide_eq_false (by omega), show K + 1 + e = (K + e) + 1 by omega, fixed_Divide.j0, if_neg (by simp), e1, Option.bind_some]
  dsimp only
  by_cases c : d < 0
  · rw [if_pos c, show (!na) = (na != decide (d < 0)) by rw [decide_eq_true c]; cases na <;> rfl]
    exact k1 e
  · rw [if_neg c]
    have : na = (na != decide (d < 0)) := by rw [decide_eq_false c]; cases na <;> rfl
    rw [← this] at k1
    exact k1 e
end Go.Proofs.Ytfbkgfffalppmaa.Fc
end
section
namespace Go.Proofs.Ytfbkgfffalppmaa.Wq
set_option linter.unusedSimpArgs false
set_option linter.unusedVariables false
open Go Go.RowKit Go.Proofs.Ytfbkgfffalppmaa.Wf Go.Proofs.YtfbkgfffalppmaaW.PrintWords Go.Proofs.Ytfbkgfffalppmaa.Fv Go.Proofs.Ytfbkgfffalppmaa.Fc
def cp (p : S41) : S74 := ⟨p.f0, p.f1⟩
def cl (x : S28) : S35 := ⟨x.f0, x.f1.map cp⟩
theorem rd28 {l : List S28} {i : Nat} (h : i < l.length) : rd_T28 l (i : Int) = l[i] := by unfold rd_T28; rw [Int.toNat_natCast, List.getD_eq_getElem?_getD, List.getElem?_eq_getElem h]; rfl
theorem rd41 {l : List S41} {i : Nat} (h : i < l.length) : rd_T41 l (i : Int) = l[i] := by unfold rd_T41; rw [Int.toNat_natCast, List.getD_eq_getElem?_getD, List.getElem?_eq_getElem h]; rfl
theorem rd74 {l : List S74} {i : Nat} (h : i < l.length) : rd_T74 l (i : Int) = l[i] := by unfold rd_T74; rw [Int.toNat_natCast, List.getD_eq_getElem?_getD, List.getElem?_eq_getElem h]; rfl
theorem wi (i : Nat) (h : i ≤ 1000000000) : wrap64 ((i : Int) + 1) = ((i + 1 : Nat) : Int) := wn i h
theorem take_snoc' {α : Type} (l : List α) (i : Nat) (h : i < l.length) : l.take (i + 1) = l.take i ++ [l[i]] := by rw [List.take_add_one, List.getElem?_eq_getElem h]; rfl
def cut (l : List S28) : List S28 := (l.take 70).map fun x => ⟨x.f0, x.f1.take 70⟩
theorem To_l1 (l : List S28) (i : Nat) (hi : i < l.length) (xs : List S35) (ys : List S28) (hx : xs.length ≤ 70) (hy : ys.length ≤ 70) (R : Option ((List S35) × (List S28))) (K0 : Nat)
    (hc : ∀ e, clevislaw28_To.l0 (K0 + e) l (xs ++ [⟨(l[i]).f0, ((l[i]).f1.take 70).map cp⟩]) (ys ++ [⟨(l[i]).f0, (l[i]).f1.take 70⟩]) ((i + 1 : Nat) : Int) = R) (hi2 : i ≤ 100) :
    ∀ (n j : Nat), j + n = min (l[i]).f1.length 70 → ∀ e, clevislaw28_To.l1 (K0 + n + 1 + e) l xs ys (i : Int) (j : Int) (l[i]).f0 (((l[i]).f1.take j).map cp) (l[i]).f0 ((l[i]).f1.take j) = R
  | 0, j, hj, e => by
    have h1 : ((l[i]).f1.take 70) = (l[i]).f1.take j := by
      rcases Nat.le_total (l[i]).f1.length 70 with h | h
      · rw [List.take_of_length_le h, List.take_of_length_le (by omega)]
      · rw [show j = 70 by omega]
    rw [h1] at hc
    rw [show K0 + 0 + 1 + e = (K0 + e) + 1 by omega, clevislaw28_To.l1, if_pos (by omega), if_pos (by omega), rd28 hi, wi i (by omega)]
    by_cases c : (j : Int) < ((l[i]).f1.length : Int)
    · rw [if_pos c, if_neg (by omega), if_pos (by omega), if_pos (by omega), hc]
    · rw [if_neg c, if_pos (by omega), if_pos (by omega), hc]
  | n + 1, j, hj, e => by
    have hjl : j < (l[i]).f1.length := by omega
    have ih := To_l1 l i hi xs ys hx hy R K0 hc hi2 n (j + 1) (by omega) e
    rw [take_snoc' _ _ hjl, List.map_append] at ih
    rw [show K0 + (n + 1) + 1 + e = (K0 + n + 1 + e) + 1 by omega, clevislaw28_To.l1, if_pos (by omega), if_pos (by omega), rd28 hi, if_pos (by omega), if_pos (by omega), if_pos (by omega), if_pos (by simp; omega), if_pos (by simp; omega), rd41 hjl, wi j (by omega)]
    exact ih
theorem To_l0 (l : List S28) : ∀ (n i : Nat), i + n = min l.length 70 → ∃ K, ∀ e, clevislaw28_To.l0 (K + e) l ((cut (l.take i)).map cl) (cut (l.take i)) (i : Int) = some ((cut l).map cl, cut l)
  | 0, i, hi => by
    have h1 : cut (l.take i) = cut l := by
      unfold cut
      rw [List.take_take]
      rcases Nat.le_total l.length 70 with h | h
      · rw [show i = l.length by omega, List.take_of_length_le (by omega), List.take_of_length_le (by omega)]
      · rw [show i = 70 by omega]
        simp
    refine ⟨2, fun e => ?_⟩
    rw [h1, show 2 + e = (e + 1) + 1 by omega, clevislaw28_To.l0]
    by_cases c : (i : Int) < (l.length : Int)
    · rw [if_pos c, decide_eq_false (by omega), clevislaw28_To.j1, if_neg (by simp)]
    · rw [if_neg c, clevislaw28_To.j1, if_neg (by simp)]
  | n + 1, i, hi => by
    have hil : i < l.length := by omega
    obtain ⟨K, hK⟩ := To_l0 l n (i + 1) (by omega)
    have hs : cut (l.take (i + 1)) = cut (l.take i) ++ [⟨(l[i]).f0, (l[i]).f1.take 70⟩] := by
      unfold cut
      rw [take_snoc' _ _ hil, List.take_of_length_le (by simp; omega), List.take_of_length_le (l := l.take i) (by simp; omega), List.map_append]
      rfl
    have hcl : (cut (l.take i)).length ≤ 70 := by unfold cut; simp; omega
    have hK2 : ∀ e, clevislaw28_To.l0 (K + e) l ((cut (l.take i)).map cl ++ [⟨(l[i]).f0, ((l[i]).f1.take 70).map cp⟩]) (cut (l.take i) ++ [⟨(l[i]).f0, (l[i]).f1.take 70⟩]) ((i + 1 : Nat) : Int) = some ((cut l).map cl, cut l) := fun e => by
      have := hK e
      rw [hs, List.map_append] at this
      exact this
    have h1 := To_l1 l i hil ((cut (l.take i)).map cl) (cut (l.take i)) (by rw [List.length_map]; exact hcl) hcl _ K hK2 (by omega) (min (l[i]).f1.length 70) 0 (by omega)
    simp only [List.take_zero, List.map_nil] at h1
    refine ⟨K + min (l[i]).f1.length 70 + 1 + 2, fun e => ?_⟩
    rw [show K + min (l[i]).f1.length 70 + 1 + 2 + e = (K + min (l[i]).f1.length 70 + 1 + e + 1) + 1 by omega, clevislaw28_To.l0, if_pos (by omega), decide_eq_true (by omega), clevislaw28_To.j1, if_pos rfl, if_pos (by omega), if_pos (by omega), rd28 hil]
    exact h1 e
theorem To_f (l : List S28) : ∃ K, ∀ e, clevislaw28_To.f (K + e) l = some ((cut l).map cl, cut l) := by
  obtain ⟨K, hK⟩ := To_l0 l (min l.length 70) 0 (by omega)
  exact ⟨K, fun e => hK e⟩
theorem room_l0 (l : List S74) (hl : l.length ≤ 1000000) (r : Int × Int) (hr : fixed_Sum.f (l.map (·.f1)) = some r) : ∀ (n i : Nat), i + n = l.length → ∀ e, waterfall_room.l0 (n + 1 + e) ((l.take i).map (·.f1)) l (l.length : Int) (i : Int) = some r
  | 0, i, hi, e => by
    rw [show 0 + 1 + e = e + 1 by omega, waterfall_room.l0, if_neg (by omega), List.take_of_length_le (by omega), hr]
    rfl
  | n + 1, i, hi, e => by
    have hil : i < l.length := by omega
    have ih := room_l0 l hl r hr n (i + 1) (by omega) e
    rw [take_snoc' _ _ hil, List.map_append] at ih
    rw [show n + 1 + 1 + e = (n + 1 + e) + 1 by omega, waterfall_room.l0, if_pos (by omega), if_pos (by omega), if_pos (by omega), if_pos (by simp; omega), rd74 hil, wi i (by omega)]
    exact ih
theorem room_f (l : List S74) (hl : l.length ≤ 1000000) (hg : ∀ p ∈ l, I64 p.f1) : ∃ r1 r2, (∀ e, waterfall_room.f (l.length + 1 + e) l = some (r1, r2)) ∧ Is64 (l.map (·.f1)).sum r1 r2 := by
  obtain ⟨r1, r2, h1, h2⟩ := Sum_f (l.map (·.f1)) (by simpa using hl) (fun a ha => by obtain ⟨p, hp, rfl⟩ := List.mem_map.1 ha; exact hg p hp)
  exact ⟨r1, r2, fun e => room_l0 l hl _ h1 l.length 0 (by omega) e, h2⟩
end Go.Proofs.Ytfbkgfffalppmaa.Wq
end
section
namespace Go.Proofs.Ytfbkgfffalppmaa.Wq
set_option linter.unusedSimpArgs false
set_option linter.unusedVariables false
open Go Go.RowKit Go.Proofs.Ytfbkgfffalppmaa.Wf Go.Proofs.YtfbkgfffalppmaaW.PrintWords Go.Proofs.Ytfbkgfffalppmaa.Fv Go.Proofs.Ytfbkgfffalppmaa.Fc
def neg (y : List S28) : Bool := y.any fun x => x.f1.any fun p => decide (p.f1 < 0)
structure Ok (y : List S28) : Prop where
  len : y.length ≤ 71
  parts : ∀ x ∈ y, x.f1.length ≤ 70
  good : ∀ x ∈ y, ∀ p ∈ x.f1, I64 p.f1
section
variable (y : List S28) (hy : Ok y) (nn : Bool) (d : List Int)
include hy
end
end Go.Proofs.Ytfbkgfffalppmaa.Wq
end
section
namespace Go.Proofs.Ytfbkgfffalppmaa.Wq
set_option linter.unusedSimpArgs false
set_option linter.unusedVariables false
open Go Go.RowKit Go.Proofs.Ytfbkgfffalppmaa.Wf Go.Proofs.YtfbkgfffalppmaaW.PrintWords Go.Proofs.Ytfbkgfffalppmaa.Fv Go.Proofs.Ytfbkgfffalppmaa.Fc
theorem qt_pos {A d : Int} (hA : 0 ≤ A) (hd : 0 < d) : qt A d 0 = A / d := by
  have h1 : decide (A < 0) = false := decide_eq_false (by omega)
  have h2 : decide (d < 0) = false := decide_eq_false (by omega)
  unfold qt upB
  rw [h1, h2]
  have h3 : (A.natAbs : Int) = A := by omega
  have h4 : (d.natAbs : Int) = d := by omega
  rw [h3, h4]
  by_cases c : A % d = 0 <;> simp [c]
def por (loss all : Int) (p : S74) : Int := p.f1 * loss / all
theorem por_range {loss all : Int} {p : S74} (hp : 0 ≤ p.f1) (hpa : p.f1 ≤ all) (hl : 0 ≤ loss) (ha : 0 < all) : 0 ≤ por loss all p ∧ por loss all p ≤ loss := by
  refine ⟨Int.ediv_nonneg (Int.mul_nonneg hp hl) (by omega), ?_⟩
  refine Int.ediv_le_of_le_mul ha ?_
  rw [Int.mul_comm]
  exact Int.mul_le_mul_of_nonneg_left hpa hl
theorem portion_f {loss all : Int} (p : S74) (hp : 0 ≤ p.f1) (hpa : p.f1 ≤ all) (hl : 0 ≤ loss) (hla : loss ≤ all) (ha : 0 < all) (hall : all ≤ 9223372036854775807) : ∃ K, ∀ e, waterfall_portion.f (K + e) p.f1 loss all = some (por loss all p) := by
  obtain ⟨t1, t2, h1, h2, h3, h4⟩ := Times_f (a := p.f1) (b := loss) ⟨by omega, by omega⟩ ⟨by omega, by omega⟩
  obtain ⟨K, r1, r2, r3, h5, h6⟩ := Divide_f (a0 := t1) (a1 := t2) (d := all) (how := 0) h2 h3 ⟨by omega, by omega⟩ (by omega) ⟨by omega, by omega⟩
  rw [h4, qt_pos (Int.mul_nonneg hp hl) ha] at h6
  have hr := por_range (all := all) hp hpa hl ha
  have hi : I64 (p.f1 * loss / all) := by
    have := hr
    unfold por at this
    unfold I64
    omega
  refine ⟨K, fun e => ?_⟩
  unfold waterfall_portion.f
  rw [h1, Option.bind_some, h5, Option.bind_some]
  dsimp only
  rcases h6 with ⟨_, e3, h7, h8, h9⟩ | ⟨h7, _⟩
  · obtain ⟨q1, q2, h10, h11⟩ := Int_f h7 h8
    rw [h9] at h11
    rw [h10, Option.bind_some]
    rcases h11 with ⟨_, h12, _⟩ | ⟨h12, _⟩
    · rw [h12]
      rfl
    · exact absurd hi h12
  · refine absurd ?_ h7
    unfold I64 at hi
    unfold F128
    omega
theorem lp1_f {loss all : Int} (hl : 0 ≤ loss) (hla : loss ≤ all) (ha : 0 < all) (hall : all ≤ 9223372036854775807) : ∀ (l : List S74) (left : Int), (∀ p ∈ l, 0 ≤ p.f1 ∧ p.f1 ≤ all) → (l.map (por loss all)).sum ≤ left → left ≤ all → ∃ K, ∀ e, waterfall_Split.lp1 (K + e) loss all l left = some (l.map (por loss all), left - (l.map (por loss all)).sum)
  | [], left, _, _, _ => ⟨0, fun e => by rw [waterfall_Split.lp1]; simp⟩
  | p :: l, left, hp, hs, hla2 => by
    have hp0 := hp p (by simp)
    obtain ⟨K1, h1⟩ := portion_f p hp0.1 hp0.2 hl hla ha hall
    have hr := por_range (all := all) hp0.1 hp0.2 hl ha
    have hs0 : 0 ≤ (l.map (por loss all)).sum := by
      have : ∀ (l : List S74), (∀ p ∈ l, 0 ≤ p.f1 ∧ p.f1 ≤ all) → 0 ≤ (l.map (por loss all)).sum := fun l => by
        induction l with
        | nil => intro _; simp
        | cons a l ih =>
          intro h
          have h1 := h a (by simp)
          have h2 := ih (fun y hy => h y (by simp [hy]))
          have h3 := por_range (all := all) h1.1 h1.2 hl ha
          rw [List.map_cons, List.sum_cons]
          omega
      exact this l (fun q hq => hp q (by simp [hq]))
    rw [List.map_cons, List.sum_cons] at hs
    obtain ⟨K2, h2⟩ := lp1_f hl hla ha hall l (left - por loss all p) (fun q hq => hp q (by simp [hq])) (by omega) (by omega)
    refine ⟨K1 + K2, fun e => ?_⟩
    rw [waterfall_Split.lp1, if_pos ha, show K1 + K2 + e = K1 + (K2 + e) by omega, h1, Option.bind_some, show K1 + (K2 + e) = K2 + (K1 + e) by omega, show wrap64 (left - por loss all p) = left - por loss all p by unfold wrap64; omega, h2, Option.bind_some, show wrap64 (0 + por loss all p) = por loss all p by unfold wrap64; omega]
    simp only [List.map_cons, List.sum_cons]
    rw [show left - por loss all p - (l.map (por loss all)).sum = left - (por loss all p + (l.map (por loss all)).sum) by omega]
theorem lp1_zero (k : Nat) (loss : Int) : ∀ (l : List S74) (left : Int), waterfall_Split.lp1 k loss 0 l left = some (l.map (fun _ => (0 : Int)), left)
  | [], left => by rw [waterfall_Split.lp1]; rfl
  | p :: l, left => by
    rw [waterfall_Split.lp1, if_neg (by omega), lp1_zero k loss l left]
    rfl
def gv : List S74 → List Int → Int → List Int × Int
  | p :: ps, o :: os, left => if left > 0 ∧ o < p.f1 then ((o + 1) :: (gv ps os (left - 1)).1, (gv ps os (left - 1)).2) else (o :: (gv ps os left).1, (gv ps os left).2)
  | _, os, left => (os, left)
theorem lp2_gv : ∀ (ps : List S74) (os : List Int) (left : Int), (∀ p ∈ ps, p.f1 ≤ 9223372036854775807) → (∀ o ∈ os, 0 ≤ o) → left ≤ 9223372036854775807 → waterfall_Split.lp2 ps os left = gv ps os left
  | [], os, left, _, _, _ => by rw [waterfall_Split.lp2.eq_def, gv.eq_def]
  | p :: ps, [], left, _, _, _ => by rw [waterfall_Split.lp2.eq_def, gv.eq_def]
  | p :: ps, o :: os, left, hp, ho, hl => by
    have h1 := hp p (by simp)
    have h2 := ho o (by simp)
    rw [waterfall_Split.lp2, gv]
    by_cases c : left > 0 ∧ o < p.f1
    · rw [if_pos c, if_pos c, show wrap64 (o + 1) = o + 1 by unfold wrap64; omega, show wrap64 (left - 1) = left - 1 by unfold wrap64; omega, lp2_gv ps os (left - 1) (fun q hq => hp q (by simp [hq])) (fun q hq => ho q (by simp [hq])) (by omega)]
    · rw [if_neg c, if_neg c, lp2_gv ps os left (fun q hq => hp q (by simp [hq])) (fun q hq => ho q (by simp [hq])) hl]
theorem gv_len : ∀ (ps : List S74) (os : List Int) (left : Int), (gv ps os left).1.length = os.length
  | [], os, left => by rw [gv.eq_def]
  | p :: ps, [], left => by rw [gv.eq_def]
  | p :: ps, o :: os, left => by
    rw [gv]
    split <;> simp [gv_len ps os]
def tt (ps : List S74) : Int := (ps.map (·.f1)).sum
structure Gd (ps : List S74) : Prop where
  len : ps.length ≤ 1000
  pos : ∀ p ∈ ps, 0 ≤ p.f1
  fit : tt ps ≤ 9223372036854775807
theorem tt_mem : ∀ {ps : List S74}, (∀ p ∈ ps, 0 ≤ p.f1) → 0 ≤ tt ps ∧ ∀ p ∈ ps, p.f1 ≤ tt ps
  | [], _ => by simp [tt]
  | a :: ps, h => by
    have ⟨h1, h2⟩ := tt_mem (ps := ps) (fun p hp => h p (by simp [hp]))
    have h3 := h a (by simp)
    have h4 : tt (a :: ps) = a.f1 + tt ps := by simp [tt]
    rw [h4]
    refine ⟨by omega, fun p hp => ?_⟩
    rcases List.mem_cons.1 hp with rfl | hp
    · omega
    · have := h2 p hp
      omega
def base (loss : Int) (ps : List S74) : List Int := if tt ps > 0 then ps.map (por loss (tt ps)) else ps.map (fun _ => (0 : Int))
def spl (loss : Int) (ps : List S74) : List Int := (gv ps (base loss ps) (loss - (base loss ps).sum)).1
theorem base_len (loss : Int) (ps : List S74) : (base loss ps).length = ps.length := by unfold base; split <;> simp
theorem spl_len (loss : Int) (ps : List S74) : (spl loss ps).length = ps.length := by unfold spl; rw [gv_len, base_len]
theorem por_sum {loss all : Int} (hl : 0 ≤ loss) (ha : 0 < all) : ∀ (ps : List S74), (∀ p ∈ ps, 0 ≤ p.f1) → (ps.map (por loss all)).sum * all ≤ tt ps * loss
  | [], _ => by simp [tt]
  | a :: ps, h => by
    have h1 := por_sum hl ha ps (fun p hp => h p (by simp [hp]))
    have h4 : tt (a :: ps) = a.f1 + tt ps := by simp [tt]
    rw [h4, List.map_cons, List.sum_cons, Int.add_mul, Int.add_mul]
    have h5 : por loss all a * all ≤ a.f1 * loss := Int.ediv_mul_le _ (by omega)
    omega
theorem base_le {loss : Int} {ps : List S74} (hl : 0 ≤ loss) (h : ∀ p ∈ ps, 0 ≤ p.f1) : (base loss ps).sum ≤ loss ∧ ∀ o ∈ base loss ps, 0 ≤ o := by
  have ⟨h1, h2⟩ := tt_mem h
  unfold base
  by_cases c : tt ps > 0
  · rw [if_pos c]
    refine ⟨?_, fun o ho => ?_⟩
    · have := por_sum hl c ps h
      rw [Int.mul_comm (tt ps) loss] at this
      exact Int.le_of_mul_le_mul_right this c
    · obtain ⟨p, hp, rfl⟩ := List.mem_map.1 ho
      exact (por_range (h p hp) (h2 p hp) hl c).1
  · rw [if_neg c]
    refine ⟨?_, fun o ho => ?_⟩
    · have : ∀ (l : List S74), (l.map (fun _ => (0 : Int))).sum = 0 := fun l => by
        induction l with
        | nil => rfl
        | cons a l ih => simp [ih]
      rw [this]
      exact hl
    · obtain ⟨p, hp, rfl⟩ := List.mem_map.1 ho
      omega
theorem Gd.i64 {ps : List S74} (h : Gd ps) : ∀ p ∈ ps, I64 p.f1 := fun p hp => by
  have h1 := h.pos p hp
  have h2 := (tt_mem h.pos).2 p hp
  have h3 := h.fit
  unfold I64
  omega
theorem Gd.room {ps : List S74} (h : Gd ps) (e : Nat) : waterfall_room.f (ps.length + 1 + e) ps = some (tt ps, 0) := by
  obtain ⟨r1, r2, h1, h2⟩ := room_f ps (by have := h.len; omega) h.i64
  rw [h1]
  have h3 := h.fit
  have h4 := (tt_mem h.pos).1
  rcases h2 with ⟨_, h5, h6⟩ | ⟨h5, _⟩
  · rw [h5, h6]
    rfl
  · refine absurd ?_ h5
    unfold tt at h3 h4
    unfold I64
    omega
theorem Split_f {loss : Int} {ps : List S74} (h : Gd ps) (hl : 0 ≤ loss) (hla : loss ≤ tt ps) : ∃ K, ∀ e, waterfall_Split.f (K + e) loss ps = some (spl loss ps, 0) := by
  have h1 := tt_mem h.pos
  have h2 := h.fit
  have h3 := h.len
  obtain ⟨hb, hb0⟩ := base_le hl h.pos
  have key : ∃ K, ∀ e, waterfall_Split.lp1 (K + e) loss (tt ps) ps loss = some (base loss ps, loss - (base loss ps).sum) := by
    unfold base at hb ⊢
    by_cases c : tt ps > 0
    · rw [if_pos c] at hb ⊢
      exact lp1_f hl hla c h2 ps loss (fun p hp => ⟨h.pos p hp, h1.2 p hp⟩) hb hla
    · rw [if_neg c] at hb ⊢
      refine ⟨0, fun e => ?_⟩
      rw [show tt ps = 0 by omega, lp1_zero]
      have : ∀ (l : List S74), (l.map (fun _ => (0 : Int))).sum = 0 := fun l => by
        induction l with
        | nil => rfl
        | cons a l ih => simp [ih]
      rw [this, Int.sub_zero]
  obtain ⟨K, hK⟩ := key
  have hn : ps.any (fun x => decide (x.f1 < 0)) = false := by
    rw [List.any_eq_false]
    intro p hp
    have := h.pos p hp
    simp
    omega
  refine ⟨ps.length + 1 + K, fun e => ?_⟩
  unfold waterfall_Split.f
  rw [if_pos (by omega), if_neg (by omega), if_neg (by simp [hn]), show ps.length + 1 + K + e = ps.length + 1 + (K + e) by omega, h.room, Option.bind_some]
  dsimp only
  rw [if_pos rfl, if_neg (by omega), show ps.length + 1 + (K + e) = K + (ps.length + 1 + e) by omega, hK, Option.bind_some]
  dsimp only
  have hs0 : 0 ≤ (base loss ps).sum := by
    have : ∀ (l : List Int), (∀ o ∈ l, 0 ≤ o) → 0 ≤ l.sum := fun l => by
      induction l with
      | nil => intro _; simp
      | cons a l ih =>
        intro h
        have h1 := h a (by simp)
        have h2 := ih (fun y hy => h y (by simp [hy]))
        rw [List.sum_cons]
        omega
    exact this _ hb0
  rw [lp2_gv ps _ _ (fun p hp => (by have := h1.2 p hp; omega)) hb0 (by omega)]
  rfl
def sh (nm : ByteArray) : List S74 → List Int → List S52
  | p :: ps, n :: ns => if n > 0 then ⟨nm, p.f0, n⟩ :: sh nm ps ns else sh nm ps ns
  | _, _ => []
end Go.Proofs.Ytfbkgfffalppmaa.Wq
end
section
namespace Go.Proofs.Ytfbkgfffalppmaa.Wq
set_option linter.unusedSimpArgs false
set_option linter.unusedVariables false
open Go Go.RowKit Go.Proofs.Ytfbkgfffalppmaa.Wf Go.Proofs.YtfbkgfffalppmaaW.PrintWords Go.Proofs.Ytfbkgfffalppmaa.Fv Go.Proofs.Ytfbkgfffalppmaa.Fc
end Go.Proofs.Ytfbkgfffalppmaa.Wq
end
section
namespace Go.Proofs.Ytfbkgfffalppmaa.Wq
set_option linter.unusedSimpArgs false
set_option linter.unusedVariables false
open Go Go.RowKit Go.Proofs.Ytfbkgfffalppmaa.Wf Go.Proofs.YtfbkgfffalppmaaW.PrintWords Go.Proofs.Ytfbkgfffalppmaa.Fv Go.Proofs.Ytfbkgfffalppmaa.Fc
theorem ev {α : Type} {f : Nat → Option α} {K : Nat} {r : α} (h : ∀ e, f (K + e) = some r) : ∀ k, K ≤ k → f k = some r := fun k hk => by
  have := h (k - K)
  rwa [Nat.add_sub_cancel' hk] at this
def cnt : List S74 → List Int → Int
  | p :: ps, o :: os => (if o < p.f1 then 1 else 0) + cnt ps os
  | _, _ => 0
theorem cnt_pos : ∀ (ps : List S74) (os : List Int), 0 ≤ cnt ps os
  | [], os => by rw [cnt.eq_def]; simp
  | p :: ps, [] => by rw [cnt.eq_def]; simp
  | p :: ps, o :: os => by
    rw [cnt]
    have := cnt_pos ps os
    split <;> omega
theorem gv_left : ∀ (ps : List S74) (os : List Int) (left : Int), 0 ≤ left → left ≤ cnt ps os → (gv ps os left).2 = 0
  | [], os, left, h0, h1 => by
    rw [cnt.eq_def] at h1
    rw [gv.eq_def]
    simp at h1 ⊢
    omega
  | p :: ps, [], left, h0, h1 => by
    rw [cnt.eq_def] at h1
    rw [gv.eq_def]
    simp at h1 ⊢
    omega
  | p :: ps, o :: os, left, h0, h1 => by
    rw [cnt] at h1
    have hc := cnt_pos ps os
    rw [gv]
    by_cases c : left > 0 ∧ o < p.f1
    · rw [if_pos c]
      rw [if_pos c.2] at h1
      exact gv_left ps os (left - 1) (by omega) (by omega)
    · rw [if_neg c]
      refine gv_left ps os left h0 ?_
      by_cases d : o < p.f1
      · have : ¬ left > 0 := fun h => c ⟨h, d⟩
        omega
      · rw [if_neg d] at h1
        omega
theorem rem_le {loss all : Int} (hl : 0 ≤ loss) (hla : loss ≤ all) (ha : 0 < all) : ∀ (ps : List S74), (∀ p ∈ ps, 0 ≤ p.f1) → tt ps * loss ≤ all * (ps.map (por loss all)).sum + all * cnt ps (ps.map (por loss all))
  | [], _ => by simp [tt, cnt]
  | a :: ps, h => by
    have h1 := rem_le hl hla ha ps (fun p hp => h p (by simp [hp]))
    have h2 := h a (by simp)
    have h4 : tt (a :: ps) = a.f1 + tt ps := by simp [tt]
    rw [h4, List.map_cons, List.sum_cons, cnt, Int.add_mul, Int.mul_add, Int.mul_add]
    have h5 : a.f1 * loss ≤ all * por loss all a + all * (if por loss all a < a.f1 then 1 else 0) := by
      by_cases c : por loss all a < a.f1
      · rw [if_pos c]
        have h6 := Int.lt_ediv_add_one_mul_self (a.f1 * loss) ha
        have h7 : (a.f1 * loss / all + 1) * all = all * por loss all a + all * 1 := by unfold por; rw [Int.add_mul, Int.mul_comm]; omega
        omega
      · rw [if_neg c]
        have h6 : all * a.f1 ≤ all * por loss all a := Int.mul_le_mul_of_nonneg_left (by omega) (by omega)
        have h7 : a.f1 * loss ≤ a.f1 * all := Int.mul_le_mul_of_nonneg_left hla h2
        rw [Int.mul_comm a.f1 all] at h7
        omega
    omega
theorem spl_all {loss : Int} {ps : List S74} (h : Gd ps) (hl : 0 ≤ loss) (hla : loss ≤ tt ps) : (gv ps (base loss ps) (loss - (base loss ps).sum)).2 = 0 := by
  have hb := base_le hl h.pos
  refine gv_left _ _ _ (by omega) ?_
  have hc := cnt_pos ps (base loss ps)
  by_cases c : tt ps > 0
  · have h1 := rem_le hl hla c ps h.pos
    unfold base at hb ⊢
    rw [if_pos c] at hb ⊢
    rw [← Int.mul_add] at h1
    have h2 := Int.le_of_mul_le_mul_left h1 c
    omega
  · have h1 : 0 ≤ (base loss ps).sum := by
      have : ∀ (l : List Int), (∀ o ∈ l, 0 ≤ o) → 0 ≤ l.sum := fun l => by
        induction l with
        | nil => intro _; simp
        | cons a l ih =>
          intro h
          have h1 := h a (by simp)
          have h2 := ih (fun y hy => h y (by simp [hy]))
          rw [List.sum_cons]
          omega
      exact this _ hb.2
    omega
theorem por_fl {loss all : Int} (ha : 0 < all) (p : S74) : (por loss all p * all ≤ p.f1 * loss ∧ p.f1 * loss < por loss all p * all + all) ∧ ¬ ((por loss all p + 1) * all ≤ p.f1 * loss) := by
  have h5 : por loss all p * all ≤ p.f1 * loss := Int.ediv_mul_le _ (by omega)
  have h6 := Int.lt_ediv_add_one_mul_self (p.f1 * loss) ha
  have h7 : (p.f1 * loss / all + 1) * all = por loss all p * all + all := by unfold por; rw [Int.add_mul, Int.one_mul]
  have h8 : (por loss all p + 1) * all = por loss all p * all + all := by rw [Int.add_mul, Int.one_mul]
  omega
end Go.Proofs.Ytfbkgfffalppmaa.Wq
end
