/- Texts of this seat, put together (ZM7). -/
import Derived.Laws.DeepNot64
import Derived.Laws.BitsAllLaws
import Derived.Test.YtfbkgfffalppmaaZM5
import Derived.Test.YtfbkgfffalppmaaZM6
section
namespace Go.Proofs.Ytfbkgfffalppmaa.Fc
set_option linter.unusedSimpArgs false
set_option linter.unusedVariables false
open Go Go.RowKit Go.Proofs.Ytfbkgfffalppmaa.Wf Go.Proofs.YtfbkgfffalppmaaW.PrintWords Go.Proofs.Ytfbkgfffalppmaa.Fv
theorem not_u64 {a : Int} (h : U64 a) : Go.bits .xor .u64 18446744073709551615 a = 18446744073709551615 - a := by
  obtain ⟨n, rfl⟩ := Int.eq_ofNat_of_zero_le h.1
  have hn : n < 18446744073709551616 := by have := h.2; omega
  show IntKind.u64.wrap ((BitVec.ofInt 64 18446744073709551615 ^^^ BitVec.ofInt 64 (n : Int)).toNat : Int) = _
  have h1 : BitVec.ofInt 64 18446744073709551615 = BitVec.allOnes 64 := by decide
  rw [h1, BitVec.allOnes_xor, BitVec.toNat_not, ofInt_u64 n hn, IntKind.wrap_u64]
  omega
theorem turned_f {h l : Int} (hh : I64 h) (hl : U64 l) (hm : h ≠ -9223372036854775808 ∨ l ≠ 0) : ∃ r1 r2, fixed_turned.f h l = some (r1, r2) ∧ I64 r1 ∧ U64 r2 ∧ W r1 r2 = -W h l := by
  have hue : IntKind.u64.wrap h = if h < 0 then h + 18446744073709551616 else h := by unfold I64 at hh; rw [IntKind.wrap_u64]; split <;> omega
  obtain ⟨u, hu⟩ : ∃ u, IntKind.u64.wrap h = u := ⟨_, rfl⟩
  have hu0 : U64 u := by rw [← hu, IntKind.wrap_u64]; unfold U64; omega
  unfold fixed_turned.f
  rw [hu, not_u64 hu0, not_u64 hl]
  rw [hu] at hue
  clear hu
  unfold U64 at hl hu0
  rw [addHi_eq (by omega) (by omega) (by omega), addLo_eq (by omega) (by omega) (by omega)]
  refine ⟨_, _, rfl, ?_, ?_, ?_⟩
  · unfold I64 wrap64
    omega
  · unfold U64
    omega
  · unfold I64 at hh
    unfold W
    by_cases h0 : l = 0
    · subst h0
      have e1 : ((18446744073709551615 : Int) - 0 + 1 + 0) / 18446744073709551616 = 1 := by decide
      have e2 : ((18446744073709551615 : Int) - 0 + 1 + 0) % 18446744073709551616 = 0 := by decide
      rw [e1, e2, IntKind.wrap_u64]
      unfold wrap64
      split at hue <;> omega
    · have e1 : (18446744073709551615 - l + 1 + 0) / 18446744073709551616 = 0 := by omega
      have e2 : (18446744073709551615 - l + 1 + 0) % 18446744073709551616 = 18446744073709551616 - l := by omega
      rw [e1, e2, IntKind.wrap_u64]
      unfold wrap64
      split at hue <;> omega
theorem size_u {a : Int} (h : I64 a) : fixed_size.f a = some (a.natAbs : Int) := by
  unfold I64 at h
  unfold fixed_size.f
  split
  · rw [IntKind.wrap_u64, IntKind.wrap_u64]
    congr 1
    omega
  · rw [IntKind.wrap_u64]
    congr 1
    omega
theorem Mul64_f {x y : Int} (hx : U64 x) (hy : U64 y) : bits_Mul64.f x y = some (x * y / 18446744073709551616, x * y % 18446744073709551616) := by
  unfold bits_Mul64.f
  simp only [and_low32 x hx.1 hx.2, and_low32 y hy.1 hy.2]
  rw [and_low32 _ (by rw [IntKind.wrap_u64]; omega) (by rw [IntKind.wrap_u64]; omega)]
  simp only [IntKind.wrap_u64]
  rw [mul64_arith x y hx.1 hx.2 hy.1 hy.2]
theorem Times_f {a b : Int} (ha : I64 a) (hb : I64 b) : ∃ r1 r2, fixed_Times.f a b = some (r1, r2) ∧ I64 r1 ∧ U64 r2 ∧ W r1 r2 = a * b := by
  have ux : U64 (a.natAbs : Int) := by unfold U64; unfold I64 at ha; omega
  have uy : U64 (b.natAbs : Int) := by unfold U64; unfold I64 at hb; omega
  have hle : (a.natAbs : Int) * (b.natAbs : Int) ≤ 9223372036854775808 * 9223372036854775808 := by
    apply Int.mul_le_mul
    · unfold I64 at ha; omega
    · unfold I64 at hb; omega
    · omega
    · omega
  have h0 : 0 ≤ (a.natAbs : Int) * (b.natAbs : Int) := Int.mul_nonneg (by omega) (by omega)
  have hab : a * b = if ((decide (a < 0)) != (decide (b < 0))) = true then -((a.natAbs : Int) * (b.natAbs : Int)) else (a.natAbs : Int) * (b.natAbs : Int) := by
    by_cases h1 : a < 0 <;> by_cases h2 : b < 0
    · rw [if_neg (by simp [h1, h2]), show (a.natAbs : Int) = -a by omega, show (b.natAbs : Int) = -b by omega, Int.neg_mul_neg]
    · rw [if_pos (by simp [h1, h2]), show (a.natAbs : Int) = -a by omega, show (b.natAbs : Int) = b by omega, Int.neg_mul, Int.neg_neg]
    · rw [if_pos (by simp [h1, h2]), show (a.natAbs : Int) = a by omega, show (b.natAbs : Int) = -b by omega, Int.mul_neg, Int.neg_neg]
    · rw [if_neg (by simp [h1, h2]), show (a.natAbs : Int) = a by omega, show (b.natAbs : Int) = b by omega]
  rw [hab]
  unfold fixed_Times.f
  rw [size_u ha, size_u hb, Option.bind_some, Option.bind_some, Mul64_f ux uy, Option.bind_some]
  dsimp only
  generalize (a.natAbs : Int) * (b.natAbs : Int) = p at *
  clear hab ux uy
  have hw : wrap64 (p / 18446744073709551616) = p / 18446744073709551616 := w64 (by omega) (by omega)
  have e1 : I64 (p / 18446744073709551616) := by unfold I64; omega
  have e2 : U64 (p % 18446744073709551616) := by unfold U64; omega
  have e3 : W (p / 18446744073709551616) (p % 18446744073709551616) = p := by unfold W; omega
  rw [hw]
  split
  · obtain ⟨r1, r2, k1, k2, k3, k4⟩ := turned_f e1 e2 (Or.inl (by omega))
    refine ⟨r1, r2, ?_, k2, k3, by rw [k4, e3]⟩
    rw [k1]
    rfl
  · exact ⟨_, _, rfl, e1, e2, e3⟩
end Go.Proofs.Ytfbkgfffalppmaa.Fc
end
section
namespace Go.Proofs.Ytfbkgfffalppmaa.Fc
set_option linter.unusedSimpArgs false
set_option linter.unusedVariables false
open Go Go.RowKit Go.Proofs.Ytfbkgfffalppmaa.Wf Go.Proofs.YtfbkgfffalppmaaW.PrintWords Go.Proofs.YtfbkgfffalppmaaW.PrintMore Go.Proofs.Ytfbkgfffalppmaa.Fv
theorem signed_f {hi lo : Int} (neg : Bool) (h1 : U64 hi) (h2 : U64 lo) (hz : neg = true → ¬ (hi = 0 ∧ lo = 0)) (e : Nat) : ∃ r1 r2 r3, fixed_signed.f (e + 1) hi lo neg = some (r1, r2, r3) ∧ Is128 (if neg = true then -(hi * 18446744073709551616 + lo) else hi * 18446744073709551616 + lo) r1 r2 r3 := by
  have hw : wrap64 hi = if hi < 9223372036854775808 then hi else hi - 18446744073709551616 := by unfold U64 at h1; unfold wrap64; split <;> omega
  unfold fixed_signed.f
  cases neg
  · rw [if_neg (show ¬ (false = true) by simp), if_neg (show ¬ (false = true) by simp), fixed_signed.j0, if_neg (by simp)]
    by_cases c : hi ≥ 9223372036854775808
    · rw [if_pos c]
      refine ⟨0, 0, 4, rfl, Or.inr ⟨?_, rfl, rfl, rfl⟩⟩
      unfold F128; unfold U64 at h2
      omega
    · rw [if_neg c, if_neg (by simp), hw, if_pos (by omega)]
      refine ⟨_, _, _, rfl, Or.inl ⟨?_, rfl, ?_, h2, rfl⟩⟩
      · unfold F128; unfold U64 at h1 h2
        omega
      · unfold I64; unfold U64 at h1
        omega
  · rw [if_pos rfl, if_pos rfl]
    have hz2 := hz rfl
    by_cases c : hi = 9223372036854775808
    · rw [if_pos c, fixed_signed.j0]
      by_cases c2 : lo = 0
      · rw [if_pos (by simpa using c2), hw, if_neg (by omega)]
        refine ⟨_, _, _, rfl, Or.inl ⟨?_, rfl, ?_, h2, ?_⟩⟩
        · unfold F128; omega
        · unfold I64; omega
        · unfold W; omega
      · rw [if_neg (by simpa using c2), if_pos (by omega)]
        refine ⟨0, 0, 4, rfl, Or.inr ⟨?_, rfl, rfl, rfl⟩⟩
        unfold F128; unfold U64 at h2
        omega
    · rw [if_neg c, fixed_signed.j0, if_neg (by simp)]
      by_cases c2 : hi ≥ 9223372036854775808
      · rw [if_pos c2]
        refine ⟨0, 0, 4, rfl, Or.inr ⟨?_, rfl, rfl, rfl⟩⟩
        unfold F128; unfold U64 at h2
        omega
      · rw [if_neg c2, if_pos rfl, hw, if_pos (by omega)]
        obtain ⟨r1, r2, k1, k2, k3, k4⟩ := turned_f (h := hi) (l := lo) (by unfold I64; unfold U64 at h1; omega) h2 (Or.inl (by unfold U64 at h1; omega))
        rw [k1, Option.bind_some]
        refine ⟨_, _, _, rfl, Or.inl ⟨?_, rfl, k2, k3, ?_⟩⟩
        · unfold F128; unfold U64 at h1 h2
          omega
        · rw [k4]
          rfl
theorem turned_least : fixed_turned.f (-9223372036854775808) 0 = some (-9223372036854775808, 0) := by decide +kernel
theorem away_f {a0 a1 : Int} (ha : I64 a0) (hu : U64 a1) : ∃ h l, fixed_away.f a0 a1 = some (h, l, decide (W a0 a1 < 0)) ∧ U64 h ∧ U64 l ∧ h ≤ 9223372036854775808 ∧ h * 18446744073709551616 + l = (W a0 a1).natAbs := by
  unfold fixed_away.f
  by_cases c : a0 < 0
  · have hn : W a0 a1 < 0 := by unfold W; unfold U64 at hu; omega
    rw [if_pos c, decide_eq_true hn]
    by_cases c2 : a0 = -9223372036854775808 ∧ a1 = 0
    · obtain ⟨rfl, rfl⟩ := c2
      rw [turned_least]
      exact ⟨_, _, rfl, by unfold U64; decide, by unfold U64; decide, by decide, by decide⟩
    · obtain ⟨r1, r2, h1, h2, h3, h4⟩ := turned_f ha hu (by omega)
      rw [h1]
      have h5 : 0 ≤ r1 := by unfold W at h4 hn; unfold U64 at h3; unfold I64 at h2; omega
      refine ⟨_, _, rfl, ?_, h3, ?_, ?_⟩
      · rw [IntKind.wrap_u64]; unfold U64; omega
      · rw [IntKind.wrap_u64]; unfold I64 at h2; omega
      · dsimp only
        rw [wu h5 (by unfold I64 at h2; omega)]
        unfold W at h4 hn ⊢
        omega
  · have hn : ¬ W a0 a1 < 0 := by unfold W; unfold U64 at hu; omega
    rw [if_neg c, decide_eq_false hn]
    refine ⟨_, _, rfl, ?_, hu, ?_, ?_⟩
    · rw [IntKind.wrap_u64]; unfold U64; omega
    · rw [IntKind.wrap_u64]; unfold I64 at ha; omega
    · rw [wu (by omega) (by unfold I64 at ha; omega)]
      unfold W at hn ⊢
      omega
theorem signed_g {hi lo : Int} (neg : Bool) (h1 : U64 hi) (h2 : U64 lo) (e : Nat) : ∃ r1 r2 r3, fixed_signed.f (e + 1) hi lo neg = some (r1, r2, r3) ∧ Is128 (if neg = true then -(hi * 18446744073709551616 + lo) else hi * 18446744073709551616 + lo) r1 r2 r3 := by
  by_cases hz : hi = 0 ∧ lo = 0
  · obtain ⟨rfl, rfl⟩ := hz
    refine ⟨0, 0, 0, ?_, Or.inl ⟨?_, rfl, ?_, ?_, ?_⟩⟩
    · have ht : fixed_turned.f 0 0 = some (0, 0) := by decide +kernel
      have hw : wrap64 0 = 0 := by unfold wrap64; omega
      unfold fixed_signed.f
      cases neg <;> simp [fixed_signed.j0, ht, hw]
    · unfold F128; split <;> omega
    · unfold I64; omega
    · unfold U64; omega
    · unfold W; split <;> omega
  · exact signed_f neg h1 h2 (fun _ => hz) e
def upB (how : Int) (below : Bool) (Q R b : Int) : Bool := if R = 0 then false else if how = 0 then below else if how = 1 then !below else if how = 2 then false else decide (R > b - R) || (decide (R = b - R) && decide (Q % 2 = 1))
def qt (A d how : Int) : Int := let below := decide (A < 0) != decide (d < 0); let Q := (A.natAbs : Int) / d.natAbs; let R := (A.natAbs : Int) % d.natAbs; let q := Q + if upB how below Q R d.natAbs = true then 1 else 0; if below = true then -q else q
theorem up_f {how Q R b : Int} (below : Bool) (hR : 0 ≤ R) (hb : R < b) (hb2 : b < 18446744073709551616) : fixed_up.f how below (Q % 2 == 1) R b = some (upB how below Q R b) := by
  have hw : IntKind.u64.wrap (b - R) = b - R := wu (by omega) (by omega)
  unfold fixed_up.f upB
  rw [hw]
  by_cases c1 : R = 0
  · rw [if_pos c1, if_pos c1]
  · rw [if_neg c1, if_neg c1]
    by_cases c2 : how = 0
    · rw [if_pos c2, if_pos c2]
    · rw [if_neg c2, if_neg c2]
      by_cases c3 : how = 1
      · rw [if_pos c3, if_pos c3]
      · rw [if_neg c3, if_neg c3]
        by_cases c4 : how = 2
        · rw [if_pos c4, if_pos c4]
        · rw [if_neg c4, if_neg c4]
          by_cases c5 : R > b - R
          · rw [if_pos c5, decide_eq_true c5]; rfl
          · rw [if_neg c5, decide_eq_false c5]
            by_cases c6 : R = b - R
            · rw [if_pos c6, decide_eq_true c6]
              congr 1
            · rw [if_neg c6, decide_eq_false c6]; rfl
theorem and_one {q : Int} (h : U64 q) : Go.bits .and .u64 q 1 = q % 2 := by
  unfold U64 at h
  rw [u64_and q 1 h.1 h.2 (by omega) (by omega)]
  have : (1 : Int).toNat = 1 := rfl
  rw [this, nat_mask1]
  omega
theorem Divide_f {a0 a1 d how : Int} (ha : I64 a0) (hu : U64 a1) (hd : I64 d) (h0 : d ≠ 0) (hh : 0 ≤ how ∧ how ≤ 3) : ∃ K r1 r2 r3, (∀ e, fixed_Divide.f (K + e) a0 a1 d how = some (r1, r2, r3)) ∧ Is128 (qt (W a0 a1) d how) r1 r2 r3 := by
  obtain ⟨h, l, e1, e2, e3, e4, e5⟩ := away_f ha hu
  have hby : 0 < (d.natAbs : Int) ∧ (d.natAbs : Int) < 18446744073709551616 := by unfold I64 at hd; omega
  unfold qt
  generalize decide (W a0 a1 < 0) = na at e1
  generalize hA : ((W a0 a1).natAbs : Int) = A at e5
  have hsz := size_u hd
  generalize hB : (d.natAbs : Int) = b at hby hsz
  have hA2 : A < 170141183460469231731687303715884105729 := by unfold U64 at e3; unfold I64 at ha; unfold U64 at hu; unfold W at hA; omega
  clear hA hB
  -- the two words' quotient
  have t1 : Int.tmod h b = h % b := Int.tmod_eq_emod_of_nonneg e2.1
  have t2 : Int.tdiv h b = h / b := Int.tdiv_eq_ediv_of_nonneg e2.1
  have g0 := Int.emod_nonneg h (show b ≠ 0 by omega)
  have g1 := Int.emod_lt_of_pos h hby.1
  have g2 : 0 ≤ h / b := Int.ediv_nonneg e2.1 (by omega)
  have g3 : h / b ≤ h := Int.ediv_le_self _ e2.1
  have hw : IntKind.u64.wrap (h / b) = h / b := wu g2 (by unfold U64 at e2; omega)
  obtain ⟨K1, hK1⟩ := Div64_f (a0 := h % b) (a1 := l) (a2 := b) (by unfold U64; omega) e3 (by unfold U64; omega) g1
  have hX : A = b * (h / b * 18446744073709551616) + (h % b * 18446744073709551616 + l) := by
    have := Int.mul_ediv_add_emod h b
    rw [← Int.mul_assoc, ← e5]
    generalize b * (h / b) = p at *
    omega
  have hQ : A / b = h / b * 18446744073709551616 + (h % b * 18446744073709551616 + l) / b := by
    rw [hX, Int.add_comm, Int.add_mul_ediv_left _ _ (by omega)]
    omega
  have hR : A % b = (h % b * 18446744073709551616 + l) % b := by rw [hX, Int.add_comm, Int.add_mul_emod_self_left]
  have q0 : 0 ≤ (h % b * 18446744073709551616 + l) / b := Int.ediv_nonneg (by unfold U64 at e3; omega) (by omega)
  have q1 : (h % b * 18446744073709551616 + l) / b < 18446744073709551616 := by
    apply Int.ediv_lt_of_lt_mul hby.1
    have := Int.mul_le_mul_of_nonneg_right (show h % b + 1 ≤ b by omega) (show (0 : Int) ≤ 18446744073709551616 by omega)
    unfold U64 at e3
    omega
  have r0 := Int.emod_nonneg (h % b * 18446744073709551616 + l) (show b ≠ 0 by omega)
  have r1 := Int.emod_lt_of_pos (h % b * 18446744073709551616 + l) hby.1
  rw [hQ, hR]
  clear hQ hR hX
  generalize (h % b * 18446744073709551616 + l) / b = q at *
  generalize (h % b * 18446744073709551616 + l) % b = r at *
  have hpar : (h / b * 18446744073709551616 + q) % 2 = q % 2 := by omega
  have hup : ∀ below : Bool, upB how below (h / b * 18446744073709551616 + q) r b = upB how below q r b := fun below => by unfold upB; rw [hpar]
  -- one way for each sign
  have main : ∀ below : Bool, ∃ K r1 r2 r3, (∀ e, fixed_Divide.j1 (K + e) d how h l below = some (r1, r2, r3)) ∧ Is128 (if below = true then -(h / b * 18446744073709551616 + q + if upB how below (h / b * 18446744073709551616 + q) r b = true then 1 else 0) else h / b * 18446744073709551616 + q + if upB how below (h / b * 18446744073709551616 + q) r b = true then 1 else 0) r1 r2 r3 := fun below => by
    rw [hup]
    have hu1 := up_f (how := how) (Q := q) below r0 r1 hby.2
    by_cases hub : upB how below q r b = true
    · rw [hub] at hu1
      rw [hub, if_pos rfl]
      have a1 : addHi q 1 0 = (q + 1) / 18446744073709551616 := by rw [addHi_eq q0 (by omega) (by omega), Int.add_zero]
      have a2 : addLo q 1 0 = (q + 1) % 18446744073709551616 := by rw [addLo_eq q0 (by omega) (by omega), Int.add_zero]
      have w1 : IntKind.u64.wrap (h / b + (q + 1) / 18446744073709551616) = h / b + (q + 1) / 18446744073709551616 := wu (by omega) (by omega)
      obtain ⟨s1, s2, s3, k1, k2⟩ := signed_g (hi := h / b + (q + 1) / 18446744073709551616) (lo := (q + 1) % 18446744073709551616) below (by unfold U64; omega) (by unfold U64; omega) 0
      have hm : ∀ e, fixed_signed.f (e + 1) (h / b + (q + 1) / 18446744073709551616) ((q + 1) % 18446744073709551616) below = fixed_signed.f (0 + 1) (h / b + (q + 1) / 18446744073709551616) ((q + 1) % 18446744073709551616) below := fun e => by
        unfold fixed_signed.f
        simp only [fixed_signed.j0]
      refine ⟨K1 + 2, s1, s2, s3, fun e => ?_, ?_⟩
      · rw [show K1 + 2 + e = (K1 + (1 + e)) + 1 by omega, fixed_Divide.j1, hsz, Option.bind_some, if_neg (by omega), t1, t2, hw, hK1, Option.bind_some]
        dsimp only
        rw [and_one (by unfold U64; omega), hu1, Option.bind_some, if_pos rfl, a1, a2, w1, show K1 + (1 + e) = (K1 + e) + 1 by omega, hm, k1]
        rfl
      · have ev : (h / b + (q + 1) / 18446744073709551616) * 18446744073709551616 + (q + 1) % 18446744073709551616 = h / b * 18446744073709551616 + q + 1 := by omega
        rw [ev] at k2
        exact k2
    · have hub2 : upB how below q r b = false := by simpa using hub
      rw [hub2] at hu1
      rw [hub2, if_neg (show ¬ (false = true) by simp), Int.add_zero]
      obtain ⟨s1, s2, s3, k1, k2⟩ := signed_g (hi := h / b) (lo := q) below (by unfold U64 at e2 ⊢; omega) (by unfold U64; omega) 0
      have hm : ∀ e, fixed_signed.f (e + 1) (h / b) q below = fixed_signed.f (0 + 1) (h / b) q below := fun e => by
        unfold fixed_signed.f
        simp only [fixed_signed.j0]
      refine ⟨K1 + 2, s1, s2, s3, fun e => ?_, k2⟩
      rw [show K1 + 2 + e = (K1 + (1 + e)) + 1 by omega, fixed_Divide.j1, hsz, Option.bind_some, if_neg (by omega), t1, t2, hw, hK1, Option.bind_some]
      dsimp only
      rw [and_one (by unfold U64; omega), hu1, Option.bind_some, if_neg (by simp), show K1 + (1 + e) = (K1 + e) + 1 by omega, hm, k1]
      rfl
  obtain ⟨K, s1, s2, s3, k1, k2⟩ := main (na != decide (d < 0))
  refine ⟨K + 1, s1, s2, s3, fun e => ?_, k2⟩
  unfold fixed_Divide.f
  rw [if_neg h0, if_neg (by omega), decide_eq_false (by omega), show K + 1 + e = (K + e) + 1 by omega, fixed_Divide.j0, if_neg (by simp), e1, Option.bind_some]
  dsimp only
  by_cases c : d < 0
  · rw [if_pos c, show (!na) = (na != decide (d < 0)) by rw [decide_eq_true c]; cases na <;> rfl]
    exact k1 e
  · rw [if_neg c]
    have : na = (na != decide (d < 0)) := by rw [decide_eq_false c]; cases na <;> rfl
    rw [← this] at k1
    exact k1 e
end Go.Proofs.Ytfbkgfffalppmaa.Fc
end
