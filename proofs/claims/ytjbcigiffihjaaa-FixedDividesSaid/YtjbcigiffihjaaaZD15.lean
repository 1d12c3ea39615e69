/- Texts of this seat, put together (ZD15). -/
import Derived.Laws.BitsAllLaws
import Derived.Test.YtjbcigiffihjaaaZD8
import Derived.Test.YtjbcigiffihjaaaZD12
import Derived.Test.YtjbcigiffihjaaaZD14
section
namespace Go.Proofs.Ytjbcigiffihjaaa.Fc
set_option linter.unusedSimpArgs false
set_option linter.unusedVariables false
open Go Go.RowKit Go.Proofs.Ytjbcigiffihjaaa.Fx Go.Proofs.YtjbcigiffihjaaaW.PrintWords Go.Proofs.YtjbcigiffihjaaaW.PrintMore Go.Proofs.Ytjbcigiffihjaaa.Fv
theorem signed_g {hi lo : Int} (neg : Bool) (h1 : U64 hi) (h2 : U64 lo) (e : Nat) : ∃ r1 r2 r3, fixed_signed.f (e + 1) hi lo neg = some (r1, r2, r3) ∧ Is128 (if neg = true then -(hi * 18446744073709551616 + lo) else hi * 18446744073709551616 + lo) r1 r2 r3 := by
  by_cases hz : hi = 0 ∧ lo = 0
  · obtain ⟨rfl, rfl⟩ := hz
    refine ⟨0, 0, 0, ?_, Or.inl ⟨?_, rfl, ?_, ?_, ?_⟩⟩
    · have ht : fixed_turned.f 0 0 = some (0, 0) := by decide +kernel
      have hw : wrap64 0 = 0 := by unfold wrap64; omega
      unfold fixed_signed.f
      cases neg <;> simp [fixed_signed.j0, ht, hw]
    · unfold F128; split <;> omega
    · unfold I64; omega
    · unfold U64; omega
    · unfold W; split <;> omega
  · exact signed_f neg h1 h2 (fun _ => hz) e
def upB (how : Int) (below : Bool) (Q R b : Int) : Bool := if R = 0 then false else if how = 0 then below else if how = 1 then !below else if how = 2 then false else decide (R > b - R) || (decide (R = b - R) && decide (Q % 2 = 1))
def qt (A d how : Int) : Int := let below := decide (A < 0) != decide (d < 0); let Q := (A.natAbs : Int) / d.natAbs; let R := (A.natAbs : Int) % d.natAbs; let q := Q + if upB how below Q R d.natAbs = true then 1 else 0; if below = true then -q else q
theorem up_f {how Q R b : Int} (below : Bool) (hR : 0 ≤ R) (hb : R < b) (hb2 : b < 18446744073709551616) : fixed_up.f how below (Q % 2 == 1) R b = some (upB how below Q R b) := by
  have hw : IntKind.u64.wrap (b - R) = b - R := wu (by omega) (by omega)
  unfold fixed_up.f upB
  rw [hw]
  by_cases c1 : R = 0
  · rw [if_pos c1, if_pos c1]
  · rw [if_neg c1, if_neg c1]
    by_cases c2 : how = 0
    · rw [if_pos c2, if_pos c2]
    · rw [if_neg c2, if_neg c2]
      by_cases c3 : how = 1
      · rw [if_pos c3, if_pos c3]
      · rw [if_neg c3, if_neg c3]
        by_cases c4 : how = 2
        · rw [if_pos c4, if_pos c4]
        · rw [if_neg c4, if_neg c4]
          by_cases c5 : R > b - R
          · rw [if_pos c5, decide_eq_true c5]; rfl
          · rw [if_neg c5, decide_eq_false c5]
            by_cases c6 : R = b - R
            · rw [if_pos c6, decide_eq_true c6]
              congr 1
            · rw [if_neg c6, decide_eq_false c6]; rfl
theorem and_one {q : Int} (h : U64 q) : Go.bits .and .u64 q 1 = q % 2 := by
  unfold U64 at h
  rw [u64_and q 1 h.1 h.2 (by omega) (by omega)]
  have : (1 : Int).toNat = 1 := rfl
  rw [this, nat_mask1]
  omega
theorem Divide_bad (a0 a1 d how : Int) (h : d = 0 ∨ how < 0 ∨ how > 3) (e : Nat) : fixed_Divide.f (1 + e) a0 a1 d how = some (0, 0, 1) := by
  unfold fixed_Divide.f
  rw [show 1 + e = e + 1 by omega, fixed_Divide.j0, if_pos rfl]
  by_cases c1 : d = 0
  · rw [if_pos c1]
  · rw [if_neg c1]
    by_cases c2 : how < 0
    · rw [if_pos c2]
    · rw [if_neg c2, decide_eq_true (by omega), fixed_Divide.j0, if_pos rfl]
theorem Divide_f {a0 a1 d how : Int} (ha : I64 a0) (hu : U64 a1) (hd : I64 d) (h0 : d ≠ 0) (hh : 0 ≤ how ∧ how ≤ 3) : ∃ K r1 r2 r3, (∀ e, fixed_Divide.f (K + e) a0 a1 d how = some (r1, r2, r3)) ∧ Is128 (qt (W a0 a1) d how) r1 r2 r3 := by
  obtain ⟨h, l, e1, e2, e3, e4, e5⟩ := away_f ha hu
  have hby : 0 < (d.natAbs : Int) ∧ (d.natAbs : Int) < 18446744073709551616 := by unfold I64 at hd; omega
  unfold qt
  generalize decide (W a0 a1 < 0) = na at e1
  generalize hA : ((W a0 a1).natAbs : Int) = A at e5
  have hsz := size_u hd
  generalize hB : (d.natAbs : Int) = b at hby hsz
  have hA2 : A < 170141183460469231731687303715884105729 := by unfold U64 at e3; unfold I64 at ha; unfold U64 at hu; unfold W at hA; omega
  clear hA hB
  -- the two words' quotient
  have t1 : Int.tmod h b = h % b := Int.tmod_eq_emod_of_nonneg e2.1
  have t2 : Int.tdiv h b = h / b := Int.tdiv_eq_ediv_of_nonneg e2.1
  have g0 := Int.emod_nonneg h (show b ≠ 0 by omega)
  have g1 := Int.emod_lt_of_pos h hby.1
  have g2 : 0 ≤ h / b := Int.ediv_nonneg e2.1 (by omega)
  have g3 : h / b ≤ h := Int.ediv_le_self _ e2.1
  have hw : IntKind.u64.wrap (h / b) = h / b := wu g2 (by unfold U64 at e2; omega)
  obtain ⟨K1, hK1⟩ := Div64_f (a0 := h % b) (a1 := l) (a2 := b) (by unfold U64; omega) e3 (by unfold U64; omega) g1
  have hX : A = b * (h / b * 18446744073709551616) + (h % b * 18446744073709551616 + l) := by
    have := Int.mul_ediv_add_emod h b
    rw [← Int.mul_assoc, ← e5]
    generalize b * (h / b) = p at *
    omega
  have hQ : A / b = h / b * 18446744073709551616 + (h % b * 18446744073709551616 + l) / b := by
    rw [hX, Int.add_comm, Int.add_mul_ediv_left _ _ (by omega)]
    omega
  have hR : A % b = (h % b * 18446744073709551616 + l) % b := by rw [hX, Int.add_comm, Int.add_mul_emod_self_left]
  have q0 : 0 ≤ (h % b * 18446744073709551616 + l) / b := Int.ediv_nonneg (by unfold U64 at e3; omega) (by omega)
  have q1 : (h % b * 18446744073709551616 + l) / b < 18446744073709551616 := by
    apply Int.ediv_lt_of_lt_mul hby.1
    have := Int.mul_le_mul_of_nonneg_right (show h % b + 1 ≤ b by omega) (show (0 : Int) ≤ 18446744073709551616 by omega)
    unfold U64 at e3
    omega
  have r0 := Int.emod_nonneg (h % b * 18446744073709551616 + l) (show b ≠ 0 by omega)
  have r1 := Int.emod_lt_of_pos (h % b * 18446744073709551616 + l) hby.1
  rw [hQ, hR]
  clear hQ hR hX
  generalize (h % b * 18446744073709551616 + l) / b = q at *
  generalize (h % b * 18446744073709551616 + l) % b = r at *
  have hpar : (h / b * 18446744073709551616 + q) % 2 = q % 2 := by omega
  have hup : ∀ below : Bool, upB how below (h / b * 18446744073709551616 + q) r b = upB how below q r b := fun below => by unfold upB; rw [hpar]
  -- one way for each sign
  have main : ∀ below : Bool, ∃ K r1 r2 r3, (∀ e, fixed_Divide.j1 (K + e) d how h l below = some (r1, r2, r3)) ∧ Is128 (if below = true then -(h / b * 18446744073709551616 + q + if upB how below (h / b * 18446744073709551616 + q) r b = true then 1 else 0) else h / b * 18446744073709551616 + q + if upB how below (h / b * 18446744073709551616 + q) r b = true then 1 else 0) r1 r2 r3 := fun below => by
    rw [hup]
    have hu1 := up_f (how := how) (Q := q) below r0 r1 hby.2
    by_cases hub : upB how below q r b = true
    · rw [hub] at hu1
      rw [hub, if_pos rfl]
      have a1 : addHi q 1 0 = (q + 1) / 18446744073709551616 := by rw [addHi_eq q0 (by omega) (by omega), Int.add_zero]
      have a2 : addLo q 1 0 = (q + 1) % 18446744073709551616 := by rw [addLo_eq q0 (by omega) (by omega), Int.add_zero]
      have w1 : IntKind.u64.wrap (h / b + (q + 1) / 18446744073709551616) = h / b + (q + 1) / 18446744073709551616 := wu (by omega) (by omega)
      obtain ⟨s1, s2, s3, k1, k2⟩ := signed_g (hi := h / b + (q + 1) / 18446744073709551616) (lo := (q + 1) % 18446744073709551616) below (by unfold U64; omega) (by unfold U64; omega) 0
      have hm : ∀ e, fixed_signed.f (e + 1) (h / b + (q + 1) / 18446744073709551616) ((q + 1) % 18446744073709551616) below = fixed_signed.f (0 + 1) (h / b + (q + 1) / 18446744073709551616) ((q + 1) % 18446744073709551616) below := fun e => by
        unfold fixed_signed.f
        simp only [fixed_signed.j0]
      refine ⟨K1 + 2, s1, s2, s3, fun e => ?_, ?_⟩
      · rw [show K1 + 2 + e = (K1 + (1 + e)) + 1 by omega, fixed_Divide.j1, hsz, Option.bind_some, if_neg (by omega), t1, t2, hw, hK1, Option.bind_some]
        dsimp only
        rw [and_one (by unfold U64; omega), hu1, Option.bind_some, if_pos rfl, a1, a2, w1, show K1 + (1 + e) = (K1 + e) + 1 by omega, hm, k1]
        rfl
      · have ev : (h / b + (q + 1) / 18446744073709551616) * 18446744073709551616 + (q + 1) % 18446744073709551616 = h / b * 18446744073709551616 + q + 1 := by omega
        rw [ev] at k2
        exact k2
    · have hub2 : upB how below q r b = false := by simpa using hub
      rw [hub2] at hu1
      rw [hub2, if_neg (show ¬ (false = true) by simp), Int.add_zero]
      obtain ⟨s1, s2, s3, k1, k2⟩ := signed_g (hi := h / b) (lo := q) below (by unfold U64 at e2 ⊢; omega) (by unfold U64; omega) 0
      have hm : ∀ e, fixed_signed.f (e + 1) (h / b) q below = fixed_signed.f (0 + 1) (h / b) q below := fun e => by
        unfold fixed_signed.f
        simp only [fixed_signed.j0]
      refine ⟨K1 + 2, s1, s2, s3, fun e => ?_, k2⟩
      rw [show K1 + 2 + e = (K1 + (1 + e)) + 1 by omega, fixed_Divide.j1, hsz, Option.bind_some, if_neg (by omega), t1, t2, hw, hK1, Option.bind_some]
      dsimp only
      rw [and_one (by unfold U64; omega), hu1, Option.bind_some, if_neg (by simp), show K1 + (1 + e) = (K1 + e) + 1 by omega, hm, k1]
      rfl
  obtain ⟨K, s1, s2, s3, k1, k2⟩ := main (na != decide (d < 0))
  refine ⟨K + 1, s1, s2, s3, fun e => ?_, k2⟩
  unfold fixed_Divide.f
  rw [if_neg h0, if_neg (by omega), decide_eq_false (by omega), show K + 1 + e = (K + e) + 1 by omega, fixed_Divide.j0, if_neg (by simp), e1, Option.bind_some]
  dsimp only
  by_cases c : d < 0
  · rw [if_pos c, show (!na) = (na != decide (d < 0)) by rw [decide_eq_true c]; cases na <;> rfl]
    exact k1 e
  · rw [if_neg c]
    have : na = (na != decide (d < 0)) := by rw [decide_eq_false c]; cases na <;> rfl
    rw [← this] at k1
    exact k1 e
def Fl (a d q : Int) : Prop := if d < 0 then q * -d ≤ -a ∧ -a < q * -d + -d else q * d ≤ a ∧ a < q * d + d
theorem Floor_f {a d q : Int} {na nd nq : Bool} {la ld lq : List Int} (ha : Nm a na la) (hd : Nm d nd ld) (hq : Nm q nq lq) (ka : la.length ≤ 1000) (kd : ld.length ≤ 1000) (kq : lq.length ≤ 1000) (h : Fl a d q) : ∃ K, ∀ e, clevisref01_Floor.f (K + e) na la nd ld nq lq = some true := by
  have main : ∀ {a d : Int} {na nd : Bool} {la ld : List Int}, Nm a na la → Nm d nd ld → la.length ≤ 1000 → ld.length ≤ 1000 → q * d ≤ a ∧ a < q * d + d → ∃ K, ∀ e, ((clevisref01_Mul.f (K + e) nq lq nd ld).bind fun bt251 => ((clevisref01_Compare.f (K + e) bt251.1 bt251.2 na la).bind fun t255 => (if t255 ≤ 0 then ((clevisref01_Add.f (K + e) bt251.1 bt251.2 nd ld).bind fun bt256 => ((clevisref01_Compare.f (K + e) na la bt256.1 bt256.2).bind fun t260 => (some (decide (t260 < 0))))) else (some false)))) = some true := fun {a d na nd la ld} ha hd ka kd h => by
    obtain ⟨K1, n1, d1, a1, a2, a3⟩ := Mul_f hq hd (by omega) (by omega)
    obtain ⟨K2, b1⟩ := Compare_f a2 ha
    obtain ⟨K3, n3, d3, c1, c2, c3⟩ := Add_f a2 hd (by omega) (by omega)
    obtain ⟨K4, f1⟩ := Compare_f ha c2
    have g1 : sgn (q * d) a ≤ 0 := by unfold sgn; (repeat' split) <;> omega
    have g2 : sgn a (q * d + d) < 0 := by unfold sgn; (repeat' split) <;> omega
    refine ⟨K1 + K2 + K3 + K4, fun e => ?_⟩
    rw [show K1 + K2 + K3 + K4 + e = K1 + (K2 + K3 + K4 + e) by omega, a1, Option.bind_some]
    dsimp only
    rw [show K1 + (K2 + K3 + K4 + e) = K2 + (K1 + K3 + K4 + e) by omega, b1, Option.bind_some, if_pos g1]
    rw [show K2 + (K1 + K3 + K4 + e) = K3 + (K1 + K2 + K4 + e) by omega, c1, Option.bind_some]
    dsimp only
    rw [show K3 + (K1 + K2 + K4 + e) = K4 + (K1 + K2 + K3 + e) by omega, f1, Option.bind_some, decide_eq_true g2]
  unfold clevisref01_Floor.f
  unfold Fl at h
  by_cases c : d < 0
  · have hn : nd = true := by
      cases hx : nd
      · have := hd.pos hx; omega
      · rfl
    rw [if_pos c] at h
    obtain ⟨K1, n1, d1, a1, a2, a3⟩ := Neg_f ha
    obtain ⟨K2, n2, d2, b1, b2, b3⟩ := Neg_f hd
    obtain ⟨K3, hK⟩ := main a2 b2 (by omega) (by omega) h
    refine ⟨K1 + K2 + K3, fun e => ?_⟩
    rw [if_pos hn, show K1 + K2 + K3 + e = K1 + (K2 + K3 + e) by omega, a1, Option.bind_some]
    dsimp only
    rw [show K1 + (K2 + K3 + e) = K2 + (K1 + K3 + e) by omega, b1, Option.bind_some]
    dsimp only
    rw [show K2 + (K1 + K3 + e) = K3 + (K1 + K2 + e) by omega]
    exact hK _
  · have hn : nd = false := by
      cases hx : nd
      · rfl
      · have := hd.zero hx; omega
    rw [if_neg c] at h
    obtain ⟨K3, hK⟩ := main ha hd ka kd h
    subst hn
    exact ⟨K3, fun e => by rw [if_neg (by simp)]; exact hK e⟩
theorem odd_f {q : Int} {nq : Bool} {lq : List Int} (hq : Nm q nq lq) : clevisref01_odd.f nq lq = some (decide (q % 2 = 1)) := by
  have h := hq.abs
  have hds := hq.ds
  unfold clevisref01_odd.f
  cases lq with
  | nil =>
    have h0 : q = 0 := by simp [V] at h; omega
    rw [h0]
    simp
  | cons x r =>
    have hx := hds.head
    unfold Dg at hx
    have hr : rd (x :: r) 0 = x := rfl
    rw [V] at h
    simp only [List.length_cons, hr]
    rw [Int.tmod_eq_emod_of_nonneg hx.1]
    rw [if_pos (by omega), if_pos (by omega)]
    congr 1
    rw [Bool.eq_iff_iff]
    simp
    omega
def Rd (a d q how : Int) : Prop := q * d = a ∨ (q * d ≠ a ∧ ((how = 0 ∨ how = 2 ∧ ¬ ((a < 0) ≠ (d < 0))) → Fl a d q) ∧ ((how = 1 ∨ how = 2 ∧ ((a < 0) ≠ (d < 0))) → Fl a d (q - 1)) ∧ (how = 3 → (2 * (a - q * d)).natAbs < d.natAbs ∨ (2 * (a - q * d)).natAbs = d.natAbs ∧ q % 2 = 0))
theorem qt_core {a b Q R how : Int} (below : Bool) (ha : Q * b + R = a) (h0 : 0 ≤ R) (h1 : R < b) (hh : 0 ≤ how ∧ how ≤ 3) :
    ∃ q P, Q + (if upB how below Q R b = true then 1 else 0) = q ∧ q * b = P ∧ ((R = 0 ∧ P = a) ∨ (P ≠ a ∧ (how = 0 → below = true → a < P ∧ P - b < a) ∧ (how = 0 → below = false → P < a ∧ a < P + b) ∧ (how = 1 → below = true → P < a ∧ a < P + b) ∧ (how = 1 → below = false → a < P ∧ P - b < a) ∧ (how = 2 → P < a ∧ a < P + b) ∧ (how = 3 → (2 * (a - P)).natAbs < b.natAbs ∨ (2 * (a - P)).natAbs = b.natAbs ∧ q % 2 = 0))) := by
  have hp1 : (Q + 1) * b = Q * b + b := by rw [Int.add_mul, Int.one_mul]
  refine ⟨_, _, rfl, rfl, ?_⟩
  by_cases c : R = 0
  · left
    refine ⟨c, ?_⟩
    unfold upB
    rw [if_pos c, if_neg (by simp), Int.add_zero]
    omega
  · right
    unfold upB
    rw [if_neg c]
    by_cases c0 : how = 0
    · rw [if_pos c0]
      cases below
      · rw [if_neg (by simp), Int.add_zero]
        generalize Q * b = P at *
        refine ⟨by omega, fun _ h => by simp at h, fun _ _ => by omega, fun h => by omega, fun h => by omega, fun h => by omega, fun h => by omega⟩
      · rw [if_pos rfl, hp1]
        generalize Q * b = P at *
        refine ⟨by omega, fun _ _ => by omega, fun _ h => by simp at h, fun h => by omega, fun h => by omega, fun h => by omega, fun h => by omega⟩
    · rw [if_neg c0]
      by_cases c1 : how = 1
      · rw [if_pos c1]
        cases below
        · rw [if_pos (by simp), hp1]
          generalize Q * b = P at *
          refine ⟨by omega, fun h => by omega, fun h => by omega, fun _ h => by simp at h, fun _ _ => by omega, fun h => by omega, fun h => by omega⟩
        · rw [if_neg (by simp), Int.add_zero]
          generalize Q * b = P at *
          refine ⟨by omega, fun h => by omega, fun h => by omega, fun _ _ => by omega, fun _ h => by simp at h, fun h => by omega, fun h => by omega⟩
      · rw [if_neg c1]
        by_cases c2 : how = 2
        · rw [if_pos c2, if_neg (by simp), Int.add_zero]
          generalize Q * b = P at *
          refine ⟨by omega, fun h => by omega, fun h => by omega, fun h => by omega, fun h => by omega, fun _ => by omega, fun h => by omega⟩
        · rw [if_neg c2]
          by_cases c3 : R > b - R ∨ R = b - R ∧ Q % 2 = 1
          · rw [if_pos (by simp; omega), hp1]
            generalize Q * b = P at *
            refine ⟨by omega, fun h => by omega, fun h => by omega, fun h => by omega, fun h => by omega, fun h => by omega, fun _ => by omega⟩
          · rw [if_neg (by simp; omega), Int.add_zero]
            generalize Q * b = P at *
            refine ⟨by omega, fun h => by omega, fun h => by omega, fun h => by omega, fun h => by omega, fun h => by omega, fun _ => by omega⟩
set_option maxHeartbeats 4000000 in
theorem qt_Rd {A d how : Int} (h0 : d ≠ 0) (hh : 0 ≤ how ∧ how ≤ 3) : Rd A d (qt A d how) how := by
  have e1 := Int.mul_ediv_add_emod (A.natAbs : Int) (d.natAbs : Int)
  have e2 := Int.emod_nonneg (A.natAbs : Int) (show (d.natAbs : Int) ≠ 0 by omega)
  have e3 := Int.emod_lt_of_pos (A.natAbs : Int) (show (0 : Int) < d.natAbs by omega)
  rw [Int.mul_comm] at e1
  unfold qt
  obtain ⟨q, P, k1, k2, k3⟩ := qt_core (how := how) (decide (A < 0) != decide (d < 0)) e1 e2 e3 hh
  dsimp only
  rw [k1]
  clear k1 e1 e2 e3
  generalize hb : (d.natAbs : Int) = b at *
  generalize ha : (A.natAbs : Int) = a at *
  have m1 : (q - 1) * b = P - b := by rw [Int.sub_mul, Int.one_mul, k2]
  have m2 : (-q - 1) * b = -P - b := by rw [Int.sub_mul, Int.one_mul, Int.neg_mul, k2]
  have hbb : b.natAbs = d.natAbs := by omega
  have hq2 : (-q) % 2 = 0 ↔ q % 2 = 0 := by omega
  rw [hbb] at k3
  generalize hbe : (decide (A < 0) != decide (d < 0)) = bl at k3 ⊢
  have K3 := Aside0.mk k3
  clear k3
  by_cases c1 : A < 0 <;> by_cases c2 : d < 0
  · have hA : A = -a := by omega
    have hd : d = -b := by omega
    have hbl : bl = false := by rw [← hbe, decide_eq_true c1, decide_eq_true c2]; rfl
    subst hbl
    rw [if_neg (by simp)]
    have p1 : q * d = -P := by rw [hd, Int.mul_neg, k2]
    have p2 : q * -d = P := by rw [hd, Int.neg_neg, k2]
    have p3 : (q - 1) * -d = P - b := by rw [hd, Int.neg_neg, m1]
    unfold Rd Fl
    rw [p1, p2, p3, if_pos c2, if_pos c2]
    have k3 := K3.out
    clear K3
    rcases k3 with ⟨hR, hP⟩ | ⟨g0, g1, g2, g3, g4, g5, g6⟩
    · left
      omega
    · refine Or.inr ⟨by omega, fun h => ?_, fun h => ?_, fun h => ?_⟩
      · rcases h with h | ⟨h, h2⟩
        · have := g2 h rfl
          omega
        · have := g5 h; omega
      · rcases h with h | ⟨h, h2⟩
        · have := g4 h rfl
          omega
        · exfalso; exact h2 (by simp [c1, c2])
      · have := g6 h
        omega
  · have hA : A = -a := by omega
    have hd : d = b := by omega
    have hbl : bl = true := by rw [← hbe, decide_eq_true c1, decide_eq_false c2]; rfl
    subst hbl
    rw [if_pos rfl]
    have p1 : -q * d = -P := by rw [hd, Int.neg_mul, k2]
    have p3 : (-q - 1) * d = -P - b := by rw [hd, m2]
    unfold Rd Fl
    rw [p1, p3, if_neg c2, if_neg c2, hq2]
    have k3 := K3.out
    clear K3
    rcases k3 with ⟨hR, hP⟩ | ⟨g0, g1, g2, g3, g4, g5, g6⟩
    · left
      omega
    · refine Or.inr ⟨by omega, fun h => ?_, fun h => ?_, fun h => ?_⟩
      · rcases h with h | ⟨h, h2⟩
        · have := g1 h rfl
          omega
        · exfalso; exact h2 (by simp [c1, c2])
      · rcases h with h | ⟨h, h2⟩
        · have := g3 h rfl
          omega
        · have := g5 h; omega
      · have := g6 h
        omega
  · have hA : A = a := by omega
    have hd : d = -b := by omega
    have hbl : bl = true := by rw [← hbe, decide_eq_false c1, decide_eq_true c2]; rfl
    subst hbl
    rw [if_pos rfl]
    have p1 : -q * d = P := by rw [hd, Int.neg_mul_neg, k2]
    have p2 : -q * -d = -P := by rw [hd, Int.neg_neg, Int.neg_mul, k2]
    have p3 : (-q - 1) * -d = -P - b := by rw [hd, Int.neg_neg, m2]
    unfold Rd Fl
    rw [p1, p2, p3, if_pos c2, if_pos c2, hq2]
    have k3 := K3.out
    clear K3
    rcases k3 with ⟨hR, hP⟩ | ⟨g0, g1, g2, g3, g4, g5, g6⟩
    · left
      omega
    · refine Or.inr ⟨by omega, fun h => ?_, fun h => ?_, fun h => ?_⟩
      · rcases h with h | ⟨h, h2⟩
        · have := g1 h rfl
          omega
        · exfalso; exact h2 (by simp [c1, c2])
      · rcases h with h | ⟨h, h2⟩
        · have := g3 h rfl
          omega
        · have := g5 h; omega
      · have := g6 h
        omega
  · have hA : A = a := by omega
    have hd : d = b := by omega
    have hbl : bl = false := by rw [← hbe, decide_eq_false c1, decide_eq_false c2]; rfl
    subst hbl
    rw [if_neg (by simp)]
    have p1 : q * d = P := by rw [hd, k2]
    have p3 : (q - 1) * d = P - b := by rw [hd, m1]
    unfold Rd Fl
    rw [p1, p3, if_neg c2, if_neg c2]
    have k3 := K3.out
    clear K3
    rcases k3 with ⟨hR, hP⟩ | ⟨g0, g1, g2, g3, g4, g5, g6⟩
    · left
      omega
    · refine Or.inr ⟨by omega, fun h => ?_, fun h => ?_, fun h => ?_⟩
      · rcases h with h | ⟨h, h2⟩
        · have := g2 h rfl
          omega
        · have := g5 h; omega
      · rcases h with h | ⟨h, h2⟩
        · have := g4 h rfl
          omega
        · exfalso; exact h2 (by simp [c1, c2])
      · have := g6 h
        omega
theorem Rounded_f {a d q how : Int} {na nd nq : Bool} {la ld lq : List Int} (ha : Nm a na la) (hd : Nm d nd ld) (hq : Nm q nq lq) (ka : la.length ≤ 900) (kd : ld.length ≤ 900) (kq : lq.length ≤ 900) (hh : 0 ≤ how ∧ how ≤ 3) (h : Rd a d q how) : ∃ K, ∀ e, clevisref01_Rounded.f (K + e) na la nd ld nq lq how = some true := by
  obtain ⟨K1, n1, d1, a1, a2, a3⟩ := Mul_f hq hd (by omega) (by omega)
  obtain ⟨K2, b1⟩ := Compare_f a2 ha
  have hna : na = decide (a < 0) := by
    cases hx : na
    · have := ha.pos hx; rw [decide_eq_false (by omega)]
    · have := ha.zero hx; rw [decide_eq_true (by omega)]
  have hnd : nd = decide (d < 0) := by
    cases hx : nd
    · have := hd.pos hx; rw [decide_eq_false (by omega)]
    · have := hd.zero hx; rw [decide_eq_true (by omega)]
  have hbl : (na != nd) = true ↔ (a < 0) ≠ (d < 0) := by
    rw [hna, hnd]
    by_cases c1 : a < 0 <;> by_cases c2 : d < 0 <;> simp [c1, c2]
  unfold Rd at h
  rcases h with h | ⟨hne, hfl, hce, hev⟩
  · have hs : sgn (q * d) a = 0 := by unfold sgn; (repeat' split) <;> omega
    refine ⟨K1 + K2, fun e => ?_⟩
    unfold clevisref01_Rounded.f
    rw [show K1 + K2 + e = K1 + (K2 + e) by omega, a1, Option.bind_some]
    dsimp only
    rw [show K1 + (K2 + e) = K2 + (K1 + e) by omega, b1, Option.bind_some, hs, if_pos rfl]
  · have hs : sgn (q * d) a ≠ 0 := by unfold sgn; (repeat' split) <;> omega
    -- the ways behind the first test
    have key : ∃ K, ∀ e, ((if how = 0 then (clevisref01_Rounded.j0 (K + e) how (na != nd) true na la nd ld nq lq) else (if how = 2 then (clevisref01_Rounded.j0 (K + e) how (na != nd) (!(na != nd)) na la nd ld nq lq) else (clevisref01_Rounded.j0 (K + e) how (na != nd) false na la nd ld nq lq)))) = some true := by
      have jf : Fl a d q → ∃ K, ∀ b e, clevisref01_Rounded.j0 (K + e) how b true na la nd ld nq lq = some true := fun hF => by
        obtain ⟨K, hK⟩ := Floor_f ha hd hq (by omega) (by omega) (by omega) hF
        refine ⟨K + 1, fun b e => ?_⟩
        rw [show K + 1 + e = (K + e) + 1 by omega, clevisref01_Rounded.j0, if_pos rfl, hK]
        rfl
      have jc : Fl a d (q - 1) → ∃ K, ∀ e, clevisref01_Rounded.j1 (K + e) true na la nd ld nq lq = some true := fun hF => by
        obtain ⟨K1, n1, d1, f1, f2, f3⟩ := Small_f (-1) (by omega) (by omega)
        obtain ⟨K2, n2, d2, g1, g2, g3⟩ := Add_f hq f2 (by omega) (by omega)
        obtain ⟨K, hK⟩ := Floor_f ha hd g2 (by omega) (by omega) (by omega) (by rw [show q + -1 = q - 1 by omega]; exact hF)
        refine ⟨K + K1 + K2 + 1, fun e => ?_⟩
        dsimp only at f1
        rw [show K + K1 + K2 + 1 + e = (K1 + (K + K2 + e)) + 1 by omega, clevisref01_Rounded.j1, if_pos rfl, f1, Option.bind_some, show K1 + (K + K2 + e) = K2 + (K + K1 + e) by omega]
        dsimp only
        rw [g1, Option.bind_some, show K2 + (K + K1 + e) = K + (K1 + K2 + e) by omega]
        dsimp only
        rw [hK]
        rfl
      by_cases c0 : how = 0
      · obtain ⟨K, hK⟩ := jf (hfl (Or.inl c0))
        exact ⟨K, fun e => by rw [if_pos c0]; exact hK _ e⟩
      · by_cases c2 : how = 2
        · by_cases cb : (na != nd) = true
          · obtain ⟨K, hK⟩ := jc (hce (Or.inr ⟨c2, hbl.1 cb⟩))
            refine ⟨K + 1, fun e => ?_⟩
            rw [if_neg c0, if_pos c2, cb, show K + 1 + e = (K + e) + 1 by omega, clevisref01_Rounded.j0, if_neg (by simp), if_neg (by omega), if_pos c2]
            exact hK e
          · obtain ⟨K, hK⟩ := jf (hfl (Or.inr ⟨c2, fun h => cb (hbl.2 h)⟩))
            refine ⟨K, fun e => ?_⟩
            rw [if_neg c0, if_pos c2, show (na != nd) = false by simpa using cb]
            exact hK _ e
        · by_cases c1 : how = 1
          · obtain ⟨K, hK⟩ := jc (hce (Or.inl c1))
            refine ⟨K + 1, fun e => ?_⟩
            rw [if_neg c0, if_neg c2, show K + 1 + e = (K + e) + 1 by omega, clevisref01_Rounded.j0, if_neg (by simp), if_pos c1]
            exact hK e
          · have c3 : how = 3 := by omega
            obtain ⟨K3, n3, d3, f1, f2, f3⟩ := Neg_f a2
            obtain ⟨K4, n4, d4, g1, g2, g3⟩ := Add_f ha f2 (by omega) (by omega)
            obtain ⟨K5, n5, d5, i1, i2, i3⟩ := Add_f g2 g2 (by omega) (by omega)
            obtain ⟨K6, j1⟩ := size_f d5 ld i2.ds hd.ds i2.top hd.top i2.len hd.len
            rw [i2.abs, hd.abs] at j1
            refine ⟨K1 + K3 + K4 + K5 + K6 + 2, fun e => ?_⟩
            rw [if_neg c0, if_neg c2, show K1 + K3 + K4 + K5 + K6 + 2 + e = (K1 + K3 + K4 + K5 + K6 + e + 1) + 1 by omega, clevisref01_Rounded.j0, if_neg (by simp), if_neg c1, if_neg c2, clevisref01_Rounded.j1, if_neg (by simp), show K1 + K3 + K4 + K5 + K6 + e = K1 + (K3 + K4 + K5 + K6 + e) by omega, a1, Option.bind_some]
            dsimp only
            rw [show K1 + (K3 + K4 + K5 + K6 + e) = K3 + (K1 + K4 + K5 + K6 + e) by omega, f1, Option.bind_some]
            dsimp only
            rw [show K3 + (K1 + K4 + K5 + K6 + e) = K4 + (K1 + K3 + K5 + K6 + e) by omega, g1, Option.bind_some]
            dsimp only
            rw [show K4 + (K1 + K3 + K5 + K6 + e) = K5 + (K1 + K3 + K4 + K6 + e) by omega, i1, Option.bind_some]
            dsimp only
            rw [show K5 + (K1 + K3 + K4 + K6 + e) = K6 + (K1 + K3 + K4 + K5 + e) by omega, j1, Option.bind_some, odd_f hq]
            have hev := hev c3
            clear j1 i1 g1 f1 hce hfl hbl
            rw [show a + -(q * d) + (a + -(q * d)) = 2 * (a - q * d) by omega]
            rcases hev with hlt | ⟨heq, hq2⟩
            · rw [if_pos (by unfold sgn; rw [if_pos (by omega)]; omega)]
            · rw [if_neg (by unfold sgn; rw [if_neg (by omega)]; split <;> omega), if_pos (by unfold sgn; rw [if_neg (by omega), if_neg (by omega)]), Option.bind_some, decide_eq_false (by omega)]
              rfl
    obtain ⟨K3, hK⟩ := key
    refine ⟨K1 + K2 + K3, fun e => ?_⟩
    unfold clevisref01_Rounded.f
    rw [show K1 + K2 + K3 + e = K1 + (K2 + K3 + e) by omega, a1, Option.bind_some]
    dsimp only
    rw [show K1 + (K2 + K3 + e) = K2 + (K1 + K3 + e) by omega, b1, Option.bind_some, if_neg hs, show K2 + (K1 + K3 + e) = K3 + (K1 + K2 + e) by omega]
    exact hK _
end Go.Proofs.Ytjbcigiffihjaaa.Fc
end
