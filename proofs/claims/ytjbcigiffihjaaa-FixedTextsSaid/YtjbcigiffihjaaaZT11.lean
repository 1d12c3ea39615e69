/- Texts of this seat, put together (ZT11). -/
import Derived.Test.YtjbcigiffihjaaaZT7
import Derived.Test.YtjbcigiffihjaaaZT9
import Derived.Test.YtjbcigiffihjaaaZT10
section
namespace Go.Proofs.Ytjbcigiffihjaaa.Fc
set_option linter.unusedSimpArgs false
set_option linter.unusedVariables false
open Go Go.RowKit Go.Proofs.Ytjbcigiffihjaaa.Fx Go.Proofs.YtjbcigiffihjaaaW.PrintWords Go.Proofs.YtjbcigiffihjaaaW.PrintMore Go.Proofs.Ytjbcigiffihjaaa.Fv
theorem signed_f {hi lo : Int} (neg : Bool) (h1 : U64 hi) (h2 : U64 lo) (hz : neg = true → ¬ (hi = 0 ∧ lo = 0)) (e : Nat) : ∃ r1 r2 r3, fixed_signed.f (e + 1) hi lo neg = some (r1, r2, r3) ∧ Is128 (if neg = true then -(hi * 18446744073709551616 + lo) else hi * 18446744073709551616 + lo) r1 r2 r3 := by
  have hw : wrap64 hi = if hi < 9223372036854775808 then hi else hi - 18446744073709551616 := by unfold U64 at h1; unfold wrap64; split <;> omega
  unfold fixed_signed.f
  cases neg
  · rw [if_neg (show ¬ (false = true) by simp), if_neg (show ¬ (false = true) by simp), fixed_signed.j0, if_neg (by simp)]
    by_cases c : hi ≥ 9223372036854775808
    · rw [if_pos c]
      refine ⟨0, 0, 4, rfl, Or.inr ⟨?_, rfl, rfl, rfl⟩⟩
      unfold F128; unfold U64 at h2
      omega
    · rw [if_neg c, if_neg (by simp), hw, if_pos (by omega)]
      refine ⟨_, _, _, rfl, Or.inl ⟨?_, rfl, ?_, h2, rfl⟩⟩
      · unfold F128; unfold U64 at h1 h2
        omega
      · unfold I64; unfold U64 at h1
        omega
  · rw [if_pos rfl, if_pos rfl]
    have hz2 := hz rfl
    by_cases c : hi = 9223372036854775808
    · rw [if_pos c, fixed_signed.j0]
      by_cases c2 : lo = 0
      · rw [if_pos (by simpa using c2), hw, if_neg (by omega)]
        refine ⟨_, _, _, rfl, Or.inl ⟨?_, rfl, ?_, h2, ?_⟩⟩
        · unfold F128; omega
        · unfold I64; omega
        · unfold W; omega
      · rw [if_neg (by simpa using c2), if_pos (by omega)]
        refine ⟨0, 0, 4, rfl, Or.inr ⟨?_, rfl, rfl, rfl⟩⟩
        unfold F128; unfold U64 at h2
        omega
    · rw [if_neg c, fixed_signed.j0, if_neg (by simp)]
      by_cases c2 : hi ≥ 9223372036854775808
      · rw [if_pos c2]
        refine ⟨0, 0, 4, rfl, Or.inr ⟨?_, rfl, rfl, rfl⟩⟩
        unfold F128; unfold U64 at h2
        omega
      · rw [if_neg c2, if_pos rfl, hw, if_pos (by omega)]
        obtain ⟨r1, r2, k1, k2, k3, k4⟩ := turned_f (h := hi) (l := lo) (by unfold I64; unfold U64 at h1; omega) h2 (Or.inl (by unfold U64 at h1; omega))
        rw [k1, Option.bind_some]
        refine ⟨_, _, _, rfl, Or.inl ⟨?_, rfl, k2, k3, ?_⟩⟩
        · unfold F128; unfold U64 at h1 h2
          omega
        · rw [k4]
          rfl
theorem ten_step {hi lo c : Int} (h1 : U64 hi) (h2 : U64 lo) (hc : 0 ≤ c ∧ c ≤ 9) : ∃ o h k l, bits_Mul64.f hi 10 = some (o, h) ∧ bits_Mul64.f lo 10 = some (k, l) ∧ addHi l c 0 ≤ 1 ∧ U64 (addLo h k (addHi l c 0)) ∧ U64 (addLo l c 0) ∧ IntKind.u64.wrap (o + addHi h k (addHi l c 0)) = o + addHi h k (addHi l c 0) ∧ 0 ≤ o + addHi h k (addHi l c 0) ∧ (o + addHi h k (addHi l c 0)) * 340282366920938463463374607431768211456 + addLo h k (addHi l c 0) * 18446744073709551616 + addLo l c 0 = 10 * (hi * 18446744073709551616 + lo) + c := by
  have ten : U64 10 := by unfold U64; omega
  refine ⟨_, _, _, _, Mul64_f h1 ten, Mul64_f h2 ten, ?_⟩
  unfold U64 at h1 h2
  generalize hl : lo * 10 % 18446744073709551616 = l
  generalize hk : lo * 10 / 18446744073709551616 = k
  generalize hh : hi * 10 % 18446744073709551616 = h
  generalize ho : hi * 10 / 18446744073709551616 = o
  have b1 : 0 ≤ l ∧ l < 18446744073709551616 := by omega
  have b2 : 0 ≤ k ∧ k ≤ 9 := by omega
  have b3 : 0 ≤ h ∧ h < 18446744073709551616 := by omega
  have b4 : 0 ≤ o ∧ o ≤ 9 := by omega
  have e1 : hi * 10 = o * 18446744073709551616 + h := by omega
  have e2 : lo * 10 = k * 18446744073709551616 + l := by omega
  clear hl hk hh ho
  rw [addHi_eq b1.1 hc.1 (by omega), addLo_eq b1.1 hc.1 (by omega)]
  generalize hm : (l + c + 0) / 18446744073709551616 = m1
  generalize hq : (l + c + 0) % 18446744073709551616 = q
  have b5 : 0 ≤ m1 ∧ m1 ≤ 1 := by omega
  have b6 : 0 ≤ q ∧ q < 18446744073709551616 := by omega
  have e3 : l + c = m1 * 18446744073709551616 + q := by omega
  clear hm hq
  refine ⟨b5.2, ?_⟩
  rw [addHi_eq b3.1 b2.1 b5.1, addLo_eq b3.1 b2.1 b5.1]
  generalize hm : (h + k + m1) / 18446744073709551616 = m2
  generalize hq : (h + k + m1) % 18446744073709551616 = q2
  have b7 : 0 ≤ m2 ∧ m2 ≤ 1 := by omega
  have b8 : 0 ≤ q2 ∧ q2 < 18446744073709551616 := by omega
  have e4 : h + k + m1 = m2 * 18446744073709551616 + q2 := by omega
  clear hm hq
  refine ⟨b8, b6, wu (by omega) (by omega), by omega, by omega⟩
theorem dv_mono : ∀ (n : Nat) (a b : List Int), b.length = n → (a ++ b).all dg = true → dv a ≤ dv (a ++ b)
  | 0, a, b, h, _ => by rw [List.eq_nil_of_length_eq_zero h, List.append_nil]; exact Int.le_refl _
  | n + 1, a, b, h, ha => by
    have e : b = b.dropLast ++ [b.getLast (by intro h2; rw [h2] at h; simp at h)] := (List.dropLast_concat_getLast _).symm
    rw [e, ← List.append_assoc] at ha ⊢
    rw [List.all_append, Bool.and_eq_true] at ha
    have h1 := dv_mono n a b.dropLast (by rw [List.length_dropLast]; omega) ha.1
    have h0 := dv_nonneg _ _ rfl ha.1
    have h2 := ha.2
    rw [List.all_cons, Bool.and_eq_true, dg_of] at h2
    rw [dv_snoc]
    omega
theorem dv_take_le {l : List Int} (ha : l.all dg = true) (i : Nat) : dv (l.take i) ≤ dv l := by
  have h := dv_mono _ (l.take i) (l.drop i) rfl (by rw [List.take_append_drop]; exact ha)
  rw [List.take_append_drop] at h
  exact h
theorem dv_pos {neg : Bool} {l : List Int} (h : okBody neg l = true) (hn : neg = true) : dv l ≠ 0 := by
  unfold okBody at h
  rw [hn] at h
  simp only [Bool.and_eq_true, Bool.not_eq_true', Bool.or_true, Bool.and_true, decide_eq_false_iff_not] at h
  obtain ⟨⟨h1, h2⟩, h3⟩ := h
  match l, h1, h2, h3 with
  | c :: r, _, h2, h3 =>
    have h5 := dv_take_le h2 1
    have h6 : dv ((c :: r).take 1) = c - 48 := by simp [dv]
    have h7 : rd (c :: r) 0 = c := rfl
    rw [h7] at h3
    have h8 := List.all_eq_true.1 h2 c (by simp)
    rw [dg_of] at h8
    omega
theorem Parse_l0 (neg : Bool) (l : List Int) (hl : l.length ≤ 1000) (ha : l.all dg = true) (hz : neg = true → dv l ≠ 0) : ∀ (n i : Nat) (hi lo : Int), i + n = l.length → U64 hi → U64 lo → hi * 18446744073709551616 + lo = dv (l.take i) → ∃ K r1 r2 r3, (∀ e, fixed_Parse.l0 (K + e) neg hi lo l (l.length : Int) (i : Int) = some (r1, r2, r3)) ∧ Is128 (if neg = true then -dv l else dv l) r1 r2 r3
  | 0, i, hi, lo, hin, h1, h2, hv => by
    rw [List.take_of_length_le (by omega)] at hv
    obtain ⟨r1, r2, r3, k1, k2⟩ := signed_f neg h1 h2 (fun hn hh => hz hn (by rw [← hv, hh.1, hh.2]; rfl)) 0
    rw [hv] at k2
    refine ⟨2, r1, r2, r3, fun e => ?_, k2⟩
    obtain ⟨q1, q2, q3, j1, j2⟩ := signed_f neg h1 h2 (fun hn hh => hz hn (by rw [← hv, hh.1, hh.2]; rfl)) e
    have hm : ∀ e, fixed_signed.f (e + 1) hi lo neg = fixed_signed.f (0 + 1) hi lo neg := fun e => by
      unfold fixed_signed.f
      simp only [fixed_signed.j0]
    rw [show 2 + e = (e + 1) + 1 by omega, fixed_Parse.l0, if_neg (by omega), hm, k1]
    rfl
  | n + 1, i, hi, lo, hin, h1, h2, hv => by
    have hlt : i < l.length := by omega
    have hg := List.all_eq_true.1 ha _ (List.getElem_mem hlt)
    rw [← rd_get hlt, dg_of] at hg
    obtain ⟨o, h, k, m, a1, a2, a3, a4, a5, a6, a7, a8⟩ := ten_step h1 h2 (c := rd l (i : Int) - 48) (by omega)
    have hc : (rd l (i : Int) - 48) % 256 = rd l (i : Int) - 48 := by omega
    have hnx : 10 * (hi * 18446744073709551616 + lo) + (rd l (i : Int) - 48) = dv (l.take (i + 1)) := by rw [take_snoc hlt, dv_snoc, hv]
    by_cases ho : o + addHi h k (addHi m (rd l (i : Int) - 48) 0) > 0
    · refine ⟨1, 0, 0, 4, fun e => ?_, Or.inr ⟨?_, rfl, rfl, rfl⟩⟩
      · rw [show 1 + e = e + 1 by omega, fixed_Parse.l0, if_pos (by omega), if_pos (by omega), if_pos (by omega), a1, Option.bind_some, a2, Option.bind_some]
        dsimp only
        rw [hc, if_pos a3, a6, if_pos ho]
      · have hle := dv_take_le ha (i + 1)
        unfold U64 at a4 a5
        unfold F128
        generalize addLo h k (addHi m (rd l (i : Int) - 48) 0) = p1 at *
        generalize addLo m (rd l (i : Int) - 48) 0 = p2 at *
        generalize o + addHi h k (addHi m (rd l (i : Int) - 48) 0) = p3 at *
        rw [← hnx, ← a8] at hle
        clear hnx a8 a1 a2 hv
        split <;> omega
    · have h0 : o + addHi h k (addHi m (rd l (i : Int) - 48) 0) = 0 := by omega
      obtain ⟨K, r1, r2, r3, j1, j2⟩ := Parse_l0 neg l hl ha hz n (i + 1) _ _ (by omega) a4 a5 (by rw [← hnx, ← a8, h0]; omega)
      refine ⟨K + 1, r1, r2, r3, fun e => ?_, j2⟩
      rw [show K + 1 + e = (K + e) + 1 by omega, fixed_Parse.l0, if_pos (by omega), if_pos (by omega), if_pos (by omega), a1, Option.bind_some, a2, Option.bind_some]
      dsimp only
      rw [hc, if_pos a3, a6, if_neg ho, w64 (by omega) (by omega), show (i : Int) + 1 = ((i + 1 : Nat) : Int) by omega, j1]
theorem Parse_bad (s : ByteArray) (hl : s.size ≤ 1000) (hv : valid (bytesOf s) = false) (e : Nat) : fixed_Parse.f (s.size + 5 + e) s = some (0, 0, 3) := by
  unfold fixed_Parse.f
  rw [form_f s (by omega), Option.bind_some, hv, if_neg (by simp)]
theorem Parse_f (s : ByteArray) (hl : s.size ≤ 1000) (hv : valid (bytesOf s) = true) : ∃ K r1 r2 r3, (∀ e, fixed_Parse.f (K + e) s = some (r1, r2, r3)) ∧ Is128 (value (bytesOf s)) r1 r2 r3 := by
  have hbl := bytesOf_length s
  have hv0 := hv
  unfold valid at hv
  have hne : 0 < s.size := by
    rcases Nat.eq_zero_or_pos s.size with h | h
    · have hb : bytesOf s = [] := List.eq_nil_of_length_eq_zero (by omega)
      rw [hb] at hv
      have : okBody (hasMinus []) (body []) = false := by decide
      rw [this] at hv
      cases hv
    · exact h
  have hall : ∀ neg l, okBody neg l = true → l.all dg = true := fun neg l h => by
    unfold okBody at h
    simp only [Bool.and_eq_true] at h
    exact h.1.2
  have start : ∀ (t : ByteArray) (neg : Bool), t.size ≤ 1000 → okBody neg (bytesOf t) = true → ∃ K r1 r2 r3, (∀ e, fixed_Parse.j0 (K + e) t neg = some (r1, r2, r3)) ∧ Is128 (if neg = true then -dv (bytesOf t) else dv (bytesOf t)) r1 r2 r3 := fun t neg ht hb => by
    have htl := bytesOf_length t
    obtain ⟨K, r1, r2, r3, j1, j2⟩ := Parse_l0 neg (bytesOf t) (by omega) (hall _ _ hb) (dv_pos hb) t.size 0 0 0 (by omega) (by unfold U64; omega) (by unfold U64; omega) (by simp [dv])
    refine ⟨K + 1, r1, r2, r3, fun e => ?_, j2⟩
    rw [show K + 1 + e = (K + e) + 1 by omega, fixed_Parse.j0, if_pos (by omega), Option.bind_some]
    exact j1 e
  have hd := bytes_drop s
  have hsz : (s.extract 1 s.size).size = s.size - 1 := by rw [← bytesOf_length, hd, List.length_drop, hbl]
  unfold value
  unfold body at hv ⊢
  by_cases hm : hasMinus (bytesOf s) = true
  · rw [hm, if_pos rfl] at hv
    rw [hm, if_pos rfl, if_pos rfl, ← hd]
    rw [← hd] at hv
    obtain ⟨K, r1, r2, r3, j1, j2⟩ := start _ true (by omega) hv
    refine ⟨K + (s.size + 5), r1, r2, r3, fun e => ?_, j2⟩
    unfold fixed_Parse.f
    unfold hasMinus at hm
    rw [rd_bytesOf, decide_eq_true_eq] at hm
    rw [show K + (s.size + 5) + e = s.size + 5 + (K + e) by omega, form_f s (by omega), Option.bind_some, hv0, if_pos rfl, if_pos (by omega), if_pos hm, if_pos (by omega), show s.size + 5 + (K + e) = K + (s.size + 5 + e) by omega, j1]
  · have hm3 : hasMinus (bytesOf s) = false := by simpa using hm
    rw [hm3, if_neg (by simp)] at hv
    rw [hm3, if_neg (by simp), if_neg (by simp)]
    obtain ⟨K, r1, r2, r3, j1, j2⟩ := start s false hl hv
    refine ⟨K + (s.size + 5), r1, r2, r3, fun e => ?_, j2⟩
    unfold fixed_Parse.f
    unfold hasMinus at hm
    rw [rd_bytesOf, decide_eq_true_eq] at hm
    rw [show K + (s.size + 5) + e = s.size + 5 + (K + e) by omega, form_f s (by omega), Option.bind_some, hv0, if_pos rfl, if_pos (by omega), if_neg hm, show s.size + 5 + (K + e) = K + (s.size + 5 + e) by omega, j1]
end Go.Proofs.Ytjbcigiffihjaaa.Fc
end
section
namespace Go.Proofs.Ytjbcigiffihjaaa.Fc
set_option linter.unusedSimpArgs false
set_option linter.unusedVariables false
open Go Go.RowKit Go.Proofs.Ytjbcigiffihjaaa.Fx Go.Proofs.YtjbcigiffihjaaaW.PrintWords Go.Proofs.YtjbcigiffihjaaaW.PrintMore Go.Proofs.Ytjbcigiffihjaaa.Fv
theorem turned_least : fixed_turned.f (-9223372036854775808) 0 = some (-9223372036854775808, 0) := by decide +kernel
theorem away_f {a0 a1 : Int} (ha : I64 a0) (hu : U64 a1) : ∃ h l, fixed_away.f a0 a1 = some (h, l, decide (W a0 a1 < 0)) ∧ U64 h ∧ U64 l ∧ h ≤ 9223372036854775808 ∧ h * 18446744073709551616 + l = (W a0 a1).natAbs := by
  unfold fixed_away.f
  by_cases c : a0 < 0
  · have hn : W a0 a1 < 0 := by unfold W; unfold U64 at hu; omega
    rw [if_pos c, decide_eq_true hn]
    by_cases c2 : a0 = -9223372036854775808 ∧ a1 = 0
    · obtain ⟨rfl, rfl⟩ := c2
      rw [turned_least]
      exact ⟨_, _, rfl, by unfold U64; decide, by unfold U64; decide, by decide, by decide⟩
    · obtain ⟨r1, r2, h1, h2, h3, h4⟩ := turned_f ha hu (by omega)
      rw [h1]
      have h5 : 0 ≤ r1 := by unfold W at h4 hn; unfold U64 at h3; unfold I64 at h2; omega
      refine ⟨_, _, rfl, ?_, h3, ?_, ?_⟩
      · rw [IntKind.wrap_u64]; unfold U64; omega
      · rw [IntKind.wrap_u64]; unfold I64 at h2; omega
      · dsimp only
        rw [wu h5 (by unfold I64 at h2; omega)]
        unfold W at h4 hn ⊢
        omega
  · have hn : ¬ W a0 a1 < 0 := by unfold W; unfold U64 at hu; omega
    rw [if_neg c, decide_eq_false hn]
    refine ⟨_, _, rfl, ?_, hu, ?_, ?_⟩
    · rw [IntKind.wrap_u64]; unfold U64; omega
    · rw [IntKind.wrap_u64]; unfold I64 at ha; omega
    · rw [wu (by omega) (by unfold I64 at ha; omega)]
      unfold W at hn ⊢
      omega
def lv : List Int → Int
  | [] => 0
  | c :: r => c - 48 + 10 * lv r
theorem dv_reverse (l : List Int) : dv l.reverse = lv l := by
  induction l with
  | nil => rfl
  | cons c r ih => rw [List.reverse_cons, dv_snoc, ih, lv]; omega
theorem set_mid (p r : List Int) (u v : Int) : (p ++ u :: r).set p.length v = p ++ v :: r := by simp
theorem rd_mid (p r : List Int) (u : Int) : rd (p ++ u :: r) (p.length : Int) = u := by unfold rd; rw [Int.toNat_natCast]; simp
theorem Text_l1 : ∀ (n : Nat) (a m c : List Int), m.length ≤ n → (a ++ m ++ c).length ≤ 1000 → ∀ e, fixed_Text.l1 (n + 1 + e) (a ++ m ++ c) (a.length : Int) ((a.length : Int) + m.length - 1) = some (strOfNums (a ++ m.reverse ++ c))
  | n, a, [], c, hn, hl, e => by
    rw [show n + 1 + e = (n + e) + 1 by omega, fixed_Text.l1, if_neg (by simp; omega)]
    rfl
  | n, a, [x], c, hn, hl, e => by
    rw [show n + 1 + e = (n + e) + 1 by omega, fixed_Text.l1, if_neg (by simp)]
    rfl
  | 0, a, x :: y :: r, c, hn, hl, e => by simp at hn
  | n + 1, a, x :: y :: r, c, hn, hl, e => by
    have hne : y :: r ≠ [] := by simp
    obtain ⟨m, z, hm⟩ : ∃ m z, y :: r = m ++ [z] := ⟨_, _, (List.dropLast_concat_getLast hne).symm⟩
    rw [hm] at hn hl ⊢
    have hml : (m.length : Int) + 2 = ((x :: (m ++ [z])).length : Int) := by simp; omega
    have e1 : a ++ x :: (m ++ [z]) ++ c = a ++ x :: (m ++ z :: c) := by simp
    have e2 : a ++ x :: (m ++ z :: c) = (a ++ x :: m) ++ z :: c := by simp
    have hj : (a.length : Int) + (x :: (m ++ [z])).length - 1 = ((a ++ x :: m).length : Nat) := by simp; omega
    have hlen : (a ++ x :: (m ++ z :: c)).length = a.length + m.length + c.length + 2 := by simp; omega
    have hll : (a ++ x :: m).length = a.length + m.length + 1 := by simp; omega
    rw [e1] at hl ⊢
    rw [hlen] at hl
    rw [hj, show n + 1 + 1 + e = (n + 1 + e) + 1 by omega, fixed_Text.l1, if_pos (by omega), if_pos (by omega), if_pos (by omega), if_pos (by omega), if_pos (by omega), Int.toNat_natCast, Int.toNat_natCast, w64 (by omega) (by omega), w64 (by omega) (by omega)]
    have r1 : rd (a ++ x :: (m ++ z :: c)) (a.length : Int) = x := rd_mid _ _ _
    have r2 : rd (a ++ x :: (m ++ z :: c)) ((a ++ x :: m).length : Nat) = z := by rw [e2]; exact rd_mid _ _ _
    rw [r1, r2, set_mid]
    have e3 : (a ++ z :: (m ++ z :: c)).set (a ++ x :: m).length x = (a ++ [z]) ++ m ++ (x :: c) := by
      have e4 : a ++ z :: (m ++ z :: c) = (a ++ z :: m) ++ z :: c := by simp
      have e5 : (a ++ x :: m).length = (a ++ z :: m).length := by simp
      rw [e4, e5, set_mid]
      simp
    have hmn : m.length ≤ n := by simp at hn; omega
    have hq : (a ++ [z] ++ m ++ (x :: c)).length ≤ 1000 := by simp; omega
    have ih := Text_l1 n (a ++ [z]) m (x :: c) hmn hq e
    have hal : ((a ++ [z]).length : Int) = (a.length : Int) + 1 := by simp
    rw [hal] at ih
    rw [e3, show ((a ++ x :: m).length : Int) - 1 = (a.length : Int) + 1 + m.length - 1 by omega, ih]
    congr 2
    simp
theorem Text_j1 (b : List Int) (hl : b.length ≤ 1000) (e : Nat) : fixed_Text.j1 (b.length + 2 + e) b = some (strOfNums b.reverse) := by
  rw [show b.length + 2 + e = (b.length + 1 + e) + 1 by omega, fixed_Text.j1, w64 (by omega) (by omega)]
  have h := Text_l1 b.length [] b [] (Nat.le_refl _) (by simpa using hl) e
  simpa using h
structure Dgs (N : Int) (n : Nat) (ds : List Int) : Prop where
  all : ds.all dg = true
  val : lv ds = N
  len : ds.length ≤ n
  nil : N = 0 → ds = []
  top : N ≠ 0 → ∃ p c, ds = p ++ [c] ∧ c ≠ 48
theorem U10 : U64 10 := by unfold U64; omega
theorem ten_less {hi lo : Int} (h1 : U64 hi) (h2 : U64 lo) : ∃ K q r, (∀ e, bits_Div64.f (K + e) (Int.tmod hi 10) lo 10 = some (q, r)) ∧ IntKind.u64.wrap (Int.tdiv hi 10) = hi / 10 ∧ U64 (hi / 10) ∧ U64 q ∧ 0 ≤ r ∧ r ≤ 9 ∧ (IntKind.u64.wrap (48 + r)) % 256 = 48 + r ∧ hi * 18446744073709551616 + lo = 10 * (hi / 10 * 18446744073709551616 + q) + r := by
  unfold U64 at h1 h2
  have e1 : Int.tmod hi 10 = hi % 10 := Int.tmod_eq_emod_of_nonneg h1.1
  have e2 : Int.tdiv hi 10 = hi / 10 := Int.tdiv_eq_ediv_of_nonneg h1.1
  obtain ⟨K, hK⟩ := Div64_f (a0 := hi % 10) (a1 := lo) (a2 := 10) (by unfold U64; omega) h2 U10 (by omega)
  refine ⟨K, _, _, fun e => by rw [e1]; exact hK e, by rw [e2, wu (by omega) (by omega)], by unfold U64; omega, by unfold U64; omega, by omega, by omega, ?_, by omega⟩
  rw [wu (by omega) (by omega)]
  omega
theorem Text_l0 (neg : Bool) : ∀ (n : Nat) (hi lo : Int) (b : List Int), U64 hi → U64 lo → hi * 18446744073709551616 + lo < 10 ^ n → b.length + n ≤ 900 →
    ∃ ds, Dgs (hi * 18446744073709551616 + lo) n ds ∧ ∃ K, ∀ e, fixed_Text.l0 (K + e) hi lo neg b false = some (strOfNums (b ++ ds ++ if neg = true then [45] else []).reverse)
  | 0, hi, lo, b, h1, h2, h, hb => by
    have : hi = 0 ∧ lo = 0 := by unfold U64 at h1 h2; simp at h; omega
    obtain ⟨rfl, rfl⟩ := this
    refine ⟨[], ⟨rfl, rfl, Nat.le_refl _, fun _ => rfl, fun h => by simp at h⟩, b.length + 5, fun e => ?_⟩
    rw [show b.length + 5 + e = (b.length + 4 + e) + 1 by omega, fixed_Text.l0, if_neg (by simp), if_neg (by omega), if_neg (by omega), List.append_nil]
    cases neg
    · rw [if_neg (by simp), if_neg (by simp), List.append_nil, show b.length + 4 + e = b.length + 2 + (2 + e) by omega]
      exact Text_j1 b (by omega) _
    · rw [if_pos rfl, if_pos rfl, if_pos (by omega), show b.length + 4 + e = (b ++ [45]).length + 2 + (1 + e) by simp; omega]
      exact Text_j1 (b ++ [45]) (by simp; omega) _
  | n + 1, hi, lo, b, h1, h2, h, hb => by
    by_cases hz : hi * 18446744073709551616 + lo = 0
    · have : hi = 0 ∧ lo = 0 := by unfold U64 at h1 h2; omega
      obtain ⟨rfl, rfl⟩ := this
      refine ⟨[], ⟨rfl, rfl, Nat.zero_le _, fun _ => rfl, fun h => by simp at h⟩, b.length + 5, fun e => ?_⟩
      rw [show b.length + 5 + e = (b.length + 4 + e) + 1 by omega, fixed_Text.l0, if_neg (by simp), if_neg (by omega), if_neg (by omega), List.append_nil]
      cases neg
      · rw [if_neg (by simp), if_neg (by simp), List.append_nil, show b.length + 4 + e = b.length + 2 + (2 + e) by omega]
        exact Text_j1 b (by omega) _
      · rw [if_pos rfl, if_pos rfl, if_pos (by omega), show b.length + 4 + e = (b ++ [45]).length + 2 + (1 + e) by simp; omega]
        exact Text_j1 (b ++ [45]) (by simp; omega) _
    · obtain ⟨K, q, r, k1, k2, k3, k4, k5, k6, k7, k8⟩ := ten_less h1 h2
      have hlt : hi / 10 * 18446744073709551616 + q < 10 ^ n := by rw [Int.pow_succ] at h; omega
      obtain ⟨ds, D, K2, j⟩ := Text_l0 neg n (hi / 10) q (b ++ [48 + r]) k3 k4 hlt (by simp; omega)
      refine ⟨(48 + r) :: ds, ⟨?_, ?_, ?_, fun h => absurd h hz, fun _ => ?_⟩, K + K2 + 1, fun e => ?_⟩
      · rw [List.all_cons, D.all, Bool.and_true, dg_of]
        omega
      · rw [lv, D.val]
        omega
      · have := D.len
        simp; omega
      · by_cases hz2 : hi / 10 * 18446744073709551616 + q = 0
        · refine ⟨[], 48 + r, by rw [D.nil hz2]; rfl, ?_⟩
          omega
        · obtain ⟨p, c, hp, hc⟩ := D.top hz2
          exact ⟨(48 + r) :: p, c, by rw [hp]; rfl, hc⟩
      · have j2 := j (K + e)
        rw [show K2 + (K + e) = K + (K2 + e) by omega] at j2
        have key : (bits_Div64.f (K + (K2 + e)) (Int.tmod hi 10) lo 10).bind (fun bt => if b.length < 140737488355328 then fixed_Text.l0 (K + (K2 + e)) (IntKind.u64.wrap (Int.tdiv hi 10)) bt.1 neg (b ++ [(IntKind.u64.wrap (48 + bt.2)) % 256]) false else none) = some (strOfNums (b ++ (48 + r) :: ds ++ if neg = true then [45] else []).reverse) := by
          rw [k1, Option.bind_some, if_pos (by omega), k2, k7, j2]
          congr 2
          simp
        rw [show K + K2 + 1 + e = (K + (K2 + e)) + 1 by omega, fixed_Text.l0, if_neg (by simp)]
        by_cases c1 : hi > 0
        · rw [if_pos c1]
          exact key
        · rw [if_neg c1, if_pos (by unfold U64 at h1 h2; omega)]
          exact key
theorem bytesOf_str {l : List Int} (h : ∀ x ∈ l, 0 ≤ x ∧ x ≤ 255) : bytesOf (strOfNums l) = l := by
  have e : bytesOf (strOfNums l) = l.map fun n => ((UInt8.ofNat n.toNat).toNat : Int) := by
    unfold bytesOf strOfNums
    rw [List.map_map]
    rfl
  rw [e]
  have : ∀ x ∈ l, ((UInt8.ofNat x.toNat).toNat : Int) = x := fun x hx => by
    have := h x hx
    rw [UInt8.toNat_ofNat']
    omega
  rw [List.map_congr_left this, List.map_id']
theorem okBody_of {neg : Bool} {b : List Int} (h1 : b ≠ []) (h2 : b.all dg = true) (h3 : rd b 0 ≠ 48 ∨ b = [48] ∧ neg = false) : okBody neg b = true := by
  unfold okBody
  have e : b.isEmpty = false := by cases b <;> simp_all
  rw [e, h2]
  rcases h3 with h | ⟨rfl, rfl⟩
  · simp [h]
  · decide
theorem text_val {neg : Bool} {b : List Int} (h : okBody neg b = true) (hm : neg = false → rd b 0 ≠ 45) : valid ((if neg = true then [45] else []) ++ b) = true ∧ value ((if neg = true then [45] else []) ++ b) = if neg = true then -dv b else dv b := by
  cases neg
  · have e : hasMinus b = false := by unfold hasMinus; simpa using hm rfl
    simp only [Bool.false_eq_true, if_false, List.nil_append]
    unfold valid value body
    rw [e]
    exact ⟨h, rfl⟩
  · simp only [if_true]
    have e : hasMinus ([45] ++ b) = true := by unfold hasMinus; simp [rd]
    unfold valid value body
    rw [e]
    exact ⟨h, rfl⟩
theorem Text_f {a0 a1 : Int} (ha : I64 a0) (hu : U64 a1) : ∃ K t, (∀ e, fixed_Text.f (K + e) a0 a1 = some t) ∧ t.size ≤ 100 ∧ valid (bytesOf t) = true ∧ value (bytesOf t) = W a0 a1 := by
  obtain ⟨h, l, e1, e2, e3, e4, e5⟩ := away_f ha hu
  -- the digits of the distance from 0, at least one
  obtain ⟨K, ds, hK, D1, D2, D3, D4⟩ : ∃ K ds, (∀ e, fixed_Text.l0 (K + e) h l (decide (W a0 a1 < 0)) [] true = some (strOfNums (ds ++ if decide (W a0 a1 < 0) = true then [45] else []).reverse)) ∧ ds.all dg = true ∧ lv ds = (W a0 a1).natAbs ∧ ds.length ≤ 50 ∧ ((W a0 a1 = 0 ∧ ds = [48]) ∨ ∃ p c, ds = p ++ [c] ∧ c ≠ 48) := by
    have hb : h * 18446744073709551616 + l < 10 ^ 49 := by
      have : (10 : Int) ^ 49 = 10000000000000000000000000000000000000000000000000 := by decide
      unfold U64 at e2 e3
      omega
    by_cases hz : h * 18446744073709551616 + l = 0
    · have hh : h = 0 ∧ l = 0 := by unfold U64 at e2 e3; omega
      obtain ⟨rfl, rfl⟩ := hh
      have hw : W a0 a1 = 0 := by omega
      rw [hw]
      obtain ⟨K, q, r, k1, k2, k3, k4, k5, k6, k7, k8⟩ := ten_less e2 e3
      have hr : r = 0 ∧ q = 0 := by unfold U64 at k4; omega
      obtain ⟨rfl, rfl⟩ := hr
      obtain ⟨ds, D, K2, j⟩ := Text_l0 (decide ((0 : Int) < 0)) 0 0 0 [48] e2 e2 (by decide) (by decide)
      have hd := D.nil rfl
      subst hd
      refine ⟨K + K2 + 1, [48], fun e => ?_, rfl, rfl, by decide, Or.inl ⟨rfl, rfl⟩⟩
      have j2 := j (K + e)
      rw [show K2 + (K + e) = K + (K2 + e) by omega] at j2
      rw [show K + K2 + 1 + e = (K + (K2 + e)) + 1 by omega, fixed_Text.l0, if_pos rfl, k1, Option.bind_some, if_pos (by decide), k2, k7]
      exact j2
    · obtain ⟨ds, D, K, j⟩ := Text_l0 (decide (W a0 a1 < 0)) 49 h l [] e2 e3 hb (by decide)
      refine ⟨K + 1, ds, fun e => ?_, D.all, by rw [D.val, e5], by have := D.len; omega, Or.inr (D.top hz)⟩
      have j2 := j (e + 1)
      rw [show K + (e + 1) = (K + e) + 1 by omega, fixed_Text.l0, if_neg (by simp)] at j2
      rw [show K + 1 + e = (K + e) + 1 by omega, fixed_Text.l0, if_pos rfl]
      by_cases c1 : h > 0
      · rw [if_pos c1] at j2
        exact j2
      · rw [if_neg c1, if_pos (by unfold U64 at e2 e3; omega)] at j2
        exact j2
  have hrev : (ds ++ if decide (W a0 a1 < 0) = true then [45] else []).reverse = (if decide (W a0 a1 < 0) = true then [45] else []) ++ ds.reverse := by
    rw [List.reverse_append]
    split <;> rfl
  have hall : ds.reverse.all dg = true := by rw [List.all_reverse]; exact D1
  have hr : ∀ x ∈ (if decide (W a0 a1 < 0) = true then [45] else []) ++ ds.reverse, 0 ≤ x ∧ x ≤ 255 := fun x hx => by
    rcases List.mem_append.1 hx with h | h
    · split at h
      · rw [List.mem_singleton.1 h]; omega
      · cases h
    · have := dg_of.1 (List.all_eq_true.1 hall x h)
      omega
  have hok : okBody (decide (W a0 a1 < 0)) ds.reverse = true := by
    refine okBody_of ?_ hall ?_
    · rcases D4 with ⟨_, rfl⟩ | ⟨p, c, rfl, _⟩ <;> simp
    · rcases D4 with ⟨h, rfl⟩ | ⟨p, c, rfl, hc⟩
      · exact Or.inr ⟨rfl, by rw [h]; rfl⟩
      · left
        simp [rd]
        exact hc
  have hm : rd ds.reverse 0 ≠ 45 := by
    have hne : ds.reverse ≠ [] := by rcases D4 with ⟨_, rfl⟩ | ⟨p, c, rfl, _⟩ <;> simp
    cases hx : ds.reverse with
    | nil => exact absurd hx hne
    | cons c r =>
      rw [hx, List.all_cons, Bool.and_eq_true, dg_of] at hall
      have : rd (c :: r) 0 = c := rfl
      omega
  obtain ⟨v1, v2⟩ := text_val hok (fun _ => hm)
  refine ⟨K, _, fun e => by unfold fixed_Text.f; rw [e1]; exact hK e, ?_, ?_, ?_⟩
  · rw [← bytesOf_length, hrev, bytesOf_str hr]
    split <;> simp <;> omega
  · rw [hrev, bytesOf_str hr]
    exact v1
  · rw [hrev, bytesOf_str hr, v2, dv_reverse, D2]
    clear D4 D3 D2 hok hm hall hr hrev hK v1 v2 e5 e1
    generalize W a0 a1 = z
    by_cases c : z < 0
    · rw [decide_eq_true c, if_pos rfl]; omega
    · rw [decide_eq_false c, if_neg (by simp)]; omega
end Go.Proofs.Ytjbcigiffihjaaa.Fc
end
