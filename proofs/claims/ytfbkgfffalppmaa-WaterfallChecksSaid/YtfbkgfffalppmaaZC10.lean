/- Texts of this seat, put together (ZC10). -/
import Derived.Test.YtfbkgfffalppmaaZC5
import Derived.Test.YtfbkgfffalppmaaZC6
import Derived.Test.YtfbkgfffalppmaaZC7
import Derived.Test.YtfbkgfffalppmaaZC9
section
namespace Go.Proofs.Ytfbkgfffalppmaa.Fc
set_option linter.unusedSimpArgs false
set_option linter.unusedVariables false
open Go Go.RowKit Go.Proofs.Ytfbkgfffalppmaa.Wf Go.Proofs.YtfbkgfffalppmaaW.PrintWords Go.Proofs.Ytfbkgfffalppmaa.Fv
theorem w64 {n : Int} (h0 : -9223372036854775808 ≤ n) (h1 : n ≤ 9223372036854775807) : wrap64 n = n := by unfold wrap64; omega
theorem rd_at (d : List Int) (i : Nat) : rd d (i : Int) = d.getD i 0 := by unfold rd; rw [Int.toNat_natCast]
theorem getLast_getD (d : List Int) (h : d ≠ []) : d.getLast h = d.getD (d.length - 1) 0 := by
  have hl : 0 < d.length := List.length_pos_iff.2 h
  rw [List.getLast_eq_getElem, List.getD_eq_getElem?_getD, List.getElem?_eq_getElem (by omega)]
  rfl
theorem clean (neg : Bool) : ∀ (n : Nat) (d : List Int), d.length = n → n ≤ 1000000 → Ds d → ∃ K d', (∀ e, clevisref01_clean.f (K + e) neg d = some (if d' = [] then false else neg, d')) ∧ V d' = V d ∧ Ds d' ∧ Top d' ∧ d'.length ≤ d.length
  | 0, d, hn, hl, hd => by
    have e0 : d = [] := List.eq_nil_of_length_eq_zero hn
    subst e0
    refine ⟨1, [], fun e => ?_, rfl, hd, fun h => absurd rfl h, Nat.le_refl _⟩
    unfold clevisref01_clean.f
    rw [show 1 + e = e + 1 by omega, clevisref01_clean.l0]
    simp
  | n + 1, d, hn, hl, hd => by
    have hne : d ≠ [] := fun e => by rw [e] at hn; simp at hn
    have hw : wrap64 ((d.length : Int) - 1) = ((n : Nat) : Int) := by rw [hn]; unfold wrap64; omega
    by_cases h0 : d.getD n 0 = 0
    · have hlt : (d.take n).length = n := by rw [List.length_take]; omega
      obtain ⟨K, d', h1, h2, h3, h4, h5⟩ := clean neg n (d.take n) hlt (by omega) (hd.take n)
      refine ⟨K + 1, d', fun e => ?_, ?_, h3, h4, by omega⟩
      · have h6 := h1 e
        unfold clevisref01_clean.f at h6 ⊢
        rw [show K + 1 + e = (K + e) + 1 by omega, clevisref01_clean.l0, hw, rd_at, if_pos (by omega), if_pos (by omega), if_pos (by omega), if_pos h0, if_pos (by omega), Int.toNat_natCast]
        exact h6
      · rw [h2]
        have h7 := V_take_succ d n
        rw [h0, List.take_of_length_le (by omega)] at h7
        omega
    · refine ⟨1, d, fun e => ?_, rfl, hd, fun h => ?_, Nat.le_refl _⟩
      · unfold clevisref01_clean.f
        rw [show 1 + e = e + 1 by omega, clevisref01_clean.l0, hw, rd_at, if_pos (by omega), if_pos (by omega), if_pos (by omega), if_neg h0, if_neg (by omega), if_neg hne]
      · rw [getLast_getD d h, hn, Nat.add_sub_cancel]
        exact h0
theorem clean_good (neg : Bool) (d : List Int) (hd : Ds d) (hl : d.length ≤ 1000000) (v : Int) (hv : val neg d = v) : ∃ K n' d', (∀ e, clevisref01_clean.f (K + e) neg d = some (n', d')) ∧ Nm v n' d' ∧ d'.length ≤ d.length := by
  obtain ⟨K, d', h1, h2, h3, h4, h5⟩ := clean neg d.length d rfl hl hd
  refine ⟨K, _, d', h1, ⟨h3, h4, fun h => ?_, ?_, by omega⟩, h5⟩
  · intro e
    rw [if_pos e] at h
    cases h
  · rw [← hv]
    unfold val
    by_cases e : d' = []
    · rw [if_pos e]
      have h6 : V d = 0 := by rw [← h2, e]; rfl
      rw [h6, e]
      simp [V]
    · rw [if_neg e, h2]
theorem size_l0 (a b : List Int) (ha : Ds a) (hb : Ds b) (hl : a.length = b.length) (hl2 : a.length ≤ 1000000) : ∀ i : Nat, i ≤ a.length → ∃ K, ∀ e, clevisref01_size.l0 (K + e) a b ((i : Int) - 1) = some (sgn (V (a.take i)) (V (b.take i)))
  | 0, _ => ⟨1, fun e => by
    rw [show 1 + e = e + 1 by omega, clevisref01_size.l0, if_neg (by omega)]
    simp [sgn]⟩
  | i + 1, h => by
    obtain ⟨K, hK⟩ := size_l0 a b ha hb hl hl2 i (by omega)
    refine ⟨K + 1, fun e => ?_⟩
    have hx : ((i + 1 : Nat) : Int) - 1 = (i : Int) := by omega
    have hva := V_take_succ a i
    have hvb := V_take_succ b i
    have la := take_lt ha i
    have lb := take_lt hb i
    have na := V_nonneg (ha.take i)
    have nb := V_nonneg (hb.take i)
    have hB := B_pos i
    rw [show K + 1 + e = (K + e) + 1 by omega, clevisref01_size.l0, hx, rd_at, rd_at, if_pos (by omega), if_pos (by omega), if_pos (by omega), if_pos (by omega)]
    have key : ∀ p q : Int, p < q → B i * p + B i ≤ B i * q := fun p q h => by
      have h1 : B i * (p + 1) ≤ B i * q := Int.mul_le_mul_of_nonneg_left (by omega) (by omega)
      rw [Int.mul_add, Int.mul_one] at h1
      exact h1
    rcases Int.lt_trichotomy (a.getD i 0) (b.getD i 0) with q | q | q
    · have k1 := key _ _ q
      rw [if_pos q, hva, hvb]
      unfold sgn
      rw [if_pos (by omega)]
    · rw [if_neg (by omega), if_neg (by omega), w64 (by omega) (by omega), hK e, hva, hvb, q]
      generalize B i * b.getD i 0 = z
      unfold sgn
      congr 1
      (repeat' split)
      all_goals omega
    · have k1 := key _ _ q
      rw [if_neg (by omega), if_pos (by omega), hva, hvb]
      unfold sgn
      rw [if_neg (by omega), if_pos (by omega)]
theorem size_f (a b : List Int) (ha : Ds a) (hb : Ds b) (hta : Top a) (htb : Top b) (hla : a.length ≤ 1000000) (hlb : b.length ≤ 1000000) : ∃ K, ∀ e, clevisref01_size.f (K + e) a b = some (sgn (V a) (V b)) := by
  by_cases hl : a.length = b.length
  · obtain ⟨K, hK⟩ := size_l0 a b ha hb hl hla a.length (Nat.le_refl _)
    refine ⟨K, fun e => ?_⟩
    unfold clevisref01_size.f
    rw [if_pos (by omega), w64 (by omega) (by omega), hK e, List.take_length, hl, List.take_length]
  · refine ⟨0, fun e => ?_⟩
    unfold clevisref01_size.f
    rw [if_neg (by omega)]
    by_cases h : a.length < b.length
    · have h1 : ¬ V b ≤ V a := fun q => by have := len_le hb htb ha q; omega
      rw [if_pos (by omega)]
      unfold sgn
      rw [if_pos (by omega)]
    · have h1 : ¬ V a ≤ V b := fun q => by have := len_le ha hta hb q; omega
      rw [if_neg (by omega)]
      unfold sgn
      rw [if_neg (by omega), if_pos (by omega)]
theorem Compare_f {a b : Int} {na nb : Bool} {da db : List Int} (ha : Nm a na da) (hb : Nm b nb db) : ∃ K, ∀ e, clevisref01_Compare.f (K + e) na da nb db = some (sgn a b) := by
  obtain ⟨K, hK⟩ := size_f da db ha.ds hb.ds ha.top hb.top ha.len hb.len
  have va := ha.val
  have vb := hb.val
  unfold val at va vb
  refine ⟨K, fun e => ?_⟩
  unfold clevisref01_Compare.f
  cases na <;> cases nb
  · rw [if_neg (by simp), hK e, Option.bind_some, if_neg (by simp)]
    simp at va vb
    rw [va, vb]
  · have h1 := ha.pos rfl
    have h2 := hb.zero rfl
    rw [if_pos (by simp), if_neg (by simp)]
    unfold sgn
    rw [if_neg (by omega), if_pos (by omega)]
  · have h1 := hb.pos rfl
    have h2 := ha.zero rfl
    rw [if_pos (by simp), if_pos rfl]
    unfold sgn
    rw [if_pos (by omega)]
  · rw [if_neg (by simp), hK e, Option.bind_some, if_pos rfl]
    simp at va vb
    have e1 : V da = -a := by omega
    have e2 : V db = -b := by omega
    rw [e1, e2]
    have e3 : ∀ x : Int, x = -1 ∨ x = 0 ∨ x = 1 → wrap64 (-x) = -x := fun x h => w64 (by omega) (by omega)
    have e4 : sgn (-a) (-b) = -1 ∨ sgn (-a) (-b) = 0 ∨ sgn (-a) (-b) = 1 := by
      unfold sgn
      (repeat' split)
      all_goals omega
    rw [e3 _ e4]
    unfold sgn
    congr 1
    (repeat' split)
    all_goals omega
end Go.Proofs.Ytfbkgfffalppmaa.Fc
end
section
namespace Go.Proofs.Ytfbkgfffalppmaa.Fc
set_option linter.unusedSimpArgs false
set_option linter.unusedVariables false
open Go Go.RowKit Go.Proofs.Ytfbkgfffalppmaa.Wf Go.Proofs.YtfbkgfffalppmaaW.PrintWords Go.Proofs.Ytfbkgfffalppmaa.Fv
theorem at_f (d : List Int) (i : Nat) : clevisref01_at.f d (i : Int) = some (d.getD i 0) := by
  unfold clevisref01_at.f
  by_cases h : i < d.length
  · rw [if_pos (by omega), if_pos (by omega), rd_at]
  · rw [if_neg (by omega), List.getD_eq_getElem?_getD, List.getElem?_eq_none (by omega)]
    rfl
end Go.Proofs.Ytfbkgfffalppmaa.Fc
end
section
namespace Go.Proofs.Ytfbkgfffalppmaa.Fc
set_option linter.unusedSimpArgs false
set_option linter.unusedVariables false
open Go Go.RowKit Go.Proofs.Ytfbkgfffalppmaa.Wf Go.Proofs.YtfbkgfffalppmaaW.PrintWords Go.Proofs.Ytfbkgfffalppmaa.Fv
theorem sub_l102 (a b : List Int) (ha : Ds a) (hb : Ds b) (hla : a.length ≤ 900000) (hlb : b.length ≤ a.length) (hle : V b ≤ V a) (na nb no : Bool) : ∀ (n i : Nat) (less : Int) (out : List Int), i + n = a.length → 0 ≤ less → less ≤ 1 → out.length = i → Ds out → V out - B i * less = V (a.take i) - V (b.take i) →
    ∃ K n' d', (∀ e, clevisref01_Add.l102 (K + e) less (i : Int) na a nb b no out = some (n', d')) ∧ Nm (if no = true then -(V a - V b) else V a - V b) n' d' ∧ d'.length ≤ a.length
  | 0, i, less, out, hi, h0, h1, ho, hd, hv => by
    have e1 : a.take i = a := List.take_of_length_le (by omega)
    have e2 : b.take i = b := List.take_of_length_le (by omega)
    rw [e1, e2] at hv
    have hlt := V_lt hd
    rw [ho] at hlt
    have hz : less = 0 := by
      rcases (show less = 0 ∨ less = 1 by omega) with q | q
      · exact q
      · rw [q] at hv; omega
    subst hz
    have hvo : V out = V a - V b := by omega
    obtain ⟨K, n', d', k1, k2, k3⟩ := clean_good no out hd (by omega) _ rfl
    refine ⟨K + 1, n', d', fun e => ?_, ?_, by omega⟩
    · rw [show K + 1 + e = (K + e) + 1 by omega, clevisref01_Add.l102, if_neg (by omega), k1 e]
      rfl
    · unfold val at k2
      rw [hvo] at k2
      exact k2
  | n + 1, i, less, out, hi, h0, h1, ho, hd, hv => by
    have pa := ha.at i
    have pb := hb.at i
    unfold Dg at pa pb
    have va := V_take_succ a i
    have vb := V_take_succ b i
    have hw : wrap64 ((i : Int) + 1) = ((i + 1 : Nat) : Int) := by unfold wrap64; omega
    have hBs := B_succ i
    generalize hp : a.getD i 0 = p at *
    generalize hq : b.getD i 0 = q at *
    have step : ∀ (dig less' : Int), dig - 65536 * less' = p - q - less → B i * dig - B (i + 1) * less' = B i * p - B i * q - B i * less := by
      intro dig less' h
      have h2 : B i * (dig - 65536 * less') = B i * (p - q - less) := by rw [h]
      rw [Int.mul_sub, Int.mul_sub, Int.mul_sub, ← Int.mul_assoc] at h2
      rw [hBs, Int.mul_comm 65536 (B i)]
      exact h2
    by_cases hs : p - q - less < 0
    · have k := sub_l102 a b ha hb hla hlb hle na nb no n (i + 1) 1 (out ++ [p - q - less + 65536]) (by omega) (by omega) (by omega) (by simp [ho]) (hd.snoc ⟨by omega, by omega⟩) (by
        have h3 := step (p - q - less + 65536) 1 (by omega)
        rw [V_snoc, ho]
        omega)
      obtain ⟨K, n', d', k1, k2, k3⟩ := k
      clear va vb hBs hv step
      refine ⟨K + 1, n', d', fun e => ?_, k2, k3⟩
      rw [show K + 1 + e = (K + e) + 1 by omega, clevisref01_Add.l102, if_pos (by omega), at_f, at_f, Option.bind_some, Option.bind_some, hp, hq, w64 (n := p - q) (by omega) (by omega), w64 (n := p - q - less) (by omega) (by omega), if_pos hs, if_pos (by omega), w64 (n := p - q - less + 65536) (by omega) (by omega), hw]
      exact k1 e
    · have k := sub_l102 a b ha hb hla hlb hle na nb no n (i + 1) 0 (out ++ [p - q - less]) (by omega) (by omega) (by omega) (by simp [ho]) (hd.snoc ⟨by omega, by omega⟩) (by
        have h3 := step (p - q - less) 0 (by omega)
        rw [V_snoc, ho]
        omega)
      obtain ⟨K, n', d', k1, k2, k3⟩ := k
      clear va vb hBs hv step
      refine ⟨K + 1, n', d', fun e => ?_, k2, k3⟩
      rw [show K + 1 + e = (K + e) + 1 by omega, clevisref01_Add.l102, if_pos (by omega), at_f, at_f, Option.bind_some, Option.bind_some, hp, hq, w64 (n := p - q) (by omega) (by omega), w64 (n := p - q - less) (by omega) (by omega), if_neg hs, if_pos (by omega), hw]
      exact k1 e
end Go.Proofs.Ytfbkgfffalppmaa.Fc
end
section
namespace Go.Proofs.Ytfbkgfffalppmaa.Fc
set_option linter.unusedSimpArgs false
set_option linter.unusedVariables false
open Go Go.RowKit Go.Proofs.Ytfbkgfffalppmaa.Wf Go.Proofs.YtfbkgfffalppmaaW.PrintWords Go.Proofs.Ytfbkgfffalppmaa.Fv
theorem sub_l1 (a b : List Int) (ha : Ds a) (hb : Ds b) (hla : a.length ≤ 900000) (hlb : b.length ≤ a.length) (hle : V b ≤ V a) (na nb no : Bool) : ∀ (n i : Nat) (less : Int) (out : List Int), i + n = a.length → 0 ≤ less → less ≤ 1 → out.length = i → Ds out → V out - B i * less = V (a.take i) - V (b.take i) →
    ∃ K n' d', (∀ e, clevisref01_Add.l1 (K + e) less (i : Int) na a nb b no out = some (n', d')) ∧ Nm (if no = true then -(V a - V b) else V a - V b) n' d' ∧ d'.length ≤ a.length
  | 0, i, less, out, hi, h0, h1, ho, hd, hv => by
    have e1 : a.take i = a := List.take_of_length_le (by omega)
    have e2 : b.take i = b := List.take_of_length_le (by omega)
    rw [e1, e2] at hv
    have hlt := V_lt hd
    rw [ho] at hlt
    have hz : less = 0 := by
      rcases (show less = 0 ∨ less = 1 by omega) with q | q
      · exact q
      · rw [q] at hv; omega
    subst hz
    have hvo : V out = V a - V b := by omega
    obtain ⟨K, n', d', k1, k2, k3⟩ := clean_good no out hd (by omega) _ rfl
    refine ⟨K + 1, n', d', fun e => ?_, ?_, by omega⟩
    · rw [show K + 1 + e = (K + e) + 1 by omega, clevisref01_Add.l1, if_neg (by omega), k1 e]
      rfl
    · unfold val at k2
      rw [hvo] at k2
      exact k2
  | n + 1, i, less, out, hi, h0, h1, ho, hd, hv => by
    have pa := ha.at i
    have pb := hb.at i
    unfold Dg at pa pb
    have va := V_take_succ a i
    have vb := V_take_succ b i
    have hw : wrap64 ((i : Int) + 1) = ((i + 1 : Nat) : Int) := by unfold wrap64; omega
    have hBs := B_succ i
    generalize hp : a.getD i 0 = p at *
    generalize hq : b.getD i 0 = q at *
    have step : ∀ (dig less' : Int), dig - 65536 * less' = p - q - less → B i * dig - B (i + 1) * less' = B i * p - B i * q - B i * less := by
      intro dig less' h
      have h2 : B i * (dig - 65536 * less') = B i * (p - q - less) := by rw [h]
      rw [Int.mul_sub, Int.mul_sub, Int.mul_sub, ← Int.mul_assoc] at h2
      rw [hBs, Int.mul_comm 65536 (B i)]
      exact h2
    by_cases hs : p - q - less < 0
    · have k := sub_l1 a b ha hb hla hlb hle na nb no n (i + 1) 1 (out ++ [p - q - less + 65536]) (by omega) (by omega) (by omega) (by simp [ho]) (hd.snoc ⟨by omega, by omega⟩) (by
        have h3 := step (p - q - less + 65536) 1 (by omega)
        rw [V_snoc, ho]
        omega)
      obtain ⟨K, n', d', k1, k2, k3⟩ := k
      clear va vb hBs hv step
      refine ⟨K + 1, n', d', fun e => ?_, k2, k3⟩
      rw [show K + 1 + e = (K + e) + 1 by omega, clevisref01_Add.l1, if_pos (by omega), at_f, at_f, Option.bind_some, Option.bind_some, hp, hq, w64 (n := p - q) (by omega) (by omega), w64 (n := p - q - less) (by omega) (by omega), if_pos hs, if_pos (by omega), w64 (n := p - q - less + 65536) (by omega) (by omega), hw]
      exact k1 e
    · have k := sub_l1 a b ha hb hla hlb hle na nb no n (i + 1) 0 (out ++ [p - q - less]) (by omega) (by omega) (by omega) (by simp [ho]) (hd.snoc ⟨by omega, by omega⟩) (by
        have h3 := step (p - q - less) 0 (by omega)
        rw [V_snoc, ho]
        omega)
      obtain ⟨K, n', d', k1, k2, k3⟩ := k
      clear va vb hBs hv step
      refine ⟨K + 1, n', d', fun e => ?_, k2, k3⟩
      rw [show K + 1 + e = (K + e) + 1 by omega, clevisref01_Add.l1, if_pos (by omega), at_f, at_f, Option.bind_some, Option.bind_some, hp, hq, w64 (n := p - q) (by omega) (by omega), w64 (n := p - q - less) (by omega) (by omega), if_neg hs, if_pos (by omega), hw]
      exact k1 e
end Go.Proofs.Ytfbkgfffalppmaa.Fc
end
section
namespace Go.Proofs.Ytfbkgfffalppmaa.Fc
set_option linter.unusedSimpArgs false
set_option linter.unusedVariables false
open Go Go.RowKit Go.Proofs.Ytfbkgfffalppmaa.Wf Go.Proofs.YtfbkgfffalppmaaW.PrintWords Go.Proofs.Ytfbkgfffalppmaa.Fv
theorem add_l0 (a b : List Int) (ha : Ds a) (hb : Ds b) (hla : a.length ≤ 900000) (hlb : b.length ≤ 900000) (na nb no : Bool) : ∀ (n i : Nat) (more : Int) (out : List Int), i + n = max a.length b.length → 0 ≤ more → more ≤ 1 → out.length = i → Ds out → V out + B i * more = V (a.take i) + V (b.take i) →
    ∃ K n' d', (∀ e, clevisref01_Add.l0 (K + e) more (i : Int) na a nb b no out = some (n', d')) ∧ Nm (if no = true then -(V a + V b) else V a + V b) n' d' ∧ d'.length ≤ max a.length b.length + 1
  | 0, i, more, out, hi, h0, h1, ho, hd, hv => by
    have e1 : a.take i = a := List.take_of_length_le (by omega)
    have e2 : b.take i = b := List.take_of_length_le (by omega)
    rw [e1, e2] at hv
    have hvo : V (out ++ [more]) = V a + V b := by rw [V_snoc, ho]; exact hv
    have hlo : (out ++ [more]).length = i + 1 := by simp [ho]
    obtain ⟨K, n', d', k1, k2, k3⟩ := clean_good no (out ++ [more]) (hd.snoc ⟨h0, by omega⟩) (by omega) _ rfl
    refine ⟨K + 2, n', d', fun e => ?_, ?_, by omega⟩
    · rw [show K + 2 + e = (K + e + 1) + 1 by omega, clevisref01_Add.l0, if_neg (by omega), decide_eq_false (by omega), clevisref01_Add.j1, if_neg (by simp), if_pos (by omega), k1 e]
      rfl
    · unfold val at k2
      rw [hvo] at k2
      exact k2
  | n + 1, i, more, out, hi, h0, h1, ho, hd, hv => by
    have pa := ha.at i
    have pb := hb.at i
    unfold Dg at pa pb
    have va := V_take_succ a i
    have vb := V_take_succ b i
    have hw : wrap64 ((i : Int) + 1) = ((i + 1 : Nat) : Int) := by unfold wrap64; omega
    have hBs := B_succ i
    generalize hp : a.getD i 0 = p at *
    generalize hq : b.getD i 0 = q at *
    have step : ∀ (dig more' : Int), dig + 65536 * more' = p + q + more → B i * dig + B (i + 1) * more' = B i * p + B i * q + B i * more := by
      intro dig more' h
      have h2 : B i * (dig + 65536 * more') = B i * (p + q + more) := by rw [h]
      rw [Int.mul_add, Int.mul_add, Int.mul_add, ← Int.mul_assoc] at h2
      rw [hBs, Int.mul_comm 65536 (B i)]
      exact h2
    have hs : 0 ≤ p + q + more := by omega
    have k := add_l0 a b ha hb hla hlb na nb no n (i + 1) ((p + q + more) / 65536) (out ++ [(p + q + more) % 65536]) (by omega) (by omega) (by omega) (by simp [ho]) (hd.snoc ⟨by omega, by omega⟩) (by
      have h3 := step ((p + q + more) % 65536) ((p + q + more) / 65536) (by omega)
      rw [V_snoc, ho]
      omega)
    obtain ⟨K, n', d', k1, k2, k3⟩ := k
    clear va vb hBs hv step
    refine ⟨K + 2, n', d', fun e => ?_, k2, k3⟩
    have hj : clevisref01_Add.j1 (K + e + 1) more (i : Int) true na a nb b no out = some (n', d') := by
      rw [clevisref01_Add.j1, if_pos rfl, at_f, at_f, Option.bind_some, Option.bind_some, hp, hq, w64 (n := p + q) (by omega) (by omega), w64 (n := p + q + more) (by omega) (by omega), if_pos (by omega), Int.tdiv_eq_ediv_of_nonneg hs, Int.tmod_eq_emod_of_nonneg hs, w64 (n := (p + q + more) / 65536) (by omega) (by omega), hw]
      exact k1 e
    rw [show K + 2 + e = (K + e + 1) + 1 by omega, clevisref01_Add.l0]
    by_cases h : (i : Int) < (a.length : Int)
    · rw [if_pos h, hj]
    · rw [if_neg h, decide_eq_true (by omega), hj]
end Go.Proofs.Ytfbkgfffalppmaa.Fc
end
section
namespace Go.Proofs.Ytfbkgfffalppmaa.Fc
set_option linter.unusedSimpArgs false
set_option linter.unusedVariables false
open Go Go.RowKit Go.Proofs.Ytfbkgfffalppmaa.Wf Go.Proofs.YtfbkgfffalppmaaW.PrintWords Go.Proofs.Ytfbkgfffalppmaa.Fv
theorem Add_f {x y : Int} {na nb : Bool} {a b : List Int} (ha : Nm x na a) (hb : Nm y nb b) (hla : a.length ≤ 900000) (hlb : b.length ≤ 900000) : ∃ K n d, (∀ e, clevisref01_Add.f (K + e) na a nb b = some (n, d)) ∧ Nm (x + y) n d ∧ d.length ≤ max a.length b.length + 1 := by
  have vx := ha.val
  have vy := hb.val
  unfold val at vx vy
  have hba := V_nonneg ha.ds
  have hbb := V_nonneg hb.ds
  by_cases hs : na = nb
  · subst hs
    obtain ⟨K, n, d, k1, k2, k3⟩ := add_l0 a b ha.ds hb.ds hla hlb na na na (max a.length b.length) 0 0 [] (by omega) (by omega) (by omega) rfl Ds.nil (by simp [V])
    refine ⟨K, n, d, fun e => ?_, ?_, k3⟩
    · unfold clevisref01_Add.f
      rw [if_pos (by simp)]
      exact k1 e
    · have : (if na = true then -(V a + V b) else V a + V b) = x + y := by
        cases na <;> simp at vx vy ⊢ <;> omega
      rw [this] at k2
      exact k2
  · have hne : ¬ (na == nb) = true := by simpa using hs
    obtain ⟨K0, hK0⟩ := size_f a b ha.ds hb.ds ha.top hb.top (by omega) (by omega)
    by_cases hlt : V a < V b
    · have hll : a.length ≤ b.length := len_le ha.ds ha.top hb.ds (by omega)
      obtain ⟨K, n, d, k1, k2, k3⟩ := sub_l1 b a hb.ds ha.ds hlb hll (by omega) nb na nb b.length 0 0 [] (by omega) (by omega) (by omega) rfl Ds.nil (by simp [V])
      refine ⟨K0 + K, n, d, fun e => ?_, ?_, by omega⟩
      · unfold clevisref01_Add.f
        rw [if_neg hne, show K0 + K + e = K0 + (K + e) by omega, hK0, Option.bind_some, if_pos (by unfold sgn; rw [if_pos hlt]; decide), show K0 + (K + e) = K + (K0 + e) by omega]
        exact k1 (K0 + e)
      · have : (if nb = true then -(V b - V a) else V b - V a) = x + y := by
          cases na <;> cases nb <;> simp at vx vy hs ⊢ <;> omega
        rw [this] at k2
        exact k2
    · have hll : b.length ≤ a.length := len_le hb.ds hb.top ha.ds (by omega)
      obtain ⟨K, n, d, k1, k2, k3⟩ := sub_l102 a b ha.ds hb.ds hla hll (by omega) na nb na a.length 0 0 [] (by omega) (by omega) (by omega) rfl Ds.nil (by simp [V])
      refine ⟨K0 + K, n, d, fun e => ?_, ?_, by omega⟩
      · unfold clevisref01_Add.f
        rw [if_neg hne, show K0 + K + e = K0 + (K + e) by omega, hK0, Option.bind_some, if_neg (by unfold sgn; rw [if_neg hlt]; split <;> decide), show K0 + (K + e) = K + (K0 + e) by omega]
        exact k1 (K0 + e)
      · have : (if na = true then -(V a - V b) else V a - V b) = x + y := by
          cases na <;> cases nb <;> simp at vx vy hs ⊢ <;> omega
        rw [this] at k2
        exact k2
end Go.Proofs.Ytfbkgfffalppmaa.Fc
end
section
namespace Go.Proofs.Ytfbkgfffalppmaa.Fc
set_option linter.unusedSimpArgs false
set_option linter.unusedVariables false
open Go Go.RowKit Go.Proofs.Ytfbkgfffalppmaa.Wf Go.Proofs.YtfbkgfffalppmaaW.PrintWords Go.Proofs.Ytfbkgfffalppmaa.Fv
theorem V_set (d : List Int) (i : Nat) (x : Int) (h : i < d.length) : V (d.set i x) = V d + B i * (x - d.getD i 0) := by
  have h1 : d = d.take i ++ d.getD i 0 :: d.drop (i + 1) := by
    rw [List.getD_eq_getElem?_getD, List.getElem?_eq_getElem h, Option.getD_some, ← List.drop_eq_getElem_cons h, List.take_append_drop]
  have h2 : d.set i x = d.take i ++ x :: d.drop (i + 1) := by rw [List.set_eq_take_append_cons_drop, if_pos h]
  have h3 : V d = V (d.take i ++ d.getD i 0 :: d.drop (i + 1)) := by rw [← h1]
  rw [h2, h3, V_append, V_append, List.length_take, Nat.min_eq_left (by omega)]
  simp only [V]
  rw [Int.mul_add, Int.mul_add, Int.mul_sub]
  omega
theorem Ds.set {d : List Int} (h : Ds d) (i : Nat) {x : Int} (hx : Dg x) : Ds (d.set i x) := fun y hy => by
  rcases List.mem_or_eq_of_mem_set hy with q | q
  · exact h y q
  · rw [q]; exact hx
section
variable (a b : List Int) (ha : Ds a) (hb : Ds b) (hla : a.length ≤ 400000) (hlb : b.length ≤ 400000) (na nb no : Bool) (P : Bool × List Int → Prop)
include ha hb hla hlb
end
end Go.Proofs.Ytfbkgfffalppmaa.Fc
end
section
namespace Go.Proofs.Ytfbkgfffalppmaa.Fc
set_option linter.unusedSimpArgs false
set_option linter.unusedVariables false
open Go Go.RowKit Go.Proofs.Ytfbkgfffalppmaa.Wf Go.Proofs.YtfbkgfffalppmaaW.PrintWords Go.Proofs.Ytfbkgfffalppmaa.Fv
theorem V_zeros : ∀ n, V (List.replicate n 0) = 0
  | 0 => rfl
  | n + 1 => by rw [List.replicate_succ]; simp only [V]; rw [V_zeros n]; omega
end Go.Proofs.Ytfbkgfffalppmaa.Fc
end
section
namespace Go.Proofs.Ytfbkgfffalppmaa.Fc
set_option linter.unusedSimpArgs false
set_option linter.unusedVariables false
open Go Go.RowKit Go.Proofs.Ytfbkgfffalppmaa.Wf Go.Proofs.YtfbkgfffalppmaaW.PrintWords Go.Proofs.Ytfbkgfffalppmaa.Fv
theorem wn (n : Nat) (h : n ≤ 1000000000) : wrap64 ((n : Int) + 1) = ((n + 1 : Nat) : Int) := by unfold wrap64; omega
theorem w64' (m : Nat) (h : m ≤ 1000000000) : wrap64 (((m + 1 : Nat) : Int) - 1) = (m : Int) := by unfold wrap64; omega
theorem B4 : B 4 = 18446744073709551616 := by rw [B_succ, B_succ, B_succ, B_succ, B_zero]; rfl
theorem B8 : B 8 = 340282366920938463463374607431768211456 := by rw [B_add 4 4, B4]; rfl
theorem B3 : B 3 = 281474976710656 := by rw [B_succ, B_succ, B_succ, B_zero]; rfl
theorem words_l0 (a0 : Int) : ∀ (n i : Nat) (a : Int) (l : List Int), i + n = 4 → 0 ≤ a → a < 18446744073709551616 → Ds l → l.length = i → V l + B i * a = a0 → ∃ K l', (∀ e, clevisref01_words.l0 (K + e) a 4 l (i : Int) = some l') ∧ Ds l' ∧ l'.length = 4 ∧ ∃ r, V l' + B 4 * r = a0 ∧ 0 ≤ r
  | 0, i, a, l, hi, h0, h1, hd, hl, hv => by
    have e1 : i = 4 := by omega
    subst e1
    refine ⟨1, l, fun e => ?_, hd, hl, a, hv, h0⟩
    rw [show 1 + e = e + 1 by omega, clevisref01_words.l0, if_neg (by omega)]
  | n + 1, i, a, l, hi, h0, h1, hd, hl, hv => by
    have hs : V (l ++ [a % 65536]) + B (i + 1) * (a / 65536) = a0 := by
      rw [V_snoc, hl, B_succ]
      have h2 : a % 65536 + 65536 * (a / 65536) = a := by omega
      have h3 : B i * (a % 65536) + 65536 * B i * (a / 65536) = B i * a := by
        rw [Int.mul_comm 65536 (B i), Int.mul_assoc, ← Int.mul_add, h2]
      rw [Int.add_assoc, h3]
      exact hv
    clear hv
    have hq0 : 0 ≤ a / 65536 := by omega
    have hq1 : a / 65536 < 18446744073709551616 := by omega
    obtain ⟨K, l', k1, k2⟩ := words_l0 a0 n (i + 1) (a / 65536) (l ++ [a % 65536]) (by omega) hq0 hq1 (hd.snoc ⟨by omega, by omega⟩) (by simp [hl]) hs
    clear hs
    refine ⟨K + 1, l', fun e => ?_, k2⟩
    have ha : IntKind.u64.wrap (Int.tdiv a 65536) = a / 65536 := by rw [Int.tdiv_eq_ediv_of_nonneg h0, IntKind.wrap_u64]; omega
    have hb : wrap64 (Int.tmod a 65536) = a % 65536 := by rw [Int.tmod_eq_emod_of_nonneg h0]; exact w64 (by omega) (by omega)
    rw [show K + 1 + e = (K + e) + 1 by omega, clevisref01_words.l0, if_pos (by omega), if_pos (by omega), ha, hb, wn i (by omega)]
    exact k1 e
theorem words_f (a : Int) (h0 : 0 ≤ a) (h1 : a < 18446744073709551616) : ∃ K l, (∀ e, clevisref01_words.f (K + e) a 4 = some l) ∧ Ds l ∧ l.length = 4 ∧ V l = a := by
  obtain ⟨K, l, k1, k2, k3, r, k4, k5⟩ := words_l0 a 4 0 a [] rfl h0 h1 Ds.nil rfl (by rw [B_zero]; simp [V])
  refine ⟨K, l, k1, k2, k3, ?_⟩
  have h2 := V_lt k2
  have h3 := V_nonneg k2
  rw [k3, B4] at h2
  rw [B4] at k4
  omega
theorem bits_neg (w : List Int) (hw : Ds w) (hl : w.length ≤ 1000) : ∀ (n i : Nat) (more : Int) (out : List Int), i + n = w.length → 0 ≤ more → more ≤ 1 → Ds out → out.length = i → V out + B i * more = B i - V (w.take i) →
    ∃ K n' d', (∀ e, clevisref01_Bits.l0 (K + e) w more (i : Int) true out = some (n', d')) ∧ Nm (V w - B w.length) n' d' ∧ d'.length ≤ w.length + 1
  | 0, i, more, out, hi, h0, h1, hd, ho, hv => by
    have e1 : i = w.length := by omega
    subst e1
    rw [List.take_length] at hv
    by_cases hm : more = 0
    · subst hm
      rw [Int.mul_zero, Int.add_zero] at hv
      obtain ⟨K, n', d', k1, k2, k3⟩ := clean_good true out hd (by omega) _ rfl
      refine ⟨K + 1, n', d', fun e => ?_, ?_, by omega⟩
      · rw [show K + 1 + e = (K + e) + 1 by omega, clevisref01_Bits.l0, if_neg (by omega), if_pos rfl, if_neg (by omega), k1 e]
        rfl
      · unfold val at k2
        rw [if_pos rfl, hv] at k2
        rw [show V w - B w.length = -(B w.length - V w) by omega]
        exact k2
    · have hm1 : more = 1 := by clear hv; omega
      subst hm1
      have hvo : V (out ++ [1]) = B w.length - V w := by rw [V_snoc, ho]; exact hv
      clear hv
      obtain ⟨K, n', d', k1, k2, k3⟩ := clean_good true (out ++ [1]) (hd.snoc ⟨by omega, by omega⟩) (by simp; omega) _ rfl
      refine ⟨K + 1, n', d', fun e => ?_, ?_, by simp at k3; omega⟩
      · rw [show K + 1 + e = (K + e) + 1 by omega, clevisref01_Bits.l0, if_neg (by omega), if_pos rfl, if_pos (by omega), if_pos (by omega), k1 e]
        rfl
      · unfold val at k2
        rw [if_pos rfl, hvo] at k2
        rw [show V w - B w.length = -(B w.length - V w) by omega]
        exact k2
  | n + 1, i, more, out, hi, h0, h1, hd, ho, hv => by
    have pw := hw.at i
    unfold Dg at pw
    have vw := V_take_succ w i
    generalize hp : w.getD i 0 = p at *
    have hs : V (out ++ [(65535 - p + more) % 65536]) + B (i + 1) * ((65535 - p + more) / 65536) = B (i + 1) - V (w.take (i + 1)) := by
      rw [V_snoc, ho, B_succ, vw]
      have h2 : (65535 - p + more) % 65536 + 65536 * ((65535 - p + more) / 65536) = 65536 * 1 - p + (more - 1) := by omega
      have h3 : B i * ((65535 - p + more) % 65536) + 65536 * B i * ((65535 - p + more) / 65536) = 65536 * B i - B i * p + (B i * more - B i) := by
        rw [Int.mul_comm 65536 (B i), Int.mul_assoc, ← Int.mul_add, h2, Int.mul_add, Int.mul_sub, Int.mul_sub, Int.mul_one, Int.mul_one]
      generalize B i * ((65535 - p + more) % 65536) = z1 at *
      generalize 65536 * B i * ((65535 - p + more) / 65536) = z2 at *
      generalize B i * p = z3 at *
      generalize B i * more = z4 at *
      generalize B i = z5 at *
      omega
    clear hv vw
    obtain ⟨K, n', d', k1, k2, k3⟩ := bits_neg w hw hl n (i + 1) ((65535 - p + more) / 65536) (out ++ [(65535 - p + more) % 65536]) (by omega) (by omega) (by omega) (hd.snoc ⟨by omega, by omega⟩) (by simp [ho]) hs
    clear hs
    refine ⟨K + 1, n', d', fun e => ?_, k2, k3⟩
    have hnn : 0 ≤ 65535 - p + more := by omega
    rw [show K + 1 + e = (K + e) + 1 by omega, clevisref01_Bits.l0, if_pos (by omega), if_pos (by omega), if_pos rfl, if_pos (by omega), rd_at, hp, w64 (n := 65535 - p) (by omega) (by omega), w64 (n := 65535 - p + more) (by omega) (by omega), Int.tdiv_eq_ediv_of_nonneg hnn, Int.tmod_eq_emod_of_nonneg hnn, w64 (n := (65535 - p + more) / 65536) (by omega) (by omega), wn i (by omega)]
    exact k1 e
theorem bits_pos (w : List Int) (hw : Ds w) (hl : w.length ≤ 1000) : ∀ (n i : Nat) (out : List Int), i + n = w.length → out = w.take i →
    ∃ K n' d', (∀ e, clevisref01_Bits.l0 (K + e) w 1 (i : Int) false out = some (n', d')) ∧ Nm (V w) n' d' ∧ d'.length ≤ w.length + 1
  | 0, i, out, hi, ho => by
    rw [List.take_of_length_le (by omega)] at ho
    subst ho
    obtain ⟨K, n', d', k1, k2, k3⟩ := clean_good false out hw (by omega) _ rfl
    refine ⟨K + 1, n', d', fun e => ?_, k2, by omega⟩
    rw [show K + 1 + e = (K + e) + 1 by omega, clevisref01_Bits.l0, if_neg (by omega), if_neg (by simp), k1 e]
    rfl
  | n + 1, i, out, hi, ho => by
    have hil : i < w.length := by omega
    have hs : out ++ [w.getD i 0] = w.take (i + 1) := by
      rw [ho, List.take_add_one, List.getElem?_eq_getElem hil, List.getD_eq_getElem?_getD, List.getElem?_eq_getElem hil]
      rfl
    obtain ⟨K, n', d', k1, k2, k3⟩ := bits_pos w hw hl n (i + 1) _ (by omega) hs
    have hol : out.length = i := by rw [ho, List.length_take]; omega
    refine ⟨K + 1, n', d', fun e => ?_, k2, k3⟩
    rw [show K + 1 + e = (K + e) + 1 by omega, clevisref01_Bits.l0, if_pos (by omega), if_pos (by omega), if_neg (by simp), if_pos (by omega), rd_at, wn i (by omega)]
    exact k1 e
theorem Bits_f (w : List Int) (hw : Ds w) (m : Nat) (hm : w.length = m + 1) (hl : w.length ≤ 1000) : ∃ K n d, (∀ e, clevisref01_Bits.f (K + e) w = some (n, d)) ∧ Nm (if B m * 32768 ≤ V w then V w - B w.length else V w) n d ∧ d.length ≤ w.length + 1 := by
  have vw := V_take_succ w m
  rw [List.take_of_length_le (by omega)] at vw
  have hlt := take_lt hw m
  have hnn := V_nonneg (hw.take m)
  have hB := B_pos m
  have hwx : wrap64 ((w.length : Int) - 1) = ((m : Nat) : Int) := by rw [hm]; exact w64' m (by omega)
  by_cases h : w.getD m 0 ≥ 32768
  · obtain ⟨K, n, d, k1, k2, k3⟩ := bits_neg w hw hl w.length 0 1 [] (by omega) (by omega) (by omega) Ds.nil rfl (by simp [V, B_zero])
    refine ⟨K, n, d, fun e => ?_, ?_, k3⟩
    · unfold clevisref01_Bits.f
      rw [hwx, rd_at, if_pos (by omega), if_pos (by omega), if_pos h]
      exact k1 e
    · have h2 : B m * 32768 ≤ B m * w.getD m 0 := Int.mul_le_mul_of_nonneg_left h (by omega)
      rw [if_pos (by generalize B m * w.getD m 0 = z at *; omega)]
      exact k2
  · obtain ⟨K, n, d, k1, k2, k3⟩ := bits_pos w hw hl w.length 0 [] (by omega) (by simp)
    refine ⟨K, n, d, fun e => ?_, ?_, k3⟩
    · unfold clevisref01_Bits.f
      rw [hwx, rd_at, if_pos (by omega), if_pos (by omega), if_neg h]
      exact k1 e
    · have h2 : B m * (w.getD m 0 + 1) ≤ B m * 32768 := Int.mul_le_mul_of_nonneg_left (by omega) (by omega)
      rw [Int.mul_add, Int.mul_one] at h2
      rw [if_neg (by generalize B m * w.getD m 0 = z at *; omega)]
      exact k2
end Go.Proofs.Ytfbkgfffalppmaa.Fc
end
section
namespace Go.Proofs.Ytfbkgfffalppmaa.Fc
set_option linter.unusedSimpArgs false
set_option linter.unusedVariables false
open Go Go.RowKit Go.Proofs.Ytfbkgfffalppmaa.Wf Go.Proofs.YtfbkgfffalppmaaW.PrintWords Go.Proofs.Ytfbkgfffalppmaa.Fv
def Tells (f : Nat → Option (Bool × List Int)) (v : Int) (m : Nat) : Prop := ∃ K n d, (∀ e, f (K + e) = some (n, d)) ∧ Nm v n d ∧ d.length ≤ m
theorem Narrow_f (a : Int) (h0 : -9223372036854775808 ≤ a) (h1 : a ≤ 9223372036854775807) : Tells (fun k => clevisref01_Narrow.f k a) a 5 := by
  have hu : 0 ≤ IntKind.u64.wrap a ∧ IntKind.u64.wrap a < 18446744073709551616 := by rw [IntKind.wrap_u64]; omega
  have hue : IntKind.u64.wrap a = if a < 0 then a + 18446744073709551616 else a := by rw [IntKind.wrap_u64]; split <;> omega
  obtain ⟨K1, l, k1, k2, k3, k4⟩ := words_f _ hu.1 hu.2
  obtain ⟨K2, n, d, j1, j2, j3⟩ := Bits_f l k2 3 k3 (by omega)
  refine ⟨K1 + K2, n, d, fun e => ?_, ?_, by omega⟩
  · show clevisref01_Narrow.f (K1 + K2 + e) a = _
    unfold clevisref01_Narrow.f
    rw [show K1 + K2 + e = K1 + (K2 + e) by omega, k1, Option.bind_some, show K1 + (K2 + e) = K2 + (K1 + e) by omega, j1]
    rfl
  · have : (if B 3 * 32768 ≤ V l then V l - B l.length else V l) = a := by
      rw [k3, B3, B4, k4, hue]
      split <;> split <;> omega
    rw [this] at j2
    exact j2
def W (hi lo : Int) : Int := hi * 18446744073709551616 + lo
theorem Small_f (a : Int) (h0 : -1000000000 ≤ a) (h1 : a ≤ 1000000000) : Tells (fun k => clevisref01_Small.f k a) a 3 := by
  have key : ∀ (neg : Bool) (x : Int), 0 ≤ x → x ≤ 1000000000 → Tells (fun k => (clevisref01_clean.f k neg (([Int.tmod x 65536, Int.tmod (wrap64 (Int.tdiv x 65536)) 65536, wrap64 (Int.tdiv (wrap64 (Int.tdiv x 65536)) 65536)] : List Int))).bind fun bt => (some (bt.1, bt.2))) (if neg = true then -x else x) 3 := by
    intro neg x x0 x1
    have hq : 0 ≤ x / 65536 := by omega
    have e1 : Int.tmod x 65536 = x % 65536 := Int.tmod_eq_emod_of_nonneg x0
    have e2 : wrap64 (Int.tdiv x 65536) = x / 65536 := by rw [Int.tdiv_eq_ediv_of_nonneg x0]; exact w64 (by omega) (by omega)
    have e3 : Int.tmod (x / 65536) 65536 = x / 65536 % 65536 := Int.tmod_eq_emod_of_nonneg hq
    have e4 : wrap64 (Int.tdiv (x / 65536) 65536) = x / 65536 / 65536 := by rw [Int.tdiv_eq_ediv_of_nonneg hq]; exact w64 (by omega) (by omega)
    rw [e1, e2, e3, e4]
    have hd : Ds [x % 65536, x / 65536 % 65536, x / 65536 / 65536] := fun y hy => by
      simp at hy
      unfold Dg
      omega
    obtain ⟨K, n, d, k1, k2, k3⟩ := clean_good neg _ hd (by simp) _ rfl
    refine ⟨K, n, d, fun e => ?_, ?_, k3⟩
    · show (clevisref01_clean.f (K + e) neg _).bind _ = _
      rw [k1 e]
      rfl
    · have hv : V [x % 65536, x / 65536 % 65536, x / 65536 / 65536] = x := by simp only [V]; omega
      unfold val at k2
      rw [hv] at k2
      exact k2
  by_cases hneg : a < 0
  · obtain ⟨K, n, d, k1, k2, k3⟩ := key true (-a) (by omega) (by omega)
    refine ⟨K, n, d, fun e => ?_, ?_, k3⟩
    · show clevisref01_Small.f (K + e) a = _
      unfold clevisref01_Small.f
      rw [if_pos hneg, w64 (n := -a) (by omega) (by omega)]
      exact k1 e
    · rw [if_pos rfl, Int.neg_neg] at k2
      exact k2
  · obtain ⟨K, n, d, k1, k2, k3⟩ := key false a (by omega) (by omega)
    refine ⟨K, n, d, fun e => ?_, ?_, k3⟩
    · show clevisref01_Small.f (K + e) a = _
      unfold clevisref01_Small.f
      rw [if_neg hneg]
      exact k1 e
    · rw [if_neg (by simp)] at k2
      exact k2
theorem power_f (q : Nat) (hq : q ≤ 8) (less : Int) (h0 : 0 ≤ less) (h1 : less ≤ 1) : Tells (fun k => clevisref01_power.f k ((16 * q + 15 : Nat) : Int) less) (B q * 32768 - less) 10 := by
  have e1 : wrap64 (Int.tdiv ((16 * q + 15 : Nat) : Int) 16) = (q : Int) := by
    rw [Int.tdiv_eq_ediv_of_nonneg (by omega)]
    have : ((16 * q + 15 : Nat) : Int) / 16 = (q : Int) := by omega
    rw [this]
    exact w64 (by omega) (by omega)
  have e2 : wrap64 ((q : Int) + 1) = ((q + 1 : Nat) : Int) := wn q (by omega)
  have e3 : Int.tmod ((16 * q + 15 : Nat) : Int) 16 = 15 := by rw [Int.tmod_eq_emod_of_nonneg (by omega)]; omega
  have e4 : shl .i64 1 15 = 32768 := by decide
  have e5 : wrap64 (-less) = -less := w64 (by omega) (by omega)
  have hz : Ds (List.replicate (q + 1) 0) := fun z hz => by rw [(List.mem_replicate.1 hz).2]; exact ⟨by omega, by omega⟩
  have hd : Ds ((List.replicate (q + 1) 0).set q 32768) := Ds.set hz _ ⟨by omega, by omega⟩
  have hl : ((List.replicate (q + 1) (0 : Int)).set q 32768).length = q + 1 := by simp
  have hv : V ((List.replicate (q + 1) (0 : Int)).set q 32768) = B q * 32768 := by
    rw [V_set _ _ _ (by simp), V_zeros, List.getD_eq_getElem?_getD, List.getElem?_replicate, if_pos (by omega)]
    simp
  have hn : Nm (B q * 32768) false ((List.replicate (q + 1) (0 : Int)).set q 32768) := by
    refine ⟨hd, fun h => ?_, fun h => (by cases h), ?_, by omega⟩
    · rw [getLast_getD _ h, hl, Nat.add_sub_cancel, List.getD_eq_getElem?_getD, List.getElem?_set, if_pos rfl, if_pos (by simp)]
      simp
    · unfold val
      rw [if_neg (by simp), hv]
  obtain ⟨K1, n1, d1, k1, k2, k3⟩ := Small_f (-less) (by omega) (by omega)
  obtain ⟨K2, n, d, j1, j2, j3⟩ := Add_f hn k2 (by omega) (by omega)
  refine ⟨K1 + K2, n, d, fun e => ?_, ?_, by omega⟩
  · show clevisref01_power.f (K1 + K2 + e) _ less = _
    unfold clevisref01_power.f
    have k4 := k1 (K2 + e)
    rw [e1, e2, e3, e4, e5, Int.toNat_natCast, Int.toNat_natCast, if_pos (by omega), if_pos (by omega), Option.bind_some, if_pos (by omega), if_pos (by omega), if_pos (by rw [List.length_replicate]; omega), show K1 + K2 + e = K1 + (K2 + e) by omega]
    show ((clevisref01_Small.f (K1 + (K2 + e)) (-less)).bind _) = _
    rw [show clevisref01_Small.f (K1 + (K2 + e)) (-less) = some (n1, d1) from k4, Option.bind_some, show K1 + (K2 + e) = K2 + (K1 + e) by omega, j1]
    rfl
  · rw [Int.sub_eq_add_neg]
    exact j2
theorem Fits_f {v : Int} {n : Bool} {d : List Int} (h : Nm v n d) (q : Nat) (hq : q ≤ 8) : ∃ K, ∀ e, clevisref01_Fits.f (K + e) n d ((16 * q + 16 : Nat) : Int) = some (decide (-(B q * 32768) ≤ v ∧ v ≤ B q * 32768 - 1)) := by
  have e1 : wrap64 (((16 * q + 16 : Nat) : Int) - 1) = ((16 * q + 15 : Nat) : Int) := by rw [w64 (by omega) (by omega)]; omega
  have hB := B_pos q
  have hv := h.val
  unfold val at hv
  have hab := h.abs
  cases hn : n
  · subst hn
    have hp := h.pos rfl
    obtain ⟨K1, n1, d1, k1, k2, k3⟩ := power_f q hq 1 (by omega) (by omega)
    obtain ⟨K2, hK2⟩ := size_f d d1 h.ds k2.ds h.top k2.top h.len k2.len
    refine ⟨K1 + K2, fun e => ?_⟩
    have hab1 := k2.abs
    unfold clevisref01_Fits.f
    rw [if_neg (by simp), e1, show K1 + K2 + e = K1 + (K2 + e) by omega, show clevisref01_power.f (K1 + (K2 + e)) ((16 * q + 15 : Nat) : Int) 1 = some (n1, d1) from k1 (K2 + e), Option.bind_some, show K1 + (K2 + e) = K2 + (K1 + e) by omega, hK2, Option.bind_some]
    clear e1
    unfold sgn
    generalize B q = z at *
    congr 1
    rw [decide_eq_decide]
    (repeat' split) <;> omega
  · subst hn
    have hp := h.zero rfl
    obtain ⟨K1, n1, d1, k1, k2, k3⟩ := power_f q hq 0 (by omega) (by omega)
    obtain ⟨K2, hK2⟩ := size_f d d1 h.ds k2.ds h.top k2.top h.len k2.len
    refine ⟨K1 + K2, fun e => ?_⟩
    have hab1 := k2.abs
    unfold clevisref01_Fits.f
    rw [if_pos rfl, e1, show K1 + K2 + e = K1 + (K2 + e) by omega, show clevisref01_power.f (K1 + (K2 + e)) ((16 * q + 15 : Nat) : Int) 0 = some (n1, d1) from k1 (K2 + e), Option.bind_some, show K1 + (K2 + e) = K2 + (K1 + e) by omega, hK2, Option.bind_some]
    clear e1
    unfold sgn
    generalize B q = z at *
    congr 1
    rw [decide_eq_decide]
    (repeat' split) <;> omega
theorem fits64 {v : Int} {n : Bool} {d : List Int} (h : Nm v n d) : ∃ K, ∀ e, clevisref01_Fits.f (K + e) n d 64 = some (decide (-9223372036854775808 ≤ v ∧ v ≤ 9223372036854775807)) := by
  obtain ⟨K, hK⟩ := Fits_f h 3 (by omega)
  refine ⟨K, fun e => ?_⟩
  have := hK e
  rw [B3] at this
  exact this
end Go.Proofs.Ytfbkgfffalppmaa.Fc
end
