/- What the printed functions of ident and of the document answer: plain. -/
import Derived.Test.YtebdjhgboeadgaaJb
import Derived.Test.YtebdjhgboeadgaaId
namespace Go.Proofs.Ytebdjhgboeadgaa.Jc
set_option linter.unusedSimpArgs false
set_option linter.unusedVariables false
open Go Go.RowKit Go.Proofs.YtebdjhgboeadgaaW.PrintWords Go.Proofs.YtebdjhgboeadgaaW.PrintLast Go.Proofs.Ytebdjhgboeadgaa.Ja Go.Proofs.Ytebdjhgboeadgaa.Jb Go.Proofs.Ytebdjhgboeadgaa.Id
theorem great_f (c : Int) : ident_great.f c = some (isG c) := by
  unfold ident_great.f isG
  by_cases h : c ≥ 65
  · rw [if_pos h]; simp [h]
  · rw [if_neg h]; simp; omega
theorem digit_f (c : Int) : ident_digit.f c = some (isD c) := by
  unfold ident_digit.f isD
  by_cases h : c ≥ 48
  · rw [if_pos h]; simp [h]
  · rw [if_neg h]; simp; omega
theorem letter_f (c : Int) : clevisref02_letter.f c 65 = some (isG c) := by
  unfold clevisref02_letter.f isG
  by_cases h : c ≥ 65
  · rw [if_pos h]; simp [h]
  · rw [if_neg h]; simp; omega
theorem rdigit_f (c : Int) : clevisref02_digit.f c = some (isD c) := by
  unfold clevisref02_digit.f isD
  by_cases h : c ≥ 48
  · rw [if_pos h]; simp [h]
  · rw [if_neg h]; simp; omega
/-- May n bytes from i on stand there? -/
def allOk (s : ByteArray) : Nat → Nat → Bool
  | _, 0 => true
  | i, n + 1 => okAt i (bt s i) && allOk s (i + 1) n
theorem rd_bytes (s : ByteArray) (i : Nat) : rd (bytesOf s) i = bt s i := by
  simp only [rd, bytesOf, bt, Int.toNat_natCast]
  by_cases h : i < s.size
  · rw [dif_pos h, List.getD_eq_getElem?_getD, List.getElem?_map]
    have h' : i < s.data.toList.length := by simpa using h
    rw [List.getElem?_eq_getElem h']
    rfl
  · rw [dif_neg h, List.getD_eq_getElem?_getD, List.getElem?_map]
    have h' : s.data.toList.length ≤ i := by simpa using h
    rw [List.getElem?_eq_none h']
    rfl
theorem bytes_length (s : ByteArray) : (bytesOf s).length = s.size := by simp [bytesOf]
theorem body_l0 (s : ByteArray) (h11 : s.size = 11) (k : Nat) : ∀ n i : Nat, i + n = 11 → ident_body.l0 (n + 1 + k) (bytesOf s) 11 i = some (allOk s i n)
  | 0, i, h => by
    rw [show 0 + 1 + k = k + 1 by omega, ident_body.l0, if_neg (by omega)]
    rfl
  | n + 1, i, h => by
    have hw : wrap64 ((i : Int) + 1) = ((i + 1 : Nat) : Int) := by unfold wrap64; omega
    have ih := body_l0 s h11 k n (i + 1) (by omega)
    rw [show n + 1 + 1 + k = (n + 1 + k) + 1 by omega, ident_body.l0, if_pos (by omega), if_pos (by omega), if_pos (by rw [bytes_length]; omega)]
    simp only [rd_bytes, great_f, digit_f, Option.bind_some, hw, ih, allOk, okAt]
    cases isG (bt s i) <;> cases isD (bt s i) <;> by_cases h2 : (i : Int) < 2 <;> simp [h2] <;> omega
theorem body_f (s : ByteArray) (h11 : s.size = 11) : ident_body.f 20 s = some (allOk s 0 11) := by
  have h := body_l0 s h11 8 11 0 (by omega)
  unfold ident_body.f
  rw [if_pos (by omega), if_pos (by omega)]
  simp only [Option.bind_some, bytes_length, h11]
  exact h
theorem body_f' (s : ByteArray) (h : s.size ≠ 11) : ident_body.f 20 s = some false := by
  unfold ident_body.f
  rw [if_neg (by omega)]
theorem ref_l2 (f : Int) (h0 : 0 ≤ f) (h1 : f ≤ 1000) (k : Nat) (r : Nat) (hr : (r : Int) = (10 - f % 10) % 10) : ∀ n c : Nat, c + n = r → clevisref02_Digit.l2 (n + 1 + k) f c = some (r : Int)
  | 0, c, h => by
    rw [show 0 + 1 + k = k + 1 by omega, clevisref02_Digit.l2, if_pos (by omega), w64 (by omega), Int.tmod_eq_emod_of_nonneg (by omega), if_pos (by omega)]
    simp; omega
  | n + 1, c, h => by
    have hw : wrap64 ((c : Int) + 1) = ((c + 1 : Nat) : Int) := by unfold wrap64; omega
    rw [show n + 1 + 1 + k = (n + 1 + k) + 1 by omega, clevisref02_Digit.l2, if_pos (by omega), w64 (n := f + c) (by omega), Int.tmod_eq_emod_of_nonneg (by omega), if_neg (by omega), hw]
    exact ref_l2 f h0 h1 k r hr n (c + 1) (by omega)
theorem rd_nat (xs : List Int) (i : Nat) (h : i < xs.length) : rd xs i = xs[i] := by simp [rd, List.getD_eq_getElem?_getD, List.getElem?_eq_getElem h]
theorem F_range : ∀ xs : List Int, dig xs → 0 ≤ F xs ∧ F xs ≤ 9 * xs.length
  | [], _ => by simp [F]
  | x :: xs, h => by
    have h1 := wt_range (j := xs.length) (h x (by simp))
    have h2 := F_range xs (fun y hy => h y (by simp [hy]))
    simp only [F, List.length_cons]
    omega
theorem ref_l1 (xs : List Int) (hd : dig xs) (hl : xs.length ≤ 50) (k : Nat) : ∀ (n i : Nat) (sum : Int), i + n = xs.length → 0 ≤ sum → sum ≤ 9 * i → clevisref02_Digit.l1 (n + 1 + k) xs sum i = clevisref02_Digit.l2 k (sum + F (xs.drop i)) 0
  | 0, i, sum, h, _, _ => by
    rw [show 0 + 1 + k = k + 1 by omega, clevisref02_Digit.l1, if_neg (by omega), List.drop_of_length_le (by omega)]
    simp [F]
  | n + 1, i, sum, h, h0, h1 => by
    have hi : i < xs.length := by omega
    have hw : wrap64 ((i : Int) + 1) = ((i + 1 : Nat) : Int) := by unfold wrap64; omega
    have hx := hd xs[i] (List.getElem_mem hi)
    have hwt := wt_range (j := (xs.drop (i + 1)).length) hx
    have ih := ref_l1 xs hd hl k n (i + 1) (sum + wt (xs.drop (i + 1)).length xs[i]) (by omega) (by omega) (by push_cast; omega)
    have hF : F (xs.drop i) = wt (xs.drop (i + 1)).length xs[i] + F (xs.drop (i + 1)) := by rw [List.drop_eq_getElem_cons hi, F]
    rw [show n + 1 + 1 + k = (n + 1 + k) + 1 by omega, clevisref02_Digit.l1, if_pos (by omega), if_pos (by omega)]
    rw [w64 (n := (xs.length : Int) - i) (by omega), Int.tmod_eq_emod_of_nonneg (by omega), rd_nat xs i hi, w64 (n := 2 * xs[i]) (by omega), w64 (n := 2 * xs[i] - 9) (by omega), hw]
    rw [hF, ← Int.add_assoc, ← ih]
    have hln : (xs.drop (i + 1)).length = xs.length - (i + 1) := List.length_drop
    rw [hln] at hwt ⊢
    unfold wt at hwt ⊢
    by_cases hp : ((xs.length : Int) - i) % 2 = 1
    · rw [if_pos hp]
      have hp2 : (xs.length - (i + 1)) % 2 = 0 := by omega
      rw [if_pos hp2] at hwt ⊢
      by_cases h9 : 2 * xs[i] > 9
      · rw [if_pos h9]
        rw [if_pos h9] at hwt ⊢
        rw [w64 (by omega)]
      · rw [if_neg h9]
        rw [if_neg h9] at hwt ⊢
        rw [w64 (by omega)]
    · rw [if_neg hp]
      have hp2 : ¬ (xs.length - (i + 1)) % 2 = 0 := by omega
      rw [if_neg hp2] at hwt ⊢
      rw [w64 (by omega)]
theorem ref_l0 (s : ByteArray) (h11 : s.size = 11) (k : Nat) : ∀ (n i : Nat) (acc : List Int), i + n = 11 → acc.length ≤ 2 * i → clevisref02_Digit.l0 (n + 1 + k) s acc i = if allOk s i n = true then clevisref02_Digit.l1 k (acc ++ row s i n) 0 0 else some (-1)
  | 0, i, acc, h, _ => by
    rw [show 0 + 1 + k = k + 1 by omega, clevisref02_Digit.l0, if_neg (by omega)]
    simp [allOk, row]
  | n + 1, i, acc, h, ha => by
    have hw : wrap64 ((i : Int) + 1) = ((i + 1 : Nat) : Int) := by unfold wrap64; omega
    have hr := bt_range s i
    have ih := fun acc' => ref_l0 s h11 k n (i + 1) acc' (by omega)
    rw [show n + 1 + 1 + k = (n + 1 + k) + 1 by omega, clevisref02_Digit.l0, if_pos (by omega), if_pos (by omega), if_pos (by omega)]
    simp only [letter_f, rdigit_f, Option.bind_some, hw, row]
    by_cases hg : isG (bt s i) = true
    · have h1 : 65 ≤ bt s i ∧ bt s i ≤ 90 := by simpa [isG] using hg
      have he : ed (bt s i) = [(bt s i - 55) / 10, (bt s i - 55) % 10] := by unfold ed; rw [if_pos hg]
      have hA : allOk s i (n + 1) = allOk s (i + 1) n := by simp [allOk, okAt, hg]
      rw [if_pos hg, w64 (n := bt s i) (by omega), w64 (n := bt s i - 55) (by omega), Int.tdiv_eq_ediv_of_nonneg (by omega), Int.tmod_eq_emod_of_nonneg (by omega), w64 (by omega), if_pos (by simp; omega), ih _ (by simp; omega), he, hA, List.append_assoc]
    · rw [if_neg hg]
      by_cases hd : isD (bt s i) = true
      · have h1 : 48 ≤ bt s i ∧ bt s i ≤ 57 := by simpa [isD] using hd
        have he : ed (bt s i) = [bt s i - 48] := by unfold ed; rw [if_neg hg]
        rw [if_pos hd]
        by_cases h2 : 2 ≤ i
        · have hA : allOk s i (n + 1) = allOk s (i + 1) n := by simp [allOk, okAt, hd, h2]
          rw [if_pos (by omega), if_pos (by omega), w64 (n := bt s i) (by omega), w64 (by omega), ih _ (by simp; omega), he, hA, List.append_assoc]
        · have hA : allOk s i (n + 1) = false := by simp [allOk, okAt, hg, h2]
          rw [if_neg (by omega), hA]
          simp
      · have hA : allOk s i (n + 1) = false := by simp [allOk, okAt, hg, hd]
        rw [if_neg hd, hA]
        simp
/-- May it be an ISIN's first eleven bytes? -/
def okS (s : ByteArray) : Bool := decide (s.size = 11) && allOk s 0 11
/-- The check digit. -/
def chk (s : ByteArray) : Int := (10 - F (row s 0 11) % 10) % 10
theorem allOk_at (s : ByteArray) : ∀ n i, allOk s i n = true → ∀ j, i ≤ j → j < i + n → okAt j (bt s j) = true
  | 0, i, _, j, h1, h2 => by omega
  | n + 1, i, h, j, h1, h2 => by
    simp only [allOk, Bool.and_eq_true] at h
    by_cases e : j = i
    · subst e; exact h.1
    · exact allOk_at s n (i + 1) h.2 j (by omega) (by omega)
theorem chk_range (s : ByteArray) : 0 ≤ chk s ∧ chk s ≤ 9 := by unfold chk; omega
theorem iDigit (s : ByteArray) : ident_Digit.f s = some (if okS s = true then (48 + chk s, 0) else (0, 3)) := by
  unfold ident_Digit.f
  by_cases h : s.size = 11
  · rw [body_f s h]
    cases hk : allOk s 0 11 with
    | true =>
      have e : okS s = true := by simp [okS, h, hk]
      simp only [Option.bind_some, e, if_true]
      rw [ckB_row s h (fun i hi => allOk_at s 11 0 hk i (Nat.zero_le _) (by omega))]
      rfl
    | false =>
      have e : okS s = false := by simp [okS, h, hk]
      simp [e]
  · rw [body_f' s h]
    have e : okS s = false := by simp [okS, h]
    simp [e]
theorem rDigit60 (s : ByteArray) : clevisref02_Digit.f 60 s = some (if okS s = true then chk s else -1) := by
  unfold clevisref02_Digit.f
  by_cases h : s.size = 11
  · rw [if_pos (by omega)]
    have h0 := ref_l0 s h 48 11 0 [] (by omega) (by simp)
    rw [show 11 + 1 + 48 = 60 by omega] at h0
    refine h0.trans ?_
    cases hk : allOk s 0 11 with
    | true =>
      have e : okS s = true := by simp [okS, h, hk]
      have hd := row_dig s (fun i hi => allOk_at s 11 0 hk i (Nat.zero_le _) (by omega)) 11 0 (by omega)
      have hl := row_length s 11 0
      have hF := F_range _ hd
      have h1 := ref_l1 (row s 0 11) hd (by omega) (47 - (row s 0 11).length) (row s 0 11).length 0 0 (by omega) (Int.le_refl _) (by omega)
      rw [show (row s 0 11).length + 1 + (47 - (row s 0 11).length) = 48 by omega] at h1
      simp only [if_true, List.nil_append, e]
      refine h1.trans ?_
      simp only [List.drop_zero, Int.zero_add]
      obtain ⟨r, hr⟩ := Int.eq_ofNat_of_zero_le (chk_range s).1
      have hr9 := (chk_range s).2
      rw [hr] at hr9 ⊢
      have h2 := ref_l2 (F (row s 0 11)) hF.1 (by omega) (47 - (row s 0 11).length - r - 1) r (by rw [← hr]; rfl) r 0 (by omega)
      rw [show r + 1 + (47 - (row s 0 11).length - r - 1) = 47 - (row s 0 11).length by omega] at h2
      exact h2
    | false =>
      have e : okS s = false := by simp [okS, h, hk]
      simp [e]
  · rw [if_neg (by omega)]
    have e : okS s = false := by simp [okS, h]
    simp [e]
theorem rDigit (s : ByteArray) (k : Nat) (hk : 60 ≤ k) : clevisref02_Digit.f k s = some (if okS s = true then chk s else -1) :=
  at_rounds (g := fun k => clevisref02_Digit.f k s) (fun k => clevisref02_Digit.mono s k) hk (rDigit60 s)
theorem known_f : clevislaw02_known.f 70 = some true := by kernel_rfl
end Go.Proofs.Ytebdjhgboeadgaa.Jc
