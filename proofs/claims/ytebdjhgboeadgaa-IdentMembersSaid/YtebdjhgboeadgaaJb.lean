/- The document's check digit and the program's are one: plain arithmetic. -/
import Derived.Test.YtebdjhgboeadgaaJa
namespace Go.Proofs.Ytebdjhgboeadgaa.Jb
set_option linter.unusedSimpArgs false
set_option linter.unusedVariables false
open Go Go.RowKit Go.Proofs.YtebdjhgboeadgaaW.PrintWords Go.Proofs.Ytebdjhgboeadgaa.Ja
/-- A digit's weight, at place j from the end. -/
def wt (j : Nat) (d : Int) : Int := if j % 2 = 0 then (if 2 * d > 9 then 2 * d - 9 else 2 * d) else d
def S : List Int → Nat → Int
  | [], _ => 0
  | x :: xs, j => wt j x + S xs (j + 1)
def dig (xs : List Int) : Prop := ∀ x ∈ xs, 0 ≤ x ∧ x ≤ 9
theorem wt_range {j : Nat} {d : Int} (h : 0 ≤ d ∧ d ≤ 9) : 0 ≤ wt j d ∧ wt j d ≤ 9 := by
  unfold wt
  split <;> (try split) <;> omega
theorem S_range : ∀ (xs : List Int) (j : Nat), dig xs → 0 ≤ S xs j ∧ S xs j ≤ 9 * xs.length
  | [], _, _ => by simp [S]
  | x :: xs, j, h => by
    have h1 := wt_range (j := j) (h x (by simp))
    have h2 := S_range xs (j + 1) (fun y hy => h y (by simp [hy]))
    simp only [S, List.length_cons]
    omega
theorem S_snoc : ∀ (ys : List Int) (x : Int) (j : Nat), S (ys ++ [x]) j = S ys j + wt (j + ys.length) x
  | [], x, j => by simp [S]
  | y :: ys, x, j => by
    simp only [List.cons_append, S, S_snoc ys x (j + 1), List.length_cons]
    rw [show j + 1 + ys.length = j + (ys.length + 1) by omega]
    omega
theorem w64 {n : Int} (h : -9223372036854775808 ≤ n ∧ n ≤ 9223372036854775807) : wrap64 n = n := by unfold wrap64; omega
theorem stp_eq (i : Nat) (sum x : Int) (hx : 0 ≤ x ∧ x ≤ 9) (hs : 0 ≤ sum ∧ sum ≤ 100000) : stp i sum x = sum + wt i x := by
  unfold stp gW wt
  by_cases he : i % 2 = 0
  · have h1 : (((i : Nat) : Int) % 2 == 0) = true := by simp; omega
    rw [if_pos h1, if_pos he]
    have e1 : wrap64 (x * 2) = 2 * x := by unfold wrap64; omega
    rw [e1, Int.tdiv_eq_ediv_of_nonneg (by omega), Int.tmod_eq_emod_of_nonneg (by omega), w64 (n := 2 * x / 10) (by omega), w64 (n := 2 * x / 10 + 2 * x % 10) (by omega), w64 (by omega)]
    split <;> omega
  · have h1 : ¬ (((i : Nat) : Int) % 2 == 0) = true := by simp; omega
    rw [if_neg h1, if_neg he]
    rw [Int.tdiv_eq_ediv_of_nonneg (by omega), Int.tmod_eq_emod_of_nonneg (by omega), w64 (n := x / 10) (by omega), w64 (n := x / 10 + x % 10) (by omega), w64 (by omega)]
    omega
theorem fold_eq : ∀ (xs : List Int) (a : Int) (i : Nat), dig xs → 0 ≤ a → a + 9 * xs.length ≤ 100000 → (xs.foldl (fun (a : Int × Nat) x => (stp a.2 a.1 x, a.2 + 1)) (a, i)).1 = a + S xs i
  | [], a, i, _, _, _ => by simp [S]
  | x :: xs, a, i, h, h0, h1 => by
    have hx := h x (by simp)
    have hw := wt_range (j := i) hx
    simp only [List.length_cons] at h1
    simp only [List.foldl_cons]
    rw [stp_eq i a x hx (by omega), fold_eq xs (a + wt i x) (i + 1) (fun y hy => h y (by simp [hy])) (by omega) (by omega)]
    simp only [S]
    omega
theorem sumW_eq (xs : List Int) (h : dig xs) (hl : xs.length ≤ 1000) : sumW xs = S xs 0 := by
  unfold sumW sumP
  rw [fold_eq xs 0 0 h (Int.le_refl _) (by omega)]
  omega
/-- The row's sum, the last digit's place being 0. -/
def F : List Int → Int
  | [] => 0
  | x :: xs => wt xs.length x + F xs
theorem F_eq : ∀ xs : List Int, S xs.reverse 0 = F xs
  | [] => rfl
  | x :: xs => by
    rw [List.reverse_cons, S_snoc, F_eq xs, List.length_reverse, F, Nat.zero_add]
    omega
/-- Is a byte a capital letter? -/
def isG (c : Int) : Bool := decide (65 ≤ c) && decide (c ≤ 90)
/-- The digits that a byte makes, the first one first. -/
def ed (c : Int) : List Int := if isG c then [(c - 55) / 10, (c - 55) % 10] else [c - 48]
def okAt (i : Nat) (c : Int) : Bool := isG c || (decide (2 ≤ i) && isD c)
theorem el_ed {i : Nat} {c : Int} (h : okAt i c = true) : el c = (ed c).reverse := by
  unfold el ed
  by_cases hg : isG c = true
  · have h1 : 65 ≤ c ∧ c ≤ 90 := by simpa [isG] using hg
    have h2 : ¬ isD c = true := by simp [isD]; omega
    have h3 : gr c = c - 55 := by unfold gr; rw [IntKind.wrap_u8]; omega
    rw [if_neg h2, if_pos hg, h3]
    rfl
  · have h2 : isD c = true := by simp [okAt, hg] at h; exact h.2
    rw [if_pos h2, if_neg hg]
    rfl
theorem ed_dig {i : Nat} {c : Int} (h : okAt i c = true) : dig (ed c) := by
  unfold ed
  by_cases hg : isG c = true
  · have h1 : 65 ≤ c ∧ c ≤ 90 := by simpa [isG] using hg
    rw [if_pos hg]
    intro x hx
    simp at hx
    omega
  · have h2 : isD c = true := by simp [okAt, hg] at h; exact h.2
    have h1 : 48 ≤ c ∧ c ≤ 57 := by simpa [isD] using h2
    rw [if_neg hg]
    intro x hx
    simp at hx
    omega
/-- The digits of n bytes from i on. -/
def row (s : ByteArray) : Nat → Nat → List Int
  | _, 0 => []
  | i, n + 1 => ed (bt s i) ++ row s (i + 1) n
theorem D_row (s : ByteArray) (h11 : s.size = 11) (hok : ∀ i, i < 11 → okAt i (bt s i) = true) : ∀ k, k ≤ 11 → D s k = (row s (11 - k) k).reverse
  | 0, _ => rfl
  | k + 1, hk => by
    have e1 : 11 - (k + 1) + 1 = 11 - k := by omega
    have e2 : ((s.size : Int) - 1 - (k : Int)) = ((11 - (k + 1) : Nat) : Int) := by omega
    simp only [D, row, e1, List.reverse_append]
    rw [D_row s h11 hok k (by omega), e2, el_ed (hok (11 - (k + 1)) (by omega))]
theorem row_dig (s : ByteArray) (hok : ∀ i, i < 11 → okAt i (bt s i) = true) : ∀ n i, i + n ≤ 11 → dig (row s i n)
  | 0, _, _ => fun x hx => by simp [row] at hx
  | n + 1, i, h => fun x hx => by
    simp only [row, List.mem_append] at hx
    rcases hx with hx | hx
    · exact ed_dig (hok i (by omega)) x hx
    · exact row_dig s hok n (i + 1) (by omega) x hx
theorem row_length (s : ByteArray) : ∀ n i, (row s i n).length ≤ 2 * n
  | 0, _ => by simp [row]
  | n + 1, i => by
    have h1 := row_length s n (i + 1)
    have h2 : (ed (bt s i)).length ≤ 2 := by unfold ed; split <;> simp
    simp only [row, List.length_append]
    omega
/-- The program's check byte. -/
theorem ckB_row (s : ByteArray) (h11 : s.size = 11) (hok : ∀ i, i < 11 → okAt i (bt s i) = true) : ckB (sumW (D s s.size)) = 48 + (10 - F (row s 0 11) % 10) % 10 := by
  have hd : D s s.size = (row s 0 11).reverse := by rw [h11]; exact D_row s h11 hok 11 (Nat.le_refl _)
  have hr := row_dig s hok 11 0 (by omega)
  have hl := row_length s 11 0
  have hdr : dig (row s 0 11).reverse := fun x hx => hr x (by simpa using hx)
  have hS := S_range _ 0 hdr
  rw [List.length_reverse] at hS
  rw [hd, sumW_eq _ hdr (by rw [List.length_reverse]; omega), F_eq]
  rw [F_eq] at hS
  generalize F (row s 0 11) = f at hS
  unfold ckB
  rw [show f.tmod 10 = f % 10 from Int.tmod_eq_emod_of_nonneg (by omega)]
  have e : wrap64 (10 - f % 10) = 10 - f % 10 := by unfold wrap64; omega
  rw [e, Int.tmod_eq_emod_of_nonneg (by omega)]
  unfold wrap64
  omega
end Go.Proofs.Ytebdjhgboeadgaa.Jb
