/- One digit turned: plain arithmetic. -/
import Derived.Test.YtebdjhgboeadgaaPureIdentIsins
namespace Go.Proofs.Ytebdjhgboeadgaa.TurnP
set_option linter.unusedSimpArgs false
set_option linter.unusedVariables false
open Go Go.RowKit Go.Proofs.Ytebdjhgboeadgaa.Id Go.Proofs.YtebdjhgboeadgaaW.PrintWords Go.Proofs.YtebdjhgboeadgaaW.PrintLast Go.Proofs.YtebdjhgboeadgaaW.PrintMore Go.Proofs.Ytebdjhgboeadgaa.Ja Go.Proofs.Ytebdjhgboeadgaa.Jb Go.Proofs.Ytebdjhgboeadgaa.Jc Go.Proofs.Ytebdjhgboeadgaa.Pure
theorem F_diff (x y : Int) (B : List Int) : ∀ A : List Int, F (A ++ x :: B) - F (A ++ y :: B) = wt B.length x - wt B.length y
  | [] => by simp only [List.nil_append, F]; omega
  | a :: A => by
    have ih := F_diff x y B A
    simp only [List.cons_append, F, List.length_append, List.length_cons]
    omega
theorem wt_inj {j : Nat} {x y : Int} (hx : 0 ≤ x ∧ x ≤ 9) (hy : 0 ≤ y ∧ y ≤ 9) (h : x ≠ y) : (wt j x - wt j y) % 10 ≠ 0 := by
  unfold wt
  split
  · split <;> split <;> omega
  · omega
/-- Two texts that differ in no byte from i on, n of them. -/
theorem row_same (s u : ByteArray) : ∀ n i : Nat, (∀ j : Nat, i ≤ j → j < i + n → bt s j = bt u j) → row s i n = row u i n
  | 0, _, _ => rfl
  | n + 1, i, h => by
    simp only [row]
    rw [h i (Nat.le_refl _) (by omega), row_same s u n (i + 1) (fun j h1 h2 => h j (by omega) (by omega))]
theorem ed_digit {c : Int} (h : isD c = true) : ed c = [c - 48] := by
  have h1 : 48 ≤ c ∧ c ≤ 57 := by simpa [isD] using h
  have h2 : ¬ isG c = true := by simp [isG]; omega
  unfold ed
  rw [if_neg h2]
/-- Two texts that differ in one digit alone. -/
theorem row_turned (s u : ByteArray) (p : Nat) (hs : isD (bt s p) = true) (hu : isD (bt u p) = true) : ∀ n i : Nat, i ≤ p → p < i + n → (∀ j : Nat, i ≤ j → j < i + n → j ≠ p → bt s j = bt u j) →
    ∃ A B, row s i n = A ++ (bt s p - 48) :: B ∧ row u i n = A ++ (bt u p - 48) :: B
  | 0, i, h1, h2, _ => by omega
  | n + 1, i, h1, h2, h => by
    simp only [row]
    by_cases e : i = p
    · subst e
      rw [ed_digit hs, ed_digit hu]
      refine ⟨[], row s (i + 1) n, rfl, ?_⟩
      rw [row_same s u n (i + 1) (fun j a b => h j (by omega) (by omega) (by omega))]
      rfl
    · obtain ⟨A, B, ea, eb⟩ := row_turned s u p hs hu n (i + 1) (by omega) (by omega) (fun j a b c => h j (by omega) (by omega) c)
      refine ⟨ed (bt s i) ++ A, B, by rw [ea]; simp, ?_⟩
      rw [eb, h i (Nat.le_refl _) (by omega) e]
      simp
theorem chk_turned (s u : ByteArray) (p : Nat) (hp : p < 11) (hs : isD (bt s p) = true) (hu : isD (bt u p) = true) (hne : bt s p ≠ bt u p) (h : ∀ j : Nat, j < 11 → j ≠ p → bt s j = bt u j) : chk s ≠ chk u := by
  obtain ⟨A, B, ea, eb⟩ := row_turned s u p hs hu 11 0 (Nat.zero_le _) (by omega) (fun j _ b c => h j (by omega) c)
  have h1 : 48 ≤ bt s p ∧ bt s p ≤ 57 := by simpa [isD] using hs
  have h2 : 48 ≤ bt u p ∧ bt u p ≤ 57 := by simpa [isD] using hu
  have hd := F_diff (bt s p - 48) (bt u p - 48) B A
  have hw := wt_inj (j := B.length) (x := bt s p - 48) (y := bt u p - 48) (by omega) (by omega) (by omega)
  unfold chk
  rw [ea, eb]
  omega
end Go.Proofs.Ytebdjhgboeadgaa.TurnP
