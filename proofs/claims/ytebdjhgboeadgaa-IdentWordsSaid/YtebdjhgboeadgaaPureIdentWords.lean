/- The law IdentWords, in plain terms. -/
import Derived.Test.YtebdjhgboeadgaaId17
import Derived.Test.YtebdjhgboeadgaaJc
namespace Go.Proofs.Ytebdjhgboeadgaa.Pure
set_option linter.unusedSimpArgs false
set_option linter.unusedVariables false
open Go Go.RowKit Go.Proofs.Ytebdjhgboeadgaa.Id Go.Proofs.YtebdjhgboeadgaaW.PrintWords Go.Proofs.YtebdjhgboeadgaaW.PrintLast Go.Proofs.YtebdjhgboeadgaaW.PrintMore
theorem ext_step (s : ByteArray) (f i : Nat) (hf : f ≤ i) (hi : i < s.size) : s.extract f i ++ s.extract i (i + 1) = s.extract f (i + 1) := by
  rw [ByteArray.extract_append_extract]
  congr 1
  · omega
  · omega
theorem ext_size (s : ByteArray) (f i : Nat) (hi : i ≤ s.size) : (s.extract f i).size = i - f := by
  rw [ByteArray.size_extract]; omega
theorem rWords (s : ByteArray) (hs : s.size ≤ 1000) (e : Nat) : ∀ (n i f : Nat) (l : List ByteArray), i + n = s.size → f ≤ i → l.length ≤ i →
    clevisref02_Words.l0 (2 * n + 3 + e) s l (s.extract f i) i = some (Jw.W s n i f l) := by
  intro n
  induction n with
  | zero =>
    intro i f l hi hf hl
    have h1 : i = s.size := by omega
    subst h1
    have hw : wrap64 ((s.size : Int) + 1) = (s.size : Int) + 1 := by unfold wrap64; omega
    have hz := ext_size s f s.size (Nat.le_refl _)
    rw [show 2 * 0 + 3 + e = e + 1 + 1 + 1 by omega]
    simp only [clevisref02_Words.l0, clevisref02_Words.j1, if_true, hw]
    rw [if_pos (by omega), Jw.W, Jw.cutF, hz]
    by_cases h : f < s.size
    · rw [if_pos (by omega), if_pos (by omega), if_neg (by omega), if_pos (by omega)]
      simp
    · rw [if_neg (by omega), if_neg (by omega), if_neg (by omega)]
  | succ n ih =>
    intro i f l hi hf hl
    have hw : wrap64 ((i : Int) + 1) = ((i + 1 : Nat) : Int) := by unfold wrap64; omega
    have hz := ext_size s f i (by omega)
    have hz1 := ext_size s i (i + 1) (by omega)
    rw [show 2 * (n + 1) + 3 + e = 2 * n + 3 + e + 1 + 1 by omega]
    have hj : ∀ b : Bool, b = decide (bt s i = 32 ∨ bt s i = 10) → clevisref02_Words.j1 (2 * n + 3 + e + 1) s l (s.extract f i) i b = some (Jw.W s (n + 1) i f l) := by
      intro b hb
      simp only [clevisref02_Words.j1, hw]
      by_cases h : bt s i = 32 ∨ bt s i = 10
      · have hb1 : b = true := by rw [hb]; simp [h]
        have ho := ih (i + 1) (i + 1) (Jw.cutF s f i l) (by omega) (Nat.le_refl _) (by have := Jw.cutF_len s f i l; omega)
        have hempty : s.extract (i + 1) (i + 1) = ⟨#[]⟩ := by
          apply ByteArray.ext
          simp
        rw [hempty] at ho
        rw [if_pos hb1, Jw.W, if_pos h, hz]
        unfold Jw.cutF at ho ⊢
        by_cases hfi : f < i
        · rw [if_pos (by omega), if_pos (by omega)]
          rw [if_pos (by omega)] at ho ⊢
          simpa using ho
        · rw [if_neg (by omega)]
          rw [if_neg (by omega)] at ho ⊢
          simpa using ho
      · have hb1 : ¬ b = true := by rw [hb]; simp [h]
        have ho := ih (i + 1) f l (by omega) (by omega) (by omega)
        rw [if_neg hb1, Jw.W, if_neg h, if_pos (by omega), if_pos (by omega), if_pos (by omega)]
        simp only [Int.toNat_natCast]
        rw [hz, hz1, if_pos (by omega), ext_step s f i hf (by omega)]
        exact ho
    simp only [clevisref02_Words.l0]
    rw [if_pos (by omega), if_neg (by omega), if_pos (by omega), if_pos (by omega)]
    by_cases h32 : bt s i = 32
    · rw [if_pos h32, hj true (by simp [h32])]
    · rw [if_neg h32, hj _ (by by_cases h10 : bt s i = 10 <;> simp [h32, h10])]
theorem known_ge : ∀ e, clevislaw02_known.f (70 + e) = some true
  | 0 => Jc.known_f
  | e + 1 => clevislaw02_known.mono (70 + e) true (known_ge e)
theorem sameWords (x : List ByteArray) (hx : x.length ≤ 1000000) (e : Nat) : ∀ n i, i + n = x.length → clevislaw02_IdentWords.l0 (n + 1 + 70 + e) x x i = some true := by
  intro n
  induction n with
  | zero =>
    intro i hi
    rw [show 0 + 1 + 70 + e = (70 + e) + 1 by omega]
    simp only [clevislaw02_IdentWords.l0]
    rw [if_neg (by omega), known_ge e]
    rfl
  | succ n ih =>
    intro i hi
    have hw : wrap64 ((i : Int) + 1) = ((i + 1 : Nat) : Int) := by unfold wrap64; omega
    rw [show n + 1 + 1 + 70 + e = (n + 1 + 70 + e) + 1 by omega]
    simp only [clevislaw02_IdentWords.l0, if_true, hw]
    rw [if_pos (by omega), if_pos (by omega), ih (i + 1) (by omega), if_pos (by omega)]
theorem W_len (s : ByteArray) : ∀ n i f (l : List ByteArray), (Jw.W s n i f l).length ≤ l.length + n + 1
  | 0, i, f, l => by have := Jw.cutF_len s f i l; simp only [Jw.W]; omega
  | n + 1, i, f, l => by
    simp only [Jw.W]
    split
    · have h1 := W_len s n (i + 1) (i + 1) (Jw.cutF s f i l)
      have h2 := Jw.cutF_len s f i l
      omega
    · have h1 := W_len s n (i + 1) f l
      omega
theorem IdentWords : clevislaw02_IdentWords.Pure := by
  intro a0 hsz
  have hm : 0 ≤ mn (a0.size : Int) 500 ∧ mn (a0.size : Int) 500 ≤ a0.size ∧ mn (a0.size : Int) 500 ≤ 500 := by unfold mn; split <;> omega
  obtain ⟨t, ht⟩ : ∃ t, a0.extract 0 (mn (a0.size : Int) 500).toNat = t := ⟨_, rfl⟩
  have hts : t.size ≤ 500 := by rw [← ht, ByteArray.size_extract]; omega
  refine ⟨(2 * t.size + 3) + ((Jw.W t t.size 0 0 []).length + 1 + 70), ?_⟩
  unfold clevislaw02_IdentWords.f
  rw [if_pos hm.1, if_pos hm.2.1, ht]
  have h1 := rWords t (by omega) ((Jw.W t t.size 0 0 []).length + 1 + 70) t.size 0 0 [] (by omega) (Nat.le_refl _) (by simp)
  have h0 : t.extract 0 0 = ⟨#[]⟩ := by
    apply ByteArray.ext
    simp
  rw [h0] at h1
  have h2 : clevisref02_Words.f ((2 * t.size + 3) + ((Jw.W t t.size 0 0 []).length + 1 + 70)) t = some (Jw.W t t.size 0 0 []) := h1
  have h3 : ident_Words.f t = some (Jw.W t t.size 0 0 []) := by
    unfold ident_Words.f
    rw [if_pos (by omega)]
  rw [h2, h3]
  simp only [Option.bind_some, if_true]
  have h4 := sameWords (Jw.W t t.size 0 0 []) (by have := W_len t t.size 0 0 []; simp at this; omega) (2 * t.size + 3) (Jw.W t t.size 0 0 []).length 0 (by omega)
  rw [show (2 * t.size + 3) + ((Jw.W t t.size 0 0 []).length + 1 + 70) = (Jw.W t t.size 0 0 []).length + 1 + 70 + (2 * t.size + 3) by omega]
  exact h4
end Go.Proofs.Ytebdjhgboeadgaa.Pure
