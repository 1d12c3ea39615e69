/- The law IdentIsins, in plain terms. -/
import Derived.Test.YtebdjhgboeadgaaId13
import Derived.Test.YtebdjhgboeadgaaJc
namespace Go.Proofs.Ytebdjhgboeadgaa.Pure
set_option linter.unusedSimpArgs false
set_option linter.unusedVariables false
open Go Go.RowKit Go.Proofs.Ytebdjhgboeadgaa.Id Go.Proofs.YtebdjhgboeadgaaW.PrintWords Go.Proofs.YtebdjhgboeadgaaW.PrintLast Go.Proofs.YtebdjhgboeadgaaW.PrintMore Go.Proofs.Ytebdjhgboeadgaa.Ja Go.Proofs.Ytebdjhgboeadgaa.Jb Go.Proofs.Ytebdjhgboeadgaa.Jc
theorem one_size (c : Int) : (strOfNums [c]).size = 1 := by rw [strOfNums_size]; rfl
theorem okS_size {s : ByteArray} (h : okS s = true) : s.size = 11 := by
  simp [okS] at h
  exact h.1
theorem iMake (s : ByteArray) (hs : s.size ≤ 1000) : ident_Make.f s = some (if okS s = true then (s ++ strOfNums [48 + chk s], 0) else (⟨#[]⟩, 3)) := by
  unfold ident_Make.f
  rw [iDigit]
  cases h : okS s with
  | true =>
    simp only [Option.bind_some, if_true, one_size]
    rw [if_pos (by omega)]
  | false => simp
/-- What is wrong with a text as an ISIN. -/
def isinE (s : ByteArray) : Int := if s.size = 12 ∧ isD (bt s 11) = true ∧ okS (s.extract 0 11) = true then (if 48 + chk (s.extract 0 11) = bt s 11 then 0 else 11) else 3
theorem iIsin (s : ByteArray) (k : Nat) : ident_Isin.f (k + 1) s = some (isinE s) := by
  unfold ident_Isin.f isinE
  by_cases h : s.size = 12
  · rw [if_pos (by omega), if_pos (by omega), digit_f]
    simp only [Option.bind_some, ident_Isin.j0]
    cases hd : isD (bt s 11) with
    | true =>
      simp only [Bool.not_true, Bool.false_eq_true, if_false]
      rw [if_pos (by omega), if_pos (by omega), iDigit]
      cases ho : okS (s.extract 0 11) with
      | true =>
        simp only [Option.bind_some, if_true, h, and_self]
        rw [if_pos (by omega)]
        split <;> rfl
      | false => simp
    | false => simp
  · rw [if_neg (by omega)]
    simp [ident_Isin.j0, h]
theorem rIsin (s : ByteArray) (k : Nat) (hk : 61 ≤ k) : clevisref02_Isin.f k s = some (isinE s) := by
  obtain ⟨k, rfl⟩ : ∃ j, k = j + 1 := ⟨k - 1, by omega⟩
  unfold clevisref02_Isin.f isinE
  by_cases h : s.size = 12
  · have hr := bt_range s 11
    rw [if_pos (by omega), if_pos (by omega), rdigit_f]
    simp only [Option.bind_some, clevisref02_Isin.j0]
    cases hd : isD (bt s 11) with
    | true =>
      simp only [if_true]
      rw [if_pos (by omega), if_pos (by omega), rDigit _ _ (by omega), rDigit _ _ (by omega)]
      have hc := chk_range (s.extract 0 11)
      cases ho : okS (s.extract 0 11) with
      | true =>
        have e : decide (chk (s.extract 0 11) < 0) = false := by simp; omega
        simp only [Option.bind_some, if_true, h, and_self, e, Bool.false_eq_true, if_false]
        rw [if_pos (by omega), if_pos (by omega), if_pos (by omega), w64 (n := bt s 11) (by omega), w64 (by omega)]
        by_cases q : 48 + chk (s.extract 0 11) = bt s 11
        · rw [if_pos q, if_pos (by omega)]
        · rw [if_neg q, if_neg (by omega)]
      | false => simp
    | false => simp
  · rw [if_neg (by omega)]
    simp [clevisref02_Isin.j0, h]
theorem extract_app (t u : ByteArray) (h : t.size = 11) : (t ++ u).extract 0 11 = t :=
  ByteArray.extract_append_eq_left h.symm
theorem bt_app (t : ByteArray) (c : Int) (h : t.size = 11) (h0 : 0 ≤ c) (h1 : c < 256) : bt (t ++ strOfNums [c]) 11 = c := by
  unfold bt
  have hs : (11 : Int).toNat < (t ++ strOfNums [c]).size := by
    rw [ByteArray.size_append, one_size, h]
    decide
  rw [dif_pos hs]
  have e : (t ++ strOfNums [c])[(11 : Int).toNat]'hs = UInt8.ofNat c.toNat := by
    rw [ByteArray.getElem_append_right (by rw [h]; decide)]
    simp [h, strOfNums]
    rfl
  rw [e, UInt8.toNat_ofNat']
  omega
theorem isin_made (t : ByteArray) (h : okS t = true) : isinE (t ++ strOfNums [48 + chk t]) = 0 := by
  have hs := okS_size h
  have hc := chk_range t
  have hb := bt_app t (48 + chk t) hs (by omega) (by omega)
  unfold isinE
  rw [extract_app _ _ hs, hb, if_pos, if_pos rfl]
  refine ⟨by rw [ByteArray.size_append, one_size, hs], ?_, h⟩
  simp [isD]
  omega
theorem IdentIsins : clevislaw02_IdentIsins.Pure := by
  intro a0 hsz
  refine ⟨70, ?_⟩
  unfold clevislaw02_IdentIsins.f
  have hm : 0 ≤ mn (a0.size : Int) 40 ∧ mn (a0.size : Int) 40 ≤ a0.size ∧ mn (a0.size : Int) 40 ≤ 40 := by unfold mn; split <;> omega
  rw [if_pos hm.1, if_pos hm.2.1]
  obtain ⟨t, ht⟩ : ∃ t, a0.extract 0 (mn (a0.size : Int) 40).toNat = t := ⟨_, rfl⟩
  have hts : t.size ≤ 40 := by rw [← ht, ByteArray.size_extract]; omega
  rw [ht, iDigit, iMake t (by omega), rDigit t 70 (by omega), known_f, iIsin, rIsin t 70 (by omega)]
  have hc := chk_range t
  cases h : okS t with
  | true =>
    simp only [Option.bind_some, if_true, clevislaw02_IdentIsins.j0, bne_self_eq_false, Bool.false_eq_true, if_false]
    rw [if_neg (by omega), iIsin, isin_made t h, one_size]
    simp
    omega
  | false =>
    simp [clevislaw02_IdentIsins.j0]
end Go.Proofs.Ytebdjhgboeadgaa.Pure
