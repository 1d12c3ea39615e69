/- The law IdentMembers, in plain terms. -/
import Derived.Test.YtebdjhgboeadgaaIm
import Derived.Test.YtebdjhgboeadgaaJc
namespace Go.Proofs.Ytebdjhgboeadgaa.PureM
set_option linter.unusedSimpArgs false
set_option linter.unusedVariables false
open Go Go.RowKit Go.Proofs.Ytebdjhgboeadgaa.Id Go.Proofs.YtebdjhgboeadgaaW.PrintWords Go.Proofs.YtebdjhgboeadgaaW.PrintLast Go.Proofs.YtebdjhgboeadgaaW.PrintMore Go.Proofs.Ytebdjhgboeadgaa.Ja
theorem tl (s : ByteArray) : s.toList = s.data.toList := ByteArray.toList_eq s
def isS (c : Int) : Bool := decide (97 ≤ c) && decide (c ≤ 122)
theorem small_f (c : Int) : ident_small.f c = some (isS c) := by
  unfold ident_small.f isS
  by_cases h : c ≥ 97
  · rw [if_pos h]; simp [h]
  · rw [if_neg h]; simp; omega
theorem letter_f (c : Int) : clevisref02_letter.f c 97 = some (isS c) := by
  unfold clevisref02_letter.f isS
  by_cases h : c ≥ 97
  · rw [if_pos h]; simp [h]
  · rw [if_neg h]; simp; omega
theorem digit_f (c : Int) : ident_digit.f c = some (isD c) := by
  unfold ident_digit.f isD
  by_cases h : c ≥ 48
  · rw [if_pos h]; simp [h]
  · rw [if_neg h]; simp; omega
theorem rdigit_f (c : Int) : clevisref02_digit.f c = some (isD c) := by
  unfold clevisref02_digit.f isD
  by_cases h : c ≥ 48
  · rw [if_pos h]; simp [h]
  · rw [if_neg h]; simp; omega
/-- What is wrong with n bytes from i on. -/
def memE (s : ByteArray) : Nat → Nat → Int
  | _, 0 => 0
  | i, n + 1 => if isS (bt s i) = true then memE s (i + 1) n else if isD (bt s i) = true then memE s (i + 1) n else 3
theorem mem_l0 (s : ByteArray) (hs : s.size ≤ 8) (k : Nat) : ∀ n i : Nat, i + n = s.size → ident_Member.l0 (n + 1 + k) (bytesOf s) (s.size : Int) i = some (memE s i n)
  | 0, i, h => by
    rw [show 0 + 1 + k = k + 1 by omega, ident_Member.l0, if_neg (by omega)]
    rfl
  | n + 1, i, h => by
    have hw : wrap64 ((i : Int) + 1) = ((i + 1 : Nat) : Int) := by unfold wrap64; omega
    have ih := mem_l0 s hs k n (i + 1) (by omega)
    rw [show n + 1 + 1 + k = (n + 1 + k) + 1 by omega, ident_Member.l0, if_pos (by omega), if_pos (by omega), if_pos (by rw [bytesOf_length]; omega)]
    simp only [rd_bytesOf, small_f, digit_f, Option.bind_some, hw, ih, memE]
    split
    · rfl
    · split <;> rfl
theorem refm_l0 (s : ByteArray) (hs : s.size ≤ 8) (k : Nat) : ∀ n i : Nat, i + n = s.size → clevisref02_Member.l0 (n + 1 + k) s i = some (memE s i n)
  | 0, i, h => by
    rw [show 0 + 1 + k = k + 1 by omega, clevisref02_Member.l0, if_neg (by omega)]
    rfl
  | n + 1, i, h => by
    have hw : wrap64 ((i : Int) + 1) = ((i + 1 : Nat) : Int) := by unfold wrap64; omega
    have ih := refm_l0 s hs k n (i + 1) (by omega)
    rw [show n + 1 + 1 + k = (n + 1 + k) + 1 by omega, clevisref02_Member.l0, if_pos (by omega), if_pos (by omega)]
    simp only [letter_f, rdigit_f, Option.bind_some, hw, ih, memE]
    split
    · rfl
    · split <;> rfl
def memN (s : ByteArray) : Int := if s.size < 1 ∨ 8 < s.size then 3 else if isS (bt s 0) = true then memE s 0 s.size else 3
theorem iMember (s : ByteArray) (e : Nat) : ident_Member.f (20 + e) s = some (memN s) := by
  rw [show 20 + e = (19 + e) + 1 by omega]
  unfold ident_Member.f memN
  by_cases h0 : s.size < 1
  · have e0 : s.toList = [] := by
      have : s = ⟨#[]⟩ := by
        obtain ⟨d⟩ := s
        have h' : d.size = 0 := by have : d.size < 1 := h0; omega
        rw [Array.eq_empty_of_size_eq_zero h']
      rw [this, tl]
    rw [if_pos e0]
    simp [ident_Member.j0, h0]
  · have e0 : ¬ s.toList = [] := by
      intro e1
      rw [tl] at e1
      have : s.data.toList.length = s.size := rfl
      rw [e1] at this
      simp at this
      omega
    rw [if_neg e0]
    by_cases h8 : 8 < s.size
    · rw [if_pos (by omega)]
      simp [ident_Member.j0, h8]
    · rw [if_neg (by omega), if_pos (by omega), small_f]
      have hl := mem_l0 s (by omega) (18 - s.size + e) s.size 0 (by omega)
      rw [show s.size + 1 + (18 - s.size + e) = 19 + e by omega] at hl
      have e2 : ¬ (s.size < 1 ∨ 8 < s.size) := by omega
      simp only [Option.bind_some, ident_Member.j0, e2, if_false]
      cases hS : isS (bt s 0) with
      | true =>
        simp only [Bool.not_true, Bool.false_eq_true, if_false, if_true]
        rw [if_pos (by omega)]
        simp only [Option.bind_some, bytesOf_length]
        exact hl
      | false => simp
theorem rMember (s : ByteArray) (e : Nat) : clevisref02_Member.f (20 + e) s = some (memN s) := by
  rw [show 20 + e = (19 + e) + 1 by omega]
  unfold clevisref02_Member.f memN
  by_cases h0 : s.size < 1
  · rw [if_pos (by omega)]
    simp [clevisref02_Member.j0, h0]
  · rw [if_neg (by omega)]
    by_cases h8 : 8 < s.size
    · rw [if_pos (by omega)]
      simp [clevisref02_Member.j0, h8]
    · rw [if_neg (by omega), if_pos (by omega), letter_f]
      have hl := refm_l0 s (by omega) (18 - s.size + e) s.size 0 (by omega)
      rw [show s.size + 1 + (18 - s.size + e) = 19 + e by omega] at hl
      have e2 : ¬ (s.size < 1 ∨ 8 < s.size) := by omega
      simp only [Option.bind_some, clevisref02_Member.j0, e2, if_false]
      cases hS : isS (bt s 0) with
      | true =>
        simp only [Bool.not_true, Bool.false_eq_true, if_false, if_true]
        exact hl
      | false => simp

theorem memE_range (s : ByteArray) : ∀ n i, memE s i n = 0 ∨ memE s i n = 3
  | 0, i => Or.inl rfl
  | n + 1, i => by
    simp only [memE]
    split
    · exact memE_range s n (i + 1)
    · split
      · exact memE_range s n (i + 1)
      · exact Or.inr rfl
theorem memN_range (s : ByteArray) : memN s = 0 ∨ memN s = 3 := by
  unfold memN
  split
  · exact Or.inr rfl
  · split
    · exact memE_range s _ _
    · exact Or.inr rfl
def at_ (x : List ByteArray) (k : Nat) : ByteArray := x.getD k ⟨#[]⟩
theorem rd_at (x : List ByteArray) (k : Nat) : rdOf ByteArray.empty x (k : Int) = at_ x k := by
  unfold rdOf at_
  rw [Int.toNat_natCast]
  rfl
def allFrom (x : List ByteArray) : Nat → Nat → Bool
  | _, 0 => true
  | k, n + 1 => decide (memN (at_ x k) = 0) && allFrom x (k + 1) n
def dupFrom (x : List ByteArray) : Nat → Nat → Bool
  | _, 0 => false
  | k, n + 1 => Jm.mem (at_ x k) (x.take k) || dupFrom x (k + 1) n
def anyFrom (x : List ByteArray) (i : Nat) : Nat → Nat → Bool
  | _, 0 => false
  | j, m + 1 => decide ((at_ x j).data.toList = (at_ x i).data.toList) || anyFrom x i (j + 1) m
theorem any_mem (x : List ByteArray) (i : Nat) (hi : i ≤ x.length) : ∀ m j, j + m = i → anyFrom x i j m = ((x.take i).drop j).any fun y => decide (y.data.toList = (at_ x i).data.toList)
  | 0, j, h => by
    rw [List.drop_eq_nil_of_le (by rw [List.length_take]; omega)]
    rfl
  | m + 1, j, h => by
    have hl : j < (x.take i).length := by rw [List.length_take]; omega
    rw [List.drop_eq_getElem_cons hl, List.any_cons, anyFrom, any_mem x i hi m (j + 1) (by omega)]
    congr 2
    have : (x.take i)[j] = at_ x j := by
      rw [List.getElem_take]
      unfold at_
      rw [List.getD_eq_getElem?_getD, List.getElem?_eq_getElem (by omega)]
      rfl
    rw [this]
def R (x : List ByteArray) : Int := if allFrom x 0 x.length = true then (if dupFrom x 0 x.length = true then 6 else 0) else 3
theorem prog_g (x : List ByteArray) : ∀ n k tw, k + n = x.length → Jm.g (ident_Member.f 20) x n k tw = some (if allFrom x k n = true then (if (tw || dupFrom x k n) = true then 6 else 0) else 3)
  | 0, k, tw, h => by simp [Jm.g, allFrom, dupFrom]
  | n + 1, k, tw, h => by
    rw [Jm.g, show x.getD k ⟨#[]⟩ = at_ x k from rfl, iMember (at_ x k) 0, Option.bind_some, prog_g x n (k + 1) _ (by omega)]
    simp only [allFrom, dupFrom]
    rcases memN_range (at_ x k) with e | e
    · rw [if_pos e]
      simp [e, Bool.or_assoc]
    · rw [if_neg (by omega)]
      simp [e]
theorem ref_l1 (x : List ByteArray) (hx : x.length ≤ 1000) : ∀ n i, i + n = x.length → ∃ K, ∀ e, clevisref02_Members.l1 (K + e) x i = some (if dupFrom x i n = true then 6 else 0)
  | 0, i, h => ⟨1, fun e => by
    rw [show 1 + e = e + 1 by omega, clevisref02_Members.l1, if_neg (by omega)]
    simp [dupFrom]⟩
  | n + 1, i, h => by
    obtain ⟨K, hK⟩ := ref_l1 x hx n (i + 1) (by omega)
    have hl2 : ∀ m j, j + m = i → ∃ K2, ∀ e, clevisref02_Members.l2 (K2 + e) x i j = some (if anyFrom x i j m = true then 6 else (if dupFrom x (i + 1) n = true then 6 else 0)) := by
      intro m
      induction m with
      | zero =>
        intro j hj
        have hw : wrap64 ((i : Int) + 1) = ((i + 1 : Nat) : Int) := by unfold wrap64; omega
        refine ⟨K + 1, fun e => ?_⟩
        rw [show K + 1 + e = (K + e) + 1 by omega, clevisref02_Members.l2, if_neg (by omega), hw, hK e]
        simp [anyFrom]
      | succ m ih =>
        intro j hj
        obtain ⟨K2, h2⟩ := ih (j + 1) (by omega)
        have hw : wrap64 ((j : Int) + 1) = ((j + 1 : Nat) : Int) := by unfold wrap64; omega
        refine ⟨K2 + 1, fun e => ?_⟩
        rw [show K2 + 1 + e = (K2 + e) + 1 by omega, clevisref02_Members.l2, if_pos (by omega), if_pos (by omega), if_pos (by omega), if_pos (by omega), if_pos (by omega), hw, h2 e, rd_at, rd_at, tl, tl]
        simp only [anyFrom]
        by_cases q : (at_ x j).data.toList = (at_ x i).data.toList
        · rw [if_pos q]; simp [q]
        · rw [if_neg q]; simp [q]
    obtain ⟨K2, h2⟩ := hl2 i 0 (by omega)
    refine ⟨K2 + 1, fun e => ?_⟩
    have h3 := h2 e
    rw [any_mem x i (by omega) i 0 (by omega), List.drop_zero] at h3
    have h4 : clevisref02_Members.l2 (K2 + e) x i 0 = some (if Jm.mem (at_ x i) (x.take i) = true then 6 else (if dupFrom x (i + 1) n = true then 6 else 0)) := h3
    rw [show K2 + 1 + e = (K2 + e) + 1 by omega, clevisref02_Members.l1, if_pos (by omega), h4]
    simp only [dupFrom]
    by_cases q : Jm.mem (at_ x i) (x.take i) = true <;> simp [q]
theorem ref_l0 (x : List ByteArray) (hx : x.length ≤ 1000) : ∀ n k, k + n = x.length → ∃ K, ∀ e, clevisref02_Members.l0 (K + e) x k = some (if allFrom x k n = true then (if dupFrom x 0 x.length = true then 6 else 0) else 3)
  | 0, k, h => by
    obtain ⟨K, hK⟩ := ref_l1 x hx x.length 0 (by omega)
    refine ⟨K + 1, fun e => ?_⟩
    have h4 : clevisref02_Members.l1 (K + e) x 0 = some (if dupFrom x 0 x.length = true then 6 else 0) := hK e
    rw [show K + 1 + e = (K + e) + 1 by omega, clevisref02_Members.l0, if_neg (by omega), h4]
    simp [allFrom]
  | n + 1, k, h => by
    obtain ⟨K, hK⟩ := ref_l0 x hx n (k + 1) (by omega)
    have hw : wrap64 ((k : Int) + 1) = ((k + 1 : Nat) : Int) := by unfold wrap64; omega
    refine ⟨K + 21, fun e => ?_⟩
    rw [show K + 21 + e = (20 + (K + e)) + 1 by omega, clevisref02_Members.l0, if_pos (by omega), if_pos (by omega), rd_at, rMember (at_ x k) (K + e), Option.bind_some, hw, show 20 + (K + e) = K + (20 + e) by omega, hK (20 + e)]
    simp only [allFrom]
    rcases memN_range (at_ x k) with q | q
    · rw [if_pos q]; simp [q]
    · rw [if_neg (by omega)]; simp [q]
theorem known_ge : ∀ e, clevislaw02_known.f (70 + e) = some true
  | 0 => Jc.known_f
  | e + 1 => clevislaw02_known.mono (70 + e) true (known_ge e)
theorem law_l0 (x0 : List ByteArray) (h30 : x0.length ≤ 30) : ∀ n i (x3 : List ByteArray), i + n = x0.length → x3.length = i → (∀ s ∈ x3, s.size ≤ 20) → ∃ K, ∀ e, clevislaw02_IdentMembers.l0 (K + e) x0 x3 i = some true := by
  intro n
  induction n with
  | zero =>
    intro i x3 hi h3 hs
    obtain ⟨K, hK⟩ := ref_l0 x3 (by omega) x3.length 0 (by omega)
    refine ⟨K + 70 + 1, fun e => ?_⟩
    have hr : clevisref02_Members.f (K + 70 + e) x3 = some (R x3) := by
      unfold clevisref02_Members.f
      rw [show K + 70 + e = K + (70 + e) by omega]
      exact hK (70 + e)
    have hp : ident_Members.f x3 = some (R x3) := by
      unfold ident_Members.f
      rw [if_pos ⟨by omega, fun s h => by have := hs s h; omega⟩, prog_g x3 _ 0 false (by omega)]
      simp [R]
    rw [show K + 70 + 1 + e = (K + 70 + e) + 1 by omega, clevislaw02_IdentMembers.l0, if_neg (by omega), hr, hp, show K + 70 + e = 70 + (K + e) by omega, known_ge]
    simp
  | succ n ih =>
    intro i x3 hi h3 hs
    have hw : wrap64 ((i : Int) + 1) = ((i + 1 : Nat) : Int) := by unfold wrap64; omega
    have hm : 0 ≤ mn ((at_ x0 i).size : Int) 20 ∧ mn ((at_ x0 i).size : Int) 20 ≤ (at_ x0 i).size ∧ mn ((at_ x0 i).size : Int) 20 ≤ 20 := by unfold mn; split <;> omega
    obtain ⟨K, hK⟩ := ih (i + 1) (x3 ++ [(at_ x0 i).extract 0 (mn ((at_ x0 i).size : Int) 20).toNat]) (by omega) (by simp [h3]) (fun s h => by
      rcases List.mem_append.1 h with h | h
      · exact hs s h
      · rw [List.mem_singleton.1 h, ByteArray.size_extract]; omega)
    refine ⟨K + 1, fun e => ?_⟩
    rw [show K + 1 + e = (K + e) + 1 by omega, clevislaw02_IdentMembers.l0, if_pos (by omega), if_pos (by omega), rd_at, if_pos hm.1, if_pos hm.2.1, if_pos (by omega), hw, hK e]
theorem IdentMembers (l0 : List ByteArray) : ∃ k, clevislaw02_IdentMembers.f k l0 = some true := by
  have hm : 0 ≤ mn (l0.length : Int) 30 ∧ mn (l0.length : Int) 30 ≤ l0.length ∧ mn (l0.length : Int) 30 ≤ 30 := by unfold mn; split <;> omega
  obtain ⟨x, hx⟩ : ∃ x, l0.take (mn (l0.length : Int) 30).toNat = x := ⟨_, rfl⟩
  have hxl : x.length ≤ 30 := by rw [← hx, List.length_take]; omega
  obtain ⟨K, hK⟩ := law_l0 x hxl x.length 0 [] (by omega) rfl (by simp)
  refine ⟨K + 0, ?_⟩
  unfold clevislaw02_IdentMembers.f
  rw [if_pos hm.1, if_pos hm.2.1, hx]
  exact hK 0
end Go.Proofs.Ytebdjhgboeadgaa.PureM
