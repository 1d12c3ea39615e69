/- The law IdentNames, in plain terms. -/
import Derived.Test.YthhmfpfmhklapaaId25
namespace Go.Proofs.Ythhmfpfmhklapaa.Pure
set_option linter.unusedSimpArgs false
set_option linter.unusedVariables false
open Go Go.RowKit Go.Proofs.Ythhmfpfmhklapaa.Id Go.Proofs.YthhmfpfmhklapaaW.PrintWords Go.Proofs.YthhmfpfmhklapaaW.PrintLast Go.Proofs.YthhmfpfmhklapaaW.PrintMore Go.Proofs.Ythhmfpfmhklapaa.Ja
theorem tl (s : ByteArray) : s.toList = s.data.toList := ByteArray.toList_eq s
theorem known_f : clevislaw02_known.f 70 = some true := by kernel_rfl
def isS (c : Int) : Bool := decide (97 ≤ c) && decide (c ≤ 122)
theorem small_f (c : Int) : ident_small.f c = some (isS c) := by
  unfold ident_small.f isS
  by_cases h : c ≥ 97
  · rw [if_pos h]; simp [h]
  · rw [if_neg h]; simp; omega
theorem letter_f (c : Int) : clevisref02_letter.f c 97 = some (isS c) := by
  unfold clevisref02_letter.f isS
  by_cases h : c ≥ 97
  · rw [if_pos h]; simp [h]
  · rw [if_neg h]; simp; omega
theorem digit_f (c : Int) : ident_digit.f c = some (isD c) := by
  unfold ident_digit.f isD
  by_cases h : c ≥ 48
  · rw [if_pos h]; simp [h]
  · rw [if_neg h]; simp; omega
theorem rdigit_f (c : Int) : clevisref02_digit.f c = some (isD c) := by
  unfold clevisref02_digit.f isD
  by_cases h : c ≥ 48
  · rw [if_pos h]; simp [h]
  · rw [if_neg h]; simp; omega
/-- What is wrong with n bytes from i on. -/
def memE (s : ByteArray) : Nat → Nat → Int
  | _, 0 => 0
  | i, n + 1 => if isS (bt s i) = true then memE s (i + 1) n else if isD (bt s i) = true then memE s (i + 1) n else 3
theorem mem_l0 (s : ByteArray) (hs : s.size ≤ 8) (k : Nat) : ∀ n i : Nat, i + n = s.size → ident_Member.l0 (n + 1 + k) (bytesOf s) (s.size : Int) i = some (memE s i n)
  | 0, i, h => by
    rw [show 0 + 1 + k = k + 1 by omega, ident_Member.l0, if_neg (by omega)]
    rfl
  | n + 1, i, h => by
    have hw : wrap64 ((i : Int) + 1) = ((i + 1 : Nat) : Int) := by unfold wrap64; omega
    have ih := mem_l0 s hs k n (i + 1) (by omega)
    rw [show n + 1 + 1 + k = (n + 1 + k) + 1 by omega, ident_Member.l0, if_pos (by omega), if_pos (by omega), if_pos (by rw [bytesOf_length]; omega)]
    simp only [rd_bytesOf, small_f, digit_f, Option.bind_some, hw, ih, memE]
    split
    · rfl
    · split <;> rfl
theorem ref_l0 (s : ByteArray) (hs : s.size ≤ 8) (k : Nat) : ∀ n i : Nat, i + n = s.size → clevisref02_Member.l0 (n + 1 + k) s i = some (memE s i n)
  | 0, i, h => by
    rw [show 0 + 1 + k = k + 1 by omega, clevisref02_Member.l0, if_neg (by omega)]
    rfl
  | n + 1, i, h => by
    have hw : wrap64 ((i : Int) + 1) = ((i + 1 : Nat) : Int) := by unfold wrap64; omega
    have ih := ref_l0 s hs k n (i + 1) (by omega)
    rw [show n + 1 + 1 + k = (n + 1 + k) + 1 by omega, clevisref02_Member.l0, if_pos (by omega), if_pos (by omega)]
    simp only [letter_f, rdigit_f, Option.bind_some, hw, ih, memE]
    split
    · rfl
    · split <;> rfl
def memN (s : ByteArray) : Int := if s.size < 1 ∨ 8 < s.size then 3 else if isS (bt s 0) = true then memE s 0 s.size else 3
theorem iMember (s : ByteArray) : ident_Member.f 70 s = some (memN s) := by
  unfold ident_Member.f memN
  by_cases h0 : s.size < 1
  · have e : s.toList = [] := by
      have : s = ⟨#[]⟩ := by
        obtain ⟨d⟩ := s
        have h' : d.size = 0 := by have : d.size < 1 := h0; omega
        rw [Array.eq_empty_of_size_eq_zero h']
      rw [this, tl]
    rw [if_pos e]
    simp [ident_Member.j0, h0]
  · have e : ¬ s.toList = [] := by
      intro e
      rw [tl] at e
      have : s.data.toList.length = s.size := rfl
      rw [e] at this
      simp at this
      omega
    rw [if_neg e]
    by_cases h8 : 8 < s.size
    · rw [if_pos (by omega)]
      simp [ident_Member.j0, h8]
    · rw [if_neg (by omega), if_pos (by omega), small_f]
      have hl := mem_l0 s (by omega) (68 - s.size) s.size 0 (by omega)
      rw [show s.size + 1 + (68 - s.size) = 69 by omega] at hl
      have e2 : ¬ (s.size < 1 ∨ 8 < s.size) := by omega
      simp only [Option.bind_some, ident_Member.j0, e2, if_false]
      cases hS : isS (bt s 0) with
      | true =>
        simp only [Bool.not_true, Bool.false_eq_true, if_false, if_true]
        rw [if_pos (by omega)]
        simp only [Option.bind_some, bytesOf_length]
        exact hl
      | false => simp
theorem rMember (s : ByteArray) : clevisref02_Member.f 70 s = some (memN s) := by
  unfold clevisref02_Member.f memN
  by_cases h0 : s.size < 1
  · rw [if_pos (by omega)]
    simp [clevisref02_Member.j0, h0]
  · rw [if_neg (by omega)]
    by_cases h8 : 8 < s.size
    · rw [if_pos (by omega)]
      simp [clevisref02_Member.j0, h8]
    · rw [if_neg (by omega), if_pos (by omega), letter_f]
      have hl := ref_l0 s (by omega) (68 - s.size) s.size 0 (by omega)
      rw [show s.size + 1 + (68 - s.size) = 69 by omega] at hl
      have e2 : ¬ (s.size < 1 ∨ 8 < s.size) := by omega
      simp only [Option.bind_some, clevisref02_Member.j0, e2, if_false]
      cases hS : isS (bt s 0) with
      | true =>
        simp only [Bool.not_true, Bool.false_eq_true, if_false, if_true]
        exact hl
      | false => simp
theorem toList_inj (s : ByteArray) (c : UInt8) : s.toList = [c] ↔ s = ⟨#[c]⟩ := by
  rw [tl]
  constructor
  · intro h
    obtain ⟨d⟩ := s
    congr 1
    exact Array.ext' h
  · rintro rfl
    rfl
theorem rNode (s : ByteArray) : clevisref02_Node.f s = some (Jd.nodeN s) := by
  unfold clevisref02_Node.f Jd.nodeN
  simp only [toList_inj]
  split
  · rfl
  · split
    · rfl
    · split <;> rfl
theorem name_out (n : Int) (h : n < 0 ∨ 2 < n) : ident_NodeName.f n = some (⟨#[]⟩, 5) := by
  unfold ident_NodeName.f
  rcases h with h | h
  · rw [if_pos h]
  · rw [if_neg (by omega), if_pos (by omega)]
theorem name_in (n : Int) (h0 : 0 ≤ n) (h2 : n ≤ 2) : ∃ w, ident_NodeName.f n = some (w, 0) ∧ clevisref02_Node.f w = some n := by
  have : n = 0 ∨ n = 1 ∨ n = 2 := by omega
  rcases this with rfl | rfl | rfl
  · exact ⟨⟨#[65]⟩, by kernel_rfl, by rw [rNode]; decide⟩
  · exact ⟨⟨#[66]⟩, by kernel_rfl, by rw [rNode]; decide⟩
  · exact ⟨⟨#[67]⟩, by kernel_rfl, by rw [rNode]; decide⟩
theorem empty_tl : ((⟨#[]⟩ : ByteArray).toList == ([] : List UInt8)) = true := by rw [tl]; rfl
theorem j1_ok (a1 : Int) (k : Nat) : ∃ x7 x8, ident_NodeName.f a1 = some (x7, x8) ∧ clevislaw02_IdentNames.j1 (k + 1) a1 x7 x8 false = some true := by
  by_cases h : a1 < 0 ∨ 2 < a1
  · refine ⟨_, _, name_out a1 h, ?_⟩
    rw [clevislaw02_IdentNames.j1, if_neg (by simp), empty_tl]
    by_cases hn : a1 < 0
    · rw [if_pos hn, if_pos rfl]
    · rw [if_neg hn, if_pos (by omega), if_pos rfl]
  · obtain ⟨w, h1, h2⟩ := name_in a1 (by omega) (by omega)
    refine ⟨w, 0, h1, ?_⟩
    rw [clevislaw02_IdentNames.j1, if_neg (by simp), if_neg (by omega), if_neg (by omega), if_pos rfl, h2]
    simp
theorem IdentNames : clevislaw02_IdentNames.Pure := by
  intro a0 a1 hsz hwf
  refine ⟨70, ?_⟩
  unfold clevislaw02_IdentNames.f
  have hm : 0 ≤ mn (a0.size : Int) 20 ∧ mn (a0.size : Int) 20 ≤ a0.size := by unfold mn; split <;> omega
  rw [if_pos hm.1, if_pos hm.2]
  obtain ⟨t, ht⟩ : ∃ t, a0.extract 0 (mn (a0.size : Int) 20).toNat = t := ⟨_, rfl⟩
  obtain ⟨x7, x8, h7, h8⟩ := j1_ok a1 68
  rw [ht, h7, rNode, known_f, iMember, rMember]
  unfold ident_Node.f
  by_cases hn : 0 ≤ Jd.nodeN t
  · rw [if_pos hn]
    simp only [Option.bind_some, if_true, bne_self_eq_false]
    rw [clevislaw02_IdentNames.j0, if_neg (by simp), if_neg (by omega), if_pos (by omega), if_pos rfl, bne_self_eq_false]
    exact h8
  · rw [if_neg hn]
    simp only [Option.bind_some, if_true, bne_self_eq_false]
    rw [clevislaw02_IdentNames.j0, if_neg (by simp), if_pos (by omega), if_pos rfl, if_pos rfl, if_neg (by omega)]
    exact h8
end Go.Proofs.Ythhmfpfmhklapaa.Pure
