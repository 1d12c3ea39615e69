/- Frames, plain: what is made is opened; one byte turned is told. -/
import Derived.Test.YtebdjhgboeadgaaJp
namespace Go.Proofs.Ytebdjhgboeadgaa.Jp
set_option linter.unusedSimpArgs false
set_option linter.unusedVariables false
open Go Go.RowKit
theorem wordL_length (n : Int) : (wordL n).length = 4 := rfl
theorem frameOf_length (b : List Int) : (frameOf b).length = b.length + 8 := by
  unfold frameOf
  rw [List.length_append, List.length_append, wordL_length, wordL_length]
  omega
theorem head_bytes (b : List Int) (hb : bytes b) : bytes (wordL b.length ++ b) := fun x hx => by
  rcases List.mem_append.1 hx with q | q
  · exact wordL_bytes _ x q
  · exact hb x q
theorem frameOf_bytes (b : List Int) (hb : bytes b) : bytes (frameOf b) := fun x hx => by
  unfold frameOf at hx
  rcases List.mem_append.1 hx with q | q
  · exact head_bytes b hb x q
  · exact wordL_bytes _ x q
theorem num_self (n : Int) (h0 : 0 ≤ n) (h1 : n < 4294967296) : numL (wordL n) = n := by
  have h := num_word n h0 h1 []
  rwa [List.append_nil] at h
theorem frame_take (b : List Int) : (frameOf b).take (b.length + 4) = wordL b.length ++ b := by
  unfold frameOf
  rw [List.take_append_of_le_length (by rw [List.length_append, wordL_length]; omega), List.take_of_length_le (by rw [List.length_append, wordL_length]; omega)]
theorem frame_drop (b : List Int) : (frameOf b).drop (b.length + 4) = wordL (crc (wordL b.length ++ b)) := by
  unfold frameOf
  rw [List.drop_append_of_le_length (by rw [List.length_append, wordL_length]; omega), List.drop_of_length_le (by rw [List.length_append, wordL_length]; omega), List.nil_append]
theorem frame_num (b : List Int) (hl : b.length ≤ 1048568) : numL (frameOf b) = b.length := by
  unfold frameOf
  rw [List.append_assoc]
  exact num_word _ (by omega) (by omega) _
theorem next_frame (b : List Int) (hb : bytes b) (hl : b.length ≤ 1048568) : nextOf (frameOf b) = (b, (b.length : Int) + 8, 0) := by
  have hc := crc_range _ (head_bytes b hb)
  unfold nextOf
  rw [if_neg (by rw [frameOf_length]; omega), frame_num b hl, if_neg (by omega), if_neg (by rw [frameOf_length]; omega), Int.toNat_natCast, frame_take, frame_drop, num_self _ hc.1 hc.2, if_pos rfl]
  rw [List.drop_append_of_le_length (by rw [wordL_length]; omega)]
  rfl
/-- What opening says: 0 is well. -/
def openE (l : List Int) : Int := if (nextOf l).2.2 = 0 then (if (nextOf l).2.1 < l.length then 3 else 0) else (nextOf l).2.2
theorem open_frame (b : List Int) (hb : bytes b) (hl : b.length ≤ 1048568) : openE (frameOf b) = 0 := by
  unfold openE
  rw [next_frame b hb hl, if_pos rfl, if_neg (by rw [frameOf_length]; simp)]
theorem xor_inj {a b c : Nat} (h : a ^^^ b = a ^^^ c) : b = c := by
  have h2 := congrArg (a ^^^ ·) h
  simpa [← Nat.xor_assoc] using h2
theorem reg_inj : ∀ (l : List Int) {c d : Nat}, bytes l → c < 2 ^ 32 → d < 2 ^ 32 → reg c l = reg d l → c = d
  | [], c, d, _, _, _, h => by rwa [reg_nil, reg_nil] at h
  | x :: r, c, d, hl, hc, hd, h => by
    have hx := hl x (by simp)
    unfold byte at hx
    rw [reg_cons, reg_cons] at h
    have h1 := reg_inj r (fun y hy => hl y (by simp [hy])) (it_lt 8 _ (Nat.xor_lt_two_pow hc (by omega : x.toNat < 2 ^ 32))) (it_lt 8 _ (Nat.xor_lt_two_pow hd (by omega : x.toNat < 2 ^ 32))) h
    have h2 := it_inj 8 (Nat.xor_lt_two_pow hc (by omega : x.toNat < 2 ^ 32)) (Nat.xor_lt_two_pow hd (by omega : x.toNat < 2 ^ 32)) h1
    rw [Nat.xor_comm c, Nat.xor_comm d] at h2
    exact xor_inj h2
theorem crc_turned (a b : List Int) (x y : Int) (ha : bytes a) (hb : bytes b) (hx : byte x) (hy : byte y) (hne : x ≠ y) : crc (a ++ x :: b) ≠ crc (a ++ y :: b) := by
  intro h
  unfold byte at hx hy
  have hra := reg_lt a c0 ha c0_lt
  have h1 : reg c0 (a ++ x :: b) = reg c0 (a ++ y :: b) := by
    unfold crc at h
    have h2 : reg c0 (a ++ x :: b) ^^^ c0 = reg c0 (a ++ y :: b) ^^^ c0 := by exact_mod_cast h
    rw [Nat.xor_comm _ c0, Nat.xor_comm _ c0] at h2
    exact xor_inj h2
  rw [reg_append, reg_append, reg_cons, reg_cons] at h1
  generalize reg c0 a = d at *
  have h3 := reg_inj b hb (it_lt 8 _ (Nat.xor_lt_two_pow hra (by omega : x.toNat < 2 ^ 32))) (it_lt 8 _ (Nat.xor_lt_two_pow hra (by omega : y.toNat < 2 ^ 32))) h1
  have h4 := it_inj 8 (Nat.xor_lt_two_pow hra (by omega : x.toNat < 2 ^ 32)) (Nat.xor_lt_two_pow hra (by omega : y.toNat < 2 ^ 32)) h3
  have h5 := xor_inj h4
  omega
theorem set_split (l : List Int) (i : Nat) (y : Int) (hi : i < l.length) : l.set i y = l.take i ++ y :: l.drop (i + 1) := by
  rw [List.set_eq_take_append_cons_drop, if_pos hi]
theorem get_split (l : List Int) (i : Nat) (hi : i < l.length) : l = l.take i ++ l.getD i 0 :: l.drop (i + 1) := by
  rw [List.getD_eq_getElem?_getD, List.getElem?_eq_getElem hi, Option.getD_some, ← List.drop_eq_getElem_cons hi, List.take_append_drop]
theorem num_set (l : List Int) (i : Nat) (y : Int) (hi : i < 4) (hl : 4 ≤ l.length) (hb : bytes l) (hy : byte y) (hne : l.getD i 0 ≠ y) : numL (l.set i y) ≠ numL l := by
  have hg : ∀ j, (l.set i y).getD j 0 = if i = j ∧ j < l.length then y else l.getD j 0 := fun j => by
    rw [List.getD_eq_getElem?_getD, List.getD_eq_getElem?_getD, List.getElem?_set]
    by_cases e : i = j
    · subst e
      by_cases e2 : i < l.length
      · simp [e2]
      · simp [e2]
    · simp [e]
  have hr : ∀ j, 0 ≤ l.getD j 0 ∧ l.getD j 0 ≤ 255 := fun j => by
    rw [List.getD_eq_getElem?_getD]
    cases he : l[j]? with
    | none => simp
    | some x => exact hb x (List.mem_of_getElem? he)
  unfold byte at hy
  unfold numL
  rw [hg, hg, hg, hg]
  have h0 := hr 0
  have h1 := hr 1
  have h2 := hr 2
  have h3 := hr 3
  rcases (show i = 0 ∨ i = 1 ∨ i = 2 ∨ i = 3 by omega) with rfl | rfl | rfl | rfl
  all_goals (repeat' split)
  all_goals omega
theorem set_bytes (l : List Int) (i : Nat) (y : Int) (hb : bytes l) (hy : byte y) : bytes (l.set i y) := fun x hx => by
  rcases List.mem_or_eq_of_mem_set hx with h | h
  · exact hb x h
  · rw [h]; exact hy
/-- A frame of which one byte is turned is none. -/
theorem open_turned (b : List Int) (hb : bytes b) (hl : b.length ≤ 1000) (i : Nat) (hi : i < (frameOf b).length) (y : Int) (hy : byte y) (hne : (frameOf b).getD i 0 ≠ y) : openE ((frameOf b).set i y) ≠ 0 := by
  have hfl := frameOf_length b
  have hfb := frameOf_bytes b hb
  have hnum := frame_num b (by omega)
  have htk := frame_take b
  have hdr := frame_drop b
  have hhb := head_bytes b hb
  have hc := crc_range _ hhb
  have hsl : ((frameOf b).set i y).length = b.length + 8 := by rw [List.length_set, hfl]
  have hsb := set_bytes _ i y hfb hy
  generalize frameOf b = f at *
  unfold openE nextOf
  by_cases h4 : i < 4
  · have hn := num_set f i y h4 (by omega) hfb hy hne
    have hr := num_range _ hsb
    rw [hnum] at hn
    generalize f.set i y = g at *
    rw [if_neg (show ¬ g.length < 8 by omega)]
    by_cases q1 : 1048568 < numL g
    · rw [if_pos q1]; simp
    · rw [if_neg q1]
      by_cases q2 : (g.length : Int) < numL g + 8
      · rw [if_pos q2]; simp
      · rw [if_neg q2]
        by_cases q3 : crc (g.take ((numL g).toNat + 4)) = numL (g.drop ((numL g).toNat + 4))
        · rw [if_pos q3]
          have : numL g + 8 < g.length := by omega
          simp [this]
        · rw [if_neg q3]; simp
  · have hn : numL (f.set i y) = b.length := by
      rw [← hnum]
      unfold numL
      have hg : ∀ j, j < 4 → (f.set i y).getD j 0 = f.getD j 0 := fun j hj => by
        rw [List.getD_eq_getElem?_getD, List.getD_eq_getElem?_getD, List.getElem?_set_ne (by omega)]
      rw [hg 0 (by omega), hg 1 (by omega), hg 2 (by omega), hg 3 (by omega)]
    have key : crc ((f.set i y).take (b.length + 4)) ≠ numL ((f.set i y).drop (b.length + 4)) := by
      by_cases h5 : i < b.length + 4
      · have e1 : (f.set i y).drop (b.length + 4) = f.drop (b.length + 4) := by
          rw [List.drop_set_of_lt (by omega)]
        rw [e1, hdr, num_self _ hc.1 hc.2, List.take_set]
        have hi2 : i < (wordL (b.length : Int) ++ b).length := by rw [List.length_append, wordL_length]; omega
        rw [htk]
        have hne2 : (wordL (b.length : Int) ++ b).getD i 0 ≠ y := by
          rw [← htk]
          rw [List.getD_eq_getElem?_getD] at hne ⊢
          rw [List.getElem?_take_of_lt (by omega)]
          exact hne
        generalize wordL (b.length : Int) ++ b = a at *
        rw [set_split a i y hi2]
        have hsp := get_split a i hi2
        have hga : byte (a.getD i 0) := by
          rw [List.getD_eq_getElem?_getD, List.getElem?_eq_getElem hi2]
          exact hhb _ (List.getElem_mem hi2)
        have hct := crc_turned (a.take i) (a.drop (i + 1)) (a.getD i 0) y (fun x hx => hhb x (List.mem_of_mem_take hx)) (fun x hx => hhb x (List.mem_of_mem_drop hx)) hga hy hne2
        rw [← hsp] at hct
        exact fun e => hct e.symm
      · have e1 : (f.set i y).take (b.length + 4) = f.take (b.length + 4) := by
          rw [List.take_set_of_le (by omega)]
        rw [e1, htk]
        have e2 : (f.set i y).drop (b.length + 4) = (f.drop (b.length + 4)).set (i - (b.length + 4)) y := by
          rw [List.drop_set, if_neg (by omega)]
        have hne2 : (f.drop (b.length + 4)).getD (i - (b.length + 4)) 0 ≠ y := by
          rw [List.getD_eq_getElem?_getD] at hne ⊢
          rw [List.getElem?_drop, show b.length + 4 + (i - (b.length + 4)) = i by omega]
          exact hne
        have hn2 := num_set (f.drop (b.length + 4)) (i - (b.length + 4)) y (by omega) (by rw [hdr, wordL_length]; omega) (fun x hx => hfb x (List.mem_of_mem_drop hx)) hy hne2
        rw [hdr, num_self _ hc.1 hc.2] at hn2
        rw [e2, hdr]
        exact fun e => hn2 e.symm
    generalize f.set i y = g at *
    rw [if_neg (show ¬ g.length < 8 by omega), hn, if_neg (show ¬ (1048568 : Int) < (b.length : Int) by omega), if_neg (show ¬ (g.length : Int) < (b.length : Int) + 8 by omega), Int.toNat_natCast, if_neg key]
    simp
end Go.Proofs.Ytebdjhgboeadgaa.Jp
