/- What the functions of frame tell, in plain terms. -/
import Derived.Test.YtebdjhgboeadgaaFr11
import Derived.Test.YtebdjhgboeadgaaFr12
import Derived.Test.YtebdjhgboeadgaaFr22
import Derived.Test.YtebdjhgboeadgaaJq
namespace Go.Proofs.Ytebdjhgboeadgaa.Jr
set_option linter.unusedSimpArgs false
set_option linter.unusedVariables false
open Go Go.RowKit Go.Proofs.Ytebdjhgboeadgaa.Fr Go.Proofs.YtebdjhgboeadgaaW.PrintWords Go.Proofs.YtebdjhgboeadgaaW.PrintLast Go.Proofs.YtebdjhgboeadgaaW.PrintMore
open Go.Proofs.Ytebdjhgboeadgaa.Jp (frameOf nextOf openE)
theorem all_of {l : List Int} (h : Jp.bytes l) : l.all (fun x => decide (0 ≤ x ∧ x ≤ 255)) = true := by
  rw [List.all_eq_true]
  intro x hx
  have h1 : 0 ≤ x ∧ x ≤ 255 := h x hx
  simp [h1]
theorem iMake (l : List Int) (hb : Jp.bytes l) (hl : l.length ≤ 1073741824) : frame_Make.f l = some (if 1048568 < l.length then ([], 2) else (frameOf l, 0)) := by
  unfold frame_Make.f
  rw [if_pos ⟨all_of hb, hl⟩]
theorem iNext (l : List Int) (hb : Jp.bytes l) (hl : l.length ≤ 1073741824) : frame_Next.f l = some (nextOf l) := by
  unfold frame_Next.f
  rw [if_pos ⟨all_of hb, hl⟩]
/-- What opening hands back. -/
def openL (l : List Int) : List Int := if (nextOf l).2.2 = 0 then (if (nextOf l).2.1 < l.length then [] else (nextOf l).1) else []
theorem iOpen (l : List Int) (hb : Jp.bytes l) (hl : l.length ≤ 1073741824) : frame_Open.f l = some (openL l, openE l) := by
  unfold frame_Open.f openL openE
  rw [iNext l hb hl, Option.bind_some]
  by_cases h : (nextOf l).2.2 = 0
  · rw [if_pos h, if_pos h, if_pos h]
    by_cases h2 : (nextOf l).2.1 < l.length
    · rw [if_pos h2, if_pos h2, if_pos h2]
    · rw [if_neg h2, if_neg h2, if_neg h2]
  · rw [if_neg h, if_neg h, if_neg h]
theorem openL_frame (b : List Int) (hb : Jp.bytes b) (hl : b.length ≤ 1048568) : openL (frameOf b) = b := by
  unfold openL
  rw [Jp.next_frame b hb hl, if_pos rfl, if_neg (by rw [Jp.frameOf_length]; simp)]
theorem same (l : List Int) (hl : l.length ≤ 1073741824) (e : Nat) : ∀ n i : Nat, i + n = l.length → clevisref05_Same.l0 (n + 1 + e) l l (i : Int) = some true
  | 0, i, h => by
    rw [show 0 + 1 + e = e + 1 by omega, clevisref05_Same.l0, if_neg (by omega)]
  | n + 1, i, h => by
    have hw : wrap64 ((i : Int) + 1) = ((i + 1 : Nat) : Int) := by unfold wrap64; omega
    rw [show n + 1 + 1 + e = (n + 1 + e) + 1 by omega, clevisref05_Same.l0, if_pos (by omega), if_pos (by omega), if_pos (by omega), if_pos rfl, hw, same l hl e n (i + 1) (by omega)]
theorem same_f (l : List Int) (hl : l.length ≤ 1073741824) (e : Nat) : clevisref05_Same.f (l.length + 1 + e) l l = some true := by
  unfold clevisref05_Same.f
  rw [if_pos rfl]
  exact same l hl e l.length 0 (by omega)
theorem same_k (l : List Int) (k : Nat) (hl : l.length ≤ 1073741824) (hk : l.length + 1 ≤ k) : clevisref05_Same.f k l l = some true := by
  rw [show k = l.length + 1 + (k - (l.length + 1)) by omega]
  exact same_f l hl _
theorem iBend_out (l : List Int) (a c : Int) (hl : l.length ≤ 1073741824) (h : a < 0 ∨ (l.length : Int) ≤ a) : frame_Bend.f l a c = some l := by
  unfold frame_Bend.f slices_Clone_byte_byte.f
  rw [if_pos hl, Option.bind_some]
  rcases h with h | h
  · rw [if_neg (by omega)]
  · by_cases h0 : a ≥ 0
    · rw [if_pos h0, if_neg (by omega)]
    · rw [if_neg h0]
/-- A byte turned by another. -/
def turned (x y : Int) : Int := ((x.toNat ^^^ y.toNat : Nat) : Int)
theorem iBend (l : List Int) (i : Nat) (c : Int) (hb : Jp.bytes l) (hc : Jp.byte c) (hl : l.length ≤ 1073741824) (h : i < l.length) : frame_Bend.f l i c = some (l.set i (turned (l.getD i 0) c)) := by
  have hx : Jp.byte (l.getD i 0) := by
    rw [List.getD_eq_getElem?_getD, List.getElem?_eq_getElem h]
    exact hb _ (List.getElem_mem h)
  unfold Jp.byte at hx hc
  obtain ⟨x, hxe⟩ := Int.eq_ofNat_of_zero_le hx.1
  obtain ⟨y, rfl⟩ := Int.eq_ofNat_of_zero_le hc.1
  have hr : rd l (i : Int) = l.getD i 0 := by unfold rd; rw [Int.toNat_natCast]
  unfold frame_Bend.f slices_Clone_byte_byte.f
  rw [if_pos hl, Option.bind_some, if_pos (by omega), if_pos (by omega), if_pos (by omega), hr, hxe, Int.toNat_natCast, Jp.bits_xor_nat .u8 8 (by decide) (fun n h0 h1 => by rw [IntKind.wrap_u8]; omega) x y (by omega) (by omega)]
  rfl
theorem turned_byte {x y : Int} (hx : Jp.byte x) (hy : Jp.byte y) : Jp.byte (turned x y) := by
  unfold Jp.byte at *
  unfold turned
  have h := Nat.xor_lt_two_pow (by omega : x.toNat < 2 ^ 8) (by omega : y.toNat < 2 ^ 8)
  omega
theorem turned_back {x y : Int} (hx : Jp.byte x) (hy : Jp.byte y) : turned (turned x y) y = x := by
  unfold Jp.byte at *
  unfold turned
  rw [Int.toNat_natCast, Nat.xor_assoc, Nat.xor_self, Nat.xor_zero]
  omega
theorem turned_zero {x : Int} (hx : Jp.byte x) : turned x 0 = x := by
  unfold Jp.byte at *
  unfold turned
  simp
  omega
theorem turned_ne {x y : Int} (hx : Jp.byte x) (hy : Jp.byte y) (h : y ≠ 0) : x ≠ turned x y := by
  unfold Jp.byte at *
  unfold turned
  intro e
  have e2 : x.toNat ^^^ 0 = x.toNat ^^^ y.toNat := by rw [Nat.xor_zero]; omega
  have := Jp.xor_inj e2
  omega
section
variable {A : Option Addr} {c n : Nat} {l : List Int} {w : World}
theorem make_c (hn : n = l.length) (hC : Jf.C5 w A l) (hc : l.length ≤ c) {r1 : List Int} {r2 : Int} (h : frame_Make.f l = some (r1, r2)) : Calls Try.prog 40 #[.slice A n c] w fun e w' => ∃ A' c', e = .returned (.tuple #[.slice A' r1.length c', .int .i64 r2]) ∧ r1.length ≤ c' ∧ Jf.C5 w' A' r1 ∧ Below w.heap.size w w' := by
  subst hn
  refine (frame_Make.calls A c l r1 r2 w hC hc h).mono ?_
  rintro e w' ⟨v, rfl, hR, hb⟩
  obtain ⟨A', c', rfl, hc', hC'⟩ := Kd.R_reads hR
  exact ⟨A', c', rfl, hc', hC', hb⟩
theorem open_c (hn : n = l.length) (hC : Jf.C5 w A l) (hc : l.length ≤ c) {r1 : List Int} {r2 : Int} (h : frame_Open.f l = some (r1, r2)) : Calls Try.prog 41 #[.slice A n c] w fun e w' => ∃ A' c', e = .returned (.tuple #[.slice A' r1.length c', .int .i64 r2]) ∧ r1.length ≤ c' ∧ Jf.C5 w' A' r1 ∧ Below w.heap.size w w' := by
  subst hn
  refine (frame_Open.calls A c l r1 r2 w hC hc h).mono ?_
  rintro e w' ⟨v, rfl, hR, hb⟩
  obtain ⟨A', c', rfl, hc', hC'⟩ := Kd.R_reads hR
  exact ⟨A', c', rfl, hc', hC', hb⟩
theorem bend_c (hn : n = l.length) (hC : Jf.C5 w A l) (hc : l.length ≤ c) {a b : Int} {r : List Int} (h : frame_Bend.f l a b = some r) : Calls Try.prog 49 #[.slice A n c, .int .i64 a, .int .u8 b] w fun e w' => ∃ A' c', e = .returned (.slice A' r.length c') ∧ r.length ≤ c' ∧ Jf.C5 w' A' r ∧ Below w.heap.size w w' := by
  subst hn
  refine (frame_Bend.calls A c l a b r w hC hc h).mono ?_
  rintro e w' ⟨v, rfl, hR, hb⟩
  obtain ⟨A', c', rfl, hc', hC'⟩ := Kd.R_reads hR
  exact ⟨A', c', rfl, hc', hC', hb⟩
theorem same_c {A2 : Option Addr} {c2 n2 : Nat} {l2 : List Int} (hn : n = l.length) (hn2 : n2 = l2.length) (hC : Jf.C5 w A l) (hc : l.length ≤ c) (hC2 : Jf.C5 w A2 l2) (hc2 : l2.length ≤ c2) {k : Nat} {r : Bool} (h : clevisref05_Same.f k l l2 = some r) : Calls Try.prog 45 #[.slice A n c, .slice A2 n2 c2] w fun e w' => e = .returned (.bool r) ∧ Below w.heap.size w w' := by
  subst hn hn2
  refine (clevisref05_Same.calls k A c l A2 c2 l2 r w hC hc hC2 hc2 h).mono ?_
  rintro e w' ⟨rfl, hd⟩
  exact ⟨rfl, hd.below⟩
end
end Go.Proofs.Ytebdjhgboeadgaa.Jr
