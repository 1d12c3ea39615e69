-- Written by a program of ours (pf.sh), for this seat.
import Derived.Test.YtebdjhgboeadgaaFr0
import Derived.Test.YtebdjhgboeadgaaFr1
import Derived.Test.YtebdjhgboeadgaaFr2
import Derived.Test.YtebdjhgboeadgaaFr3
namespace Go.Proofs.Ytebdjhgboeadgaa.Fr
open Go.RowKit Go.Proofs.YtebdjhgboeadgaaW.PrintWords Go.Proofs.YtebdjhgboeadgaaW.PrintLast Go.Proofs.YtebdjhgboeadgaaW.PrintMore
attribute [local go_sem] max2_int min2_int max_two min_two max_three min_three max_four min_four   -- for this text's walks alone
set_option linter.unusedVariables false
set_option linter.unusedSimpArgs false

/-! ### frame_Make: function 40 -/
theorem frame_Make.single : ∀ n i x e : Nat, i + n = 8 → x < 2 ^ 32 → frame_single.l0 (n + 1 + e) (x : Int) (i : Int) = some ((Jp.it n x : Nat) : Int)
  | 0, i, x, e, hi, hx => by
    rw [show 0 + 1 + e = e + 1 by omega, frame_single.l0, if_neg (by omega), Jp.it]
  | n + 1, i, x, e, hi, hx => by
    have hw : wrap64 ((i : Int) + 1) = ((i + 1 : Nat) : Int) := by unfold wrap64; omega
    have hd : (x : Int) / 2 = ((x / 2 : Nat) : Int) := by omega
    have hs := frame_Make.single n (i + 1) (Jp.st x) e (by omega) (Jp.st_lt x hx)
    rw [show n + 1 + 1 + e = (n + 1 + e) + 1 by omega, frame_single.l0, if_pos (by omega), Jp.bits_and1 x hx, hw, hd, Jp.it, show (3988292384 : Int) = ((3988292384 : Nat) : Int) from rfl, Jp.bits_xor32 (x / 2) 3988292384 (by omega) (by omega)]
    by_cases q : x % 2 = 1
    · rw [if_pos (by omega)]
      unfold Jp.st at hs ⊢
      rw [if_pos q] at hs ⊢
      exact hs
    · rw [if_neg (by omega)]
      unfold Jp.st at hs ⊢
      rw [if_neg q] at hs ⊢
      exact hs
theorem frame_Make.single_f (x e : Nat) (hx : x < 2 ^ 32) : frame_single.f (9 + e) (x : Int) = some ((Jp.up x : Nat) : Int) := frame_Make.single 8 0 x e rfl hx
theorem frame_Make.row (x8 : List (List Int)) (x9 : Int) (i : Nat) (hi : i ≤ 1073741824) (row : List Int) (hb : Jp.bytes row) (hr : row.length ≤ 1073741824) (R : Int) : ∀ n j c : Nat, j + n = row.length → c < 2 ^ 32 →
    (∃ K, ∀ e, frame_Sum.l0 (K + e) ((Jp.reg c (row.drop j) : Nat) : Int) x8 x9 ((i + 1 : Nat) : Int) = some R) → ∃ K, ∀ e, frame_Sum.l1 (K + e) (c : Int) x8 x9 (i : Int) row (row.length : Int) (j : Int) = some R
  | 0, j, c, hj, hc, ⟨K, hK⟩ => by
    have hw : wrap64 ((i : Int) + 1) = ((i + 1 : Nat) : Int) := by unfold wrap64; omega
    refine ⟨K + 1, fun e => ?_⟩
    have h := hK e
    rw [List.drop_eq_nil_of_le (by omega), Jp.reg_nil] at h
    rw [show K + 1 + e = (K + e) + 1 by omega, frame_Sum.l1, if_neg (by omega), hw, h]
  | n + 1, j, c, hj, hc, ⟨K, hK⟩ => by
    have hw : wrap64 ((j : Int) + 1) = ((j + 1 : Nat) : Int) := by unfold wrap64; omega
    have hjl : j < row.length := by omega
    have hx := hb row[j] (List.getElem_mem hjl)
    unfold Jp.byte at hx
    obtain ⟨x, hxe⟩ := Int.eq_ofNat_of_zero_le hx.1
    have hrd : rd row (j : Int) % 4294967296 = (x : Int) := by
      unfold rd
      rw [Int.toNat_natCast, List.getD_eq_getElem?_getD, List.getElem?_eq_getElem hjl, Option.getD_some, hxe]
      omega
    have hlt : (c % 256) ^^^ x < 2 ^ 32 := Nat.xor_lt_two_pow (by omega) (by omega)
    have hu : Jp.up ((c % 256) ^^^ x) < 2 ^ 32 := Jp.it_lt 8 _ hlt
    have hsp : c / 256 ^^^ Jp.up ((c % 256) ^^^ x) = Jp.up (c ^^^ x) := Jp.it_split c x (by omega)
    have hd : (c : Int) / 256 = ((c / 256 : Nat) : Int) := by omega
    have hnew : Jp.up (c ^^^ x) < 2 ^ 32 := Jp.it_lt 8 _ (Nat.xor_lt_two_pow hc (by omega))
    rw [List.drop_eq_getElem_cons hjl, Jp.reg_cons, hxe, Int.toNat_natCast] at hK
    obtain ⟨K2, h2⟩ := frame_Make.row x8 x9 i hi row hb hr R n (j + 1) (Jp.up (c ^^^ x)) (by omega) hnew ⟨K, hK⟩
    refine ⟨K2 + 10, fun e => ?_⟩
    have h3 := h2 (9 + e)
    rw [show K2 + 10 + e = (9 + (K2 + e)) + 1 by omega, frame_Sum.l1, if_pos (by omega), if_pos (by omega), if_pos (by omega), hrd, Jp.bits_and255 c hc, Jp.bits_xor32 (c % 256) x (by omega) (by omega), frame_Make.single_f _ (K2 + e) hlt, Option.bind_some, hd, Jp.bits_xor32 (c / 256) _ (by omega) hu, hsp, hw, show 9 + (K2 + e) = K2 + (9 + e) by omega]
    exact h3
theorem frame_Make.rows (l : List (List Int)) (hb : ∀ r ∈ l, Jp.bytes r) (hr : ∀ r ∈ l, r.length ≤ 1073741824) (hl : l.length ≤ 1073741824) : ∀ n i c : Nat, i + n = l.length → c < 2 ^ 32 →
    ∃ K, ∀ e, frame_Sum.l0 (K + e) (c : Int) l (l.length : Int) (i : Int) = some (((Jp.reg c (l.drop i).flatten) ^^^ Jp.c0 : Nat) : Int)
  | 0, i, c, hi, hc => ⟨1, fun e => by
    rw [show 1 + e = e + 1 by omega, frame_Sum.l0, if_neg (by omega), List.drop_eq_nil_of_le (by omega), List.flatten_nil, Jp.reg_nil]
    have h := Jp.bits_xor32 c Jp.c0 hc Jp.c0_lt
    rw [← h]
    rfl⟩
  | n + 1, i, c, hi, hc => by
    have hil : i < l.length := by omega
    have hm := List.getElem_mem hil
    have hrd : rd_L1 l (i : Int) = l[i] := by
      unfold rd_L1
      rw [Int.toNat_natCast, List.getD_eq_getElem?_getD, List.getElem?_eq_getElem hil]
      rfl
    have hlt := Jp.reg_lt l[i] c (hb _ hm) hc
    obtain ⟨K, hK⟩ := frame_Make.rows l hb hr hl n (i + 1) (Jp.reg c l[i]) (by omega) hlt
    obtain ⟨K2, h2⟩ := frame_Make.row l l.length i (by omega) l[i] (hb _ hm) (hr _ hm) (((Jp.reg (Jp.reg c l[i]) (l.drop (i + 1)).flatten) ^^^ Jp.c0 : Nat) : Int) l[i].length 0 c (by omega) hc ⟨K, fun e => hK e⟩
    refine ⟨K2 + 1, fun e => ?_⟩
    rw [show K2 + 1 + e = (K2 + e) + 1 by omega, frame_Sum.l0, if_pos (by omega), if_pos (by omega), if_pos (by omega), hrd, List.drop_eq_getElem_cons hil, List.flatten_cons, Jp.reg_append]
    exact h2 e
theorem frame_Make.sum (l : List (List Int)) (hb : ∀ r ∈ l, Jp.bytes r) (hr : ∀ r ∈ l, r.length ≤ 1073741824) (hl : l.length ≤ 1073741824) : ∃ K, ∀ e, frame_Sum.f (K + e) l = some (Jp.crc l.flatten) := by
  obtain ⟨K, hK⟩ := frame_Make.rows l hb hr hl l.length 0 Jp.c0 (by omega) Jp.c0_lt
  exact ⟨K, fun e => hK e⟩
def frame_Make.f (l0 : List Int) : Option (List Int × Int) := if l0.all (fun x => decide (0 ≤ x ∧ x ≤ 255)) = true ∧ l0.length ≤ 1073741824 then some (if 1048568 < l0.length then ([], 2) else (Jp.frameOf l0, 0)) else none
set_option maxHeartbeats 4000000 in
set_option maxRecDepth 100000 in
theorem frame_Make.calls (A0 : Option Addr) (c0 : Nat) (l0 : List Int) (r1 : List Int) (r2 : Int) (w : World) (hr0 : Kd.C (Kd.int .u8) w A0 l0.length l0) (hc0 : l0.length ≤ c0) (h : frame_Make.f l0 = some (r1, r2)) :
    Calls Try.prog 40 #[.slice A0 l0.length c0] w fun e w' => ∃ v0_ : Value, e = .returned (.tuple #[v0_, .int .i64 r2]) ∧ Kd.R (Kd.int .u8) 5 w' w.heap.size (fun _ => True) v0_ r1 ∧ Below w.heap.size w w' := by
  unfold frame_Make.f at h
  by_cases hs : l0.all (fun x => decide (0 ≤ x ∧ x ≤ 255)) = true ∧ l0.length ≤ 1073741824
  · rw [if_pos hs] at h
    have h := Option.some.inj h
    have hb : Jp.bytes l0 := fun x hx => by
      have h1 : 0 ≤ x ∧ x ≤ 255 := by simpa using List.all_eq_true.1 hs.1 x hx
      exact h1
    have hl1 := hs.2
    clear hs
    have HC := Aside0.mk hr0
    clear hr0
    by_cases hlong : 1048568 < l0.length
    · rw [if_pos hlong] at h
      simp only [Prod.mk.injEq] at h
      obtain ⟨rfl, rfl⟩ := h
      go_enter Try.func40, Try.ntmps40
      go_wp2
      go_ret2
      exact ⟨_, rfl, Kd.R_nil _ _ _ _ _, Below.refl _ _⟩
    · rw [if_neg hlong] at h
      simp only [Prod.mk.injEq] at h
      obtain ⟨rfl, rfl⟩ := h
      have hw1 : frame_word.f (l0.length : Int) = some (Jp.wordL l0.length) := rfl
      have hb1 := Jp.wordL_bytes (l0.length : Int)
      have hl4 : ∀ n : Int, (Jp.wordL n).length = 4 := fun n => rfl
      have hbb : Jp.bytes (Jp.wordL l0.length ++ l0) := fun x hx => by
        rcases List.mem_append.1 hx with q | q
        · exact hb1 x q
        · exact hb x q
      have hcr := Jp.crc_range _ hbb
      obtain ⟨K, hK⟩ := frame_Make.sum [Jp.wordL l0.length, l0] (fun r hr => by
        rcases List.mem_cons.1 hr with q | q
        · rw [q]; exact hb1
        · rw [List.mem_singleton.1 q]; exact hb) (fun r hr => by
        rcases List.mem_cons.1 hr with q | q
        · rw [q, hl4]; omega
        · rw [List.mem_singleton.1 q]; omega) (by simp)
      have hsum := hK 0
      rw [show [Jp.wordL (l0.length : Int), l0].flatten = Jp.wordL l0.length ++ l0 by simp] at hsum
      have hw2 : frame_word.f (Jp.crc (Jp.wordL l0.length ++ l0)) = some (Jp.wordL (Jp.crc (Jp.wordL l0.length ++ l0))) := rfl
      unfold Jp.frameOf
      obtain ⟨s1, hs1⟩ : ∃ s, Jp.wordL (l0.length : Int) = s := ⟨_, rfl⟩
      have hl41 := hl4 (l0.length : Int)
      rw [hs1] at hw1 hbb hcr hsum hw2 hl41 ⊢
      obtain ⟨q, hq⟩ : ∃ q, Jp.crc (s1 ++ l0) = q := ⟨_, rfl⟩
      have hl42 := hl4 q
      rw [hq] at hcr hsum hw2 ⊢
      obtain ⟨s2, hs2⟩ : ∃ s, Jp.wordL q = s := ⟨_, rfl⟩
      rw [hs2] at hw2 hl42 ⊢
      clear hs1 hs2 hq hb1 hbb hK hl4
      have hwr : IntKind.u32.wrap (l0.length : Int) = l0.length := by rw [IntKind.wrap_u32]; omega
      go_enter Try.func40, Try.ntmps40
      go_wp2_with fail
      refine (frame_word.calls _ s1 w hw1).mono ?_
      rintro e w1 ⟨v1, rfl, hR1, hb1⟩
      obtain ⟨A1, c1, rfl, hc1, hC1⟩ := Kd.R_reads hR1
      go_wp2_with fail
      have HC1 := Aside0.mk (Kd.C_below HC.out hb1)
      refine (frame_Sum.calls (K + 0) _ 2 [s1, l0] q _ (Jf.CC_two hl41.symm rfl hc1 hc0 hC1 HC1.out) (Nat.le_refl _) hsum).mono ?_
      rintro e w2 ⟨rfl, hd⟩
      have hb2 := ((Below.refl w1.heap.size w1).alloc (Nat.le_refl _) (.cells #[.slice A1 4 c1, .slice A0 l0.length c0] 44))
      have hb3 := hb2.trans (hd.below.mono hb2.size)
      have HC2 := Aside0.mk (Kd.C_below HC1.out hb3)
      have HS2 := Aside0.mk (Kd.C_below hC1 hb3)
      have HB2 := Aside0.mk (hb1.trans (hb3.mono hb1.size))
      clear hd hb2 hb3 hC1 HC1 hR1 hb1
      go_wp2_with fail
      refine (frame_word.calls q s2 w2 hw2).mono ?_
      rintro e w3 ⟨v3, rfl, hR3, hb3⟩
      obtain ⟨A3, c3, rfl, hc3, hC3⟩ := Kd.R_reads hR3
      have HC3 := Aside0.mk (Kd.C_below HC2.out hb3)
      have HS3 := Aside0.mk (Kd.C_below HS2.out hb3)
      have HB3 := Aside0.mk (HB2.out.trans (hb3.mono HB2.out.size))
      have HT3 := Aside0.mk hC3
      clear hb3 hC3 hR3
      go_wp2_with fail
      refine (Jf.concat_calls _ 3 [s1, l0, s2] _ (Jf.CC_three hl41.symm rfl hl42.symm hc1 hc0 hc3 HS3.out HC3.out HT3.out) (Nat.le_refl _) (by simp [Jf.tot]; omega) (by simp)).mono ?_
      rintro e w4 ⟨v4, rfl, hR4, hb4⟩
      have hb5 := ((Below.refl w3.heap.size w3).alloc (Nat.le_refl _) (.cells #[.slice A1 4 c1, .slice A0 l0.length c0, .slice A3 4 c3] 44))
      have HB4 := Aside0.mk (HB3.out.trans ((hb5.trans (hb4.mono hb5.size)).mono HB3.out.size))
      have HR4 := Aside0.mk (Kd.R_lower hR4 (Nat.le_trans HB3.out.size hb5.size))
      clear hR4 hb4 hb5
      go_wp2
      go_ret2
      refine ⟨_, rfl, ?_, HB4.out⟩
      have h9 := HR4.out
      rw [show [s1, l0, s2].flatten = s1 ++ l0 ++ s2 by simp] at h9
      exact h9
  · rw [if_neg hs] at h
    cases h

end Go.Proofs.Ytebdjhgboeadgaa.Fr
