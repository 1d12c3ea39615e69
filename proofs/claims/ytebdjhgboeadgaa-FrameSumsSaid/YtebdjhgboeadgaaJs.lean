/- The document's answer for frames: what its functions tell, and the walk of its Next. -/
import Derived.Test.YtebdjhgboeadgaaJr
import Derived.Test.YtebdjhgboeadgaaFr16
import Derived.Test.YtebdjhgboeadgaaFr18
namespace Go.Proofs.Ytebdjhgboeadgaa.Js
set_option linter.unusedSimpArgs false
set_option linter.unusedVariables false
open Go Go.RowKit Go.Proofs.Ytebdjhgboeadgaa.Fr Go.Proofs.YtebdjhgboeadgaaW.PrintWords Go.Proofs.YtebdjhgboeadgaaW.PrintLast Go.Proofs.YtebdjhgboeadgaaW.PrintMore
open Go.Proofs.Ytebdjhgboeadgaa.Jp (frameOf nextOf openE)
theorem not32 (c : Nat) (h : c < 2 ^ 32) : c ^^^ Jp.c0 = 4294967295 - c := by
  have h1 : (BitVec.ofNat 32 c ^^^ BitVec.allOnes 32).toNat = c ^^^ Jp.c0 := by
    rw [BitVec.toNat_xor, BitVec.toNat_ofNat, BitVec.toNat_allOnes, Nat.mod_eq_of_lt h]
    rfl
  have h2 : (BitVec.ofNat 32 c ^^^ BitVec.allOnes 32) = ~~~ (BitVec.ofNat 32 c) := BitVec.xor_allOnes
  rw [← h1, h2, BitVec.toNat_not, BitVec.toNat_ofNat, Nat.mod_eq_of_lt h]
theorem st_two (c d : Nat) : Jp.st (c ^^^ d) = (if c % 2 = d % 2 then c / 2 else (c / 2) ^^^ 3988292384) ^^^ (d / 2) := by
  rw [Jp.st_lin]
  unfold Jp.st
  rcases Nat.mod_two_eq_zero_or_one c with hx | hx <;> rcases Nat.mod_two_eq_zero_or_one d with hy | hy
  · rw [if_neg (show ¬ c % 2 = 1 by omega), if_neg (show ¬ d % 2 = 1 by omega), if_pos (show c % 2 = d % 2 by omega)]
  · rw [if_neg (show ¬ c % 2 = 1 by omega), if_pos (show d % 2 = 1 by omega), if_neg (show ¬ c % 2 = d % 2 by omega), Nat.xor_assoc, Nat.xor_comm 3988292384]
  · rw [if_pos (show c % 2 = 1 by omega), if_neg (show ¬ d % 2 = 1 by omega), if_neg (show ¬ c % 2 = d % 2 by omega)]
  · rw [if_pos (show c % 2 = 1 by omega), if_pos (show d % 2 = 1 by omega), if_pos (show c % 2 = d % 2 by omega)]
    have : ∀ a b x : Nat, (a ^^^ x) ^^^ (b ^^^ x) = a ^^^ b := fun a b x => by
      rw [Nat.xor_assoc, ← Nat.xor_assoc x, Nat.xor_comm x b, Nat.xor_assoc b, Nat.xor_self, Nat.xor_zero]
    rw [this]
theorem rByte (l : List Int) (i : Nat) (hi : i ≤ 1073741824) (R : Int) : ∀ n j c d : Nat, j + n = 8 → c < 2 ^ 32 → d < 2 ^ n →
    (∃ K, ∀ e, clevisref06_Sum.l0 (K + e) l ((Jp.it n (c ^^^ d) : Nat) : Int) ((i + 1 : Nat) : Int) = some R) → ∃ K, ∀ e, clevisref06_Sum.l1 (K + e) l (c : Int) (i : Int) (d : Int) (j : Int) = some R
  | 0, j, c, d, hj, hc, hd, ⟨K, hK⟩ => by
    have hw : wrap64 ((i : Int) + 1) = ((i + 1 : Nat) : Int) := by unfold wrap64; omega
    have h0 : d = 0 := by simpa using hd
    subst h0
    refine ⟨K + 1, fun e => ?_⟩
    have h := hK e
    rw [Nat.xor_zero, Jp.it] at h
    rw [show K + 1 + e = (K + e) + 1 by omega, clevisref06_Sum.l1, if_neg (by omega), hw, h]
  | n + 1, j, c, d, hj, hc, hd, ⟨K, hK⟩ => by
    have hw : wrap64 ((j : Int) + 1) = ((j + 1 : Nat) : Int) := by unfold wrap64; omega
    have hp : 2 ^ (n + 1) = 2 * 2 ^ n := by rw [Nat.pow_succ, Nat.mul_comm]
    have hp2 : 2 ^ n ≤ 2 ^ 7 := Nat.pow_le_pow_right (by decide) (by omega)
    have hcd : wrap64 (Int.tdiv (c : Int) 2) = ((c / 2 : Nat) : Int) := by
      rw [Int.tdiv_eq_ediv_of_nonneg (by omega)]
      unfold wrap64
      omega
    have hdd : wrap64 (Int.tdiv (d : Int) 2) = ((d / 2 : Nat) : Int) := by
      rw [Int.tdiv_eq_ediv_of_nonneg (by omega)]
      unfold wrap64
      omega
    have hcm : Int.tmod (c : Int) 2 = ((c % 2 : Nat) : Int) := by rw [Int.tmod_eq_emod_of_nonneg (by omega)]; omega
    have hdm : Int.tmod (d : Int) 2 = ((d % 2 : Nat) : Int) := by rw [Int.tmod_eq_emod_of_nonneg (by omega)]; omega
    simp only [Jp.it] at hK
    rw [st_two] at hK
    by_cases q : c % 2 = d % 2
    · rw [if_pos q] at hK
      obtain ⟨K2, h2⟩ := rByte l i hi R n (j + 1) (c / 2) (d / 2) (by omega) (by omega) (by omega) ⟨K, hK⟩
      refine ⟨K2 + 1, fun e => ?_⟩
      rw [show K2 + 1 + e = (K2 + e) + 1 by omega, clevisref06_Sum.l1, if_pos (by omega), hcm, hdm, if_pos (by omega), hcd, hdd, hw, h2 e]
    · rw [if_neg q] at hK
      obtain ⟨K2, h2⟩ := rByte l i hi R n (j + 1) ((c / 2) ^^^ 3988292384) (d / 2) (by omega) (Nat.xor_lt_two_pow (by omega) (by omega)) (by omega) ⟨K, hK⟩
      refine ⟨K2 + 1, fun e => ?_⟩
      rw [show K2 + 1 + e = (K2 + e) + 1 by omega, clevisref06_Sum.l1, if_pos (by omega), hcm, hdm, if_neg (by omega), hcd, hdd, hw, show (3988292384 : Int) = ((3988292384 : Nat) : Int) from rfl, Jp.bits_xor64 (c / 2) 3988292384 (by omega) (by omega), h2 e]
theorem rRow (l : List Int) (hb : Jp.bytes l) (hl : l.length ≤ 1073741824) : ∀ n i c : Nat, i + n = l.length → c < 2 ^ 32 → ∃ K, ∀ e, clevisref06_Sum.l0 (K + e) l (c : Int) (i : Int) = some (((Jp.reg c (l.drop i)) ^^^ Jp.c0 : Nat) : Int)
  | 0, i, c, hi, hc => ⟨1, fun e => by
    rw [show 1 + e = e + 1 by omega, clevisref06_Sum.l0, if_neg (by omega), List.drop_eq_nil_of_le (by omega), Jp.reg_nil, not32 c hc]
    congr 1
    unfold wrap64
    omega⟩
  | n + 1, i, c, hi, hc => by
    have hil : i < l.length := by omega
    have hx := hb l[i] (List.getElem_mem hil)
    unfold Jp.byte at hx
    obtain ⟨x, hxe⟩ := Int.eq_ofNat_of_zero_le hx.1
    have hrd : wrap64 (rd l (i : Int)) = (x : Int) := by
      unfold rd
      rw [Int.toNat_natCast, List.getD_eq_getElem?_getD, List.getElem?_eq_getElem hil, Option.getD_some, hxe]
      unfold wrap64
      omega
    have hu : Jp.up (c ^^^ x) < 2 ^ 32 := Jp.it_lt 8 _ (Nat.xor_lt_two_pow hc (by omega))
    obtain ⟨K, hK⟩ := rRow l hb hl n (i + 1) (Jp.up (c ^^^ x)) (by omega) hu
    obtain ⟨K2, h2⟩ := rByte l i (by omega) (((Jp.reg (Jp.up (c ^^^ x)) (l.drop (i + 1))) ^^^ Jp.c0 : Nat) : Int) 8 0 c x (by omega) hc (by omega) ⟨K, hK⟩
    refine ⟨K2 + 1, fun e => ?_⟩
    rw [show K2 + 1 + e = (K2 + e) + 1 by omega, clevisref06_Sum.l0, if_pos (by omega), if_pos (by omega), hrd, List.drop_eq_getElem_cons hil, Jp.reg_cons, hxe, Int.toNat_natCast]
    exact h2 e
theorem rSum (l : List Int) (hb : Jp.bytes l) (hl : l.length ≤ 1073741824) : ∃ K, ∀ e, clevisref06_Sum.f (K + e) l = some (Jp.crc l) := by
  obtain ⟨K, hK⟩ := rRow l hb hl l.length 0 Jp.c0 (by omega) Jp.c0_lt
  exact ⟨K, fun e => hK e⟩
theorem rNumber (l : List Int) (hb : Jp.bytes l) (h4 : 4 ≤ l.length) : clevisref06_number.f l = some (Jp.numL l) := by
  have hg : ∀ i : Nat, 0 ≤ l.getD i 0 ∧ l.getD i 0 ≤ 255 := fun i => by
    rw [List.getD_eq_getElem?_getD]
    cases he : l[i]? with
    | none => simp
    | some x => exact hb x (List.mem_of_getElem? he)
  have h0 := hg 0
  have h1 := hg 1
  have h2 := hg 2
  have h3 := hg 3
  have hr0 : rd l 0 = l.getD 0 0 := rfl
  have hr1 : rd l 1 = l.getD 1 0 := rfl
  have hr2 : rd l 2 = l.getD 2 0 := rfl
  have hr3 : rd l 3 = l.getD 3 0 := rfl
  unfold clevisref06_number.f Jp.numL
  rw [if_pos (by omega), if_pos (by omega), if_pos (by omega), if_pos (by omega), hr0, hr1, hr2, hr3]
  generalize l.getD 0 0 = x0 at *
  generalize l.getD 1 0 = x1 at *
  generalize l.getD 2 0 = x2 at *
  generalize l.getD 3 0 = x3 at *
  have w : ∀ n : Int, 0 ≤ n → n < 4294967296 → wrap64 n = n := fun n a b => by unfold wrap64; omega
  rw [w x0 (by omega) (by omega), w x1 (by omega) (by omega), w x2 (by omega) (by omega), w x3 (by omega) (by omega), w (x0 * 256) (by omega) (by omega), w (x0 * 256 + x1) (by omega) (by omega), w ((x0 * 256 + x1) * 256) (by omega) (by omega), w ((x0 * 256 + x1) * 256 + x2) (by omega) (by omega), w (((x0 * 256 + x1) * 256 + x2) * 256) (by omega) (by omega), w ((((x0 * 256 + x1) * 256 + x2) * 256) + x3) (by omega) (by omega)]
theorem num_ext (a b : List Int) (h : ∀ j, j < 4 → a.getD j 0 = b.getD j 0) : Jp.numL a = Jp.numL b := by
  unfold Jp.numL
  rw [h 0 (by omega), h 1 (by omega), h 2 (by omega), h 3 (by omega)]
set_option maxHeartbeats 4000000 in
set_option maxRecDepth 100000 in
theorem next_calls (A : Option Addr) (c : Nat) (l : List Int) (r1 : List Int) (r2 r3 : Int) (w : World) (hC : Jf.C5 w A l) (hc : l.length ≤ c) (hb : Jp.bytes l) (hl : l.length ≤ 1073741824) (h : nextOf l = (r1, r2, r3)) :
    Calls Try.prog 48 #[.slice A l.length c] w fun e w' => ∃ A' c', e = .returned (.tuple #[.slice A' r1.length c', .int .i64 r2, .int .i64 r3]) ∧ r1.length ≤ c' ∧ Jf.C5 w' A' r1 ∧ Below w.heap.size w w' := by
  have HC := Aside0.mk hC
  have hnil : Jf.C5 w none [] := Kd.C_nil _ _
  unfold nextOf at h
  by_cases h8 : l.length < 8
  · rw [if_pos h8] at h
    simp only [Prod.mk.injEq] at h
    obtain ⟨rfl, rfl, rfl⟩ := h
    clear hC
    go_enter Try.func48, Try.ntmps48
    go_wp2
    go_ret3
    exact ⟨none, 0, rfl, Nat.le_refl _, hnil, Below.refl _ _⟩
  · rw [if_neg h8] at h
    have hn4 : Jp.numL (l.take 4) = Jp.numL l := num_ext _ _ fun j hj => by
      rw [List.getD_eq_getElem?_getD, List.getD_eq_getElem?_getD, List.getElem?_take_of_lt hj]
    have hl4 : (l.take 4).length = 4 := by rw [List.length_take]; omega
    have hb4 : Jp.bytes (l.take 4) := fun x hx => hb x (List.mem_of_mem_take hx)
    have hn := rNumber (l.take 4) hb4 (by omega)
    have hnr := Jp.num_range l hb
    rw [hn4] at hn
    obtain ⟨N, hN⟩ := Int.eq_ofNat_of_zero_le hnr.1
    rw [hN] at h hn hnr
    rw [Int.toNat_natCast] at h
    clear hN hn4 hb4
    have hcut4 := Jf.cut_to A c l 4 (by omega) hc
    have hnum4 : ∀ w : World, Jf.C5 w A (l.take 4) → Calls Try.prog 70 #[.slice A 4 c] w fun e w' => e = .returned (.int .i64 N) ∧ Drawn0 w w' := fun w h => by
      have h9 := clevisref06_number.calls A c (l.take 4) _ w h (by omega) hn
      rw [hl4] at h9
      exact h9
    have HC4 : Aside0 (Jf.C5 w A (l.take 4)) := ⟨Kd.C_take hC (by omega)⟩
    clear hC hl4 hn
    by_cases hmax : 1048568 < (N : Int)
    · rw [if_pos hmax] at h
      simp only [Prod.mk.injEq] at h
      obtain ⟨rfl, rfl, rfl⟩ := h
      go_enter Try.func48, Try.ntmps48
      go_wp2_with fail
      refine (hnum4 w HC4.out).mono ?_
      rintro e w1 ⟨rfl, hd⟩
      go_wp2
      go_ret3
      exact ⟨none, 0, rfl, Nat.le_refl _, Kd.C_below hnil hd.below, hd.below⟩
    · rw [if_neg hmax] at h
      by_cases hend : (l.length : Int) < N + 8
      · rw [if_pos hend] at h
        simp only [Prod.mk.injEq] at h
        obtain ⟨rfl, rfl, rfl⟩ := h
        go_enter Try.func48, Try.ntmps48
        go_wp2_with fail
        refine (hnum4 w HC4.out).mono ?_
        rintro e w1 ⟨rfl, hd⟩
        go_wp2
        go_ret3
        exact ⟨none, 0, rfl, Nat.le_refl _, Kd.C_below hnil hd.below, hd.below⟩
      · rw [if_neg hend] at h
        have hw4 : wrap64 ((N : Int) + 4) = ((N + 4 : Nat) : Int) := by unfold wrap64; omega
        have hw8 : wrap64 ((N : Int) + 8) = ((N + 8 : Nat) : Int) := by unfold wrap64; omega
        have hcut0 := Jf.cut_to A c l (N + 4) (by omega) hc
        have hcut1 : ∀ W : World, (Instr.slice 44 (.slice A l.length c) none (some (.int .i64 (wrap64 ((N : Int) + 4)))) none).run Try.prog W = .ok (.slice A (N + 4) c) W := by rw [hw4]; exact hcut0
        obtain ⟨i0, hi, hz0, hz1, hz2⟩ := info_parts Jf.info5
        obtain ⟨A5, hc5, hr5, hl5⟩ := print_mid_of (Value.int .u8) (0 : Int) (P := Try.prog) 44 5 .i64 .i64 Try.underlying44 hi hz1 A c l ((N + 4 : Nat) : Int) ((N + 8 : Nat) : Int) (by omega) (by omega) (by omega) hc
        obtain ⟨A7, hc7, hr7, hl7⟩ := print_mid_of (Value.int .u8) (0 : Int) (P := Try.prog) 44 5 .i64 .i64 Try.underlying44 hi hz1 A c l 4 ((N + 4 : Nat) : Int) (by omega) (by omega) (by omega) hc
        rw [Int.toNat_natCast, Int.toNat_natCast] at hr5 hl5
        rw [Int.toNat_natCast, show (4 : Int).toNat = 4 from rfl] at hr7 hl7
        have hlm : ((l.take (N + 8)).drop (N + 4)).length = 4 := by rw [List.length_drop, List.length_take]; omega
        have hl7a : ((l.take (N + 4)).drop 4).length = N := by rw [List.length_drop, List.length_take]; omega
        have hcut2 : ∀ W : World, (Instr.slice 44 (.slice A l.length c) (some (.int .i64 (wrap64 ((N : Int) + 4)))) (some (.int .i64 (wrap64 ((N : Int) + 8)))) none).run Try.prog W = .ok (.slice A5 4 (c - (N + 4))) W := fun W => by
          rw [hw4, hw8]
          have h := hc5 W
          rw [Int.toNat_natCast, Int.toNat_natCast, hlm] at h
          exact h
        have hcut3 : ∀ W : World, (Instr.slice 44 (.slice A l.length c) (some (.int .i64 4)) (some (.int .i64 ((N : Int) + 4))) none).run Try.prog W = .ok (.slice A7 N (c - 4)) W := fun W => by
          have h := hc7 W
          rw [Int.toNat_natCast, show (4 : Int).toNat = 4 from rfl, hl7a] at h
          exact h
        have hlt : (l.take (N + 4)).length = N + 4 := by rw [List.length_take]; omega
        have hbt : Jp.bytes (l.take (N + 4)) := fun x hx => hb x (List.mem_of_mem_take hx)
        have hbm : Jp.bytes ((l.take (N + 8)).drop (N + 4)) := fun x hx => hb x (List.mem_of_mem_take (List.mem_of_mem_drop hx))
        have hnum := rNumber _ hbm (by omega)
        have hnm : Jp.numL ((l.take (N + 8)).drop (N + 4)) = Jp.numL (l.drop (N + 4)) := num_ext _ _ fun j hj => by
          rw [List.getD_eq_getElem?_getD, List.getD_eq_getElem?_getD, List.getElem?_drop, List.getElem?_drop, List.getElem?_take_of_lt (by omega)]
        rw [hnm] at hnum
        have hnc : ∀ w : World, Jf.C5 w A5 ((l.take (N + 8)).drop (N + 4)) → Calls Try.prog 70 #[.slice A5 4 (c - (N + 4))] w fun e w' => e = .returned (.int .i64 (Jp.numL (l.drop (N + 4)))) ∧ Drawn0 w w' := fun w h => by
          have h9 := clevisref06_number.calls A5 (c - (N + 4)) _ _ w h hl5 hnum
          rw [hlm] at h9
          exact h9
        obtain ⟨K0, hK0⟩ := rSum (l.take (N + 4)) hbt (by omega)
        have hsc : ∀ w : World, Jf.C5 w A (l.take (N + 4)) → Calls Try.prog 44 #[.slice A (N + 4) c] w fun e w' => e = .returned (.int .i64 (Jp.crc (l.take (N + 4)))) ∧ Drawn0 w w' := fun w h => by
          have h9 := clevisref06_Sum.calls (K0 + 0) A c (l.take (N + 4)) _ w h (by omega) (hK0 0)
          rw [hlt] at h9
          exact h9
        have HLT := Aside0.mk hlt
        have HL7 := Aside0.mk hl7a
        have HR5 := Aside0.mk hr5
        have HR7 := Aside0.mk hr7
        have HL77 := Aside0.mk hl7
        clear hw4 hw8 hcut0 hc5 hc7 hr5 hr7 hl5 hl7 hlm hl7a hlt hbt hbm hnum hnm hK0 hz0 hz1 hz2 hi
        go_enter Try.func48, Try.ntmps48
        go_wp2_with fail
        refine (hnum4 w HC4.out).mono ?_
        rintro e w1 ⟨rfl, hd⟩
        have HC1 := Aside0.mk (Kd.C_below HC.out hd.below)
        have HB1 := Aside0.mk hd.below
        have HA : Aside0 (Jf.C5 w1.drew A (l.take (N + 4))) := ⟨Kd.C_below (Kd.C_take HC1.out (by omega)) (Below.refl w1.heap.size w1).drew⟩
        have HD : Aside0 (Jf.C5 w1 A5 ((l.take (N + 8)).drop (N + 4))) := ⟨Kd.C_of_reads (h1 := fun _ => rfl) (HR5.out w1 (Kd.reads_of_C (h1 := fun _ => rfl) HC1.out))⟩
        have HE : Aside0 (Jf.C5 w1 A7 ((l.take (N + 4)).drop 4)) := ⟨Kd.C_of_reads (h1 := fun _ => rfl) (HR7.out w1 (Kd.reads_of_C (h1 := fun _ => rfl) HC1.out))⟩
        clear hd HR5 HR7
        go_wp2_with fail
        refine start_ (n := 13) (S := fun w' => True) (ds := []) #[false, false, false, false, false, false, false, false, false, false, false, false, false] (by kernel_rfl) rfl rfl trivial (fun hHeld => ?_)
        refine pure_ (i := 0) (N := some 19) (v := ?_) (a' := ?_) #[true, false, false, false, false, false, false, false, false, false, false, false, false] rfl rfl (by kernel_rfl) (fun _ _ _ h => h) (Or.inl ⟨by rfl, ?_⟩) ?_ ?_
        rotate_left
        · intro w'
          go_simp
          with_reducible rfl
        rotate_left
        · simp only [Act.put, List.setIfInBounds_toArray, List.set_cons_zero, List.set_cons_succ, i64_w, i32_w]
          rfl
        refine pure_ (i := 1) (N := some 20) (v := ?_) (a' := ?_) #[true, true, false, false, false, false, false, false, false, false, false, false, false] rfl rfl (by kernel_rfl) (fun _ _ _ h => h) (Or.inl ⟨by rfl, ?_⟩) ?_ ?_
        rotate_left
        · intro w'
          go_simp
          with_reducible rfl
        rotate_left
        · simp only [Act.put, List.setIfInBounds_toArray, List.set_cons_zero, List.set_cons_succ, i64_w, i32_w]
          rfl
        refine pure_ (i := 2) (N := some 21) (v := ?_) (a' := ?_) #[true, true, true, false, false, false, false, false, false, false, false, false, false] rfl rfl (by kernel_rfl) (fun _ _ _ h => h) (Or.inl ⟨by rfl, ?_⟩) ?_ ?_
        rotate_left
        · intro w'
          go_simp
          with_reducible rfl
        rotate_left
        · simp only [Act.put, List.setIfInBounds_toArray, List.set_cons_zero, List.set_cons_succ, i64_w, i32_w]
          rfl
        refine pure_ (i := 3) (N := some 22) (v := ?_) (a' := ?_) #[true, true, true, true, false, false, false, false, false, false, false, false, false] rfl rfl (by kernel_rfl) (fun _ _ _ h => h) (Or.inl ⟨by rfl, ?_⟩) ?_ ?_
        rotate_left
        · intro w'
          go_simp
          with_reducible rfl
        rotate_left
        · simp only [Act.put, List.setIfInBounds_toArray, List.set_cons_zero, List.set_cons_succ, i64_w, i32_w]
          rfl
        refine pure_ (i := 5) (N := some 24) (v := ?_) (a' := ?_) #[true, true, true, true, false, true, false, false, false, false, false, false, false] rfl rfl (by kernel_rfl) (fun _ _ _ h => h) (Or.inl ⟨by rfl, ?_⟩) ?_ ?_
        rotate_left
        · intro w'
          go_simp
          with_reducible rfl
        rotate_left
        · simp only [Act.put, List.setIfInBounds_toArray, List.set_cons_zero, List.set_cons_succ, i64_w, i32_w]
          rfl
        refine pure_ (i := 6) (N := some 25) (v := ?_) (a' := ?_) #[true, true, true, true, false, true, true, false, false, false, false, false, false] rfl rfl (by kernel_rfl) (fun _ _ _ h => h) (Or.inl ⟨by rfl, ?_⟩) ?_ ?_
        rotate_left
        · intro w'
          go_simp
          with_reducible rfl
        rotate_left
        · simp only [Act.put, List.setIfInBounds_toArray, List.set_cons_zero, List.set_cons_succ, i64_w, i32_w]
          rfl
        refine pure_ (i := 7) (N := some 26) (v := ?_) (a' := ?_) #[true, true, true, true, false, true, true, true, false, false, false, false, false] rfl rfl (by kernel_rfl) (fun _ _ _ h => h) (Or.inl ⟨by rfl, ?_⟩) ?_ ?_
        rotate_left
        · intro w'
          go_simp
          with_reducible rfl
        rotate_left
        · simp only [Act.put, List.setIfInBounds_toArray, List.set_cons_zero, List.set_cons_succ, i64_w, i32_w]
          rfl
        refine pure_ (i := 8) (N := some 27) (v := ?_) (a' := ?_) #[true, true, true, true, false, true, true, true, true, false, false, false, false] rfl rfl (by kernel_rfl) (fun _ _ _ h => h) (Or.inl ⟨by rfl, ?_⟩) ?_ ?_
        rotate_left
        · intro w'
          go_simp
          with_reducible rfl
        rotate_left
        · simp only [Act.put, List.setIfInBounds_toArray, List.set_cons_zero, List.set_cons_succ, i64_w, i32_w]
          rfl
        refine pure_ (i := 9) (N := some 28) (v := ?_) (a' := ?_) #[true, true, true, true, false, true, true, true, true, true, false, false, false] rfl rfl (by kernel_rfl) (fun _ _ _ h => h) (Or.inl ⟨by rfl, ?_⟩) ?_ ?_
        rotate_left
        · intro w'
          go_simp
          with_reducible rfl
        rotate_left
        · simp only [Act.put, List.setIfInBounds_toArray, List.set_cons_zero, List.set_cons_succ, i64_w, i32_w]
          rfl
        refine pure_ (i := 10) (N := some 29) (v := ?_) (a' := ?_) #[true, true, true, true, false, true, true, true, true, true, true, false, false] rfl rfl (by kernel_rfl) (fun _ _ _ h => h) (Or.inl ⟨by rfl, ?_⟩) ?_ ?_
        rotate_left
        · intro w'
          go_simp
          with_reducible rfl
        rotate_left
        · simp only [Act.put, List.setIfInBounds_toArray, List.set_cons_zero, List.set_cons_succ, i64_w, i32_w]
          rfl
        refine one_ (i := 4) (N := some 23) #[true, true, true, true, true, true, true, true, true, true, true, false, false] rfl rfl (by kernel_rfl) (by decide) (fun K hK => ?_)
        refine goes_ Try.func44 (by kernel_rfl) rfl #[.slice A (N + 4) c] (by rfl) rfl rfl (by simp only [List.map_toArray, List.map_cons, List.map_nil]; rfl) ?_
        refine (hsc w1.drew HA.out).mono ?_
        rintro e w2 ⟨rfl, hd⟩
        refine ⟨_, rfl, ?_⟩
        have HB2 := Aside0.mk ((Below.refl w1.heap.size w1).drew.trans hd.below)
        clear hd
        refine hK.out _ _ trivial (fun hHeld => ?_)
        clear hK K
        refine norm_ (a' := ?_) ?_ ?_
        rotate_left
        · show Act.put _ (some 23) _ = _
          simp only [Act.put, List.setIfInBounds_toArray, List.set_cons_zero, List.set_cons_succ, i64_w, i32_w]
          rfl
        refine one_ (i := 11) (N := some 30) #[true, true, true, true, true, true, true, true, true, true, true, true, false] rfl rfl (by kernel_rfl) (by decide) (fun K hK => ?_)
        refine goes_ Try.func70 (by kernel_rfl) rfl #[.slice A5 4 (c - (N + 4))] (by rfl) rfl rfl (by simp only [List.map_toArray, List.map_cons, List.map_nil]; rfl) ?_
        refine (hnc w2 (Kd.C_below HD.out HB2.out)).mono ?_
        rintro e w3 ⟨rfl, hd⟩
        refine ⟨_, rfl, ?_⟩
        have HB3 := Aside0.mk (HB2.out.trans (hd.below.mono HB2.out.size))
        clear hd
        refine hK.out _ _ trivial (fun hHeld => ?_)
        clear hK K
        refine norm_ (a' := ?_) ?_ ?_
        rotate_left
        · show Act.put _ (some 30) _ = _
          simp only [Act.put, List.setIfInBounds_toArray, List.set_cons_zero, List.set_cons_succ, i64_w, i32_w]
          rfl
        refine pure_ (i := 12) (N := some 31) (v := ?_) (a' := ?_) #[true, true, true, true, true, true, true, true, true, true, true, true, true] rfl rfl (by kernel_rfl) (fun _ _ _ h => h) (Or.inl ⟨by rfl, ?_⟩) ?_ ?_
        rotate_left
        · intro w'
          go_simp
          with_reducible rfl
        rotate_left
        · simp only [Act.put, List.setIfInBounds_toArray, List.set_cons_zero, List.set_cons_succ, i64_w, i32_w]
          rfl
        refine done_ (by kernel_rfl) ?_
        by_cases hcs : Jp.crc (l.take (N + 4)) = Jp.numL (l.drop (N + 4))
        · rw [if_pos hcs] at h
          simp only [Prod.mk.injEq] at h
          obtain ⟨hr1, rfl, rfl⟩ := h
          have hlr := HL7.out
          have HE2 := HE.out
          have hl77 := HL77.out
          rw [hr1] at hlr HE2 hl77
          have HLR := Aside0.mk hlr
          have HE3 := Aside0.mk HE2
          have HL78 := Aside0.mk hl77
          clear hlr hr1 HE2 hl77
          have e1 : (Jp.crc (l.take (N + 4)) != Jp.numL (l.drop (N + 4))) = false := bne_eq_false_iff_eq.mpr hcs
          rw [e1]
          clear hcs
          go_wp2
          go_ret3
          refine ⟨A7, c - 4, ?_, HL78.out, Kd.C_below HE3.out HB3.out, HB1.out.trans (HB3.out.mono HB1.out.size)⟩
          rw [HLR.out]
          rfl
        · rw [if_neg hcs] at h
          simp only [Prod.mk.injEq] at h
          obtain ⟨rfl, rfl, rfl⟩ := h
          have e1 : (Jp.crc (l.take (N + 4)) != Jp.numL (l.drop (N + 4))) = true := bne_iff_ne.mpr hcs
          rw [e1]
          clear hcs
          go_wp2
          go_ret3
          exact ⟨none, 0, rfl, Nat.le_refl _, Kd.C_below hnil (HB1.out.trans (HB3.out.mono HB1.out.size)), HB1.out.trans (HB3.out.mono HB1.out.size)⟩
end Go.Proofs.Ytebdjhgboeadgaa.Js
