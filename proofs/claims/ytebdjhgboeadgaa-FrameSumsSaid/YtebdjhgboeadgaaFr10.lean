-- Written by a program of ours (pf.sh), for this seat.
import Derived.Test.YtebdjhgboeadgaaFr0
import Derived.Test.YtebdjhgboeadgaaFr2
import Derived.Test.YtebdjhgboeadgaaFr6
import Derived.Test.YtebdjhgboeadgaaFr7
namespace Go.Proofs.Ytebdjhgboeadgaa.Fr
open Go.RowKit Go.Proofs.YtebdjhgboeadgaaW.PrintWords Go.Proofs.YtebdjhgboeadgaaW.PrintLast Go.Proofs.YtebdjhgboeadgaaW.PrintMore
attribute [local go_sem] max2_int min2_int max_two min_two max_three min_three max_four min_four   -- for this text's walks alone
set_option linter.unusedVariables false
set_option linter.unusedSimpArgs false

/-! ### frame_Next: function 47 -/
theorem frame_Next.num (l : List Int) (hb : Jp.bytes l) (h4 : 4 ≤ l.length) : frame_number.f l = some (Jp.numL l) := by
  have hg : ∀ i : Nat, 0 ≤ l.getD i 0 ∧ l.getD i 0 ≤ 255 := fun i => by
    rw [List.getD_eq_getElem?_getD]
    cases he : l[i]? with
    | none => simp
    | some x => exact hb x (List.mem_of_getElem? he)
  have h0 := hg 0
  have h1 := hg 1
  have h2 := hg 2
  have h3 := hg 3
  have hr0 : rd l 0 = l.getD 0 0 := rfl
  have hr1 : rd l 1 = l.getD 1 0 := rfl
  have hr2 : rd l 2 = l.getD 2 0 := rfl
  have hr3 : rd l 3 = l.getD 3 0 := rfl
  unfold frame_number.f Jp.numL
  rw [if_pos (by omega), if_pos (by omega), if_pos (by omega), if_pos (by omega), hr0, hr1, hr2, hr3]
  generalize l.getD 0 0 = x0 at *
  generalize l.getD 1 0 = x1 at *
  generalize l.getD 2 0 = x2 at *
  generalize l.getD 3 0 = x3 at *
  have e0 : x0 % 4294967296 * 16777216 % 4294967296 = x0 * 16777216 := by omega
  have e1 : x1 % 4294967296 * 65536 % 4294967296 = x1 * 65536 := by omega
  have e2 : x2 % 4294967296 * 256 % 4294967296 = x2 * 256 := by omega
  have e3 : x3 % 4294967296 = x3 := by omega
  have wr : ∀ n : Int, 0 ≤ n → n < 2 ^ 32 → IntKind.u32.wrap n = n := fun n a b => by rw [IntKind.wrap_u32]; omega
  rw [e0, e1, e2, e3, bits_join .u32 32 (by decide) wr 24 (x0 * 16777216) (x1 * 65536) (by omega) (by omega) (by omega) (by omega) (by omega) (by omega),
    bits_join .u32 32 (by decide) wr 16 (x0 * 16777216 + x1 * 65536) (x2 * 256) (by omega) (by omega) (by omega) (by omega) (by omega) (by omega),
    bits_join .u32 32 (by decide) wr 8 (x0 * 16777216 + x1 * 65536 + x2 * 256) x3 (by omega) (by omega) (by omega) (by omega) (by omega) (by omega)]
  congr 1
  omega
set_option maxHeartbeats 4000000 in
set_option maxRecDepth 100000 in
theorem frame_Next.cut (A0 : Option Addr) (c0 : Nat) (l0 : List Int) (r1 : List Int) (r2 r3 : Int) (w : World) (hr0 : Kd.C (Kd.int .u8) w A0 l0.length l0) (hc0 : l0.length ≤ c0) (hb : Jp.bytes l0) (hl : l0.length ≤ 1073741824) (h : Jp.nextOf l0 = (r1, r2, r3)) :
    Calls Try.prog 68 #[.slice A0 l0.length c0] w fun e w' => ∃ A' c', e = .returned (.tuple #[.slice A' r1.length c', .int .i64 r2, .int .i64 r3]) ∧ r1.length ≤ c' ∧ Jf.C5 w' A' r1 ∧ Below w.heap.size w w' := by
  have HC := Aside0.mk hr0
  clear hr0
  have hnil : Jf.C5 w none [] := by
    obtain ⟨A, c, e, _, hC⟩ := Kd.R_reads (Kd.R_nil (Kd.int .u8) 5 w w.heap.size (fun _ => True))
    injection e with e1
    subst e1
    exact hC
  unfold Jp.nextOf at h
  by_cases h8 : l0.length < 8
  · rw [if_pos h8] at h
    simp only [Prod.mk.injEq] at h
    obtain ⟨rfl, rfl, rfl⟩ := h
    go_enter Try.func68, Try.ntmps68
    go_wp2
    go_ret3
    exact ⟨none, 0, rfl, Nat.le_refl _, hnil, Below.refl _ _⟩
  · rw [if_neg h8] at h
    have hn := frame_Next.num l0 hb (by omega)
    have hnr := Jp.num_range l0 hb
    obtain ⟨N, hN⟩ := Int.eq_ofNat_of_zero_le hnr.1
    rw [hN] at h hn hnr
    rw [Int.toNat_natCast] at h
    clear hN
    by_cases hmax : 1048568 < (N : Int)
    · rw [if_pos hmax] at h
      simp only [Prod.mk.injEq] at h
      obtain ⟨rfl, rfl, rfl⟩ := h
      go_enter Try.func68, Try.ntmps68
      go_wp2_with fail
      refine (frame_number.calls A0 c0 l0 N w HC.out hc0 hn).mono ?_
      rintro e w1 ⟨rfl, hd⟩
      go_wp2
      go_ret3
      exact ⟨none, 0, rfl, Nat.le_refl _, Kd.C_below hnil hd.below, hd.below⟩
    · rw [if_neg hmax] at h
      by_cases hend : (l0.length : Int) < N + 8
      · rw [if_pos hend] at h
        simp only [Prod.mk.injEq] at h
        obtain ⟨rfl, rfl, rfl⟩ := h
        go_enter Try.func68, Try.ntmps68
        go_wp2_with fail
        refine (frame_number.calls A0 c0 l0 N w HC.out hc0 hn).mono ?_
        rintro e w1 ⟨rfl, hd⟩
        go_wp2
        go_ret3
        exact ⟨none, 0, rfl, Nat.le_refl _, Kd.C_below hnil hd.below, hd.below⟩
      · rw [if_neg hend] at h
        go_enter Try.func68, Try.ntmps68
        go_wp2_with fail
        refine (frame_number.calls A0 c0 l0 N w HC.out hc0 hn).mono ?_
        rintro e w1 ⟨rfl, hd⟩
        have HC1 := Aside0.mk (Kd.C_below HC.out hd.below)
        have HB1 := Aside0.mk hd.below
        clear hd
        go_wp2_with fail
        have hw1 : wrap64 ((N : Int) + 8 - 4) = ((N + 4 : Nat) : Int) := by unfold wrap64; omega
        have hcut0 := Jf.cut_to A0 c0 l0 (N + 4) (by omega) hc0
        have hcut1 : ∀ W : World, (Instr.slice 44 (.slice A0 l0.length c0) none (some (.int .i64 (wrap64 ((N : Int) + 8 - 4)))) none).run Try.prog W = .ok (.slice A0 (N + 4) c0) W := by rw [hw1]; exact hcut0
        obtain ⟨i0, hi, hz0, hz1, hz2⟩ := info_parts Jf.info5
        obtain ⟨A5, hc5, hr5, hl5⟩ := print_drop_of (Value.int .u8) (0 : Int) (P := Try.prog) 44 5 .i64 Try.underlying44 hi hz1 A0 c0 l0 ((N + 4 : Nat) : Int) (by omega) (by omega) hc0
        rw [Int.toNat_natCast] at hr5 hl5
        have hcut2 : ∀ W : World, (Instr.slice 44 (.slice A0 l0.length c0) (some (.int .i64 (wrap64 ((N : Int) + 8 - 4)))) none none).run Try.prog W = .ok (.slice A5 (l0.length - (N + 4)) (c0 - (N + 4))) W := fun W => by
          rw [hw1]
          have h := hc5 W
          rw [Int.toNat_natCast, List.length_drop] at h
          exact h
        have hl4 : N + 4 = (l0.take (N + 4)).length := by rw [List.length_take]; omega
        have hbt : Jp.bytes (l0.take (N + 4)) := fun x hx => hb x (List.mem_of_mem_take hx)
        have hbd : Jp.bytes (l0.drop (N + 4)) := fun x hx => hb x (List.mem_of_mem_drop hx)
        have hnum := frame_Next.num (l0.drop (N + 4)) hbd (by rw [List.length_drop]; omega)
        have hnc : ∀ w : World, Jf.C5 w A5 (l0.drop (N + 4)) → Calls Try.prog 76 #[.slice A5 (l0.length - (N + 4)) (c0 - (N + 4))] w fun e w' => e = .returned (.int .u32 (Jp.numL (l0.drop (N + 4)))) ∧ Drawn0 w w' := fun w h => by
          have h9 := frame_number.calls A5 (c0 - (N + 4)) (l0.drop (N + 4)) _ w h hl5 hnum
          rw [List.length_drop] at h9
          exact h9
        obtain ⟨K0, hK0⟩ := frame_Make.sum [l0.take (N + 4)] (fun r hr => by rw [List.mem_singleton.1 hr]; exact hbt) (fun r hr => by rw [List.mem_singleton.1 hr, ← hl4]; omega) (by simp)
        have hsum := hK0 0
        rw [show [l0.take (N + 4)].flatten = l0.take (N + 4) by simp] at hsum
        have HA : Aside0 (Jf.C5 w1 A0 (l0.take (N + 4))) := ⟨Kd.C_take HC1.out (by omega)⟩
        have HD : Aside0 (Jf.C5 w1 A5 (l0.drop (N + 4))) := ⟨Kd.C_of_reads (h1 := fun _ => rfl) (hr5 w1 (Kd.reads_of_C (h1 := fun _ => rfl) HC1.out))⟩
        have HB5 := Aside0.mk hb
        have hcut30 := Jf.cut_mid3 A0 l0.length c0 4 (N + 4) (by omega) (by omega)
        have hcut3 : ∀ W : World, (Instr.slice 44 (.slice A0 l0.length c0) (some (.int .i64 4)) (some (.int .i64 ((N : Int) + 8 - 4))) (some (.int .i64 ((N : Int) + 8 - 4)))).run Try.prog W = .ok (.slice (if N + 4 = 4 then A0 else A0.map (·.add (4 * 1))) (N + 4 - 4) (N + 4 - 4)) W := by rw [show (N : Int) + 8 - 4 = ((N + 4 : Nat) : Int) by omega]; exact hcut30
        obtain ⟨A7, hA7⟩ : ∃ A7, (if N + 4 = 4 then A0 else A0.map (·.add (4 * 1))) = A7 := ⟨_, rfl⟩
        have HE : Aside0 (Jf.C5 w1 A7 ((l0.take (N + 4)).drop 4)) := by
          have h9 := Kd.C_drop (m := 4) (c := N + 4) (Kd.C_take HC1.out (by omega : N + 4 ≤ l0.length)) (by rw [← hl4]; omega) (by rw [← hl4]; omega)
          rw [← hA7]
          exact ⟨h9⟩
        rw [hA7, Nat.add_sub_cancel] at hcut3
        clear hcut30 hA7
        have HL4 := Aside0.mk hl4
        have HSUM := Aside0.mk hsum
        clear hcut0 hc5 hr5 hnum hK0 hbt hbd hz0 hz1 hz2 hi hl4 hsum hw1
        refine start_ (n := 12) (S := fun w' => True) (ds := []) #[false, false, false, false, false, false, false, false, false, false, false, false] (by kernel_rfl) rfl rfl trivial (fun hHeld => ?_)
        refine pure_ (i := 0) (N := some 21) (v := ?_) (a' := ?_) #[true, false, false, false, false, false, false, false, false, false, false, false] rfl rfl (by kernel_rfl) (fun _ _ _ h => h) (Or.inl ⟨by rfl, ?_⟩) ?_ ?_
        rotate_left
        · intro w'
          go_simp
          with_reducible rfl
        rotate_left
        · simp only [Act.put, List.setIfInBounds_toArray, List.set_cons_zero, List.set_cons_succ, i64_w, i32_w]
          rfl
        refine pure_ (i := 1) (N := some 22) (v := ?_) (a' := ?_) #[true, true, false, false, false, false, false, false, false, false, false, false] rfl rfl (by kernel_rfl) (fun _ _ _ h => h) (Or.inl ⟨by rfl, ?_⟩) ?_ ?_
        rotate_left
        · intro w'
          go_simp
          with_reducible rfl
        rotate_left
        · simp only [Act.put, List.setIfInBounds_toArray, List.set_cons_zero, List.set_cons_succ, i64_w, i32_w]
          rfl
        refine pure_ (i := 2) (N := some 23) (v := ?_) (a' := ?_) #[true, true, true, false, false, false, false, false, false, false, false, false] rfl rfl (by kernel_rfl) (fun _ _ _ h => h) (Or.inl ⟨by rfl, ?_⟩) ?_ ?_
        rotate_left
        · intro w'
          go_simp
          with_reducible rfl
        rotate_left
        · simp only [Act.put, List.setIfInBounds_toArray, List.set_cons_zero, List.set_cons_succ, i64_w, i32_w]
          rfl
        refine pure_ (i := 3) (N := some 24) (v := ?_) (a' := ?_) #[true, true, true, true, false, false, false, false, false, false, false, false] rfl rfl (by kernel_rfl) (fun _ _ _ h => h) (Or.inl ⟨by rfl, ?_⟩) ?_ ?_
        rotate_left
        · intro w'
          go_simp
          with_reducible rfl
        rotate_left
        · simp only [Act.put, List.setIfInBounds_toArray, List.set_cons_zero, List.set_cons_succ, i64_w, i32_w]
          rfl
        refine pure_ (i := 6) (N := some 27) (v := ?_) (a' := ?_) #[true, true, true, true, false, false, true, false, false, false, false, false] rfl rfl (by kernel_rfl) (fun _ _ _ h => h) (Or.inl ⟨by rfl, ?_⟩) ?_ ?_
        rotate_left
        · intro w'
          go_simp
          with_reducible rfl
        rotate_left
        · simp only [Act.put, List.setIfInBounds_toArray, List.set_cons_zero, List.set_cons_succ, i64_w, i32_w]
          rfl
        refine pure_ (i := 7) (N := some 28) (v := ?_) (a' := ?_) #[true, true, true, true, false, false, true, true, false, false, false, false] rfl rfl (by kernel_rfl) (fun _ _ _ h => h) (Or.inl ⟨by rfl, ?_⟩) ?_ ?_
        rotate_left
        · intro w'
          go_simp
          with_reducible rfl
        rotate_left
        · simp only [Act.put, List.setIfInBounds_toArray, List.set_cons_zero, List.set_cons_succ, i64_w, i32_w]
          rfl
        refine pure_ (i := 8) (N := some 29) (v := ?_) (a' := ?_) #[true, true, true, true, false, false, true, true, true, false, false, false] rfl rfl (by kernel_rfl) (fun _ _ _ h => h) (Or.inl ⟨by rfl, ?_⟩) ?_ ?_
        rotate_left
        · intro w'
          go_simp
          with_reducible rfl
        rotate_left
        · simp only [Act.put, List.setIfInBounds_toArray, List.set_cons_zero, List.set_cons_succ, i64_w, i32_w]
          rfl
        refine pure_ (i := 9) (N := some 30) (v := ?_) (a' := ?_) #[true, true, true, true, false, false, true, true, true, true, false, false] rfl rfl (by kernel_rfl) (fun _ _ _ h => h) (Or.inl ⟨by rfl, ?_⟩) ?_ ?_
        rotate_left
        · intro w'
          go_simp
          with_reducible rfl
        rotate_left
        · simp only [Act.put, List.setIfInBounds_toArray, List.set_cons_zero, List.set_cons_succ, i64_w, i32_w]
          rfl
        refine one_ (i := 4) (N := some 25) #[true, true, true, true, true, false, true, true, true, true, false, false] rfl rfl (by kernel_rfl) (by decide) (fun K hK => ?_)
        refine value_ (w1 := ?_) (v := ?_) (by rfl) rfl ?_ ?_
        rotate_left 2
        · go_simp
          constructor
          · rfl
          · rfl
        refine hK.out _ _ trivial (fun hHeld => ?_)
        clear hK K
        refine norm_ (a' := ?_) ?_ ?_
        rotate_left
        · show Act.put _ (some 25) _ = _
          simp only [Act.put, List.setIfInBounds_toArray, List.set_cons_zero, List.set_cons_succ, i64_w, i32_w]
          rfl
        refine one_ (i := 5) (N := some 26) #[true, true, true, true, true, true, true, true, true, true, false, false] rfl rfl (by kernel_rfl) (by decide) (fun K hK => ?_)
        refine goes_ Try.func43 (by kernel_rfl) rfl #[.slice (some ⟨w1.heap.size, 0, none⟩) 1 1] (by rfl) rfl rfl (by simp only [List.map_toArray, List.map_cons, List.map_nil]; rfl) ?_
        refine (frame_Sum.calls (K0 + 0) _ 1 [l0.take (N + 4)] (Jp.crc (l0.take (N + 4))) _ (Kd.C_below (Jf.CC_one (w := w1) (c1 := c0) HL4.out (by rw [← HL4.out]; omega) HA.out) (Below.refl _ _).drew) (Nat.le_refl _) HSUM.out).mono ?_
        rintro e w2 ⟨rfl, hd⟩
        refine ⟨_, rfl, ?_⟩
        have hb2 := ((Below.refl w1.heap.size w1).alloc (Nat.le_refl _) (.cells #[.slice A0 (N + 4) c0] 44)).drew
        have HB2 := Aside0.mk (hb2.trans (hd.below.mono hb2.size))
        clear hb2 hd
        refine hK.out _ _ trivial (fun hHeld => ?_)
        clear hK K
        refine norm_ (a' := ?_) ?_ ?_
        rotate_left
        · show Act.put _ (some 26) _ = _
          simp only [Act.put, List.setIfInBounds_toArray, List.set_cons_zero, List.set_cons_succ, i64_w, i32_w]
          rfl
        refine one_ (i := 10) (N := some 31) #[true, true, true, true, true, true, true, true, true, true, true, false] rfl rfl (by kernel_rfl) (by decide) (fun K hK => ?_)
        refine goes_ Try.func76 (by kernel_rfl) rfl #[.slice A5 (l0.length - (N + 4)) (c0 - (N + 4))] (by rfl) rfl rfl (by simp only [List.map_toArray, List.map_cons, List.map_nil]; rfl) ?_
        refine (hnc w2 (Kd.C_below HD.out HB2.out)).mono ?_
        rintro e w3 ⟨rfl, hd⟩
        refine ⟨_, rfl, ?_⟩
        have HB3 := Aside0.mk (HB2.out.trans (hd.below.mono HB2.out.size))
        clear hd
        refine hK.out _ _ trivial (fun hHeld => ?_)
        clear hK K
        refine norm_ (a' := ?_) ?_ ?_
        rotate_left
        · show Act.put _ (some 31) _ = _
          simp only [Act.put, List.setIfInBounds_toArray, List.set_cons_zero, List.set_cons_succ, i64_w, i32_w]
          rfl
        refine pure_ (i := 11) (N := some 32) (v := ?_) (a' := ?_) #[true, true, true, true, true, true, true, true, true, true, true, true] rfl rfl (by kernel_rfl) (fun _ _ _ h => h) (Or.inl ⟨by rfl, ?_⟩) ?_ ?_
        rotate_left
        · intro w'
          go_simp
          with_reducible rfl
        rotate_left
        · simp only [Act.put, List.setIfInBounds_toArray, List.set_cons_zero, List.set_cons_succ, i64_w, i32_w]
          rfl
        refine done_ (by kernel_rfl) ?_
        by_cases hcs : Jp.crc (l0.take (N + 4)) = Jp.numL (l0.drop (N + 4))
        · rw [if_pos hcs] at h
          simp only [Prod.mk.injEq] at h
          obtain ⟨hr1, rfl, rfl⟩ := h
          have hlr : ((l0.take (N + 4)).drop 4).length = N := by rw [List.length_drop, ← HL4.out]; omega
          have HE2 := HE.out
          rw [hr1] at hlr HE2
          have HLR := Aside0.mk hlr
          have HE3 := Aside0.mk HE2
          clear hlr hr1 HE2
          have e1 : (Jp.crc (l0.take (N + 4)) != Jp.numL (l0.drop (N + 4))) = false := bne_eq_false_iff_eq.mpr hcs
          rw [e1]
          clear hcs
          go_wp2
          go_ret3
          refine ⟨A7, N, ?_, by rw [HLR.out]; exact Nat.le_refl _, Kd.C_below HE3.out HB3.out, HB1.out.trans (HB3.out.mono HB1.out.size)⟩
          rw [HLR.out]
          rfl
        · rw [if_neg hcs] at h
          simp only [Prod.mk.injEq] at h
          obtain ⟨rfl, rfl, rfl⟩ := h
          have e1 : (Jp.crc (l0.take (N + 4)) != Jp.numL (l0.drop (N + 4))) = true := bne_iff_ne.mpr hcs
          rw [e1]
          clear hcs
          go_wp2
          go_ret3
          exact ⟨none, 0, rfl, Nat.le_refl _, Kd.C_below hnil (HB1.out.trans (HB3.out.mono HB1.out.size)), HB1.out.trans (HB3.out.mono HB1.out.size)⟩
def frame_Next.f (l0 : List Int) : Option (List Int × Int × Int) := if l0.all (fun x => decide (0 ≤ x ∧ x ≤ 255)) = true ∧ l0.length ≤ 1073741824 then some (Jp.nextOf l0) else none
set_option maxHeartbeats 2000000 in
set_option maxRecDepth 100000 in
theorem frame_Next.calls (A0 : Option Addr) (c0 : Nat) (l0 : List Int) (r1 : List Int) (r2 : Int) (r3 : Int) (w : World) (hr0 : Kd.C (Kd.int .u8) w A0 l0.length l0) (hc0 : l0.length ≤ c0) (h : frame_Next.f l0 = some (r1, r2, r3)) :
    Calls Try.prog 47 #[.slice A0 l0.length c0] w fun e w' => ∃ v0_ : Value, e = .returned (.tuple #[v0_, .int .i64 r2, .int .i64 r3]) ∧ Kd.R (Kd.int .u8) 5 w' w.heap.size (fun _ => True) v0_ r1 ∧ Below w.heap.size w w' := by
  unfold frame_Next.f at h
  by_cases hs : l0.all (fun x => decide (0 ≤ x ∧ x ≤ 255)) = true ∧ l0.length ≤ 1073741824
  · rw [if_pos hs] at h
    have h := Option.some.inj h
    have hb : Jp.bytes l0 := fun x hx => by
      have h1 : 0 ≤ x ∧ x ≤ 255 := by simpa using List.all_eq_true.1 hs.1 x hx
      exact h1
    have hl1 := hs.2
    have hrl : r1.length ≤ l0.length := by
      have e : r1 = (Jp.nextOf l0).1 := by rw [h]
      rw [e]
      unfold Jp.nextOf
      split
      · simp
      · split
        · simp
        · split
          · simp
          · split
            · simp only [List.length_drop, List.length_take]; omega
            · simp
    clear hs
    have HC := Aside0.mk hr0
    have HH := Aside0.mk h
    clear hr0 h
    go_enter Try.func47, Try.ntmps47
    go_wp2_with fail
    refine (frame_Next.cut A0 c0 l0 r1 r2 r3 w HC.out hc0 hb hl1 HH.out).mono ?_
    rintro e w1 ⟨A1, c1, rfl, hc1, hC1, hb1⟩
    go_wp2_with fail
    refine (Jf.clone_calls A1 c1 r1 w1 hC1 hc1 (by omega)).mono ?_
    rintro e w2 ⟨v2, rfl, hR2, hb2⟩
    have HR2 := Aside0.mk hR2
    have HB2 := Aside0.mk (hb1.trans (hb2.mono hb1.size))
    have HZ := hb1.size
    clear hb1 hb2 hR2 hC1
    go_wp2
    go_ret3
    exact ⟨v2, rfl, Kd.R_lower HR2.out HZ, HB2.out⟩
  · rw [if_neg hs] at h
    cases h

end Go.Proofs.Ytebdjhgboeadgaa.Fr
