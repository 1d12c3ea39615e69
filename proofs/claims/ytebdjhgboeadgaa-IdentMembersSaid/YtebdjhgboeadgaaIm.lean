/- IdentMembers' walk: printed by a program of ours, its end by hand. -/
import Derived.Test.YtebdjhgboeadgaaId0
import Derived.Test.YtebdjhgboeadgaaId11
import Derived.Test.YtebdjhgboeadgaaId20
import Derived.Test.YtebdjhgboeadgaaId22
namespace Go.Proofs.Ytebdjhgboeadgaa.Id
open Go.RowKit Go.Proofs.YtebdjhgboeadgaaW.PrintWords Go.Proofs.YtebdjhgboeadgaaW.PrintLast Go.Proofs.YtebdjhgboeadgaaW.PrintMore
attribute [local go_sem] max2_int min2_int max_two min_two max_three min_three max_four min_four   -- for this text's walks alone
set_option linter.unusedVariables false
set_option linter.unusedSimpArgs false

/-! ### clevislaw02_IdentMembers: function 9 -/
def clevislaw02_IdentMembers.l0 : Nat → List ByteArray → List ByteArray → Int → Option (Bool)
  | 0, _, _, _ => none
  | k + 1, x0, x3, x4 => if x4 < (x0.length : Int) then (if 0 ≤ x4 then (if 0 ≤ (mn ((rdOf ByteArray.empty x0 x4).size : Int) 20) then (if (mn ((rdOf ByteArray.empty x0 x4).size : Int) 20) ≤ ((rdOf ByteArray.empty x0 x4).size : Int) then (if x3.length < 8796093022208 then (clevislaw02_IdentMembers.l0 k x0 (x3 ++ [(rdOf ByteArray.empty x0 x4).extract 0 ((mn ((rdOf ByteArray.empty x0 x4).size : Int) 20) : Int).toNat]) (wrap64 (x4 + 1))) else (none)) else (none)) else (none)) else (none)) else ((clevislaw02_known.f k).bind fun t187 => (if t187 = true then ((ident_Members.f x3).bind fun t188 => ((clevisref02_Members.f k x3).bind fun t189 => (some (t188 == t189)))) else (some false)))
def clevislaw02_IdentMembers.f (k : Nat) (l0 : List ByteArray) : Option (Bool) := if 0 ≤ (mn (l0.length : Int) 30) then (if (mn (l0.length : Int) 30) ≤ (l0.length : Int) then (clevislaw02_IdentMembers.l0 k (l0.take ((mn (l0.length : Int) 30) : Int).toNat) ([] : List ByteArray) 0) else (none)) else (none)
theorem clevislaw02_IdentMembers.mono_l : ∀ k, (∀ y0 y1 y2, LeO (clevislaw02_IdentMembers.l0 k y0 y1 y2) (clevislaw02_IdentMembers.l0 (k + 1) y0 y1 y2))
  | 0 => fun _ _ _ r h => by simp [clevislaw02_IdentMembers.l0] at h
  | k + 1 => by
    have ih0 := clevislaw02_IdentMembers.mono_l k
    · intro y0 y1 y2
      unfold clevislaw02_IdentMembers.l0
      repeat' first
      | (with_reducible exact ih0 _ _ _)
      | (with_reducible exact clevislaw02_known.mono _)
      | (with_reducible exact clevisref02_Members.mono _ _)
      | (with_reducible exact LeO.refl _)
      | (with_reducible exact LeO.none _)
      | (with_reducible refine LeO.ite ?_ ?_)
      | (with_reducible refine LeO.bind ?_ (fun _ => ?_))
      | exact ih0 _ _ _
      | exact clevislaw02_known.mono _
      | exact clevisref02_Members.mono _ _
      | exact LeO.none _
      | refine LeO.ite ?_ ?_
      | refine LeO.bind ?_ (fun _ => ?_)
theorem clevislaw02_IdentMembers.mono : ∀ a0 k, LeO (clevislaw02_IdentMembers.f k a0) (clevislaw02_IdentMembers.f (k + 1) a0) := by
  intro a0 k
  have ih0 := clevislaw02_IdentMembers.mono_l k
  unfold clevislaw02_IdentMembers.f
  repeat' first
      | (with_reducible exact ih0 _ _ _)
      | (with_reducible exact clevislaw02_known.mono _)
      | (with_reducible exact clevisref02_Members.mono _ _)
      | (with_reducible exact LeO.refl _)
      | (with_reducible exact LeO.none _)
      | (with_reducible refine LeO.ite ?_ ?_)
      | (with_reducible refine LeO.bind ?_ (fun _ => ?_))
      | exact ih0 _ _ _
      | exact clevislaw02_known.mono _
      | exact clevisref02_Members.mono _ _
      | exact LeO.none _
      | refine LeO.ite ?_ ?_
      | refine LeO.bind ?_ (fun _ => ?_)
def clevislaw02_IdentMembers.T6 : Bool × List (List Nat × List Nat) := (true, [([], []), ([], []), ([], []), ([1, 2], [1, 2]), ([3], [3]), ([], []), ([], []), ([5, 6], [5, 6]), ([7], [7]), ([8], [8]), ([9], [9]), ([4, 10], [4, 10]), ([11], [11]), ([0, 12], [0, 12]), ([13, 13, 0, 1, 2, 3, 4, 5, 6, 7, 8, 9, 10, 11, 12, 13], [0, 13])])
def clevislaw02_IdentMembers.B6 : List Nat := [0, 0, 0, 6, 14, 0, 0, 96, 224, 480, 992, 2046, 4094, 8191, 16383]
theorem clevislaw02_IdentMembers.tab6 : rtab .any (opsOf Try.f9 6) = clevislaw02_IdentMembers.T6 := by kernel_rfl
theorem clevislaw02_IdentMembers.bits6 : waitsOk clevislaw02_IdentMembers.T6.2 clevislaw02_IdentMembers.B6 = true := by kernel_rfl
set_option maxHeartbeats 8000000 in
set_option maxRecDepth 100000 in
theorem clevislaw02_IdentMembers.calls (k : Nat) (A0 : Option Addr) (c0 : Nat) (l0 : List ByteArray) (r : Bool) (w : World) (hr0 : Kd.C Kd.string w A0 l0.length l0) (hc0 : l0.length ≤ c0) (h : clevislaw02_IdentMembers.f k l0 = some r) :
    Calls Try.prog 9 #[.slice A0 l0.length c0] w fun e w' => e = .returned (.bool r) ∧ Below w.heap.size w w' := by
  have HR0 := Aside0.mk hr0
  have HC0 := Aside0.mk hc0
  clear hr0 hc0
  have HB := Aside0.mk (Below.refl w.heap.size w)
  have H : (if 0 ≤ (mn (l0.length : Int) 30) then (if (mn (l0.length : Int) 30) ≤ (l0.length : Int) then (clevislaw02_IdentMembers.l0 k (l0.take ((mn (l0.length : Int) 30) : Int).toNat) ([] : List ByteArray) 0) else (none)) else (none)) = some r := h
  clear h
  obtain ⟨ji2, hji2⟩ : ∃ j_ : Int, (mn (l0.length : Int) 30) = j_ := ⟨_, rfl⟩
  replace H : (if 0 ≤ (ji2) then (if (ji2) ≤ (l0.length : Int) then (clevislaw02_IdentMembers.l0 k (l0.take ((ji2) : Int).toNat) ([] : List ByteArray) 0) else (none)) else (none)) = some r := by first | (rw [hji2] at H; exact H) | (simp only [hji2] at H ⊢; exact H)
  (try (have hji2h : ji2 ≤ 30 := by (rw [← hji2]; unfold mn; (repeat' split) <;> omega)))
  (try (have hji2g : ji2 ≤ 64 := by omega))
  (try (have hji2l : 0 ≤ ji2 := by (rw [← hji2]; unfold mn; (repeat' split) <;> omega)))
  (try (have hji2m : 0 ≤ ji2 := by omega))
  have hji2_ : (if 30 < (l0.length : Int) then 30 else (l0.length : Int)) = ji2 := hji2
  by_cases c3 : 0 ≤ (ji2)
  · rw [if_pos c3] at H
    have c3b0 := eq_true c3
    have c3b1 : decide (0 ≤ (ji2)) = true := decide_eq_true c3
    clear c3
    by_cases c4 : (ji2) ≤ (l0.length : Int)
    · rw [if_pos c4] at H
      have c4b0 := eq_true c4
      have c4b1 : decide ((ji2) ≤ (l0.length : Int)) = true := decide_eq_true c4
      clear c4
      have H' := Aside0.mk H
      clear H
      obtain ⟨i05, hi05, _, hsz5, _⟩ := info_parts info9
      obtain ⟨hcut5, hA5, hC5⟩ := print_take_of (P := Try.prog) Value.string (⟨#[]⟩ : ByteArray) 53 9 .i64 Try.underlying53 hi05 hsz5 A0 c0 l0 (ji2) (of_decide_eq_true (by first | (with_reducible assumption) | assumption)) (of_decide_eq_true (by first | (with_reducible assumption) | assumption)) HC0.out
      have HR181 := Aside0.mk (Kd.C_of_reads (h1 := fun _ => rfl) (hA5 _ (Kd.reads_of_C HR0.out)))
      have HC181 := Aside0.mk hC5
      clear hA5 hC5 hi05 hsz5
      go_enter Try.func9, Try.ntmps9
      go_wp2
      (try simp only [Act.put, List.setIfInBounds_toArray, List.set_cons_zero, List.set_cons_succ])
      go_loopg [3, 4] k (fun kq v3 v4 w' => ∃ (x3_1 : List ByteArray) (x4_1 : Int), v4 = .int .i64 x4_1 ∧ Aside0 (clevislaw02_IdentMembers.l0 kq (l0.take ((ji2) : Int).toNat) x3_1 x4_1 = some r) ∧ Aside0 (kq ≤ k) ∧ Aside0 (Kd.R Kd.string 9 w' w.heap.size (fun _ => True) v3 x3_1) ∧ Aside0 (Below w.heap.size w w'))
      case atStart => exact ⟨(([] : List ByteArray)), (0), (by first | rfl | (simp; done) | (simp [*]; done)), H', ⟨Nat.le_refl _⟩, ⟨by first | exact Kd.R_nil _ _ _ _ _ | exact Kd.N_nil _ _ _ _ _ | exact Kd.V_nil _ _ _ _ _ | exact Kd.Q_nil _ _ _ _ _ | exact Kd.S_nil _ _ _ _ _⟩, ⟨by repeat (first | (with_reducible first | exact HB.out | apply below_alloc | apply pw_below_drewN | apply below_drew1) | exact HB.out)⟩⟩
      case round =>
        clear H'
        try clear p2
        try clear c3
        try clear c3b0
        try clear c3b1
        try clear c4
        try clear c4b0
        try clear c4b1
        obtain ⟨x3_1, x4_1, rfl, HA, HK1, HO_3, HB⟩ := hrel
        cases gk with
        | zero => exact absurd HA.out (by simp [clevislaw02_IdentMembers.l0])
        | succ k1 =>
          have H := HA.out
          clear HA
          simp only [clevislaw02_IdentMembers.l0] at H
          by_cases c6 : x4_1 < ((l0.take ((ji2) : Int).toNat).length : Int)
          · rw [if_pos c6] at H
            have c6b0 : decide (x4_1 < ((l0.take ((ji2) : Int).toNat).length : Int)) = true := decide_eq_true c6
            have hlt6 : ((l0.take ji2.toNat).length : Int) = ji2 := by rw [List.length_take]; omega
            have hx6 : x4_1 < ji2 := by first | (have := of_decide_eq_true c6b0; omega) | (have := of_decide_eq_false c6b0; omega)
            have hd6 : decide (x4_1 < ji2) = true := by first | exact decide_eq_true hx6 | exact decide_eq_false hx6
            have hp6 : (x4_1 < max ji2 0) = True := eq_true (by omega)
            have hm6 : decide (x4_1 < max ji2 0) = true := by first | exact decide_eq_true (by omega) | exact decide_eq_false (by omega)
            clear hlt6
            clear c6
            by_cases c7 : 0 ≤ x4_1
            · rw [if_pos c7] at H
              have c7b0 : decide (0 ≤ x4_1) = true := decide_eq_true c7
              clear c7
              obtain ⟨ji8, hji8⟩ : ∃ j_ : Int, (mn ((rdOf ByteArray.empty (l0.take ((ji2) : Int).toNat) x4_1).size : Int) 20) = j_ := ⟨_, rfl⟩
              replace H : (if 0 ≤ (ji8) then (if (ji8) ≤ ((rdOf ByteArray.empty (l0.take ((ji2) : Int).toNat) x4_1).size : Int) then (if x3_1.length < 8796093022208 then (clevislaw02_IdentMembers.l0 k1 (l0.take ((ji2) : Int).toNat) (x3_1 ++ [(rdOf ByteArray.empty (l0.take ((ji2) : Int).toNat) x4_1).extract 0 ((ji8) : Int).toNat]) (wrap64 (x4_1 + 1))) else (none)) else (none)) else (none)) = some r := by first | (rw [hji8] at H; exact H) | (simp only [hji8] at H ⊢; exact H)
              have hji8_ : (if 20 < ((rdOf ByteArray.empty (l0.take ((ji2) : Int).toNat) x4_1).size : Int) then 20 else ((rdOf ByteArray.empty (l0.take ((ji2) : Int).toNat) x4_1).size : Int)) = ji8 := hji8
              by_cases c9 : 0 ≤ (ji8)
              · rw [if_pos c9] at H
                have c9b0 := eq_true c9
                have c9b1 : decide (0 ≤ (ji8)) = true := decide_eq_true c9
                clear c9
                by_cases c10 : (ji8) ≤ ((rdOf ByteArray.empty (l0.take ((ji2) : Int).toNat) x4_1).size : Int)
                · rw [if_pos c10] at H
                  have c10b0 := eq_true c10
                  have c10b1 : decide ((ji8) ≤ ((rdOf ByteArray.empty (l0.take ((ji2) : Int).toNat) x4_1).size : Int)) = true := decide_eq_true c10
                  clear c10
                  by_cases c11 : x3_1.length < 8796093022208
                  · rw [if_pos c11] at H
                    have LMc11 := Aside0.mk c11
                    clear c11
                    obtain ⟨y184, hy184⟩ : ∃ y_ : List ByteArray, y_ = (x3_1 ++ [(rdOf ByteArray.empty (l0.take ((ji2) : Int).toNat) x4_1).extract 0 ((ji8) : Int).toNat]) := ⟨_, rfl⟩
                    replace H : (clevislaw02_IdentMembers.l0 k1 (l0.take ((ji2) : Int).toNat) y184 (wrap64 (x4_1 + 1))) = some r := by first | (rw [hy184]; with_reducible exact H) | (have H2_ := (Option.bind_some _ _).symm.trans H; rw [hy184]; with_reducible exact H2_) | (have H2_ := (Option.bind_some _ _).symm.trans H; with_reducible exact H2_) | with_reducible exact H | (rw [hy184]; exact H) | exact H
                    have Ny184 := Aside0.mk hy184
                    clear hy184
                    have H' := Aside0.mk H
                    clear H
                    try go_wp2
                    have n0_ := Aside0.mk (Kd.R_drew HO_3.out)
                    have n1_ := Aside0.mk (below_drew1 HB.out)
                    clear HO_3
                    clear HB
                    have HO_3 := n0_
                    have HB := n1_
                    clear n0_ n1_
                    have p182 : 0 ≤ (x4_1 : Int) := of_decide_eq_true (by first | (with_reducible assumption) | assumption)
                    have q182 : x4_1 < ((l0.take ((ji2) : Int).toNat).length : Int) := of_decide_eq_true (by first | (with_reducible assumption) | assumption)
                    obtain ⟨ad182, e182, hx182_0⟩ := Kd.at_string HR181.out x4_1 p182 q182
                    have hw182_0 := hx182_0
                    cases e182
                    replace hx182_0 := (HB.out.cell (World.block_lt_of_cell? w _ hx182_0)).trans hx182_0
                    replace p182 := eq_true p182
                    replace q182 := eq_true q182
                    have p183 : 0 ≤ (x4_1 : Int) := of_decide_eq_true (by first | (with_reducible assumption) | assumption)
                    have q183 : x4_1 < ((l0.take ((ji2) : Int).toNat).length : Int) := of_decide_eq_true (by first | (with_reducible assumption) | assumption)
                    obtain ⟨ad183, e183, hx183_0⟩ := Kd.at_string HR181.out x4_1 p183 q183
                    have hw183_0 := hx183_0
                    obtain rfl : ad182 = ad183 := (by injection e183)
                    replace hx183_0 := (HB.out.cell (World.block_lt_of_cell? w _ hx183_0)).trans hx183_0
                    replace p183 := eq_true p183
                    replace q183 := eq_true q183
                    refine start_ (n := 15) (S := fun w' => w'.cell? (ad182.add (x4_1).toNat) = some (.string (rdOf ByteArray.empty (l0.take ((ji2) : Int).toNat) x4_1)) ∧ w'.cell? (ad182.add (x4_1).toNat) = some (.string (rdOf ByteArray.empty (l0.take ((ji2) : Int).toNat) x4_1))) (ds := []) #[false, false, false, false, false, false, false, false, false, false, false, false, false, false, false] (by kernel_rfl) rfl rfl ⟨((HB.out.cell (World.block_lt_of_cell? w _ hw182_0)).trans hw182_0), ((HB.out.cell (World.block_lt_of_cell? w _ hw183_0)).trans hw183_0)⟩ (fun hHeld => ?_); refine with_tabW clevislaw02_IdentMembers.tab6 clevislaw02_IdentMembers.bits6 (fun HT_ HW_ => ?_)
                    generalize wr.drew = w12 at HO_3 HB hx182_0 hx183_0 hHeld ⊢
                    refine pure_ (i := 0) (N := some 16) (v := ?_) (a' := ?_) #[true, false, false, false, false, false, false, false, false, false, false, false, false, false, false] rfl rfl (any_of HT_.out (by kernel_rfl)) (fun _ _ _ h => h) (Or.inl ⟨by rfl, ?_⟩) ?_ ?_
                    rotate_left
                    · intro w'
                      go_simp
                      with_reducible rfl
                    rotate_left
                    · simp only [Act.put, List.setIfInBounds_toArray, List.set_cons_zero, List.set_cons_succ, i64_w, i32_w]
                      rfl
                    refine pure_ (i := 1) (N := some 17) (v := ?_) (a' := ?_) #[true, true, false, false, false, false, false, false, false, false, false, false, false, false, false] rfl rfl (any_of HT_.out (by kernel_rfl)) (fun _ _ _ h => h) (Or.inl ⟨by rfl, ?_⟩) ?_ ?_
                    rotate_left
                    · intro w'
                      go_simp
                      with_reducible rfl
                    rotate_left
                    · simp only [Act.put, List.setIfInBounds_toArray, List.set_cons_zero, List.set_cons_succ, i64_w, i32_w]
                      rfl
                    refine pure_ (i := 2) (N := some 18) (v := ?_) (a' := ?_) #[true, true, true, false, false, false, false, false, false, false, false, false, false, false, false] rfl rfl (any_of HT_.out (by kernel_rfl)) (fun _ _ _ h => h) (Or.inl ⟨by rfl, ?_⟩) ?_ ?_
                    rotate_left
                    · intro w'
                      go_simp
                      with_reducible rfl
                    rotate_left
                    · simp only [Act.put, List.setIfInBounds_toArray, List.set_cons_zero, List.set_cons_succ, i64_w, i32_w]
                      rfl
                    refine pure_ (i := 3) (N := some 19) (v := ?_) (a' := ?_) #[true, true, true, true, false, false, false, false, false, false, false, false, false, false, false] rfl rfl (any_of HT_.out (by kernel_rfl)) (fun _ _ _ h => h) (Or.inl ⟨by rfl, ?_⟩) ?_ ?_
                    rotate_left
                    · intro w'
                      go_simp
                      with_reducible rfl
                    rotate_left
                    · simp only [Act.put, List.setIfInBounds_toArray, List.set_cons_zero, List.set_cons_succ, i64_w, i32_w]
                      rfl
                    refine pure_ (i := 5) (N := some 21) (v := ?_) (a' := ?_) #[true, true, true, true, false, true, false, false, false, false, false, false, false, false, false] rfl rfl (any_of HT_.out (by kernel_rfl)) (fun _ _ _ h => h) (Or.inl ⟨by rfl, ?_⟩) ?_ ?_
                    rotate_left
                    · intro w'
                      go_simp
                      with_reducible rfl
                    rotate_left
                    · simp only [Act.put, List.setIfInBounds_toArray, List.set_cons_zero, List.set_cons_succ, i64_w, i32_w]
                      rfl
                    refine pure_ (i := 6) (N := some 22) (v := ?_) (a' := ?_) #[true, true, true, true, false, true, true, false, false, false, false, false, false, false, false] rfl rfl (any_of HT_.out (by kernel_rfl)) (fun _ _ _ h => h) (Or.inl ⟨by rfl, ?_⟩) ?_ ?_
                    rotate_left
                    · intro w'
                      go_simp
                      with_reducible rfl
                    rotate_left
                    · simp only [Act.put, List.setIfInBounds_toArray, List.set_cons_zero, List.set_cons_succ, i64_w, i32_w]
                      rfl
                    refine pure_ (i := 7) (N := some 23) (v := ?_) (a' := ?_) #[true, true, true, true, false, true, true, true, false, false, false, false, false, false, false] rfl rfl (any_of HT_.out (by kernel_rfl)) (fun _ _ _ h => h) (Or.inl ⟨by rfl, ?_⟩) ?_ ?_
                    rotate_left
                    · intro w'
                      go_simp
                      with_reducible rfl
                    rotate_left
                    · simp only [Act.put, List.setIfInBounds_toArray, List.set_cons_zero, List.set_cons_succ, i64_w, i32_w]
                      rfl
                    refine take_ (i := 4) (N := some 20) (v := ?_) (a' := ?_) #[true, true, true, true, true, true, true, true, false, false, false, false, false, false, false] rfl rfl (take_ofW HT_.out HW_.out (by kernel_rfl)) (fun _ _ _ h => h) (Or.inl ⟨by rfl, ?_⟩) hHeld ?_ ?_
                    rotate_left
                    · rintro w' ⟨s0, s1⟩
                      go_simp
                      with_reducible rfl
                    rotate_left
                    · simp only [Act.put, List.setIfInBounds_toArray, List.set_cons_zero, List.set_cons_succ, i64_w, i32_w]
                      rfl
                    refine take_ (i := 8) (N := some 24) (v := ?_) (a' := ?_) #[true, true, true, true, true, true, true, true, true, false, false, false, false, false, false] rfl rfl (take_ofW HT_.out HW_.out (by kernel_rfl)) (fun _ _ _ h => h) (Or.inl ⟨by rfl, ?_⟩) hHeld ?_ ?_
                    rotate_left
                    · rintro w' ⟨s0, s1⟩
                      go_simp
                      with_reducible rfl
                    rotate_left
                    · simp only [Act.put, List.setIfInBounds_toArray, List.set_cons_zero, List.set_cons_succ, i64_w, i32_w]
                      rfl
                    refine pure_ (i := 9) (N := some 25) (v := ?_) (a' := ?_) #[true, true, true, true, true, true, true, true, true, true, false, false, false, false, false] rfl rfl (any_of HT_.out (by kernel_rfl)) (fun _ _ _ h => h) (Or.inl ⟨by rfl, ?_⟩) ?_ ?_
                    rotate_left
                    · intro w'
                      go_simp
                      with_reducible rfl
                    rotate_left
                    · simp only [Act.put, List.setIfInBounds_toArray, List.set_cons_zero, List.set_cons_succ, i64_w, i32_w]
                      rfl
                    refine pure_ (i := 10) (N := some 26) (v := ?_) (a' := ?_) #[true, true, true, true, true, true, true, true, true, true, true, false, false, false, false] rfl rfl (any_of HT_.out (by kernel_rfl)) (fun _ _ _ h => h) (Or.inl ⟨by rfl, ?_⟩) ?_ ?_
                    rotate_left
                    · intro w'
                      go_simp
                      with_reducible rfl
                    rotate_left
                    · simp only [Act.put, List.setIfInBounds_toArray, List.set_cons_zero, List.set_cons_succ, i64_w, i32_w]
                      rfl
                    refine pure_ (i := 11) (N := some 27) (v := ?_) (a' := ?_) #[true, true, true, true, true, true, true, true, true, true, true, true, false, false, false] rfl rfl (any_of HT_.out (by kernel_rfl)) (fun _ _ _ h => h) (Or.inl ⟨by rfl, ?_⟩) ?_ ?_
                    rotate_left
                    · intro w'
                      go_simp
                      with_reducible rfl
                    rotate_left
                    · simp only [Act.put, List.setIfInBounds_toArray, List.set_cons_zero, List.set_cons_succ, i64_w, i32_w]
                      rfl
                    refine one_ (i := 12) (N := some 28) #[true, true, true, true, true, true, true, true, true, true, true, true, true, false, false] rfl rfl (one_of HT_.out (by kernel_rfl)) (by decide) (fun K hK => ?_)
                    refine value_ (w1 := ?_) (v := ?_) (by rfl) rfl ?_ ?_
                    rotate_left 2
                    · go_simp
                      constructor
                      · rfl
                      · rfl
                    refine hK.out _ _ ⟨(World.cell?_alloc_lt _ _ _ (World.block_lt_of_cell? _ _ (((HB.out.cell (World.block_lt_of_cell? w _ hw182_0)).trans hw182_0)))).trans (((HB.out.cell (World.block_lt_of_cell? w _ hw182_0)).trans hw182_0)), (World.cell?_alloc_lt _ _ _ (World.block_lt_of_cell? _ _ (((HB.out.cell (World.block_lt_of_cell? w _ hw183_0)).trans hw183_0)))).trans (((HB.out.cell (World.block_lt_of_cell? w _ hw183_0)).trans hw183_0))⟩ (fun hHeld => ?_)
                    clear hK K
                    refine norm_ (a' := ?_) ?_ ?_
                    rotate_left
                    · show Act.put _ (some 28) _ = _
                      simp only [Act.put, List.setIfInBounds_toArray, List.set_cons_zero, List.set_cons_succ, i64_w, i32_w]
                      rfl
                    refine one_ (i := 13) (N := some 29) #[true, true, true, true, true, true, true, true, true, true, true, true, true, true, false] rfl rfl (one_of HT_.out (by kernel_rfl)) (by decide) (fun K hK => ?_)
                    refine Kd.R_append_step Kd.string (w0 := w) w.heap.size (by rfl) (.tmp 16) (.tmp 28) 53 9 (.string ⟨#[]⟩) 16 rfl Try.underlying53 info9 rfl (by decide) (by omega) u3 x3_1 ((rdOf ByteArray.empty (l0.take ((ji2) : Int).toNat) x4_1).extract 0 ((ji8) : Int).toNat) [.string ((rdOf ByteArray.empty (l0.take ((ji2) : Int).toNat) x4_1).extract 0 ((ji8) : Int).toNat)] (fun _ => True) (fun _ => False) rfl rfl ?aP (fun _ hk => hk.elim) ?aF ?aO ?aB ?aS ?aL ?_
                    (case aP => exact rfl)
                    (case aB => exact (by repeat (first | (with_reducible first | exact HB.out | apply below_alloc | apply pw_below_drewN | apply below_drew1) | exact HB.out)))
                    (case aF => exact (fun _ _ => trivial))
                    (case aO => exact (by (with_reducible repeat (first | apply Kd.R_alloc | apply Kd.R_drewN | apply Kd.R_drew)); exact HO_3.out))
                    (case aS => exact (below_size (by repeat (first | (with_reducible first | exact HB.out | apply below_alloc | apply pw_below_drewN | apply below_drew1) | exact HB.out))))
                    (case aL => have := LMc11.out; omega)
                    intro v185 w13 ho hb hg hat
                    rw [← Ny184.out] at ho
                    have n0_ := Aside0.mk (hb)
                    have n1_ := Aside0.mk (ho)
                    clear HB
                    clear HO_3
                    have HB := n0_
                    have HO186 := n1_
                    clear n0_ n1_
                    clear ho hb hg hat
                    refine hK.out _ _ ⟨((HB.out.cell (World.block_lt_of_cell? w _ hw182_0)).trans hw182_0), ((HB.out.cell (World.block_lt_of_cell? w _ hw183_0)).trans hw183_0)⟩ (fun hHeld => ?_)
                    clear hK K
                    refine norm_ (a' := ?_) ?_ ?_
                    rotate_left
                    · show Act.put _ (some 29) _ = _
                      simp only [Act.put, List.setIfInBounds_toArray, List.set_cons_zero, List.set_cons_succ, i64_w, i32_w]
                      rfl
                    refine pure_ (i := 14) (N := some 3) (v := ?_) (a' := ?_) #[true, true, true, true, true, true, true, true, true, true, true, true, true, true, true] rfl rfl (any_of HT_.out (by kernel_rfl)) (fun _ _ _ h => h) (Or.inl ⟨by rfl, ?_⟩) ?_ ?_
                    rotate_left
                    · intro w'
                      go_simp
                      with_reducible rfl
                    rotate_left
                    · simp only [Act.put, List.setIfInBounds_toArray, List.set_cons_zero, List.set_cons_succ, i64_w, i32_w]
                      rfl
                    refine done_ (done_of HT_.out (by kernel_rfl)) ?_
                    try go_wp2
                    go_roundg k1
                    case measure => have := HK1.out; omega
                    case rel => exact ⟨(y184), (wrap64 (x4_1 + 1)), (by first | rfl | (simp; done) | (simp [*]; done)), H', ⟨by have := HK1.out; omega⟩, ⟨by (with_reducible repeat (first | apply Kd.R_alloc | apply Kd.R_drewN | apply Kd.R_drew)); exact HO186.out⟩, ⟨by repeat (first | (with_reducible first | exact HB.out | apply below_alloc | apply pw_below_drewN | apply below_drew1) | exact HB.out)⟩⟩
                  · rw [if_neg c11] at H
                    exact absurd H (by simp)
                · rw [if_neg c10] at H
                  exact absurd H (by simp)
              · rw [if_neg c9] at H
                exact absurd H (by simp)
            · rw [if_neg c7] at H
              exact absurd H (by simp)
          · rw [if_neg c6] at H
            have c6b0 : decide (x4_1 < ((l0.take ((ji2) : Int).toNat).length : Int)) = false := decide_eq_false c6
            have hlt6 : ((l0.take ji2.toNat).length : Int) = ji2 := by rw [List.length_take]; omega
            have hx6 : ¬ x4_1 < ji2 := by first | (have := of_decide_eq_true c6b0; omega) | (have := of_decide_eq_false c6b0; omega)
            have hd6 : decide (x4_1 < ji2) = false := by first | exact decide_eq_true hx6 | exact decide_eq_false hx6
            have hm6 : decide (x4_1 < max ji2 0) = false := by first | exact decide_eq_true (by omega) | exact decide_eq_false (by omega)
            clear hlt6
            clear c6
            replace H := Option.bind_eq_some_iff.mp H
            obtain ⟨t187, A140, H⟩ := H
            replace H : (if t187 = true then ((ident_Members.f x3_1).bind fun t188 => ((clevisref02_Members.f k1 x3_1).bind fun t189 => (some (t188 == t189)))) else (some false)) = some r := H
            have A14 := Aside0.mk A140
            clear A140
            by_cases c15 : t187 = true
            · subst c15
              have H1 : ((ident_Members.f x3_1).bind fun t188 => ((clevisref02_Members.f k1 x3_1).bind fun t189 => (some (t188 == t189)))) = some r := by rw [if_pos rfl] at H; exact H
              clear H
              have H := H1
              clear H1
              replace H := Option.bind_eq_some_iff.mp H
              obtain ⟨t188, A160, H⟩ := H
              replace H : ((clevisref02_Members.f k1 x3_1).bind fun t189 => (some (t188 == t189))) = some r := H
              have A16 := Aside0.mk A160
              clear A160
              replace H := Option.bind_eq_some_iff.mp H
              obtain ⟨t189, A170, H⟩ := H
              replace H : (some (t188 == t189)) = some r := H
              have A17 := Aside0.mk A170
              clear A170
              obtain rfl := Option.some.inj H
              obtain ⟨A9, c9, rfl, hc9, hC9⟩ := Kd.R_reads HO_3.out
              go_wp2_with fail
              refine (clevislaw02_known.calls k1 true _ A14.out).mono ?_
              rintro e w18 ⟨rfl, hb⟩
              have hC18 := Aside0.mk (Kd.C_below hC9 hb)
              have HB18 := Aside0.mk (HB.out.trans (hb.mono HB.out.size))
              clear hb
              go_wp2_with fail
              refine (ident_Members.calls A9 c9 x3_1 t188 w18 hC18.out hc9 A16.out).mono ?_
              rintro e w19 ⟨rfl, hb⟩
              have hC19 := Aside0.mk (Kd.C_below hC18.out hb)
              have HB19 := Aside0.mk (HB18.out.trans (hb.mono HB18.out.size))
              clear hb
              go_wp2_with fail
              refine (clevisref02_Members.calls k1 A9 c9 x3_1 t189 w19 hC19.out hc9 A17.out).mono ?_
              rintro e w20 ⟨rfl, hd⟩
              have HB20 := Aside0.mk (HB19.out.trans (hd.below.mono HB19.out.size))
              clear hd
              go_wp2
              go_ret
              exact ⟨rfl, HB20.out⟩
            · replace c15 := Bool.eq_false_iff.mpr c15
              subst c15
              have H1 : (some false) = some r := by rw [if_neg (show ¬ (false = true) by decide)] at H; exact H
              clear H
              have H := H1
              clear H1
              obtain rfl := Option.some.inj H
              go_wp2_with fail
              refine (clevislaw02_known.calls k1 false _ A14.out).mono ?_
              rintro e w18 ⟨rfl, hb⟩
              have HB18 := Aside0.mk (HB.out.trans (hb.mono HB.out.size))
              clear hb
              go_wp2
              go_ret
              exact ⟨rfl, HB18.out⟩
    · rw [if_neg c4] at H
      exact absurd H (by simp)
  · rw [if_neg c3] at H
    exact absurd H (by simp)

end Go.Proofs.Ytebdjhgboeadgaa.Id
