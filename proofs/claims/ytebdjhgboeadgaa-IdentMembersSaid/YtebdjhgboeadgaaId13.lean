-- Written by a program of ours (pf.sh), for this seat.
import Derived.Test.YtebdjhgboeadgaaId0
import Derived.Test.YtebdjhgboeadgaaId5
import Derived.Test.YtebdjhgboeadgaaId6
import Derived.Test.YtebdjhgboeadgaaId9
import Derived.Test.YtebdjhgboeadgaaId10
import Derived.Test.YtebdjhgboeadgaaId11
import Derived.Test.YtebdjhgboeadgaaId12
namespace Go.Proofs.Ytebdjhgboeadgaa.Id
open Go.RowKit Go.Proofs.YtebdjhgboeadgaaW.PrintWords Go.Proofs.YtebdjhgboeadgaaW.PrintLast Go.Proofs.YtebdjhgboeadgaaW.PrintMore
attribute [local go_sem] max2_int min2_int max_two min_two max_three min_three max_four min_four   -- for this text's walks alone
set_option linter.unusedVariables false
set_option linter.unusedSimpArgs false

/-! ### clevislaw02_IdentIsins: function 5 -/
def clevislaw02_IdentIsins.j0 : Nat → ByteArray → Int → Int → ByteArray → Int → Bool → Option (Bool)
  | 0, _, _, _, _, _, _ => none
  | k + 1, x0, x3, x4, x5, x7, x38 => if x38 = true then (some false) else (if x7 < 0 then (if x4 = 3 then (if x3 = 0 then (some (x5.toList == ([] : List UInt8))) else (some false)) else (some false)) else (if x4 = 0 then (if (wrap64 (x3)) = (wrap64 (48 + x7)) then ((some (([x3] : List Int) : List Int)).bind fun y144 => (if x0.size + (strOfNums y144).size ≤ 9223372036854775807 then (if x5.toList = (x0 ++ (strOfNums y144)).toList then ((ident_Isin.f k x5).bind fun t147 => (some (t147 == 0))) else (some false)) else (none))) else (some false)) else (some false)))
def clevislaw02_IdentIsins.f (k : Nat) (a0 : ByteArray) : Option (Bool) := if 0 ≤ (mn (a0.size : Int) 40) then (if (mn (a0.size : Int) 40) ≤ (a0.size : Int) then ((ident_Digit.f (a0.extract 0 ((mn (a0.size : Int) 40) : Int).toNat)).bind fun bt136 => ((ident_Make.f (a0.extract 0 ((mn (a0.size : Int) 40) : Int).toNat)).bind fun bt138 => ((clevisref02_Digit.f k (a0.extract 0 ((mn (a0.size : Int) 40) : Int).toNat)).bind fun t140 => ((clevislaw02_known.f k).bind fun t141 => (if t141 = true then ((ident_Isin.f k (a0.extract 0 ((mn (a0.size : Int) 40) : Int).toNat)).bind fun t142 => ((clevisref02_Isin.f k (a0.extract 0 ((mn (a0.size : Int) 40) : Int).toNat)).bind fun t143 => (if t142 = t143 then (clevislaw02_IdentIsins.j0 k (a0.extract 0 ((mn (a0.size : Int) 40) : Int).toNat) bt136.1 bt136.2 bt138.1 t140 (bt138.2 != bt136.2)) else (clevislaw02_IdentIsins.j0 k (a0.extract 0 ((mn (a0.size : Int) 40) : Int).toNat) bt136.1 bt136.2 bt138.1 t140 true)))) else (clevislaw02_IdentIsins.j0 k (a0.extract 0 ((mn (a0.size : Int) 40) : Int).toNat) bt136.1 bt136.2 bt138.1 t140 true)))))) else (none)) else (none)
theorem clevislaw02_IdentIsins.mono_l : ∀ k, (∀ y0 y1 y2 y3 y4 y5, LeO (clevislaw02_IdentIsins.j0 k y0 y1 y2 y3 y4 y5) (clevislaw02_IdentIsins.j0 (k + 1) y0 y1 y2 y3 y4 y5))
  | 0 => fun _ _ _ _ _ _ r h => by simp [clevislaw02_IdentIsins.j0] at h
  | k + 1 => by
    have ih0 := clevislaw02_IdentIsins.mono_l k
    · intro y0 y1 y2 y3 y4 y5
      unfold clevislaw02_IdentIsins.j0
      repeat' first
      | (with_reducible exact ih0 _ _ _ _ _ _)
      | (with_reducible exact clevislaw02_known.mono _)
      | (with_reducible exact clevisref02_Digit.mono _ _)
      | (with_reducible exact clevisref02_Isin.mono _ _)
      | (with_reducible exact ident_Isin.mono _ _)
      | (with_reducible exact LeO.refl _)
      | (with_reducible exact LeO.none _)
      | (with_reducible refine LeO.ite ?_ ?_)
      | (with_reducible refine LeO.bind ?_ (fun _ => ?_))
      | exact ih0 _ _ _ _ _ _
      | exact clevislaw02_known.mono _
      | exact clevisref02_Digit.mono _ _
      | exact clevisref02_Isin.mono _ _
      | exact ident_Isin.mono _ _
      | exact LeO.none _
      | refine LeO.ite ?_ ?_
      | refine LeO.bind ?_ (fun _ => ?_)
theorem clevislaw02_IdentIsins.mono : ∀ a0 k, LeO (clevislaw02_IdentIsins.f k a0) (clevislaw02_IdentIsins.f (k + 1) a0) := by
  intro a0 k
  have ih0 := clevislaw02_IdentIsins.mono_l k
  unfold clevislaw02_IdentIsins.f
  repeat' first
      | (with_reducible exact ih0 _ _ _ _ _ _)
      | (with_reducible exact clevislaw02_known.mono _)
      | (with_reducible exact clevisref02_Digit.mono _ _)
      | (with_reducible exact clevisref02_Isin.mono _ _)
      | (with_reducible exact ident_Isin.mono _ _)
      | (with_reducible exact LeO.refl _)
      | (with_reducible exact LeO.none _)
      | (with_reducible refine LeO.ite ?_ ?_)
      | (with_reducible refine LeO.bind ?_ (fun _ => ?_))
      | exact ih0 _ _ _ _ _ _
      | exact clevislaw02_known.mono _
      | exact clevisref02_Digit.mono _ _
      | exact clevisref02_Isin.mono _ _
      | exact ident_Isin.mono _ _
      | exact LeO.none _
      | refine LeO.ite ?_ ?_
      | refine LeO.bind ?_ (fun _ => ?_)
set_option maxHeartbeats 8000000 in
set_option maxRecDepth 100000 in
theorem clevislaw02_IdentIsins.calls (k : Nat) (a0 : ByteArray) (r : Bool) (w : World) (h : clevislaw02_IdentIsins.f k a0 = some r) :
    Calls Try.prog 5 #[.string a0] w fun e w' => e = .returned (.bool r) ∧ Below w.heap.size w w' := by
  have HB := Aside0.mk (Below.refl w.heap.size w)
  have H : (if 0 ≤ (mn (a0.size : Int) 40) then (if (mn (a0.size : Int) 40) ≤ (a0.size : Int) then ((ident_Digit.f (a0.extract 0 ((mn (a0.size : Int) 40) : Int).toNat)).bind fun bt136 => ((ident_Make.f (a0.extract 0 ((mn (a0.size : Int) 40) : Int).toNat)).bind fun bt138 => ((clevisref02_Digit.f k (a0.extract 0 ((mn (a0.size : Int) 40) : Int).toNat)).bind fun t140 => ((clevislaw02_known.f k).bind fun t141 => (if t141 = true then ((ident_Isin.f k (a0.extract 0 ((mn (a0.size : Int) 40) : Int).toNat)).bind fun t142 => ((clevisref02_Isin.f k (a0.extract 0 ((mn (a0.size : Int) 40) : Int).toNat)).bind fun t143 => (if t142 = t143 then (clevislaw02_IdentIsins.j0 k (a0.extract 0 ((mn (a0.size : Int) 40) : Int).toNat) bt136.1 bt136.2 bt138.1 t140 (bt138.2 != bt136.2)) else (clevislaw02_IdentIsins.j0 k (a0.extract 0 ((mn (a0.size : Int) 40) : Int).toNat) bt136.1 bt136.2 bt138.1 t140 true)))) else (clevislaw02_IdentIsins.j0 k (a0.extract 0 ((mn (a0.size : Int) 40) : Int).toNat) bt136.1 bt136.2 bt138.1 t140 true)))))) else (none)) else (none)) = some r := h
  clear h
  obtain ⟨ji2, hji2⟩ : ∃ j_ : Int, (mn (a0.size : Int) 40) = j_ := ⟨_, rfl⟩
  replace H : (if 0 ≤ (ji2) then (if (ji2) ≤ (a0.size : Int) then ((ident_Digit.f (a0.extract 0 ((ji2) : Int).toNat)).bind fun bt136 => ((ident_Make.f (a0.extract 0 ((ji2) : Int).toNat)).bind fun bt138 => ((clevisref02_Digit.f k (a0.extract 0 ((ji2) : Int).toNat)).bind fun t140 => ((clevislaw02_known.f k).bind fun t141 => (if t141 = true then ((ident_Isin.f k (a0.extract 0 ((ji2) : Int).toNat)).bind fun t142 => ((clevisref02_Isin.f k (a0.extract 0 ((ji2) : Int).toNat)).bind fun t143 => (if t142 = t143 then (clevislaw02_IdentIsins.j0 k (a0.extract 0 ((ji2) : Int).toNat) bt136.1 bt136.2 bt138.1 t140 (bt138.2 != bt136.2)) else (clevislaw02_IdentIsins.j0 k (a0.extract 0 ((ji2) : Int).toNat) bt136.1 bt136.2 bt138.1 t140 true)))) else (clevislaw02_IdentIsins.j0 k (a0.extract 0 ((ji2) : Int).toNat) bt136.1 bt136.2 bt138.1 t140 true)))))) else (none)) else (none)) = some r := by first | (rw [hji2] at H; exact H) | (simp only [hji2] at H ⊢; exact H)
  (try (have hji2h : ji2 ≤ 40 := by (rw [← hji2]; unfold mn; (repeat' split) <;> omega)))
  (try (have hji2g : ji2 ≤ 64 := by omega))
  (try (have hji2l : 0 ≤ ji2 := by (rw [← hji2]; unfold mn; (repeat' split) <;> omega)))
  (try (have hji2m : 0 ≤ ji2 := by omega))
  have hji2_ : (if 40 < (a0.size : Int) then 40 else (a0.size : Int)) = ji2 := hji2
  by_cases c3 : 0 ≤ (ji2)
  · rw [if_pos c3] at H
    have c3b0 := eq_true c3
    have c3b1 : decide (0 ≤ (ji2)) = true := decide_eq_true c3
    clear c3
    by_cases c4 : (ji2) ≤ (a0.size : Int)
    · rw [if_pos c4] at H
      have c4b0 := eq_true c4
      have c4b1 : decide ((ji2) ≤ (a0.size : Int)) = true := decide_eq_true c4
      clear c4
      replace H := Option.bind_eq_some_iff.mp H
      obtain ⟨⟨t136, t137⟩, A50, H⟩ := H
      replace H : ((ident_Make.f (a0.extract 0 ((ji2) : Int).toNat)).bind fun bt138 => ((clevisref02_Digit.f k (a0.extract 0 ((ji2) : Int).toNat)).bind fun t140 => ((clevislaw02_known.f k).bind fun t141 => (if t141 = true then ((ident_Isin.f k (a0.extract 0 ((ji2) : Int).toNat)).bind fun t142 => ((clevisref02_Isin.f k (a0.extract 0 ((ji2) : Int).toNat)).bind fun t143 => (if t142 = t143 then (clevislaw02_IdentIsins.j0 k (a0.extract 0 ((ji2) : Int).toNat) t136 t137 bt138.1 t140 (bt138.2 != t137)) else (clevislaw02_IdentIsins.j0 k (a0.extract 0 ((ji2) : Int).toNat) t136 t137 bt138.1 t140 true)))) else (clevislaw02_IdentIsins.j0 k (a0.extract 0 ((ji2) : Int).toNat) t136 t137 bt138.1 t140 true))))) = some r := H
      have A5 := Aside0.mk A50
      clear A50
      replace H := Option.bind_eq_some_iff.mp H
      obtain ⟨⟨t138, t139⟩, A60, H⟩ := H
      replace H : ((clevisref02_Digit.f k (a0.extract 0 ((ji2) : Int).toNat)).bind fun t140 => ((clevislaw02_known.f k).bind fun t141 => (if t141 = true then ((ident_Isin.f k (a0.extract 0 ((ji2) : Int).toNat)).bind fun t142 => ((clevisref02_Isin.f k (a0.extract 0 ((ji2) : Int).toNat)).bind fun t143 => (if t142 = t143 then (clevislaw02_IdentIsins.j0 k (a0.extract 0 ((ji2) : Int).toNat) t136 t137 t138 t140 (t139 != t137)) else (clevislaw02_IdentIsins.j0 k (a0.extract 0 ((ji2) : Int).toNat) t136 t137 t138 t140 true)))) else (clevislaw02_IdentIsins.j0 k (a0.extract 0 ((ji2) : Int).toNat) t136 t137 t138 t140 true)))) = some r := H
      have A6 := Aside0.mk A60
      clear A60
      replace H := Option.bind_eq_some_iff.mp H
      obtain ⟨t140, A70, H⟩ := H
      replace H : ((clevislaw02_known.f k).bind fun t141 => (if t141 = true then ((ident_Isin.f k (a0.extract 0 ((ji2) : Int).toNat)).bind fun t142 => ((clevisref02_Isin.f k (a0.extract 0 ((ji2) : Int).toNat)).bind fun t143 => (if t142 = t143 then (clevislaw02_IdentIsins.j0 k (a0.extract 0 ((ji2) : Int).toNat) t136 t137 t138 t140 (t139 != t137)) else (clevislaw02_IdentIsins.j0 k (a0.extract 0 ((ji2) : Int).toNat) t136 t137 t138 t140 true)))) else (clevislaw02_IdentIsins.j0 k (a0.extract 0 ((ji2) : Int).toNat) t136 t137 t138 t140 true))) = some r := H
      have A7 := Aside0.mk A70
      clear A70
      have HC8 := Aside0.mk H
      clear H
      go_enter Try.func5, Try.ntmps5
      go_upto_region 5 with (first | ((with_reducible refine gate_callee (f := 24) rfl ?_); refine goesL_ (some 15) rfl rfl Try.func24 (by kernel_rfl) rfl #[.string (a0.extract 0 ((ji2) : Int).toNat)] rfl (by (try simp only [List.map_toArray, List.map_cons, List.map_nil]); first | done | (simp only [hji2]; rfl) | rfl | (simp only [List.length_drop, List.length_take]; rfl)) ?_; (with_reducible refine (ident_Digit.calls (a0.extract 0 ((ji2) : Int).toNat) t136 t137 _ A5.out).mono ?_); rintro e w9 ⟨rfl, hb⟩; refine ⟨_, rfl, ?_⟩; have n0_ := Aside0.mk (below_step (by repeat (first | (with_reducible first | exact HB.out | apply below_alloc | apply pw_below_drewN | apply below_drew1) | exact HB.out)) hb); clear HB; have HB := n0_; clear n0_; (try clear hb); (try clear hb2); (try clear hk); (try clear hi)) | ((with_reducible refine gate_callee (f := 25) rfl ?_); refine goesL_ (some 20) rfl rfl Try.func25 (by kernel_rfl) rfl #[.string (a0.extract 0 ((ji2) : Int).toNat)] rfl (by (try simp only [List.map_toArray, List.map_cons, List.map_nil]); first | done | (simp only [hji2]; rfl) | rfl | (simp only [List.length_drop, List.length_take]; rfl)) ?_; (with_reducible refine (ident_Make.calls (a0.extract 0 ((ji2) : Int).toNat) t138 t139 _ A6.out).mono ?_); rintro e w10 ⟨rfl, hb⟩; refine ⟨_, rfl, ?_⟩; have n0_ := Aside0.mk (below_step (by repeat (first | (with_reducible first | exact HB.out | apply below_alloc | apply pw_below_drewN | apply below_drew1) | exact HB.out)) hb); clear HB; have HB := n0_; clear n0_; (try clear hb); (try clear hb2); (try clear hk); (try clear hi)) | ((with_reducible refine gate_callee (f := 26) rfl ?_); refine goesL_ (some 24) rfl rfl Try.func26 (by kernel_rfl) rfl #[.string (a0.extract 0 ((ji2) : Int).toNat)] rfl (by (try simp only [List.map_toArray, List.map_cons, List.map_nil]); first | done | (simp only [hji2]; rfl) | rfl | (simp only [List.length_drop, List.length_take]; rfl)) ?_; (with_reducible refine (clevisref02_Digit.calls k (a0.extract 0 ((ji2) : Int).toNat) t140 _ A7.out).mono ?_); rintro e w11 ⟨rfl, hb⟩; refine ⟨_, rfl, ?_⟩; have n0_ := Aside0.mk (below_step (by repeat (first | (with_reducible first | exact HB.out | apply below_alloc | apply pw_below_drewN | apply below_drew1) | exact HB.out)) hb); clear HB; have HB := n0_; clear n0_; (try clear hb); (try clear hb2); (try clear hk); (try clear hi)))
      (try simp only [Act.put, List.setIfInBounds_toArray, List.set_cons_zero, List.set_cons_succ])
      go_cut [38] (fun v38 wc => ∃ (kq : Nat) (x38_7 : Bool), v38 = .bool x38_7 ∧ Aside0 (clevislaw02_IdentIsins.j0 kq (a0.extract 0 ((ji2) : Int).toNat) t136 t137 t138 t140 x38_7 = some r) ∧ Aside0 (kq ≤ k) ∧ Aside0 (Below w.heap.size w wc))
      case first =>
        have H := HC8.out
        clear HC8
        replace H := Option.bind_eq_some_iff.mp H
        obtain ⟨t141, A120, H⟩ := H
        replace H : (if t141 = true then ((ident_Isin.f k (a0.extract 0 ((ji2) : Int).toNat)).bind fun t142 => ((clevisref02_Isin.f k (a0.extract 0 ((ji2) : Int).toNat)).bind fun t143 => (if t142 = t143 then (clevislaw02_IdentIsins.j0 k (a0.extract 0 ((ji2) : Int).toNat) t136 t137 t138 t140 (t139 != t137)) else (clevislaw02_IdentIsins.j0 k (a0.extract 0 ((ji2) : Int).toNat) t136 t137 t138 t140 true)))) else (clevislaw02_IdentIsins.j0 k (a0.extract 0 ((ji2) : Int).toNat) t136 t137 t138 t140 true)) = some r := H
        have A12 := Aside0.mk A120
        clear A120
        by_cases c13 : t141 = true
        · subst c13
          have H1 : ((ident_Isin.f k (a0.extract 0 ((ji2) : Int).toNat)).bind fun t142 => ((clevisref02_Isin.f k (a0.extract 0 ((ji2) : Int).toNat)).bind fun t143 => (if t142 = t143 then (clevislaw02_IdentIsins.j0 k (a0.extract 0 ((ji2) : Int).toNat) t136 t137 t138 t140 (t139 != t137)) else (clevislaw02_IdentIsins.j0 k (a0.extract 0 ((ji2) : Int).toNat) t136 t137 t138 t140 true)))) = some r := by rw [if_pos rfl] at H; exact H
          clear H
          have H := H1
          clear H1
          replace H := Option.bind_eq_some_iff.mp H
          obtain ⟨t142, A140, H⟩ := H
          replace H : ((clevisref02_Isin.f k (a0.extract 0 ((ji2) : Int).toNat)).bind fun t143 => (if t142 = t143 then (clevislaw02_IdentIsins.j0 k (a0.extract 0 ((ji2) : Int).toNat) t136 t137 t138 t140 (t139 != t137)) else (clevislaw02_IdentIsins.j0 k (a0.extract 0 ((ji2) : Int).toNat) t136 t137 t138 t140 true))) = some r := H
          have A14 := Aside0.mk A140
          clear A140
          replace H := Option.bind_eq_some_iff.mp H
          obtain ⟨t143, A150, H⟩ := H
          replace H : (if t142 = t143 then (clevislaw02_IdentIsins.j0 k (a0.extract 0 ((ji2) : Int).toNat) t136 t137 t138 t140 (t139 != t137)) else (clevislaw02_IdentIsins.j0 k (a0.extract 0 ((ji2) : Int).toNat) t136 t137 t138 t140 true)) = some r := H
          have A15 := Aside0.mk A150
          clear A150
          by_cases c16 : t142 = t143
          · rw [if_pos c16] at H
            have c16b0 : (t142 == t143) = true := beq_iff_eq.mpr c16
            have c16b1 : (t142 != t143) = false := bne_eq_false_iff_eq.mpr c16
            clear c16
            (first | rw [c16b0] | (simp only [i64_w, i32_w]; rw [c16b0]) | skip)
            have H' := Aside0.mk H
            clear H
            go_wp2_with (first | ((with_reducible refine gate_callee (f := 27) rfl ?_); refine goesL_ (some 25) rfl rfl Try.func27 (by kernel_rfl) rfl #[] rfl (by (try simp only [List.map_toArray, List.map_cons, List.map_nil]); first | done | rfl | (simp only [List.length_drop, List.length_take]; rfl)) ?_; (with_reducible refine (clevislaw02_known.calls k  true _ A12.out).mono ?_); rintro e w17 ⟨rfl, hb⟩; refine ⟨_, rfl, ?_⟩; have n0_ := Aside0.mk (below_step (by repeat (first | (with_reducible first | exact HB.out | apply below_alloc | apply pw_below_drewN | apply below_drew1) | exact HB.out)) hb); clear HB; have HB := n0_; clear n0_; (try clear hb); (try clear hb2); (try clear hk); (try clear hi)) | (go_at_call 28; (with_reducible refine (ident_Isin.calls k (a0.extract 0 ((ji2) : Int).toNat) t142 _ A14.out).mono ?_); rintro e w18 ⟨rfl, hb⟩; have n0_ := Aside0.mk (below_step (by repeat (first | (with_reducible first | exact HB.out | apply below_alloc | apply pw_below_drewN | apply below_drew1) | exact HB.out)) hb); clear HB; have HB := n0_; clear n0_; (try clear hb); (try clear hb2); (try clear hk); (try clear hi)) | (go_at_call 29; (with_reducible refine (clevisref02_Isin.calls k (a0.extract 0 ((ji2) : Int).toNat) t143 _ A15.out).mono ?_); rintro e w19 ⟨rfl, hb⟩; have n0_ := Aside0.mk (below_step (by repeat (first | (with_reducible first | exact HB.out | apply below_alloc | apply pw_below_drewN | apply below_drew1) | exact HB.out)) hb); clear HB; have HB := n0_; clear n0_; (try clear hb); (try clear hb2); (try clear hk); (try clear hi)))
            go_meet
            case rel => exact ⟨_, ((t139 != t137)), (by first | rfl | (simp; done) | (simp [*]; done)), H', ⟨by first | omega | exact Nat.le_refl _⟩, ⟨by repeat (first | (with_reducible first | exact HB.out | apply below_alloc | apply pw_below_drewN | apply below_drew1) | exact HB.out)⟩⟩
          · rw [if_neg c16] at H
            have c16b0 : (t142 == t143) = false := beq_eq_false_iff_ne.mpr c16
            have c16b1 : (t142 != t143) = true := bne_iff_ne.mpr c16
            (first | rw [c16b0] | (simp only [i64_w, i32_w]; rw [c16b0]) | skip)
            have H' := Aside0.mk H
            clear H
            go_wp2_with (first | ((with_reducible refine gate_callee (f := 27) rfl ?_); refine goesL_ (some 25) rfl rfl Try.func27 (by kernel_rfl) rfl #[] rfl (by (try simp only [List.map_toArray, List.map_cons, List.map_nil]); first | done | rfl | (simp only [List.length_drop, List.length_take]; rfl)) ?_; (with_reducible refine (clevislaw02_known.calls k  true _ A12.out).mono ?_); rintro e w20 ⟨rfl, hb⟩; refine ⟨_, rfl, ?_⟩; have n0_ := Aside0.mk (below_step (by repeat (first | (with_reducible first | exact HB.out | apply below_alloc | apply pw_below_drewN | apply below_drew1) | exact HB.out)) hb); clear HB; have HB := n0_; clear n0_; (try clear hb); (try clear hb2); (try clear hk); (try clear hi)) | (go_at_call 28; (with_reducible refine (ident_Isin.calls k (a0.extract 0 ((ji2) : Int).toNat) t142 _ A14.out).mono ?_); rintro e w21 ⟨rfl, hb⟩; have n0_ := Aside0.mk (below_step (by repeat (first | (with_reducible first | exact HB.out | apply below_alloc | apply pw_below_drewN | apply below_drew1) | exact HB.out)) hb); clear HB; have HB := n0_; clear n0_; (try clear hb); (try clear hb2); (try clear hk); (try clear hi)) | (go_at_call 29; (with_reducible refine (clevisref02_Isin.calls k (a0.extract 0 ((ji2) : Int).toNat) t143 _ A15.out).mono ?_); rintro e w22 ⟨rfl, hb⟩; have n0_ := Aside0.mk (below_step (by repeat (first | (with_reducible first | exact HB.out | apply below_alloc | apply pw_below_drewN | apply below_drew1) | exact HB.out)) hb); clear HB; have HB := n0_; clear n0_; (try clear hb); (try clear hb2); (try clear hk); (try clear hi)))
            go_meet
            case rel => exact ⟨_, (true), (by first | rfl | (simp; done) | (simp [*]; done)), H', ⟨by first | omega | exact Nat.le_refl _⟩, ⟨by repeat (first | (with_reducible first | exact HB.out | apply below_alloc | apply pw_below_drewN | apply below_drew1) | exact HB.out)⟩⟩
        · replace c13 := Bool.eq_false_iff.mpr c13
          subst c13
          have H1 : (clevislaw02_IdentIsins.j0 k (a0.extract 0 ((ji2) : Int).toNat) t136 t137 t138 t140 true) = some r := by rw [if_neg (show ¬ (false = true) by decide)] at H; exact H
          clear H
          have H := H1
          clear H1
          have H' := Aside0.mk H
          clear H
          go_wp2_with (first | ((with_reducible refine gate_callee (f := 27) rfl ?_); refine goesL_ (some 25) rfl rfl Try.func27 (by kernel_rfl) rfl #[] rfl (by (try simp only [List.map_toArray, List.map_cons, List.map_nil]); first | done | rfl | (simp only [List.length_drop, List.length_take]; rfl)) ?_; (with_reducible refine (clevislaw02_known.calls k  false _ A12.out).mono ?_); rintro e w23 ⟨rfl, hb⟩; refine ⟨_, rfl, ?_⟩; have n0_ := Aside0.mk (below_step (by repeat (first | (with_reducible first | exact HB.out | apply below_alloc | apply pw_below_drewN | apply below_drew1) | exact HB.out)) hb); clear HB; have HB := n0_; clear n0_; (try clear hb); (try clear hb2); (try clear hk); (try clear hi)))
          go_meet
          case rel => exact ⟨_, (true), (by first | rfl | (simp; done) | (simp [*]; done)), H', ⟨by first | omega | exact Nat.le_refl _⟩, ⟨by repeat (first | (with_reducible first | exact HB.out | apply below_alloc | apply pw_below_drewN | apply below_drew1) | exact HB.out)⟩⟩
      case rest =>
        clear HC8
        try clear c1
        try clear c2
        try clear p2
        try clear c3
        try clear c3b0
        try clear c3b1
        try clear c4
        try clear c4b0
        try clear c4b1
        try clear c5
        try clear c13
        try clear c16
        try clear c16b0
        try clear c16b1
        obtain ⟨kq, x38_7, rfl, HA, HJ7, HB⟩ := hcut
        cases kq with
        | zero => exact absurd HA.out (by simp [clevislaw02_IdentIsins.j0])
        | succ kj7 =>
          have H := HA.out
          clear HA
          simp only [clevislaw02_IdentIsins.j0] at H
          by_cases c24 : x38_7 = true
          · subst c24
            have H1 : (some false) = some r := by rw [if_pos rfl] at H; exact H
            clear H
            have H := H1
            clear H1
            obtain rfl := Option.some.inj H
            go_wp2
            go_ret
            exact ⟨by first | rfl | (simp [errW_none, errW_some] <;> rfl) | (simp only [← hji2]; first | rfl | (simp [errW_none, errW_some] <;> rfl)) | (simp [*, errW_none, errW_some] <;> rfl), by repeat (first | (with_reducible first | exact HB.out | apply below_alloc | apply pw_below_drewN | apply below_drew1) | exact HB.out)⟩
          · replace c24 := Bool.eq_false_iff.mpr c24
            subst c24
            have H1 : (if t140 < 0 then (if t137 = 3 then (if t136 = 0 then (some (t138.toList == ([] : List UInt8))) else (some false)) else (some false)) else (if t137 = 0 then (if (wrap64 (t136)) = (wrap64 (48 + t140)) then ((some (([t136] : List Int) : List Int)).bind fun y144 => (if (a0.extract 0 ((ji2) : Int).toNat).size + (strOfNums y144).size ≤ 9223372036854775807 then (if t138.toList = ((a0.extract 0 ((ji2) : Int).toNat) ++ (strOfNums y144)).toList then ((ident_Isin.f kj7 t138).bind fun t147 => (some (t147 == 0))) else (some false)) else (none))) else (some false)) else (some false))) = some r := by rw [if_neg (show ¬ (false = true) by decide)] at H; exact H
            clear H
            have H := H1
            clear H1
            by_cases c25 : t140 < 0
            · rw [if_pos c25] at H
              have c25b0 : decide (t140 < 0) = true := decide_eq_true c25
              clear c25
              by_cases c26 : t137 = 3
              · rw [if_pos c26] at H
                have c26b0 : (t137 == 3) = true := beq_iff_eq.mpr c26
                have c26b1 : (t137 != 3) = false := bne_eq_false_iff_eq.mpr c26
                clear c26
                by_cases c27 : t136 = 0
                · rw [if_pos c27] at H
                  have c27b0 : (t136 == 0) = true := beq_iff_eq.mpr c27
                  have c27b1 : (t136 != 0) = false := bne_eq_false_iff_eq.mpr c27
                  clear c27
                  obtain rfl := Option.some.inj H
                  go_wp2
                  go_ret
                  exact ⟨by first | rfl | (simp [errW_none, errW_some] <;> rfl) | (simp only [← hji2]; first | rfl | (simp [errW_none, errW_some] <;> rfl)) | (simp [*, errW_none, errW_some] <;> rfl), by repeat (first | (with_reducible first | exact HB.out | apply below_alloc | apply pw_below_drewN | apply below_drew1) | exact HB.out)⟩
                · rw [if_neg c27] at H
                  have c27b0 : (t136 == 0) = false := beq_eq_false_iff_ne.mpr c27
                  have c27b1 : (t136 != 0) = true := bne_iff_ne.mpr c27
                  obtain rfl := Option.some.inj H
                  go_wp2
                  go_ret
                  exact ⟨by first | rfl | (simp [errW_none, errW_some] <;> rfl) | (simp only [← hji2]; first | rfl | (simp [errW_none, errW_some] <;> rfl)) | (simp [*, errW_none, errW_some] <;> rfl), by repeat (first | (with_reducible first | exact HB.out | apply below_alloc | apply pw_below_drewN | apply below_drew1) | exact HB.out)⟩
              · rw [if_neg c26] at H
                have c26b0 : (t137 == 3) = false := beq_eq_false_iff_ne.mpr c26
                have c26b1 : (t137 != 3) = true := bne_iff_ne.mpr c26
                obtain rfl := Option.some.inj H
                go_wp2
                go_ret
                exact ⟨by first | rfl | (simp [errW_none, errW_some] <;> rfl) | (simp only [← hji2]; first | rfl | (simp [errW_none, errW_some] <;> rfl)) | (simp [*, errW_none, errW_some] <;> rfl), by repeat (first | (with_reducible first | exact HB.out | apply below_alloc | apply pw_below_drewN | apply below_drew1) | exact HB.out)⟩
            · rw [if_neg c25] at H
              have c25b0 : decide (t140 < 0) = false := decide_eq_false c25
              clear c25
              by_cases c28 : t137 = 0
              · rw [if_pos c28] at H
                have c28b0 : (t137 == 0) = true := beq_iff_eq.mpr c28
                have c28b1 : (t137 != 0) = false := bne_eq_false_iff_eq.mpr c28
                clear c28
                by_cases c29 : (wrap64 (t136)) = (wrap64 (48 + t140))
                · rw [if_pos c29] at H
                  have c29b0 : ((wrap64 (t136)) == (wrap64 (48 + t140))) = true := beq_iff_eq.mpr c29
                  have c29b1 : ((wrap64 (t136)) != (wrap64 (48 + t140))) = false := bne_eq_false_iff_eq.mpr c29
                  clear c29
                  obtain ⟨y144, hy144⟩ : ∃ y_ : List Int, y_ = (([t136] : List Int)) := ⟨_, rfl⟩
                  replace H : (if (a0.extract 0 ((ji2) : Int).toNat).size + (strOfNums y144).size ≤ 9223372036854775807 then (if t138.toList = ((a0.extract 0 ((ji2) : Int).toNat) ++ (strOfNums y144)).toList then ((ident_Isin.f kj7 t138).bind fun t147 => (some (t147 == 0))) else (some false)) else (none)) = some r := by first | (rw [hy144]; with_reducible exact H) | (have H2_ := (Option.bind_some _ _).symm.trans H; rw [hy144]; with_reducible exact H2_) | (have H2_ := (Option.bind_some _ _).symm.trans H; with_reducible exact H2_) | with_reducible exact H | (rw [hy144]; exact H) | exact H
                  have Ny144 := Aside0.mk hy144
                  clear hy144
                  by_cases c30 : (a0.extract 0 ((ji2) : Int).toNat).size + (strOfNums y144).size ≤ 9223372036854775807
                  · rw [if_pos c30] at H
                    have c30b0 := eq_true c30
                    have c30b1 : decide ((a0.extract 0 ((ji2) : Int).toNat).size + (strOfNums y144).size ≤ 9223372036854775807) = true := decide_eq_true c30
                    try have c30b2 : (9223372036854775807 < (a0.extract 0 ((ji2) : Int).toNat).size + (strOfNums y144).size) = False := eq_false (Nat.not_lt.2 c30)
                    by_cases c31 : t138.toList = ((a0.extract 0 ((ji2) : Int).toNat) ++ (strOfNums y144)).toList
                    · rw [if_pos c31] at H
                      have c31b0 : (t138.toList == ((a0.extract 0 ((ji2) : Int).toNat) ++ (strOfNums y144)).toList) = true := beq_iff_eq.mpr c31
                      have c31b1 : (t138.toList != ((a0.extract 0 ((ji2) : Int).toNat) ++ (strOfNums y144)).toList) = false := bne_eq_false_iff_eq.mpr c31
                      clear c31
                      replace H := Option.bind_eq_some_iff.mp H
                      obtain ⟨t147, A320, H⟩ := H
                      replace H : (some (t147 == 0)) = some r := H
                      have A32 := Aside0.mk A320
                      clear A320
                      obtain rfl := Option.some.inj H
                      go_wp2_with (first | ((with_reducible refine gate_dst (N := 64) rfl ?_); (try (refine gate_guard (by rfl) ?_; dsimp only)); refine Kd.R_lit (Kd.int .u8) _ 5 ?hg (N := 64) ?hd (xs := ([t136] : List Int)) (inner := [.int .u8 t136]) (ok := fun _ => True) (okp := fun _ => True) ?hr ?hp (fun _ hk => hk) trivial (Below.refl _ _) (Nat.le_refl _) (by simp) ?_; (case hd => rfl); (case hg => rfl); (case hr => first | (go_simp; done) | (go_simp; rfl)); (case hp => exact (Reps.one (show Kd.M (Kd.int .u8) _ _ _ t136 [.int .u8 t136] from rfl) (Reps.none _ _))); intro v145 w33 ho34 hb hg_ hnew_; clear hg_ hnew_; (first | rw [← Ny144.out] at ho34 | (simp only [Int.reduceToNat] at ho34; rw [← Ny144.out] at ho34)); have n0_ := Aside0.mk (Kd.R_lower ho34 (below_size (by repeat (first | (with_reducible first | exact HB.out | apply below_alloc | apply pw_below_drewN | apply below_drew1) | exact HB.out)))); have n1_ := Aside0.mk (below_step (by repeat (first | (with_reducible first | exact HB.out | apply below_alloc | apply pw_below_drewN | apply below_drew1) | exact HB.out)) hb); clear HB; have HO146 := n0_; have HB := n1_; clear n0_ n1_; clear hb ho34; have hcv35 := own_string (P := Try.prog) Try.underlying44 Try.underlying5 Try.underlying9 (Kd.own_of_R HO146.out)) | (go_at_call 28; (with_reducible refine (ident_Isin.calls kj7 t138 t147 _ A32.out).mono ?_); rintro e w36 ⟨rfl, hb⟩; have n0_ := Aside0.mk (Kd.R_below (by (with_reducible repeat (first | apply Kd.R_alloc | apply Kd.R_drewN | apply Kd.R_drew)); exact HO146.out) hb); have n1_ := Aside0.mk (below_step (by repeat (first | (with_reducible first | exact HB.out | apply below_alloc | apply pw_below_drewN | apply below_drew1) | exact HB.out)) hb); clear HO146; clear HB; have HO146 := n0_; have HB := n1_; clear n0_ n1_; (try clear hb); (try clear hb2); (try clear hk); (try clear hi)))
                      go_ret
                      exact ⟨by first | rfl | (simp [errW_none, errW_some] <;> rfl) | (simp only [← hji2]; first | rfl | (simp [errW_none, errW_some] <;> rfl)) | (simp [*, errW_none, errW_some] <;> rfl), by repeat (first | (with_reducible first | exact HB.out | apply below_alloc | apply pw_below_drewN | apply below_drew1) | exact HB.out)⟩
                    · rw [if_neg c31] at H
                      have c31b0 : (t138.toList == ((a0.extract 0 ((ji2) : Int).toNat) ++ (strOfNums y144)).toList) = false := beq_eq_false_iff_ne.mpr c31
                      have c31b1 : (t138.toList != ((a0.extract 0 ((ji2) : Int).toNat) ++ (strOfNums y144)).toList) = true := bne_iff_ne.mpr c31
                      obtain rfl := Option.some.inj H
                      go_wp2_with (first | ((with_reducible refine gate_dst (N := 64) rfl ?_); (try (refine gate_guard (by rfl) ?_; dsimp only)); refine Kd.R_lit (Kd.int .u8) _ 5 ?hg (N := 64) ?hd (xs := ([t136] : List Int)) (inner := [.int .u8 t136]) (ok := fun _ => True) (okp := fun _ => True) ?hr ?hp (fun _ hk => hk) trivial (Below.refl _ _) (Nat.le_refl _) (by simp) ?_; (case hd => rfl); (case hg => rfl); (case hr => first | (go_simp; done) | (go_simp; rfl)); (case hp => exact (Reps.one (show Kd.M (Kd.int .u8) _ _ _ t136 [.int .u8 t136] from rfl) (Reps.none _ _))); intro v145 w37 ho38 hb hg_ hnew_; clear hg_ hnew_; (first | rw [← Ny144.out] at ho38 | (simp only [Int.reduceToNat] at ho38; rw [← Ny144.out] at ho38)); have n0_ := Aside0.mk (Kd.R_lower ho38 (below_size (by repeat (first | (with_reducible first | exact HB.out | apply below_alloc | apply pw_below_drewN | apply below_drew1) | exact HB.out)))); have n1_ := Aside0.mk (below_step (by repeat (first | (with_reducible first | exact HB.out | apply below_alloc | apply pw_below_drewN | apply below_drew1) | exact HB.out)) hb); clear HB; have HO146 := n0_; have HB := n1_; clear n0_ n1_; clear hb ho38; have hcv39 := own_string (P := Try.prog) Try.underlying44 Try.underlying5 Try.underlying9 (Kd.own_of_R HO146.out)))
                      go_ret
                      exact ⟨by first | rfl | (simp [errW_none, errW_some] <;> rfl) | (simp only [← hji2]; first | rfl | (simp [errW_none, errW_some] <;> rfl)) | (simp [*, errW_none, errW_some] <;> rfl), by repeat (first | (with_reducible first | exact HB.out | apply below_alloc | apply pw_below_drewN | apply below_drew1) | exact HB.out)⟩
                  · rw [if_neg c30] at H
                    exact absurd H (by simp)
                · rw [if_neg c29] at H
                  have c29b0 : ((wrap64 (t136)) == (wrap64 (48 + t140))) = false := beq_eq_false_iff_ne.mpr c29
                  have c29b1 : ((wrap64 (t136)) != (wrap64 (48 + t140))) = true := bne_iff_ne.mpr c29
                  obtain rfl := Option.some.inj H
                  go_wp2
                  go_ret
                  exact ⟨by first | rfl | (simp [errW_none, errW_some] <;> rfl) | (simp only [← hji2]; first | rfl | (simp [errW_none, errW_some] <;> rfl)) | (simp [*, errW_none, errW_some] <;> rfl), by repeat (first | (with_reducible first | exact HB.out | apply below_alloc | apply pw_below_drewN | apply below_drew1) | exact HB.out)⟩
              · rw [if_neg c28] at H
                have c28b0 : (t137 == 0) = false := beq_eq_false_iff_ne.mpr c28
                have c28b1 : (t137 != 0) = true := bne_iff_ne.mpr c28
                obtain rfl := Option.some.inj H
                go_wp2
                go_ret
                exact ⟨by first | rfl | (simp [errW_none, errW_some] <;> rfl) | (simp only [← hji2]; first | rfl | (simp [errW_none, errW_some] <;> rfl)) | (simp [*, errW_none, errW_some] <;> rfl), by repeat (first | (with_reducible first | exact HB.out | apply below_alloc | apply pw_below_drewN | apply below_drew1) | exact HB.out)⟩
    · rw [if_neg c4] at H
      exact absurd H (by simp)
  · rw [if_neg c3] at H
    exact absurd H (by simp)

/-- THE ONE PURE STATEMENT of clevislaw02_IdentIsins: yours. -/
def clevislaw02_IdentIsins.Pure : Prop := ∀ (a0 : ByteArray), a0.size ≤ 140737488351232 → ∃ k, clevislaw02_IdentIsins.f k a0 = some true
theorem clevislaw02_IdentIsins.walk (P : clevislaw02_IdentIsins.Pure) (a0 : ByteArray) (w : World) (w0 : a0.size ≤ 140737488351232) :
    Calls Try.prog 5 #[.string a0] w fun e w' => e = .returned (.bool true) ∧ Below w.heap.size w w' := by
  obtain ⟨k, h⟩ := P a0 w0
  refine (clevislaw02_IdentIsins.calls k a0 true w h).mono ?_
  rintro e w' ⟨rfl, hd⟩
  exact ⟨rfl, hd⟩

end Go.Proofs.Ytebdjhgboeadgaa.Id
