-- Written by a program of ours (pf.sh), for this seat.
import Derived.Test.YtebdjhgboeadgaaId0
import Derived.Test.YtebdjhgboeadgaaId5
import Derived.Test.YtebdjhgboeadgaaId6
import Derived.Test.YtebdjhgboeadgaaId10
namespace Go.Proofs.Ytebdjhgboeadgaa.Id
open Go.RowKit Go.Proofs.YtebdjhgboeadgaaW.PrintWords Go.Proofs.YtebdjhgboeadgaaW.PrintLast Go.Proofs.YtebdjhgboeadgaaW.PrintMore
attribute [local go_sem] max2_int min2_int max_two min_two max_three min_three max_four min_four   -- for this text's walks alone
set_option linter.unusedVariables false
set_option linter.unusedSimpArgs false

/-! ### clevislaw02_known: function 27 -/
def clevislaw02_known.f (k : Nat)  : Option (Bool) := (ident_Digit.f (⟨#[85, 83, 48, 51, 55, 56, 51, 51, 49, 48, 48]⟩ : ByteArray)).bind fun bt127 => ((ident_Make.f (⟨#[71, 66, 48, 48, 48, 50, 54, 51, 52, 57, 52]⟩ : ByteArray)).bind fun bt129 => (if bt127.2 = 0 then (if bt127.1 = 53 then (if bt129.2 = 0 then (if bt129.1.toList = ([71, 66, 48, 48, 48, 50, 54, 51, 52, 57, 52, 54] : List UInt8) then ((ident_Isin.f k (⟨#[85, 83, 48, 51, 55, 56, 51, 51, 49, 48, 48, 54]⟩ : ByteArray)).bind fun t131 => (if t131 = 11 then ((ident_Isin.f k (⟨#[85, 83, 48, 51, 55, 56, 51, 51, 49, 48, 48, 53]⟩ : ByteArray)).bind fun t132 => (some (t132 == 0))) else (some false))) else (some false)) else (some false)) else (some false)) else (some false)))
theorem clevislaw02_known.mono : ∀ k, LeO (clevislaw02_known.f k ) (clevislaw02_known.f (k + 1) ) := by
  intro  k
  unfold clevislaw02_known.f
  repeat' first
      | (with_reducible exact ident_Isin.mono _ _)
      | (with_reducible exact LeO.refl _)
      | (with_reducible exact LeO.none _)
      | (with_reducible refine LeO.ite ?_ ?_)
      | (with_reducible refine LeO.bind ?_ (fun _ => ?_))
      | exact ident_Isin.mono _ _
      | exact LeO.none _
      | refine LeO.ite ?_ ?_
      | refine LeO.bind ?_ (fun _ => ?_)
set_option maxHeartbeats 8000000 in
set_option maxRecDepth 100000 in
theorem clevislaw02_known.calls (k : Nat)  (r : Bool) (w : World) (h : clevislaw02_known.f k  = some r) :
    Calls Try.prog 27 #[] w fun e w' => e = .returned (.bool r) ∧ Below w.heap.size w w' := by
  have HB := Aside0.mk (Below.refl w.heap.size w)
  have H : ((ident_Digit.f (⟨#[85, 83, 48, 51, 55, 56, 51, 51, 49, 48, 48]⟩ : ByteArray)).bind fun bt127 => ((ident_Make.f (⟨#[71, 66, 48, 48, 48, 50, 54, 51, 52, 57, 52]⟩ : ByteArray)).bind fun bt129 => (if bt127.2 = 0 then (if bt127.1 = 53 then (if bt129.2 = 0 then (if bt129.1.toList = ([71, 66, 48, 48, 48, 50, 54, 51, 52, 57, 52, 54] : List UInt8) then ((ident_Isin.f k (⟨#[85, 83, 48, 51, 55, 56, 51, 51, 49, 48, 48, 54]⟩ : ByteArray)).bind fun t131 => (if t131 = 11 then ((ident_Isin.f k (⟨#[85, 83, 48, 51, 55, 56, 51, 51, 49, 48, 48, 53]⟩ : ByteArray)).bind fun t132 => (some (t132 == 0))) else (some false))) else (some false)) else (some false)) else (some false)) else (some false)))) = some r := h
  clear h
  replace H := Option.bind_eq_some_iff.mp H
  obtain ⟨⟨t127, t128⟩, A10, H⟩ := H
  replace H : ((ident_Make.f (⟨#[71, 66, 48, 48, 48, 50, 54, 51, 52, 57, 52]⟩ : ByteArray)).bind fun bt129 => (if t128 = 0 then (if t127 = 53 then (if bt129.2 = 0 then (if bt129.1.toList = ([71, 66, 48, 48, 48, 50, 54, 51, 52, 57, 52, 54] : List UInt8) then ((ident_Isin.f k (⟨#[85, 83, 48, 51, 55, 56, 51, 51, 49, 48, 48, 54]⟩ : ByteArray)).bind fun t131 => (if t131 = 11 then ((ident_Isin.f k (⟨#[85, 83, 48, 51, 55, 56, 51, 51, 49, 48, 48, 53]⟩ : ByteArray)).bind fun t132 => (some (t132 == 0))) else (some false))) else (some false)) else (some false)) else (some false)) else (some false))) = some r := H
  have A1 := Aside0.mk A10
  clear A10
  replace H := Option.bind_eq_some_iff.mp H
  obtain ⟨⟨t129, t130⟩, A20, H⟩ := H
  replace H : (if t128 = 0 then (if t127 = 53 then (if t130 = 0 then (if t129.toList = ([71, 66, 48, 48, 48, 50, 54, 51, 52, 57, 52, 54] : List UInt8) then ((ident_Isin.f k (⟨#[85, 83, 48, 51, 55, 56, 51, 51, 49, 48, 48, 54]⟩ : ByteArray)).bind fun t131 => (if t131 = 11 then ((ident_Isin.f k (⟨#[85, 83, 48, 51, 55, 56, 51, 51, 49, 48, 48, 53]⟩ : ByteArray)).bind fun t132 => (some (t132 == 0))) else (some false))) else (some false)) else (some false)) else (some false)) else (some false)) = some r := H
  have A2 := Aside0.mk A20
  clear A20
  by_cases c3 : t128 = 0
  · rw [if_pos c3] at H
    have c3b0 : (t128 == 0) = true := beq_iff_eq.mpr c3
    have c3b1 : (t128 != 0) = false := bne_eq_false_iff_eq.mpr c3
    clear c3
    by_cases c4 : t127 = 53
    · rw [if_pos c4] at H
      have c4b0 : (t127 == 53) = true := beq_iff_eq.mpr c4
      have c4b1 : (t127 != 53) = false := bne_eq_false_iff_eq.mpr c4
      clear c4
      by_cases c5 : t130 = 0
      · rw [if_pos c5] at H
        have c5b0 : (t130 == 0) = true := beq_iff_eq.mpr c5
        have c5b1 : (t130 != 0) = false := bne_eq_false_iff_eq.mpr c5
        clear c5
        by_cases c6 : t129.toList = ([71, 66, 48, 48, 48, 50, 54, 51, 52, 57, 52, 54] : List UInt8)
        · rw [if_pos c6] at H
          have c6b0 : (t129.toList == ([71, 66, 48, 48, 48, 50, 54, 51, 52, 57, 52, 54] : List UInt8)) = true := beq_iff_eq.mpr c6
          have c6b1 : (t129.toList != ([71, 66, 48, 48, 48, 50, 54, 51, 52, 57, 52, 54] : List UInt8)) = false := bne_eq_false_iff_eq.mpr c6
          clear c6
          replace H := Option.bind_eq_some_iff.mp H
          obtain ⟨t131, A70, H⟩ := H
          replace H : (if t131 = 11 then ((ident_Isin.f k (⟨#[85, 83, 48, 51, 55, 56, 51, 51, 49, 48, 48, 53]⟩ : ByteArray)).bind fun t132 => (some (t132 == 0))) else (some false)) = some r := H
          have A7 := Aside0.mk A70
          clear A70
          by_cases c8 : t131 = 11
          · rw [if_pos c8] at H
            have c8b0 : (t131 == 11) = true := beq_iff_eq.mpr c8
            have c8b1 : (t131 != 11) = false := bne_eq_false_iff_eq.mpr c8
            clear c8
            replace H := Option.bind_eq_some_iff.mp H
            obtain ⟨t132, A90, H⟩ := H
            replace H : (some (t132 == 0)) = some r := H
            have A9 := Aside0.mk A90
            clear A90
            obtain rfl := Option.some.inj H
            go_enter Try.func27, Try.ntmps27
            go_wp2_with (first | ((with_reducible refine gate_callee (f := 24) rfl ?_); refine goesL_ (some 6) rfl rfl Try.func24 (by kernel_rfl) rfl #[.string (⟨#[85, 83, 48, 51, 55, 56, 51, 51, 49, 48, 48]⟩ : ByteArray)] rfl (by (try simp only [List.map_toArray, List.map_cons, List.map_nil]); first | done | rfl | (simp only [List.length_drop, List.length_take]; rfl)) ?_; (with_reducible refine (ident_Digit.calls (⟨#[85, 83, 48, 51, 55, 56, 51, 51, 49, 48, 48]⟩ : ByteArray) t127 t128 _ A1.out).mono ?_); rintro e w10 ⟨rfl, hb⟩; refine ⟨_, rfl, ?_⟩; have n0_ := Aside0.mk (below_step (by repeat (first | (with_reducible first | exact HB.out | apply below_alloc | apply pw_below_drewN | apply below_drew1) | exact HB.out)) hb); clear HB; have HB := n0_; clear n0_; (try clear hb); (try clear hb2); (try clear hk); (try clear hi)) | ((with_reducible refine gate_callee (f := 25) rfl ?_); refine goesL_ (some 10) rfl rfl Try.func25 (by kernel_rfl) rfl #[.string (⟨#[71, 66, 48, 48, 48, 50, 54, 51, 52, 57, 52]⟩ : ByteArray)] rfl (by (try simp only [List.map_toArray, List.map_cons, List.map_nil]); first | done | rfl | (simp only [List.length_drop, List.length_take]; rfl)) ?_; (with_reducible refine (ident_Make.calls (⟨#[71, 66, 48, 48, 48, 50, 54, 51, 52, 57, 52]⟩ : ByteArray) t129 t130 _ A2.out).mono ?_); rintro e w11 ⟨rfl, hb⟩; refine ⟨_, rfl, ?_⟩; have n0_ := Aside0.mk (below_step (by repeat (first | (with_reducible first | exact HB.out | apply below_alloc | apply pw_below_drewN | apply below_drew1) | exact HB.out)) hb); clear HB; have HB := n0_; clear n0_; (try clear hb); (try clear hb2); (try clear hk); (try clear hi)) | (go_at_call 28; (with_reducible refine (ident_Isin.calls k (⟨#[85, 83, 48, 51, 55, 56, 51, 51, 49, 48, 48, 54]⟩ : ByteArray) t131 _ A7.out).mono ?_); rintro e w12 ⟨rfl, hb⟩; have n0_ := Aside0.mk (below_step (by repeat (first | (with_reducible first | exact HB.out | apply below_alloc | apply pw_below_drewN | apply below_drew1) | exact HB.out)) hb); clear HB; have HB := n0_; clear n0_; (try clear hb); (try clear hb2); (try clear hk); (try clear hi)) | (go_at_call 28; (with_reducible refine (ident_Isin.calls k (⟨#[85, 83, 48, 51, 55, 56, 51, 51, 49, 48, 48, 53]⟩ : ByteArray) t132 _ A9.out).mono ?_); rintro e w13 ⟨rfl, hb⟩; have n0_ := Aside0.mk (below_step (by repeat (first | (with_reducible first | exact HB.out | apply below_alloc | apply pw_below_drewN | apply below_drew1) | exact HB.out)) hb); clear HB; have HB := n0_; clear n0_; (try clear hb); (try clear hb2); (try clear hk); (try clear hi)))
            go_ret
            exact ⟨by first | rfl | (simp [errW_none, errW_some] <;> rfl) | (simp [*, errW_none, errW_some] <;> rfl), by repeat (first | (with_reducible first | exact HB.out | apply below_alloc | apply pw_below_drewN | apply below_drew1) | exact HB.out)⟩
          · rw [if_neg c8] at H
            have c8b0 : (t131 == 11) = false := beq_eq_false_iff_ne.mpr c8
            have c8b1 : (t131 != 11) = true := bne_iff_ne.mpr c8
            obtain rfl := Option.some.inj H
            go_enter Try.func27, Try.ntmps27
            go_wp2_with (first | ((with_reducible refine gate_callee (f := 24) rfl ?_); refine goesL_ (some 6) rfl rfl Try.func24 (by kernel_rfl) rfl #[.string (⟨#[85, 83, 48, 51, 55, 56, 51, 51, 49, 48, 48]⟩ : ByteArray)] rfl (by (try simp only [List.map_toArray, List.map_cons, List.map_nil]); first | done | rfl | (simp only [List.length_drop, List.length_take]; rfl)) ?_; (with_reducible refine (ident_Digit.calls (⟨#[85, 83, 48, 51, 55, 56, 51, 51, 49, 48, 48]⟩ : ByteArray) t127 t128 _ A1.out).mono ?_); rintro e w14 ⟨rfl, hb⟩; refine ⟨_, rfl, ?_⟩; have n0_ := Aside0.mk (below_step (by repeat (first | (with_reducible first | exact HB.out | apply below_alloc | apply pw_below_drewN | apply below_drew1) | exact HB.out)) hb); clear HB; have HB := n0_; clear n0_; (try clear hb); (try clear hb2); (try clear hk); (try clear hi)) | ((with_reducible refine gate_callee (f := 25) rfl ?_); refine goesL_ (some 10) rfl rfl Try.func25 (by kernel_rfl) rfl #[.string (⟨#[71, 66, 48, 48, 48, 50, 54, 51, 52, 57, 52]⟩ : ByteArray)] rfl (by (try simp only [List.map_toArray, List.map_cons, List.map_nil]); first | done | rfl | (simp only [List.length_drop, List.length_take]; rfl)) ?_; (with_reducible refine (ident_Make.calls (⟨#[71, 66, 48, 48, 48, 50, 54, 51, 52, 57, 52]⟩ : ByteArray) t129 t130 _ A2.out).mono ?_); rintro e w15 ⟨rfl, hb⟩; refine ⟨_, rfl, ?_⟩; have n0_ := Aside0.mk (below_step (by repeat (first | (with_reducible first | exact HB.out | apply below_alloc | apply pw_below_drewN | apply below_drew1) | exact HB.out)) hb); clear HB; have HB := n0_; clear n0_; (try clear hb); (try clear hb2); (try clear hk); (try clear hi)) | (go_at_call 28; (with_reducible refine (ident_Isin.calls k (⟨#[85, 83, 48, 51, 55, 56, 51, 51, 49, 48, 48, 54]⟩ : ByteArray) t131 _ A7.out).mono ?_); rintro e w16 ⟨rfl, hb⟩; have n0_ := Aside0.mk (below_step (by repeat (first | (with_reducible first | exact HB.out | apply below_alloc | apply pw_below_drewN | apply below_drew1) | exact HB.out)) hb); clear HB; have HB := n0_; clear n0_; (try clear hb); (try clear hb2); (try clear hk); (try clear hi)))
            go_ret
            exact ⟨by first | rfl | (simp [errW_none, errW_some] <;> rfl) | (simp [*, errW_none, errW_some] <;> rfl), by repeat (first | (with_reducible first | exact HB.out | apply below_alloc | apply pw_below_drewN | apply below_drew1) | exact HB.out)⟩
        · rw [if_neg c6] at H
          have c6b0 : (t129.toList == ([71, 66, 48, 48, 48, 50, 54, 51, 52, 57, 52, 54] : List UInt8)) = false := beq_eq_false_iff_ne.mpr c6
          have c6b1 : (t129.toList != ([71, 66, 48, 48, 48, 50, 54, 51, 52, 57, 52, 54] : List UInt8)) = true := bne_iff_ne.mpr c6
          obtain rfl := Option.some.inj H
          go_enter Try.func27, Try.ntmps27
          go_wp2_with (first | ((with_reducible refine gate_callee (f := 24) rfl ?_); refine goesL_ (some 6) rfl rfl Try.func24 (by kernel_rfl) rfl #[.string (⟨#[85, 83, 48, 51, 55, 56, 51, 51, 49, 48, 48]⟩ : ByteArray)] rfl (by (try simp only [List.map_toArray, List.map_cons, List.map_nil]); first | done | rfl | (simp only [List.length_drop, List.length_take]; rfl)) ?_; (with_reducible refine (ident_Digit.calls (⟨#[85, 83, 48, 51, 55, 56, 51, 51, 49, 48, 48]⟩ : ByteArray) t127 t128 _ A1.out).mono ?_); rintro e w17 ⟨rfl, hb⟩; refine ⟨_, rfl, ?_⟩; have n0_ := Aside0.mk (below_step (by repeat (first | (with_reducible first | exact HB.out | apply below_alloc | apply pw_below_drewN | apply below_drew1) | exact HB.out)) hb); clear HB; have HB := n0_; clear n0_; (try clear hb); (try clear hb2); (try clear hk); (try clear hi)) | ((with_reducible refine gate_callee (f := 25) rfl ?_); refine goesL_ (some 10) rfl rfl Try.func25 (by kernel_rfl) rfl #[.string (⟨#[71, 66, 48, 48, 48, 50, 54, 51, 52, 57, 52]⟩ : ByteArray)] rfl (by (try simp only [List.map_toArray, List.map_cons, List.map_nil]); first | done | rfl | (simp only [List.length_drop, List.length_take]; rfl)) ?_; (with_reducible refine (ident_Make.calls (⟨#[71, 66, 48, 48, 48, 50, 54, 51, 52, 57, 52]⟩ : ByteArray) t129 t130 _ A2.out).mono ?_); rintro e w18 ⟨rfl, hb⟩; refine ⟨_, rfl, ?_⟩; have n0_ := Aside0.mk (below_step (by repeat (first | (with_reducible first | exact HB.out | apply below_alloc | apply pw_below_drewN | apply below_drew1) | exact HB.out)) hb); clear HB; have HB := n0_; clear n0_; (try clear hb); (try clear hb2); (try clear hk); (try clear hi)))
          go_ret
          exact ⟨by first | rfl | (simp [errW_none, errW_some] <;> rfl) | (simp [*, errW_none, errW_some] <;> rfl), by repeat (first | (with_reducible first | exact HB.out | apply below_alloc | apply pw_below_drewN | apply below_drew1) | exact HB.out)⟩
      · rw [if_neg c5] at H
        have c5b0 : (t130 == 0) = false := beq_eq_false_iff_ne.mpr c5
        have c5b1 : (t130 != 0) = true := bne_iff_ne.mpr c5
        obtain rfl := Option.some.inj H
        go_enter Try.func27, Try.ntmps27
        go_wp2_with (first | ((with_reducible refine gate_callee (f := 24) rfl ?_); refine goesL_ (some 6) rfl rfl Try.func24 (by kernel_rfl) rfl #[.string (⟨#[85, 83, 48, 51, 55, 56, 51, 51, 49, 48, 48]⟩ : ByteArray)] rfl (by (try simp only [List.map_toArray, List.map_cons, List.map_nil]); first | done | rfl | (simp only [List.length_drop, List.length_take]; rfl)) ?_; (with_reducible refine (ident_Digit.calls (⟨#[85, 83, 48, 51, 55, 56, 51, 51, 49, 48, 48]⟩ : ByteArray) t127 t128 _ A1.out).mono ?_); rintro e w19 ⟨rfl, hb⟩; refine ⟨_, rfl, ?_⟩; have n0_ := Aside0.mk (below_step (by repeat (first | (with_reducible first | exact HB.out | apply below_alloc | apply pw_below_drewN | apply below_drew1) | exact HB.out)) hb); clear HB; have HB := n0_; clear n0_; (try clear hb); (try clear hb2); (try clear hk); (try clear hi)) | ((with_reducible refine gate_callee (f := 25) rfl ?_); refine goesL_ (some 10) rfl rfl Try.func25 (by kernel_rfl) rfl #[.string (⟨#[71, 66, 48, 48, 48, 50, 54, 51, 52, 57, 52]⟩ : ByteArray)] rfl (by (try simp only [List.map_toArray, List.map_cons, List.map_nil]); first | done | rfl | (simp only [List.length_drop, List.length_take]; rfl)) ?_; (with_reducible refine (ident_Make.calls (⟨#[71, 66, 48, 48, 48, 50, 54, 51, 52, 57, 52]⟩ : ByteArray) t129 t130 _ A2.out).mono ?_); rintro e w20 ⟨rfl, hb⟩; refine ⟨_, rfl, ?_⟩; have n0_ := Aside0.mk (below_step (by repeat (first | (with_reducible first | exact HB.out | apply below_alloc | apply pw_below_drewN | apply below_drew1) | exact HB.out)) hb); clear HB; have HB := n0_; clear n0_; (try clear hb); (try clear hb2); (try clear hk); (try clear hi)))
        go_ret
        exact ⟨by first | rfl | (simp [errW_none, errW_some] <;> rfl) | (simp [*, errW_none, errW_some] <;> rfl), by repeat (first | (with_reducible first | exact HB.out | apply below_alloc | apply pw_below_drewN | apply below_drew1) | exact HB.out)⟩
    · rw [if_neg c4] at H
      have c4b0 : (t127 == 53) = false := beq_eq_false_iff_ne.mpr c4
      have c4b1 : (t127 != 53) = true := bne_iff_ne.mpr c4
      obtain rfl := Option.some.inj H
      go_enter Try.func27, Try.ntmps27
      go_wp2_with (first | ((with_reducible refine gate_callee (f := 24) rfl ?_); refine goesL_ (some 6) rfl rfl Try.func24 (by kernel_rfl) rfl #[.string (⟨#[85, 83, 48, 51, 55, 56, 51, 51, 49, 48, 48]⟩ : ByteArray)] rfl (by (try simp only [List.map_toArray, List.map_cons, List.map_nil]); first | done | rfl | (simp only [List.length_drop, List.length_take]; rfl)) ?_; (with_reducible refine (ident_Digit.calls (⟨#[85, 83, 48, 51, 55, 56, 51, 51, 49, 48, 48]⟩ : ByteArray) t127 t128 _ A1.out).mono ?_); rintro e w21 ⟨rfl, hb⟩; refine ⟨_, rfl, ?_⟩; have n0_ := Aside0.mk (below_step (by repeat (first | (with_reducible first | exact HB.out | apply below_alloc | apply pw_below_drewN | apply below_drew1) | exact HB.out)) hb); clear HB; have HB := n0_; clear n0_; (try clear hb); (try clear hb2); (try clear hk); (try clear hi)) | ((with_reducible refine gate_callee (f := 25) rfl ?_); refine goesL_ (some 10) rfl rfl Try.func25 (by kernel_rfl) rfl #[.string (⟨#[71, 66, 48, 48, 48, 50, 54, 51, 52, 57, 52]⟩ : ByteArray)] rfl (by (try simp only [List.map_toArray, List.map_cons, List.map_nil]); first | done | rfl | (simp only [List.length_drop, List.length_take]; rfl)) ?_; (with_reducible refine (ident_Make.calls (⟨#[71, 66, 48, 48, 48, 50, 54, 51, 52, 57, 52]⟩ : ByteArray) t129 t130 _ A2.out).mono ?_); rintro e w22 ⟨rfl, hb⟩; refine ⟨_, rfl, ?_⟩; have n0_ := Aside0.mk (below_step (by repeat (first | (with_reducible first | exact HB.out | apply below_alloc | apply pw_below_drewN | apply below_drew1) | exact HB.out)) hb); clear HB; have HB := n0_; clear n0_; (try clear hb); (try clear hb2); (try clear hk); (try clear hi)))
      go_ret
      exact ⟨by first | rfl | (simp [errW_none, errW_some] <;> rfl) | (simp [*, errW_none, errW_some] <;> rfl), by repeat (first | (with_reducible first | exact HB.out | apply below_alloc | apply pw_below_drewN | apply below_drew1) | exact HB.out)⟩
  · rw [if_neg c3] at H
    have c3b0 : (t128 == 0) = false := beq_eq_false_iff_ne.mpr c3
    have c3b1 : (t128 != 0) = true := bne_iff_ne.mpr c3
    obtain rfl := Option.some.inj H
    go_enter Try.func27, Try.ntmps27
    go_wp2_with (first | ((with_reducible refine gate_callee (f := 24) rfl ?_); refine goesL_ (some 6) rfl rfl Try.func24 (by kernel_rfl) rfl #[.string (⟨#[85, 83, 48, 51, 55, 56, 51, 51, 49, 48, 48]⟩ : ByteArray)] rfl (by (try simp only [List.map_toArray, List.map_cons, List.map_nil]); first | done | rfl | (simp only [List.length_drop, List.length_take]; rfl)) ?_; (with_reducible refine (ident_Digit.calls (⟨#[85, 83, 48, 51, 55, 56, 51, 51, 49, 48, 48]⟩ : ByteArray) t127 t128 _ A1.out).mono ?_); rintro e w23 ⟨rfl, hb⟩; refine ⟨_, rfl, ?_⟩; have n0_ := Aside0.mk (below_step (by repeat (first | (with_reducible first | exact HB.out | apply below_alloc | apply pw_below_drewN | apply below_drew1) | exact HB.out)) hb); clear HB; have HB := n0_; clear n0_; (try clear hb); (try clear hb2); (try clear hk); (try clear hi)) | ((with_reducible refine gate_callee (f := 25) rfl ?_); refine goesL_ (some 10) rfl rfl Try.func25 (by kernel_rfl) rfl #[.string (⟨#[71, 66, 48, 48, 48, 50, 54, 51, 52, 57, 52]⟩ : ByteArray)] rfl (by (try simp only [List.map_toArray, List.map_cons, List.map_nil]); first | done | rfl | (simp only [List.length_drop, List.length_take]; rfl)) ?_; (with_reducible refine (ident_Make.calls (⟨#[71, 66, 48, 48, 48, 50, 54, 51, 52, 57, 52]⟩ : ByteArray) t129 t130 _ A2.out).mono ?_); rintro e w24 ⟨rfl, hb⟩; refine ⟨_, rfl, ?_⟩; have n0_ := Aside0.mk (below_step (by repeat (first | (with_reducible first | exact HB.out | apply below_alloc | apply pw_below_drewN | apply below_drew1) | exact HB.out)) hb); clear HB; have HB := n0_; clear n0_; (try clear hb); (try clear hb2); (try clear hk); (try clear hi)))
    go_ret
    exact ⟨by first | rfl | (simp [errW_none, errW_some] <;> rfl) | (simp [*, errW_none, errW_some] <;> rfl), by repeat (first | (with_reducible first | exact HB.out | apply below_alloc | apply pw_below_drewN | apply below_drew1) | exact HB.out)⟩

end Go.Proofs.Ytebdjhgboeadgaa.Id
