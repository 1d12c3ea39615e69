-- Written by a program of ours (pf.sh), for this seat.
import Derived.Test.YthhmfpfmhklapaaId0
import Derived.Test.YthhmfpfmhklapaaId9
import Derived.Test.YthhmfpfmhklapaaId10
import Derived.Test.YthhmfpfmhklapaaId11
import Derived.Test.YthhmfpfmhklapaaId19
import Derived.Test.YthhmfpfmhklapaaId21
import Derived.Test.YthhmfpfmhklapaaId24
namespace Go.Proofs.Ythhmfpfmhklapaa.Id
open Go.RowKit Go.Proofs.YthhmfpfmhklapaaW.PrintWords Go.Proofs.YthhmfpfmhklapaaW.PrintLast Go.Proofs.YthhmfpfmhklapaaW.PrintMore
attribute [local go_sem] max2_int min2_int max_two min_two max_three min_three max_four min_four   -- for this text's walks alone
set_option linter.unusedVariables false
set_option linter.unusedSimpArgs false

/-! ### clevislaw02_IdentNames: function 8 -/
mutual
def clevislaw02_IdentNames.j0 : Nat → Int → Int → Int → ByteArray → Int → Int → Bool → Option (Bool)
  | 0, _, _, _, _, _, _, _ => none
  | k + 1, x1, x5, x6, x7, x8, x9, x35 => if x35 = true then (some false) else (if x9 < 0 then (if x6 = 5 then (if x5 = 0 then (if x9 ≥ 0 then (if x6 = 0 then (clevislaw02_IdentNames.j1 k x1 x7 x8 (x5 != x9)) else (clevislaw02_IdentNames.j1 k x1 x7 x8 true)) else (clevislaw02_IdentNames.j1 k x1 x7 x8 false)) else (clevislaw02_IdentNames.j1 k x1 x7 x8 true)) else (clevislaw02_IdentNames.j1 k x1 x7 x8 true)) else (if x9 ≥ 0 then (if x6 = 0 then (clevislaw02_IdentNames.j1 k x1 x7 x8 (x5 != x9)) else (clevislaw02_IdentNames.j1 k x1 x7 x8 true)) else (clevislaw02_IdentNames.j1 k x1 x7 x8 false)))
def clevislaw02_IdentNames.j1 : Nat → Int → ByteArray → Int → Bool → Option (Bool)
  | 0, _, _, _, _ => none
  | k + 1, x1, x7, x8, x58 => if x58 = true then (some false) else (if x1 < 0 then (if x8 = 5 then (some (x7.toList == ([] : List UInt8))) else (some false)) else (if x1 > 2 then (if x8 = 5 then (some (x7.toList == ([] : List UInt8))) else (some false)) else (if x8 = 0 then ((clevisref02_Node.f x7).bind fun t139 => (some (t139 == x1))) else (some false))))
end
def clevislaw02_IdentNames.f (k : Nat) (a0 : ByteArray) (a1 : Int) : Option (Bool) := if 0 ≤ (mn (a0.size : Int) 20) then (if (mn (a0.size : Int) 20) ≤ (a0.size : Int) then ((ident_Node.f (a0.extract 0 ((mn (a0.size : Int) 20) : Int).toNat)).bind fun bt131 => ((ident_NodeName.f a1).bind fun bt133 => ((clevisref02_Node.f (a0.extract 0 ((mn (a0.size : Int) 20) : Int).toNat)).bind fun t135 => ((clevislaw02_known.f k).bind fun t136 => (if t136 = true then ((ident_Member.f k (a0.extract 0 ((mn (a0.size : Int) 20) : Int).toNat)).bind fun t137 => ((clevisref02_Member.f k (a0.extract 0 ((mn (a0.size : Int) 20) : Int).toNat)).bind fun t138 => (clevislaw02_IdentNames.j0 k a1 bt131.1 bt131.2 bt133.1 bt133.2 t135 (t137 != t138)))) else (clevislaw02_IdentNames.j0 k a1 bt131.1 bt131.2 bt133.1 bt133.2 t135 true)))))) else (none)) else (none)
theorem clevislaw02_IdentNames.mono_l : ∀ k, (∀ y0 y1 y2 y3 y4 y5 y6, LeO (clevislaw02_IdentNames.j0 k y0 y1 y2 y3 y4 y5 y6) (clevislaw02_IdentNames.j0 (k + 1) y0 y1 y2 y3 y4 y5 y6)) ∧ (∀ y0 y1 y2 y3, LeO (clevislaw02_IdentNames.j1 k y0 y1 y2 y3) (clevislaw02_IdentNames.j1 (k + 1) y0 y1 y2 y3))
  | 0 => ⟨fun _ _ _ _ _ _ _ r h => by simp [clevislaw02_IdentNames.j0] at h, fun _ _ _ _ r h => by simp [clevislaw02_IdentNames.j1] at h⟩
  | k + 1 => by
    obtain ⟨ih0, ih1⟩ := clevislaw02_IdentNames.mono_l k
    refine ⟨?_, ?_⟩
    · intro y0 y1 y2 y3 y4 y5 y6
      unfold clevislaw02_IdentNames.j0
      repeat' first
      | (with_reducible exact ih0 _ _ _ _ _ _ _)
      | (with_reducible exact ih1 _ _ _ _)
      | (with_reducible exact clevislaw02_known.mono _)
      | (with_reducible exact clevisref02_Member.mono _ _)
      | (with_reducible exact ident_Member.mono _ _)
      | (with_reducible exact LeO.refl _)
      | (with_reducible exact LeO.none _)
      | (with_reducible refine LeO.ite ?_ ?_)
      | (with_reducible refine LeO.bind ?_ (fun _ => ?_))
      | exact ih0 _ _ _ _ _ _ _
      | exact ih1 _ _ _ _
      | exact clevislaw02_known.mono _
      | exact clevisref02_Member.mono _ _
      | exact ident_Member.mono _ _
      | exact LeO.none _
      | refine LeO.ite ?_ ?_
      | refine LeO.bind ?_ (fun _ => ?_)
    · intro y0 y1 y2 y3
      unfold clevislaw02_IdentNames.j1
      repeat' first
      | (with_reducible exact ih0 _ _ _ _ _ _ _)
      | (with_reducible exact ih1 _ _ _ _)
      | (with_reducible exact clevislaw02_known.mono _)
      | (with_reducible exact clevisref02_Member.mono _ _)
      | (with_reducible exact ident_Member.mono _ _)
      | (with_reducible exact LeO.refl _)
      | (with_reducible exact LeO.none _)
      | (with_reducible refine LeO.ite ?_ ?_)
      | (with_reducible refine LeO.bind ?_ (fun _ => ?_))
      | exact ih0 _ _ _ _ _ _ _
      | exact ih1 _ _ _ _
      | exact clevislaw02_known.mono _
      | exact clevisref02_Member.mono _ _
      | exact ident_Member.mono _ _
      | exact LeO.none _
      | refine LeO.ite ?_ ?_
      | refine LeO.bind ?_ (fun _ => ?_)
theorem clevislaw02_IdentNames.mono : ∀ a0 a1 k, LeO (clevislaw02_IdentNames.f k a0 a1) (clevislaw02_IdentNames.f (k + 1) a0 a1) := by
  intro a0 a1 k
  obtain ⟨ih0, ih1⟩ := clevislaw02_IdentNames.mono_l k
  unfold clevislaw02_IdentNames.f
  repeat' first
      | (with_reducible exact ih0 _ _ _ _ _ _ _)
      | (with_reducible exact ih1 _ _ _ _)
      | (with_reducible exact clevislaw02_known.mono _)
      | (with_reducible exact clevisref02_Member.mono _ _)
      | (with_reducible exact ident_Member.mono _ _)
      | (with_reducible exact LeO.refl _)
      | (with_reducible exact LeO.none _)
      | (with_reducible refine LeO.ite ?_ ?_)
      | (with_reducible refine LeO.bind ?_ (fun _ => ?_))
      | exact ih0 _ _ _ _ _ _ _
      | exact ih1 _ _ _ _
      | exact clevislaw02_known.mono _
      | exact clevisref02_Member.mono _ _
      | exact ident_Member.mono _ _
      | exact LeO.none _
      | refine LeO.ite ?_ ?_
      | refine LeO.bind ?_ (fun _ => ?_)
set_option maxHeartbeats 8000000 in
set_option maxRecDepth 100000 in
theorem clevislaw02_IdentNames.calls (k : Nat) (a0 : ByteArray) (a1 : Int) (r : Bool) (w : World) (h : clevislaw02_IdentNames.f k a0 a1 = some r) :
    Calls Try.prog 8 #[.string a0, .int .i64 a1] w fun e w' => e = .returned (.bool r) ∧ Below w.heap.size w w' := by
  have HB := Aside0.mk (Below.refl w.heap.size w)
  have H : (if 0 ≤ (mn (a0.size : Int) 20) then (if (mn (a0.size : Int) 20) ≤ (a0.size : Int) then ((ident_Node.f (a0.extract 0 ((mn (a0.size : Int) 20) : Int).toNat)).bind fun bt131 => ((ident_NodeName.f a1).bind fun bt133 => ((clevisref02_Node.f (a0.extract 0 ((mn (a0.size : Int) 20) : Int).toNat)).bind fun t135 => ((clevislaw02_known.f k).bind fun t136 => (if t136 = true then ((ident_Member.f k (a0.extract 0 ((mn (a0.size : Int) 20) : Int).toNat)).bind fun t137 => ((clevisref02_Member.f k (a0.extract 0 ((mn (a0.size : Int) 20) : Int).toNat)).bind fun t138 => (clevislaw02_IdentNames.j0 k a1 bt131.1 bt131.2 bt133.1 bt133.2 t135 (t137 != t138)))) else (clevislaw02_IdentNames.j0 k a1 bt131.1 bt131.2 bt133.1 bt133.2 t135 true)))))) else (none)) else (none)) = some r := h
  clear h
  obtain ⟨ji3, hji3⟩ : ∃ j_ : Int, (mn (a0.size : Int) 20) = j_ := ⟨_, rfl⟩
  replace H : (if 0 ≤ (ji3) then (if (ji3) ≤ (a0.size : Int) then ((ident_Node.f (a0.extract 0 ((ji3) : Int).toNat)).bind fun bt131 => ((ident_NodeName.f a1).bind fun bt133 => ((clevisref02_Node.f (a0.extract 0 ((ji3) : Int).toNat)).bind fun t135 => ((clevislaw02_known.f k).bind fun t136 => (if t136 = true then ((ident_Member.f k (a0.extract 0 ((ji3) : Int).toNat)).bind fun t137 => ((clevisref02_Member.f k (a0.extract 0 ((ji3) : Int).toNat)).bind fun t138 => (clevislaw02_IdentNames.j0 k a1 bt131.1 bt131.2 bt133.1 bt133.2 t135 (t137 != t138)))) else (clevislaw02_IdentNames.j0 k a1 bt131.1 bt131.2 bt133.1 bt133.2 t135 true)))))) else (none)) else (none)) = some r := by first | (rw [hji3] at H; exact H) | (simp only [hji3] at H ⊢; exact H)
  (try (have hji3h : ji3 ≤ 20 := by (rw [← hji3]; unfold mn; (repeat' split) <;> omega)))
  (try (have hji3g : ji3 ≤ 64 := by omega))
  (try (have hji3l : 0 ≤ ji3 := by (rw [← hji3]; unfold mn; (repeat' split) <;> omega)))
  (try (have hji3m : 0 ≤ ji3 := by omega))
  have hji3_ : (if 20 < (a0.size : Int) then 20 else (a0.size : Int)) = ji3 := hji3
  by_cases c4 : 0 ≤ (ji3)
  · rw [if_pos c4] at H
    have c4b0 := eq_true c4
    have c4b1 : decide (0 ≤ (ji3)) = true := decide_eq_true c4
    clear c4
    by_cases c5 : (ji3) ≤ (a0.size : Int)
    · rw [if_pos c5] at H
      have c5b0 := eq_true c5
      have c5b1 : decide ((ji3) ≤ (a0.size : Int)) = true := decide_eq_true c5
      clear c5
      replace H := Option.bind_eq_some_iff.mp H
      obtain ⟨⟨t131, t132⟩, A60, H⟩ := H
      replace H : ((ident_NodeName.f a1).bind fun bt133 => ((clevisref02_Node.f (a0.extract 0 ((ji3) : Int).toNat)).bind fun t135 => ((clevislaw02_known.f k).bind fun t136 => (if t136 = true then ((ident_Member.f k (a0.extract 0 ((ji3) : Int).toNat)).bind fun t137 => ((clevisref02_Member.f k (a0.extract 0 ((ji3) : Int).toNat)).bind fun t138 => (clevislaw02_IdentNames.j0 k a1 t131 t132 bt133.1 bt133.2 t135 (t137 != t138)))) else (clevislaw02_IdentNames.j0 k a1 t131 t132 bt133.1 bt133.2 t135 true))))) = some r := H
      have A6 := Aside0.mk A60
      clear A60
      replace H := Option.bind_eq_some_iff.mp H
      obtain ⟨⟨t133, t134⟩, A70, H⟩ := H
      replace H : ((clevisref02_Node.f (a0.extract 0 ((ji3) : Int).toNat)).bind fun t135 => ((clevislaw02_known.f k).bind fun t136 => (if t136 = true then ((ident_Member.f k (a0.extract 0 ((ji3) : Int).toNat)).bind fun t137 => ((clevisref02_Member.f k (a0.extract 0 ((ji3) : Int).toNat)).bind fun t138 => (clevislaw02_IdentNames.j0 k a1 t131 t132 t133 t134 t135 (t137 != t138)))) else (clevislaw02_IdentNames.j0 k a1 t131 t132 t133 t134 t135 true)))) = some r := H
      have A7 := Aside0.mk A70
      clear A70
      replace H := Option.bind_eq_some_iff.mp H
      obtain ⟨t135, A80, H⟩ := H
      replace H : ((clevislaw02_known.f k).bind fun t136 => (if t136 = true then ((ident_Member.f k (a0.extract 0 ((ji3) : Int).toNat)).bind fun t137 => ((clevisref02_Member.f k (a0.extract 0 ((ji3) : Int).toNat)).bind fun t138 => (clevislaw02_IdentNames.j0 k a1 t131 t132 t133 t134 t135 (t137 != t138)))) else (clevislaw02_IdentNames.j0 k a1 t131 t132 t133 t134 t135 true))) = some r := H
      have A8 := Aside0.mk A80
      clear A80
      have HC9 := Aside0.mk H
      clear H
      go_enter Try.func8, Try.ntmps8
      go_upto_region 5 with (first | ((with_reducible refine gate_callee (f := 29) rfl ?_); refine goesL_ (some 17) rfl rfl Try.func29 (by kernel_rfl) rfl #[.string (a0.extract 0 ((ji3) : Int).toNat)] rfl (by (try simp only [List.map_toArray, List.map_cons, List.map_nil]); first | done | (simp only [hji3]; rfl) | rfl | (simp only [List.length_drop, List.length_take]; rfl)) ?_; (with_reducible refine (ident_Node.calls (a0.extract 0 ((ji3) : Int).toNat) t131 t132 _ A6.out).mono ?_); rintro e w10 ⟨rfl, hb⟩; refine ⟨_, rfl, ?_⟩; have n0_ := Aside0.mk (below_step (by repeat (first | (with_reducible first | exact HB.out | apply below_alloc | apply pw_below_drewN | apply below_drew1) | exact HB.out)) hb); clear HB; have HB := n0_; clear n0_; (try clear hb); (try clear hb2); (try clear hk); (try clear hi)) | ((with_reducible refine gate_callee (f := 30) rfl ?_); refine goesL_ (some 22) rfl rfl Try.func30 (by kernel_rfl) rfl #[.int .i64 a1] rfl (by (try simp only [List.map_toArray, List.map_cons, List.map_nil]); first | done | rfl | (simp only [List.length_drop, List.length_take]; rfl)) ?_; (with_reducible refine (ident_NodeName.calls a1 t133 t134 _ A7.out).mono ?_); rintro e w' ⟨rfl, ⟨nd, rfl⟩⟩; refine ⟨_, rfl, ?_⟩) | ((with_reducible refine gate_callee (f := 31) rfl ?_); refine goesL_ (some 26) rfl rfl Try.func31 (by kernel_rfl) rfl #[.string (a0.extract 0 ((ji3) : Int).toNat)] rfl (by (try simp only [List.map_toArray, List.map_cons, List.map_nil]); first | done | (simp only [hji3]; rfl) | rfl | (simp only [List.length_drop, List.length_take]; rfl)) ?_; (with_reducible refine (clevisref02_Node.calls (a0.extract 0 ((ji3) : Int).toNat) t135 _ A8.out).mono ?_); rintro e w' ⟨rfl, ⟨nd, rfl⟩⟩; refine ⟨_, rfl, ?_⟩))
      (try simp only [Act.put, List.setIfInBounds_toArray, List.set_cons_zero, List.set_cons_succ])
      go_cut [35] (fun v35 wc => ∃ (kq : Nat) (x35_8 : Bool), v35 = .bool x35_8 ∧ Aside0 (clevislaw02_IdentNames.j0 kq a1 t131 t132 t133 t134 t135 x35_8 = some r) ∧ Aside0 (kq ≤ k) ∧ Aside0 (Below w.heap.size w wc))
      case first =>
        have H := HC9.out
        clear HC9
        replace H := Option.bind_eq_some_iff.mp H
        obtain ⟨t136, A110, H⟩ := H
        replace H : (if t136 = true then ((ident_Member.f k (a0.extract 0 ((ji3) : Int).toNat)).bind fun t137 => ((clevisref02_Member.f k (a0.extract 0 ((ji3) : Int).toNat)).bind fun t138 => (clevislaw02_IdentNames.j0 k a1 t131 t132 t133 t134 t135 (t137 != t138)))) else (clevislaw02_IdentNames.j0 k a1 t131 t132 t133 t134 t135 true)) = some r := H
        have A11 := Aside0.mk A110
        clear A110
        by_cases c12 : t136 = true
        · subst c12
          have H1 : ((ident_Member.f k (a0.extract 0 ((ji3) : Int).toNat)).bind fun t137 => ((clevisref02_Member.f k (a0.extract 0 ((ji3) : Int).toNat)).bind fun t138 => (clevislaw02_IdentNames.j0 k a1 t131 t132 t133 t134 t135 (t137 != t138)))) = some r := by rw [if_pos rfl] at H; exact H
          clear H
          have H := H1
          clear H1
          replace H := Option.bind_eq_some_iff.mp H
          obtain ⟨t137, A130, H⟩ := H
          replace H : ((clevisref02_Member.f k (a0.extract 0 ((ji3) : Int).toNat)).bind fun t138 => (clevislaw02_IdentNames.j0 k a1 t131 t132 t133 t134 t135 (t137 != t138))) = some r := H
          have A13 := Aside0.mk A130
          clear A130
          replace H := Option.bind_eq_some_iff.mp H
          obtain ⟨t138, A140, H⟩ := H
          replace H : (clevislaw02_IdentNames.j0 k a1 t131 t132 t133 t134 t135 (t137 != t138)) = some r := H
          have A14 := Aside0.mk A140
          clear A140
          have H' := Aside0.mk H
          clear H
          go_wp2_with (first | ((with_reducible refine gate_callee (f := 32) rfl ?_); refine goesL_ (some 27) rfl rfl Try.func32 (by kernel_rfl) rfl #[] rfl (by (try simp only [List.map_toArray, List.map_cons, List.map_nil]); first | done | rfl | (simp only [List.length_drop, List.length_take]; rfl)) ?_; (with_reducible refine (clevislaw02_known.calls k  true _ A11.out).mono ?_); rintro e w15 ⟨rfl, hb⟩; refine ⟨_, rfl, ?_⟩; have n0_ := Aside0.mk (below_step (by repeat (first | (with_reducible first | exact HB.out | apply below_alloc | apply pw_below_drewN | apply below_drew1) | exact HB.out)) hb); clear HB; have HB := n0_; clear n0_; (try clear hb); (try clear hb2); (try clear hk); (try clear hi)) | (go_at_call 33; (with_reducible refine (ident_Member.calls k (a0.extract 0 ((ji3) : Int).toNat) t137 _ A13.out).mono ?_); rintro e w16 ⟨rfl, hb⟩; have n0_ := Aside0.mk (below_step (by repeat (first | (with_reducible first | exact HB.out | apply below_alloc | apply pw_below_drewN | apply below_drew1) | exact HB.out)) hb); clear HB; have HB := n0_; clear n0_; (try clear hb); (try clear hb2); (try clear hk); (try clear hi)) | (go_at_call 34; (with_reducible refine (clevisref02_Member.calls k (a0.extract 0 ((ji3) : Int).toNat) t138 _ A14.out).mono ?_); rintro e w' ⟨rfl, ⟨nd, rfl⟩⟩))
          go_meet
          case rel => exact ⟨_, ((t137 != t138)), (by first | rfl | (simp; done) | (simp [*]; done)), H', ⟨by first | omega | exact Nat.le_refl _⟩, ⟨by repeat (first | (with_reducible first | exact HB.out | apply below_alloc | apply pw_below_drewN | apply below_drew1) | exact HB.out)⟩⟩
        · replace c12 := Bool.eq_false_iff.mpr c12
          subst c12
          have H1 : (clevislaw02_IdentNames.j0 k a1 t131 t132 t133 t134 t135 true) = some r := by rw [if_neg (show ¬ (false = true) by decide)] at H; exact H
          clear H
          have H := H1
          clear H1
          have H' := Aside0.mk H
          clear H
          go_wp2_with (first | ((with_reducible refine gate_callee (f := 32) rfl ?_); refine goesL_ (some 27) rfl rfl Try.func32 (by kernel_rfl) rfl #[] rfl (by (try simp only [List.map_toArray, List.map_cons, List.map_nil]); first | done | rfl | (simp only [List.length_drop, List.length_take]; rfl)) ?_; (with_reducible refine (clevislaw02_known.calls k  false _ A11.out).mono ?_); rintro e w17 ⟨rfl, hb⟩; refine ⟨_, rfl, ?_⟩; have n0_ := Aside0.mk (below_step (by repeat (first | (with_reducible first | exact HB.out | apply below_alloc | apply pw_below_drewN | apply below_drew1) | exact HB.out)) hb); clear HB; have HB := n0_; clear n0_; (try clear hb); (try clear hb2); (try clear hk); (try clear hi)))
          go_meet
          case rel => exact ⟨_, (true), (by first | rfl | (simp; done) | (simp [*]; done)), H', ⟨by first | omega | exact Nat.le_refl _⟩, ⟨by repeat (first | (with_reducible first | exact HB.out | apply below_alloc | apply pw_below_drewN | apply below_drew1) | exact HB.out)⟩⟩
      case rest =>
        clear HC9
        try clear c1
        try clear c2
        try clear p2
        try clear c3
        try clear c4
        try clear c4b0
        try clear c4b1
        try clear c5
        try clear c5b0
        try clear c5b1
        try clear c8
        try clear c12
        obtain ⟨kq, x35_8, rfl, HA, HJ8, HB⟩ := hcut
        cases kq with
        | zero => exact absurd HA.out (by simp [clevislaw02_IdentNames.j0])
        | succ kj8 =>
          have H := HA.out
          clear HA
          simp only [clevislaw02_IdentNames.j0] at H
          by_cases c18 : x35_8 = true
          · subst c18
            have H1 : (some false) = some r := by rw [if_pos rfl] at H; exact H
            clear H
            have H := H1
            clear H1
            obtain rfl := Option.some.inj H
            go_wp2
            go_ret
            exact ⟨by first | rfl | (simp [errW_none, errW_some] <;> rfl) | (simp only [← hji3]; first | rfl | (simp [errW_none, errW_some] <;> rfl)) | (simp [*, errW_none, errW_some] <;> rfl), by repeat (first | (with_reducible first | exact HB.out | apply below_alloc | apply pw_below_drewN | apply below_drew1) | exact HB.out)⟩
          · replace c18 := Bool.eq_false_iff.mpr c18
            subst c18
            have H1 : (if t135 < 0 then (if t132 = 5 then (if t131 = 0 then (if t135 ≥ 0 then (if t132 = 0 then (clevislaw02_IdentNames.j1 kj8 a1 t133 t134 (t131 != t135)) else (clevislaw02_IdentNames.j1 kj8 a1 t133 t134 true)) else (clevislaw02_IdentNames.j1 kj8 a1 t133 t134 false)) else (clevislaw02_IdentNames.j1 kj8 a1 t133 t134 true)) else (clevislaw02_IdentNames.j1 kj8 a1 t133 t134 true)) else (if t135 ≥ 0 then (if t132 = 0 then (clevislaw02_IdentNames.j1 kj8 a1 t133 t134 (t131 != t135)) else (clevislaw02_IdentNames.j1 kj8 a1 t133 t134 true)) else (clevislaw02_IdentNames.j1 kj8 a1 t133 t134 false))) = some r := by rw [if_neg (show ¬ (false = true) by decide)] at H; exact H
            clear H
            have H := H1
            clear H1
            have HC19 := Aside0.mk H
            clear H
            go_upto_region 7 with (fail)
            go_cut [58] (fun v58 wc => ∃ (kq : Nat) (x58_18 : Bool), v58 = .bool x58_18 ∧ Aside0 (clevislaw02_IdentNames.j1 kq a1 t133 t134 x58_18 = some r) ∧ Aside0 (kq ≤ kj8) ∧ Aside0 (Below w.heap.size w wc))
            case first =>
              have H := HC19.out
              clear HC19
              by_cases c20 : t135 < 0
              · rw [if_pos c20] at H
                have c20b0 : decide (t135 < 0) = true := decide_eq_true c20
                clear c20
                (first | rw [c20b0] | (simp only [i64_w, i32_w]; rw [c20b0]) | skip)
                by_cases c21 : t132 = 5
                · rw [if_pos c21] at H
                  have c21b0 : (t132 == 5) = true := beq_iff_eq.mpr c21
                  have c21b1 : (t132 != 5) = false := bne_eq_false_iff_eq.mpr c21
                  clear c21
                  by_cases c22 : t131 = 0
                  · rw [if_pos c22] at H
                    have c22b0 : (t131 == 0) = true := beq_iff_eq.mpr c22
                    have c22b1 : (t131 != 0) = false := bne_eq_false_iff_eq.mpr c22
                    clear c22
                    by_cases c23 : t135 ≥ 0
                    · rw [if_pos c23] at H
                      have c23b0 : decide (0 ≤ t135) = true := decide_eq_true c23
                      clear c23
                      by_cases c24 : t132 = 0
                      · rw [if_pos c24] at H
                        have c24b0 : (t132 == 0) = true := beq_iff_eq.mpr c24
                        have c24b1 : (t132 != 0) = false := bne_eq_false_iff_eq.mpr c24
                        clear c24
                        have H' := Aside0.mk H
                        clear H
                        go_wp2
                        go_meet
                        case rel => exact ⟨_, ((t131 != t135)), (by first | rfl | (simp; done) | (simp [*]; done)), H', ⟨by have := HJ8.out; first | omega | exact Nat.le_refl _⟩, ⟨by repeat (first | (with_reducible first | exact HB.out | apply below_alloc | apply pw_below_drewN | apply below_drew1) | exact HB.out)⟩⟩
                      · rw [if_neg c24] at H
                        have c24b0 : (t132 == 0) = false := beq_eq_false_iff_ne.mpr c24
                        have c24b1 : (t132 != 0) = true := bne_iff_ne.mpr c24
                        have H' := Aside0.mk H
                        clear H
                        go_wp2
                        go_meet
                        case rel => exact ⟨_, (true), (by first | rfl | (simp; done) | (simp [*]; done)), H', ⟨by have := HJ8.out; first | omega | exact Nat.le_refl _⟩, ⟨by repeat (first | (with_reducible first | exact HB.out | apply below_alloc | apply pw_below_drewN | apply below_drew1) | exact HB.out)⟩⟩
                    · rw [if_neg c23] at H
                      have c23b0 : decide (0 ≤ t135) = false := decide_eq_false c23
                      clear c23
                      have H' := Aside0.mk H
                      clear H
                      go_wp2
                      go_meet
                      case rel => exact ⟨_, (false), (by first | rfl | (simp; done) | (simp [*]; done)), H', ⟨by have := HJ8.out; first | omega | exact Nat.le_refl _⟩, ⟨by repeat (first | (with_reducible first | exact HB.out | apply below_alloc | apply pw_below_drewN | apply below_drew1) | exact HB.out)⟩⟩
                  · rw [if_neg c22] at H
                    have c22b0 : (t131 == 0) = false := beq_eq_false_iff_ne.mpr c22
                    have c22b1 : (t131 != 0) = true := bne_iff_ne.mpr c22
                    have H' := Aside0.mk H
                    clear H
                    go_wp2
                    go_meet
                    case rel => exact ⟨_, (true), (by first | rfl | (simp; done) | (simp [*]; done)), H', ⟨by have := HJ8.out; first | omega | exact Nat.le_refl _⟩, ⟨by repeat (first | (with_reducible first | exact HB.out | apply below_alloc | apply pw_below_drewN | apply below_drew1) | exact HB.out)⟩⟩
                · rw [if_neg c21] at H
                  have c21b0 : (t132 == 5) = false := beq_eq_false_iff_ne.mpr c21
                  have c21b1 : (t132 != 5) = true := bne_iff_ne.mpr c21
                  have H' := Aside0.mk H
                  clear H
                  go_wp2
                  go_meet
                  case rel => exact ⟨_, (true), (by first | rfl | (simp; done) | (simp [*]; done)), H', ⟨by have := HJ8.out; first | omega | exact Nat.le_refl _⟩, ⟨by repeat (first | (with_reducible first | exact HB.out | apply below_alloc | apply pw_below_drewN | apply below_drew1) | exact HB.out)⟩⟩
              · rw [if_neg c20] at H
                have c20b0 : decide (t135 < 0) = false := decide_eq_false c20
                clear c20
                (first | rw [c20b0] | (simp only [i64_w, i32_w]; rw [c20b0]) | skip)
                by_cases c25 : t135 ≥ 0
                · rw [if_pos c25] at H
                  have c25b0 : decide (0 ≤ t135) = true := decide_eq_true c25
                  clear c25
                  by_cases c26 : t132 = 0
                  · rw [if_pos c26] at H
                    have c26b0 : (t132 == 0) = true := beq_iff_eq.mpr c26
                    have c26b1 : (t132 != 0) = false := bne_eq_false_iff_eq.mpr c26
                    clear c26
                    have H' := Aside0.mk H
                    clear H
                    go_wp2
                    go_meet
                    case rel => exact ⟨_, ((t131 != t135)), (by first | rfl | (simp; done) | (simp [*]; done)), H', ⟨by have := HJ8.out; first | omega | exact Nat.le_refl _⟩, ⟨by repeat (first | (with_reducible first | exact HB.out | apply below_alloc | apply pw_below_drewN | apply below_drew1) | exact HB.out)⟩⟩
                  · rw [if_neg c26] at H
                    have c26b0 : (t132 == 0) = false := beq_eq_false_iff_ne.mpr c26
                    have c26b1 : (t132 != 0) = true := bne_iff_ne.mpr c26
                    have H' := Aside0.mk H
                    clear H
                    go_wp2
                    go_meet
                    case rel => exact ⟨_, (true), (by first | rfl | (simp; done) | (simp [*]; done)), H', ⟨by have := HJ8.out; first | omega | exact Nat.le_refl _⟩, ⟨by repeat (first | (with_reducible first | exact HB.out | apply below_alloc | apply pw_below_drewN | apply below_drew1) | exact HB.out)⟩⟩
                · rw [if_neg c25] at H
                  have c25b0 : decide (0 ≤ t135) = false := decide_eq_false c25
                  clear c25
                  have H' := Aside0.mk H
                  clear H
                  go_wp2
                  go_meet
                  case rel => exact ⟨_, (false), (by first | rfl | (simp; done) | (simp [*]; done)), H', ⟨by have := HJ8.out; first | omega | exact Nat.le_refl _⟩, ⟨by repeat (first | (with_reducible first | exact HB.out | apply below_alloc | apply pw_below_drewN | apply below_drew1) | exact HB.out)⟩⟩
            case rest =>
              clear HC19
              try clear c1
              try clear c2
              try clear p2
              try clear c3
              try clear c4
              try clear c4b0
              try clear c4b1
              try clear c5
              try clear c5b0
              try clear c5b1
              try clear c8
              try clear c12
              try clear c18
              try clear c20
              try clear c20b0
              try clear c21
              try clear c21b0
              try clear c21b1
              try clear c22
              try clear c22b0
              try clear c22b1
              try clear c23
              try clear c23b0
              try clear c24
              try clear c24b0
              try clear c24b1
              try clear c25
              try clear c25b0
              try clear c26
              try clear c26b0
              try clear c26b1
              try clear p2
              obtain ⟨kq, x58_18, rfl, HA, HJ18, HB⟩ := hcut
              cases kq with
              | zero => exact absurd HA.out (by simp [clevislaw02_IdentNames.j1])
              | succ kj18 =>
                have H := HA.out
                clear HA
                simp only [clevislaw02_IdentNames.j1] at H
                by_cases c27 : x58_18 = true
                · subst c27
                  have H1 : (some false) = some r := by rw [if_pos rfl] at H; exact H
                  clear H
                  have H := H1
                  clear H1
                  obtain rfl := Option.some.inj H
                  go_wp2
                  go_ret
                  exact ⟨by first | rfl | (simp [errW_none, errW_some] <;> rfl) | (simp only [← hji3]; first | rfl | (simp [errW_none, errW_some] <;> rfl)) | (simp [*, errW_none, errW_some] <;> rfl), by repeat (first | (with_reducible first | exact HB.out | apply below_alloc | apply pw_below_drewN | apply below_drew1) | exact HB.out)⟩
                · replace c27 := Bool.eq_false_iff.mpr c27
                  subst c27
                  have H1 : (if a1 < 0 then (if t134 = 5 then (some (t133.toList == ([] : List UInt8))) else (some false)) else (if a1 > 2 then (if t134 = 5 then (some (t133.toList == ([] : List UInt8))) else (some false)) else (if t134 = 0 then ((clevisref02_Node.f t133).bind fun t139 => (some (t139 == a1))) else (some false)))) = some r := by rw [if_neg (show ¬ (false = true) by decide)] at H; exact H
                  clear H
                  have H := H1
                  clear H1
                  by_cases c28 : a1 < 0
                  · rw [if_pos c28] at H
                    have c28b0 : decide (a1 < 0) = true := decide_eq_true c28
                    clear c28
                    by_cases c29 : t134 = 5
                    · rw [if_pos c29] at H
                      have c29b0 : (t134 == 5) = true := beq_iff_eq.mpr c29
                      have c29b1 : (t134 != 5) = false := bne_eq_false_iff_eq.mpr c29
                      clear c29
                      obtain rfl := Option.some.inj H
                      go_wp2
                      go_ret
                      exact ⟨by first | rfl | (simp [errW_none, errW_some] <;> rfl) | (simp only [← hji3]; first | rfl | (simp [errW_none, errW_some] <;> rfl)) | (simp [*, errW_none, errW_some] <;> rfl), by repeat (first | (with_reducible first | exact HB.out | apply below_alloc | apply pw_below_drewN | apply below_drew1) | exact HB.out)⟩
                    · rw [if_neg c29] at H
                      have c29b0 : (t134 == 5) = false := beq_eq_false_iff_ne.mpr c29
                      have c29b1 : (t134 != 5) = true := bne_iff_ne.mpr c29
                      obtain rfl := Option.some.inj H
                      go_wp2
                      go_ret
                      exact ⟨by first | rfl | (simp [errW_none, errW_some] <;> rfl) | (simp only [← hji3]; first | rfl | (simp [errW_none, errW_some] <;> rfl)) | (simp [*, errW_none, errW_some] <;> rfl), by repeat (first | (with_reducible first | exact HB.out | apply below_alloc | apply pw_below_drewN | apply below_drew1) | exact HB.out)⟩
                  · rw [if_neg c28] at H
                    have c28b0 : decide (a1 < 0) = false := decide_eq_false c28
                    clear c28
                    by_cases c30 : a1 > 2
                    · rw [if_pos c30] at H
                      have c30b0 : decide (2 < a1) = true := decide_eq_true c30
                      clear c30
                      by_cases c31 : t134 = 5
                      · rw [if_pos c31] at H
                        have c31b0 : (t134 == 5) = true := beq_iff_eq.mpr c31
                        have c31b1 : (t134 != 5) = false := bne_eq_false_iff_eq.mpr c31
                        clear c31
                        obtain rfl := Option.some.inj H
                        go_wp2
                        go_ret
                        exact ⟨by first | rfl | (simp [errW_none, errW_some] <;> rfl) | (simp only [← hji3]; first | rfl | (simp [errW_none, errW_some] <;> rfl)) | (simp [*, errW_none, errW_some] <;> rfl), by repeat (first | (with_reducible first | exact HB.out | apply below_alloc | apply pw_below_drewN | apply below_drew1) | exact HB.out)⟩
                      · rw [if_neg c31] at H
                        have c31b0 : (t134 == 5) = false := beq_eq_false_iff_ne.mpr c31
                        have c31b1 : (t134 != 5) = true := bne_iff_ne.mpr c31
                        obtain rfl := Option.some.inj H
                        go_wp2
                        go_ret
                        exact ⟨by first | rfl | (simp [errW_none, errW_some] <;> rfl) | (simp only [← hji3]; first | rfl | (simp [errW_none, errW_some] <;> rfl)) | (simp [*, errW_none, errW_some] <;> rfl), by repeat (first | (with_reducible first | exact HB.out | apply below_alloc | apply pw_below_drewN | apply below_drew1) | exact HB.out)⟩
                    · rw [if_neg c30] at H
                      have c30b0 : decide (2 < a1) = false := decide_eq_false c30
                      clear c30
                      by_cases c32 : t134 = 0
                      · rw [if_pos c32] at H
                        have c32b0 : (t134 == 0) = true := beq_iff_eq.mpr c32
                        have c32b1 : (t134 != 0) = false := bne_eq_false_iff_eq.mpr c32
                        clear c32
                        replace H := Option.bind_eq_some_iff.mp H
                        obtain ⟨t139, A330, H⟩ := H
                        replace H : (some (t139 == a1)) = some r := H
                        have A33 := Aside0.mk A330
                        clear A330
                        obtain rfl := Option.some.inj H
                        go_wp2_with (first | (go_at_call 31; (with_reducible refine (clevisref02_Node.calls t133 t139 _ A33.out).mono ?_); rintro e w' ⟨rfl, ⟨nd, rfl⟩⟩))
                        go_ret
                        exact ⟨by first | rfl | (simp [errW_none, errW_some] <;> rfl) | (simp only [← hji3]; first | rfl | (simp [errW_none, errW_some] <;> rfl)) | (simp [*, errW_none, errW_some] <;> rfl), by repeat (first | (with_reducible first | exact HB.out | apply below_alloc | apply pw_below_drewN | apply below_drew1) | exact HB.out)⟩
                      · rw [if_neg c32] at H
                        have c32b0 : (t134 == 0) = false := beq_eq_false_iff_ne.mpr c32
                        have c32b1 : (t134 != 0) = true := bne_iff_ne.mpr c32
                        obtain rfl := Option.some.inj H
                        go_wp2
                        go_ret
                        exact ⟨by first | rfl | (simp [errW_none, errW_some] <;> rfl) | (simp only [← hji3]; first | rfl | (simp [errW_none, errW_some] <;> rfl)) | (simp [*, errW_none, errW_some] <;> rfl), by repeat (first | (with_reducible first | exact HB.out | apply below_alloc | apply pw_below_drewN | apply below_drew1) | exact HB.out)⟩
    · rw [if_neg c5] at H
      exact absurd H (by simp)
  · rw [if_neg c4] at H
    exact absurd H (by simp)

/-- THE ONE PURE STATEMENT of clevislaw02_IdentNames: yours. -/
def clevislaw02_IdentNames.Pure : Prop := ∀ (a0 : ByteArray) (a1 : Int), a0.size ≤ 140737488351232 → (Lit.int .i64 a1).wf = true → ∃ k, clevislaw02_IdentNames.f k a0 a1 = some true
theorem clevislaw02_IdentNames.walk (P : clevislaw02_IdentNames.Pure) (a0 : ByteArray) (a1 : Int) (w : World) (w0 : a0.size ≤ 140737488351232) (w1 : (Lit.int .i64 a1).wf = true) :
    Calls Try.prog 8 #[.string a0, .int .i64 a1] w fun e w' => e = .returned (.bool true) ∧ Below w.heap.size w w' := by
  obtain ⟨k, h⟩ := P a0 a1 w0 w1
  refine (clevislaw02_IdentNames.calls k a0 a1 true w h).mono ?_
  rintro e w' ⟨rfl, hd⟩
  exact ⟨rfl, hd⟩

end Go.Proofs.Ythhmfpfmhklapaa.Id
