-- Written by a program of ours (pf.sh), for this seat.
import Derived.Test.YtebdjhgboeadgaaId0
import Derived.Test.YtebdjhgboeadgaaId21
namespace Go.Proofs.Ytebdjhgboeadgaa.Id
open Go.RowKit Go.Proofs.YtebdjhgboeadgaaW.PrintWords Go.Proofs.YtebdjhgboeadgaaW.PrintLast Go.Proofs.YtebdjhgboeadgaaW.PrintMore
attribute [local go_sem] max2_int min2_int max_two min_two max_three min_three max_four min_four   -- for this text's walks alone
set_option linter.unusedVariables false
set_option linter.unusedSimpArgs false

/-! ### clevisref02_Members: function 39 -/
mutual
def clevisref02_Members.l0 : Nat → List ByteArray → Int → Option (Int)
  | 0, _, _ => none
  | k + 1, x0, x3 => if x3 < (x0.length : Int) then (if 0 ≤ x3 then ((clevisref02_Member.f k (rdOf ByteArray.empty x0 x3)).bind fun t178 => (if t178 = 0 then (clevisref02_Members.l0 k x0 (wrap64 (x3 + 1))) else (some 3))) else (none)) else (clevisref02_Members.l1 k x0 0)
def clevisref02_Members.l1 : Nat → List ByteArray → Int → Option (Int)
  | 0, _, _ => none
  | k + 1, x0, x4 => if x4 < (x0.length : Int) then (clevisref02_Members.l2 k x0 x4 0) else (some 0)
def clevisref02_Members.l2 : Nat → List ByteArray → Int → Int → Option (Int)
  | 0, _, _, _ => none
  | k + 1, x0, x4, x5 => if x5 < x4 then (if 0 ≤ x5 then (if x5 < (x0.length : Int) then (if 0 ≤ x4 then (if x4 < (x0.length : Int) then (if (rdOf ByteArray.empty x0 x5).toList = (rdOf ByteArray.empty x0 x4).toList then (some 6) else (clevisref02_Members.l2 k x0 x4 (wrap64 (x5 + 1)))) else (none)) else (none)) else (none)) else (none)) else (clevisref02_Members.l1 k x0 (wrap64 (x4 + 1)))
end
def clevisref02_Members.f (k : Nat) (l0 : List ByteArray) : Option (Int) := clevisref02_Members.l0 k l0 0
theorem clevisref02_Members.mono_l : ∀ k, (∀ y0 y1, LeO (clevisref02_Members.l0 k y0 y1) (clevisref02_Members.l0 (k + 1) y0 y1)) ∧ (∀ y0 y1, LeO (clevisref02_Members.l1 k y0 y1) (clevisref02_Members.l1 (k + 1) y0 y1)) ∧ (∀ y0 y1 y2, LeO (clevisref02_Members.l2 k y0 y1 y2) (clevisref02_Members.l2 (k + 1) y0 y1 y2))
  | 0 => ⟨fun _ _ r h => by simp [clevisref02_Members.l0] at h, fun _ _ r h => by simp [clevisref02_Members.l1] at h, fun _ _ _ r h => by simp [clevisref02_Members.l2] at h⟩
  | k + 1 => by
    obtain ⟨ih0, ih1, ih2⟩ := clevisref02_Members.mono_l k
    refine ⟨?_, ?_, ?_⟩
    · intro y0 y1
      unfold clevisref02_Members.l0
      repeat' first
      | (with_reducible exact ih0 _ _)
      | (with_reducible exact ih1 _ _)
      | (with_reducible exact ih2 _ _ _)
      | (with_reducible exact clevisref02_Member.mono _ _)
      | (with_reducible exact LeO.refl _)
      | (with_reducible exact LeO.none _)
      | (with_reducible refine LeO.ite ?_ ?_)
      | (with_reducible refine LeO.bind ?_ (fun _ => ?_))
      | exact ih0 _ _
      | exact ih1 _ _
      | exact ih2 _ _ _
      | exact clevisref02_Member.mono _ _
      | exact LeO.none _
      | refine LeO.ite ?_ ?_
      | refine LeO.bind ?_ (fun _ => ?_)
    · intro y0 y1
      unfold clevisref02_Members.l1
      repeat' first
      | (with_reducible exact ih0 _ _)
      | (with_reducible exact ih1 _ _)
      | (with_reducible exact ih2 _ _ _)
      | (with_reducible exact clevisref02_Member.mono _ _)
      | (with_reducible exact LeO.refl _)
      | (with_reducible exact LeO.none _)
      | (with_reducible refine LeO.ite ?_ ?_)
      | (with_reducible refine LeO.bind ?_ (fun _ => ?_))
      | exact ih0 _ _
      | exact ih1 _ _
      | exact ih2 _ _ _
      | exact clevisref02_Member.mono _ _
      | exact LeO.none _
      | refine LeO.ite ?_ ?_
      | refine LeO.bind ?_ (fun _ => ?_)
    · intro y0 y1 y2
      unfold clevisref02_Members.l2
      repeat' first
      | (with_reducible exact ih0 _ _)
      | (with_reducible exact ih1 _ _)
      | (with_reducible exact ih2 _ _ _)
      | (with_reducible exact clevisref02_Member.mono _ _)
      | (with_reducible exact LeO.refl _)
      | (with_reducible exact LeO.none _)
      | (with_reducible refine LeO.ite ?_ ?_)
      | (with_reducible refine LeO.bind ?_ (fun _ => ?_))
      | exact ih0 _ _
      | exact ih1 _ _
      | exact ih2 _ _ _
      | exact clevisref02_Member.mono _ _
      | exact LeO.none _
      | refine LeO.ite ?_ ?_
      | refine LeO.bind ?_ (fun _ => ?_)
theorem clevisref02_Members.mono : ∀ a0 k, LeO (clevisref02_Members.f k a0) (clevisref02_Members.f (k + 1) a0) := by
  intro a0 k
  obtain ⟨ih0, ih1, ih2⟩ := clevisref02_Members.mono_l k
  unfold clevisref02_Members.f
  repeat' first
      | (with_reducible exact ih0 _ _)
      | (with_reducible exact ih1 _ _)
      | (with_reducible exact ih2 _ _ _)
      | (with_reducible exact clevisref02_Member.mono _ _)
      | (with_reducible exact LeO.refl _)
      | (with_reducible exact LeO.none _)
      | (with_reducible refine LeO.ite ?_ ?_)
      | (with_reducible refine LeO.bind ?_ (fun _ => ?_))
      | exact ih0 _ _
      | exact ih1 _ _
      | exact ih2 _ _ _
      | exact clevisref02_Member.mono _ _
      | exact LeO.none _
      | refine LeO.ite ?_ ?_
      | refine LeO.bind ?_ (fun _ => ?_)
set_option maxHeartbeats 8000000 in
set_option maxRecDepth 100000 in
theorem clevisref02_Members.calls (k : Nat) (A0 : Option Addr) (c0 : Nat) (l0 : List ByteArray) (r : Int) (w : World) (hr0 : Kd.C Kd.string w A0 l0.length l0) (hc0 : l0.length ≤ c0) (h : clevisref02_Members.f k l0 = some r) :
    Calls Try.prog 39 #[.slice A0 l0.length c0] w fun e w' => e = .returned (.int .i64 r) ∧ Drawn0 w w' := by
  have HR0 := Aside0.mk hr0
  have HC0 := Aside0.mk hc0
  clear hr0 hc0
  have H : (clevisref02_Members.l0 k l0 0) = some r := h
  clear h
  have H' := Aside0.mk H
  clear H
  go_enter Try.func39, Try.ntmps39
  go_wp2
  repeat (go_quiet (fail); try go_wp2)
  (try simp only [Act.put, List.setIfInBounds_toArray, List.set_cons_zero, List.set_cons_succ])
  go_loopg [3] k (fun kq v3 w' => ∃ (x3_1 : Int), v3 = .int .i64 x3_1 ∧ Aside0 (clevisref02_Members.l0 kq l0 x3_1 = some r) ∧ Aside0 (kq ≤ k) ∧ Drawn0 w w')
  case atStart => exact ⟨(0), (by first | rfl | (simp; done) | (simp [*]; done)), H', ⟨Nat.le_refl _⟩, by repeat (first | exact Drawn0.refl _ | apply Drawn0.step)⟩
  case round =>
    clear H'
    obtain ⟨x3_1, rfl, HA, HK1, ⟨m1, rfl⟩⟩ := hrel
    cases gk with
    | zero => exact absurd HA.out (by simp [clevisref02_Members.l0])
    | succ k1 =>
      have H := HA.out
      clear HA
      simp only [clevisref02_Members.l0] at H
      by_cases c2 : x3_1 < (l0.length : Int)
      · rw [if_pos c2] at H
        have c2b0 : decide (x3_1 < (l0.length : Int)) = true := decide_eq_true c2
        clear c2
        by_cases c3 : 0 ≤ x3_1
        · rw [if_pos c3] at H
          have c3b0 : decide (0 ≤ x3_1) = true := decide_eq_true c3
          clear c3
          replace H := Option.bind_eq_some_iff.mp H
          obtain ⟨t178, A40, H⟩ := H
          replace H : (if t178 = 0 then (clevisref02_Members.l0 k1 l0 (wrap64 (x3_1 + 1))) else (some 3)) = some r := H
          have A4 := Aside0.mk A40
          clear A40
          by_cases c5 : t178 = 0
          · rw [if_pos c5] at H
            have c5b0 : (t178 == 0) = true := beq_iff_eq.mpr c5
            have c5b1 : (t178 != 0) = false := bne_eq_false_iff_eq.mpr c5
            clear c5
            have H' := Aside0.mk H
            clear H
            have p177 : 0 ≤ (x3_1 : Int) := of_decide_eq_true (by first | (with_reducible assumption) | assumption)
            have q177 : x3_1 < (l0.length : Int) := of_decide_eq_true (by first | (with_reducible assumption) | assumption)
            obtain ⟨ad177, e177, hx177_0⟩ := Kd.at_string HR0.out x3_1 p177 q177
            cases e177
            replace p177 := eq_true p177
            replace q177 := eq_true q177
            go_wp2_with (first | (go_at_call 63; (with_reducible refine (clevisref02_Member.calls k1 (rdOf ByteArray.empty l0 x3_1) t178 _ A4.out).mono ?_); rintro e w' ⟨rfl, ⟨nd, rfl⟩⟩; (try first | exact ⟨rfl, _, World.drewN_drewN _ _ _⟩ | exact ⟨rfl, _, Eq.trans (World.drewN_drewN _ _ _) (congrArg (World.drewN _) (Nat.add_assoc _ _ _))⟩)))
            repeat (go_quiet (first | (go_at_call 63; (with_reducible refine (clevisref02_Member.calls k1 (rdOf ByteArray.empty l0 x3_1) t178 _ A4.out).mono ?_); rintro e w' ⟨rfl, ⟨nd, rfl⟩⟩; (try first | exact ⟨rfl, _, World.drewN_drewN _ _ _⟩ | exact ⟨rfl, _, Eq.trans (World.drewN_drewN _ _ _) (congrArg (World.drewN _) (Nat.add_assoc _ _ _))⟩))); try go_wp2_with (first | (go_at_call 63; (with_reducible refine (clevisref02_Member.calls k1 (rdOf ByteArray.empty l0 x3_1) t178 _ A4.out).mono ?_); rintro e w' ⟨rfl, ⟨nd, rfl⟩⟩; (try first | exact ⟨rfl, _, World.drewN_drewN _ _ _⟩ | exact ⟨rfl, _, Eq.trans (World.drewN_drewN _ _ _) (congrArg (World.drewN _) (Nat.add_assoc _ _ _))⟩))))
            go_roundg k1
            case measure => have := HK1.out; omega
            case rel => exact ⟨(wrap64 (x3_1 + 1)), (by first | rfl | (simp; done) | (simp [*]; done)), H', ⟨by have := HK1.out; omega⟩, by repeat (first | exact Drawn0.refl _ | apply Drawn0.step)⟩
          · rw [if_neg c5] at H
            have c5b0 : (t178 == 0) = false := beq_eq_false_iff_ne.mpr c5
            have c5b1 : (t178 != 0) = true := bne_iff_ne.mpr c5
            obtain rfl := Option.some.inj H
            have p177 : 0 ≤ (x3_1 : Int) := of_decide_eq_true (by first | (with_reducible assumption) | assumption)
            have q177 : x3_1 < (l0.length : Int) := of_decide_eq_true (by first | (with_reducible assumption) | assumption)
            obtain ⟨ad177, e177, hx177_0⟩ := Kd.at_string HR0.out x3_1 p177 q177
            cases e177
            replace p177 := eq_true p177
            replace q177 := eq_true q177
            go_wp2_with (first | (go_at_call 63; (with_reducible refine (clevisref02_Member.calls k1 (rdOf ByteArray.empty l0 x3_1) t178 _ A4.out).mono ?_); rintro e w' ⟨rfl, ⟨nd, rfl⟩⟩; (try first | exact ⟨rfl, _, World.drewN_drewN _ _ _⟩ | exact ⟨rfl, _, Eq.trans (World.drewN_drewN _ _ _) (congrArg (World.drewN _) (Nat.add_assoc _ _ _))⟩)))
            repeat (go_quiet (first | (go_at_call 63; (with_reducible refine (clevisref02_Member.calls k1 (rdOf ByteArray.empty l0 x3_1) t178 _ A4.out).mono ?_); rintro e w' ⟨rfl, ⟨nd, rfl⟩⟩; (try first | exact ⟨rfl, _, World.drewN_drewN _ _ _⟩ | exact ⟨rfl, _, Eq.trans (World.drewN_drewN _ _ _) (congrArg (World.drewN _) (Nat.add_assoc _ _ _))⟩))); try go_wp2_with (first | (go_at_call 63; (with_reducible refine (clevisref02_Member.calls k1 (rdOf ByteArray.empty l0 x3_1) t178 _ A4.out).mono ?_); rintro e w' ⟨rfl, ⟨nd, rfl⟩⟩; (try first | exact ⟨rfl, _, World.drewN_drewN _ _ _⟩ | exact ⟨rfl, _, Eq.trans (World.drewN_drewN _ _ _) (congrArg (World.drewN _) (Nat.add_assoc _ _ _))⟩))))
            go_ret
            exact ⟨by first | rfl | (simp; done) | (simp [*]; done), by repeat (first | exact Drawn0.refl _ | apply Drawn0.step)⟩
        · rw [if_neg c3] at H
          exact absurd H (by simp)
      · rw [if_neg c2] at H
        have c2b0 : decide (x3_1 < (l0.length : Int)) = false := decide_eq_false c2
        clear c2
        have H' := Aside0.mk H
        clear H
        go_wp2
        repeat (go_quiet (fail); try go_wp2)
        (try simp only [Act.put, List.setIfInBounds_toArray, List.set_cons_zero, List.set_cons_succ])
        go_loopg [4] k1 (fun kq v4 w' => ∃ (x4_2 : Int), v4 = .int .i64 x4_2 ∧ Aside0 (clevisref02_Members.l1 kq l0 x4_2 = some r) ∧ Aside0 (kq ≤ k1) ∧ Drawn0 w w')
        case atStart => exact ⟨(0), (by first | rfl | (simp; done) | (simp [*]; done)), H', ⟨Nat.le_refl _⟩, by repeat (first | exact Drawn0.refl _ | apply Drawn0.step)⟩
        case round =>
          clear H'
          try clear p1
          try clear q1
          try clear hx1
          try clear c2
          try clear c2b0
          try clear p2
          try clear c3
          try clear c3b0
          try clear c5
          try clear c5b0
          try clear c5b1
          try clear hx177_0
          try clear p177
          try clear q177
          obtain ⟨x4_2, rfl, HA, HK2, ⟨m2, rfl⟩⟩ := hrel
          cases gk with
          | zero => exact absurd HA.out (by simp [clevisref02_Members.l1])
          | succ k2 =>
            have H := HA.out
            clear HA
            simp only [clevisref02_Members.l1] at H
            by_cases c6 : x4_2 < (l0.length : Int)
            · rw [if_pos c6] at H
              have c6b0 : decide (x4_2 < (l0.length : Int)) = true := decide_eq_true c6
              clear c6
              have H' := Aside0.mk H
              clear H
              go_wp2
              repeat (go_quiet (fail); try go_wp2)
              (try simp only [Act.put, List.setIfInBounds_toArray, List.set_cons_zero, List.set_cons_succ])
              go_loopg [5] k2 (fun kq v5 w' => ∃ (x5_3 : Int), v5 = .int .i64 x5_3 ∧ Aside0 (clevisref02_Members.l2 kq l0 x4_2 x5_3 = some r) ∧ Aside0 (kq ≤ k2) ∧ Drawn0 w w')
              case atStart => exact ⟨(0), (by first | rfl | (simp; done) | (simp [*]; done)), H', ⟨Nat.le_refl _⟩, by repeat (first | exact Drawn0.refl _ | apply Drawn0.step)⟩
              case round =>
                clear H'
                try clear p1
                try clear q1
                try clear hx1
                try clear c2
                try clear c2b0
                try clear p2
                try clear c3
                try clear c3b0
                try clear c5
                try clear c5b0
                try clear c5b1
                try clear c6
                try clear c6b0
                try clear p6
                try clear hx177_0
                try clear p1
                try clear p177
                try clear p2
                try clear q1
                try clear q177
                obtain ⟨x5_3, rfl, HA, HK3, ⟨m3, rfl⟩⟩ := hrel
                cases gk with
                | zero => exact absurd HA.out (by simp [clevisref02_Members.l2])
                | succ k3 =>
                  have H := HA.out
                  clear HA
                  simp only [clevisref02_Members.l2] at H
                  by_cases c7 : x5_3 < x4_2
                  · rw [if_pos c7] at H
                    have c7b0 : decide (x5_3 < x4_2) = true := decide_eq_true c7
                    clear c7
                    by_cases c8 : 0 ≤ x5_3
                    · rw [if_pos c8] at H
                      have c8b0 : decide (0 ≤ x5_3) = true := decide_eq_true c8
                      clear c8
                      by_cases c9 : x5_3 < (l0.length : Int)
                      · rw [if_pos c9] at H
                        have c9b0 : decide (x5_3 < (l0.length : Int)) = true := decide_eq_true c9
                        clear c9
                        by_cases c10 : 0 ≤ x4_2
                        · rw [if_pos c10] at H
                          have c10b0 : decide (0 ≤ x4_2) = true := decide_eq_true c10
                          clear c10
                          by_cases c11 : x4_2 < (l0.length : Int)
                          · rw [if_pos c11] at H
                            have c11b0 : decide (x4_2 < (l0.length : Int)) = true := decide_eq_true c11
                            clear c11
                            by_cases c12 : (rdOf ByteArray.empty l0 x5_3).toList = (rdOf ByteArray.empty l0 x4_2).toList
                            · rw [if_pos c12] at H
                              have c12b0 : ((rdOf ByteArray.empty l0 x5_3).toList == (rdOf ByteArray.empty l0 x4_2).toList) = true := beq_iff_eq.mpr c12
                              have c12b1 : ((rdOf ByteArray.empty l0 x5_3).toList != (rdOf ByteArray.empty l0 x4_2).toList) = false := bne_eq_false_iff_eq.mpr c12
                              clear c12
                              obtain rfl := Option.some.inj H
                              have p179 : 0 ≤ (x5_3 : Int) := of_decide_eq_true (by first | (with_reducible assumption) | assumption)
                              have q179 : x5_3 < (l0.length : Int) := of_decide_eq_true (by first | (with_reducible assumption) | assumption)
                              obtain ⟨ad179, e179, hx179_0⟩ := Kd.at_string HR0.out x5_3 p179 q179
                              cases e179
                              replace p179 := eq_true p179
                              replace q179 := eq_true q179
                              have p180 : 0 ≤ (x4_2 : Int) := of_decide_eq_true (by first | (with_reducible assumption) | assumption)
                              have q180 : x4_2 < (l0.length : Int) := of_decide_eq_true (by first | (with_reducible assumption) | assumption)
                              obtain ⟨ad180, e180, hx180_0⟩ := Kd.at_string HR0.out x4_2 p180 q180
                              obtain rfl : ad179 = ad180 := (by injection e180)
                              replace p180 := eq_true p180
                              replace q180 := eq_true q180
                              go_wp2
                              repeat (go_quiet (fail); try go_wp2)
                              go_ret
                              exact ⟨by first | rfl | (simp; done) | (simp [*]; done), by repeat (first | exact Drawn0.refl _ | apply Drawn0.step)⟩
                            · rw [if_neg c12] at H
                              have c12b0 : ((rdOf ByteArray.empty l0 x5_3).toList == (rdOf ByteArray.empty l0 x4_2).toList) = false := beq_eq_false_iff_ne.mpr c12
                              have c12b1 : ((rdOf ByteArray.empty l0 x5_3).toList != (rdOf ByteArray.empty l0 x4_2).toList) = true := bne_iff_ne.mpr c12
                              have H' := Aside0.mk H
                              clear H
                              have p179 : 0 ≤ (x5_3 : Int) := of_decide_eq_true (by first | (with_reducible assumption) | assumption)
                              have q179 : x5_3 < (l0.length : Int) := of_decide_eq_true (by first | (with_reducible assumption) | assumption)
                              obtain ⟨ad179, e179, hx179_0⟩ := Kd.at_string HR0.out x5_3 p179 q179
                              cases e179
                              replace p179 := eq_true p179
                              replace q179 := eq_true q179
                              have p180 : 0 ≤ (x4_2 : Int) := of_decide_eq_true (by first | (with_reducible assumption) | assumption)
                              have q180 : x4_2 < (l0.length : Int) := of_decide_eq_true (by first | (with_reducible assumption) | assumption)
                              obtain ⟨ad180, e180, hx180_0⟩ := Kd.at_string HR0.out x4_2 p180 q180
                              obtain rfl : ad179 = ad180 := (by injection e180)
                              replace p180 := eq_true p180
                              replace q180 := eq_true q180
                              go_wp2
                              repeat (go_quiet (fail); try go_wp2)
                              go_roundg k3
                              case measure => have := HK1.out; have := HK2.out; have := HK3.out; omega
                              case rel => exact ⟨(wrap64 (x5_3 + 1)), (by first | rfl | (simp; done) | (simp [*]; done)), H', ⟨by have := HK1.out; have := HK2.out; have := HK3.out; omega⟩, by repeat (first | exact Drawn0.refl _ | apply Drawn0.step)⟩
                          · rw [if_neg c11] at H
                            exact absurd H (by simp)
                        · rw [if_neg c10] at H
                          exact absurd H (by simp)
                      · rw [if_neg c9] at H
                        exact absurd H (by simp)
                    · rw [if_neg c8] at H
                      exact absurd H (by simp)
                  · rw [if_neg c7] at H
                    have c7b0 : decide (x5_3 < x4_2) = false := decide_eq_false c7
                    clear c7
                    have H' := Aside0.mk H
                    clear H
                    go_wp2
                    repeat (go_quiet (fail); try go_wp2)
                    go_roundg k3
                    case measure => have := HK1.out; have := HK2.out; have := HK3.out; omega
                    case rel => exact ⟨(wrap64 (x4_2 + 1)), (by first | rfl | (simp; done) | (simp [*]; done)), H', ⟨by have := HK1.out; have := HK2.out; have := HK3.out; omega⟩, by repeat (first | exact Drawn0.refl _ | apply Drawn0.step)⟩
            · rw [if_neg c6] at H
              have c6b0 : decide (x4_2 < (l0.length : Int)) = false := decide_eq_false c6
              clear c6
              obtain rfl := Option.some.inj H
              go_wp2
              repeat (go_quiet (fail); try go_wp2)
              go_ret
              exact ⟨by first | rfl | (simp; done) | (simp [*]; done), by repeat (first | exact Drawn0.refl _ | apply Drawn0.step)⟩

end Go.Proofs.Ytebdjhgboeadgaa.Id
