-- Written by a program of ours (pf.sh), for this seat.
import Derived.Test.YtebdjhgboeadgaaId0
import Derived.Test.YtebdjhgboeadgaaId7
import Derived.Test.YtebdjhgboeadgaaId8
namespace Go.Proofs.Ytebdjhgboeadgaa.Id
open Go.RowKit Go.Proofs.YtebdjhgboeadgaaW.PrintWords Go.Proofs.YtebdjhgboeadgaaW.PrintLast Go.Proofs.YtebdjhgboeadgaaW.PrintMore
attribute [local go_sem] max2_int min2_int max_two min_two max_three min_three max_four min_four   -- for this text's walks alone
set_option linter.unusedVariables false
set_option linter.unusedSimpArgs false

/-! ### clevisref02_Digit: function 26 -/
mutual
def clevisref02_Digit.l0 : Nat → ByteArray → List Int → Int → Option (Int)
  | 0, _, _, _ => none
  | k + 1, x0, x3, x4 => if x4 < 11 then (if 0 ≤ x4 then (if x4 < (x0.size : Int) then ((clevisref02_letter.f (bt x0 x4) 65).bind fun t112 => (if t112 = true then ((some (([wrap64 (Int.tdiv (wrap64 ((wrap64 (bt x0 x4)) - 55)) 10), Int.tmod (wrap64 ((wrap64 (bt x0 x4)) - 55)) 10] : List Int) : List Int)).bind fun y113 => (if x3.length + y113.length < 17592186044416 then (clevisref02_Digit.l0 k x0 (x3 ++ y113) (wrap64 (x4 + 1))) else (none))) else ((clevisref02_digit.f (bt x0 x4)).bind fun t119 => (if t119 = true then (if x4 ≥ 2 then (if x3.length < 17592186044416 then (clevisref02_Digit.l0 k x0 (x3 ++ [wrap64 ((wrap64 (bt x0 x4)) - 48)]) (wrap64 (x4 + 1))) else (none)) else (some (-1))) else (some (-1)))))) else (none)) else (none)) else (clevisref02_Digit.l1 k x3 0 0)
def clevisref02_Digit.l1 : Nat → List Int → Int → Int → Option (Int)
  | 0, _, _, _ => none
  | k + 1, x3, x6, x7 => if x7 < (x3.length : Int) then (if 0 ≤ x7 then (if (Int.tmod (wrap64 ((x3.length : Int) - x7)) 2) = 1 then (if (wrap64 (2 * (rd x3 x7))) > 9 then (clevisref02_Digit.l1 k x3 (wrap64 (x6 + (wrap64 ((wrap64 (2 * (rd x3 x7))) - 9)))) (wrap64 (x7 + 1))) else (clevisref02_Digit.l1 k x3 (wrap64 (x6 + (wrap64 (2 * (rd x3 x7))))) (wrap64 (x7 + 1)))) else (clevisref02_Digit.l1 k x3 (wrap64 (x6 + (rd x3 x7))) (wrap64 (x7 + 1)))) else (none)) else (clevisref02_Digit.l2 k x6 0)
def clevisref02_Digit.l2 : Nat → Int → Int → Option (Int)
  | 0, _, _ => none
  | k + 1, x6, x9 => if x9 < 10 then (if (Int.tmod (wrap64 (x6 + x9)) 10) = 0 then (some x9) else (clevisref02_Digit.l2 k x6 (wrap64 (x9 + 1)))) else (some (-1))
end
def clevisref02_Digit.f (k : Nat) (a0 : ByteArray) : Option (Int) := if (a0.size : Int) = 11 then (clevisref02_Digit.l0 k a0 ([] : List Int) 0) else (some (-1))
theorem clevisref02_Digit.mono_l : ∀ k, (∀ y0 y1 y2, LeO (clevisref02_Digit.l0 k y0 y1 y2) (clevisref02_Digit.l0 (k + 1) y0 y1 y2)) ∧ (∀ y0 y1 y2, LeO (clevisref02_Digit.l1 k y0 y1 y2) (clevisref02_Digit.l1 (k + 1) y0 y1 y2)) ∧ (∀ y0 y1, LeO (clevisref02_Digit.l2 k y0 y1) (clevisref02_Digit.l2 (k + 1) y0 y1))
  | 0 => ⟨fun _ _ _ r h => by simp [clevisref02_Digit.l0] at h, fun _ _ _ r h => by simp [clevisref02_Digit.l1] at h, fun _ _ r h => by simp [clevisref02_Digit.l2] at h⟩
  | k + 1 => by
    obtain ⟨ih0, ih1, ih2⟩ := clevisref02_Digit.mono_l k
    refine ⟨?_, ?_, ?_⟩
    · intro y0 y1 y2
      unfold clevisref02_Digit.l0
      repeat' first
      | (with_reducible exact ih0 _ _ _)
      | (with_reducible exact ih1 _ _ _)
      | (with_reducible exact ih2 _ _)
      | (with_reducible exact LeO.refl _)
      | (with_reducible exact LeO.none _)
      | (with_reducible refine LeO.ite ?_ ?_)
      | (with_reducible refine LeO.bind ?_ (fun _ => ?_))
      | exact ih0 _ _ _
      | exact ih1 _ _ _
      | exact ih2 _ _
      | exact LeO.none _
      | refine LeO.ite ?_ ?_
      | refine LeO.bind ?_ (fun _ => ?_)
    · intro y0 y1 y2
      unfold clevisref02_Digit.l1
      repeat' first
      | (with_reducible exact ih0 _ _ _)
      | (with_reducible exact ih1 _ _ _)
      | (with_reducible exact ih2 _ _)
      | (with_reducible exact LeO.refl _)
      | (with_reducible exact LeO.none _)
      | (with_reducible refine LeO.ite ?_ ?_)
      | (with_reducible refine LeO.bind ?_ (fun _ => ?_))
      | exact ih0 _ _ _
      | exact ih1 _ _ _
      | exact ih2 _ _
      | exact LeO.none _
      | refine LeO.ite ?_ ?_
      | refine LeO.bind ?_ (fun _ => ?_)
    · intro y0 y1
      unfold clevisref02_Digit.l2
      repeat' first
      | (with_reducible exact ih0 _ _ _)
      | (with_reducible exact ih1 _ _ _)
      | (with_reducible exact ih2 _ _)
      | (with_reducible exact LeO.refl _)
      | (with_reducible exact LeO.none _)
      | (with_reducible refine LeO.ite ?_ ?_)
      | (with_reducible refine LeO.bind ?_ (fun _ => ?_))
      | exact ih0 _ _ _
      | exact ih1 _ _ _
      | exact ih2 _ _
      | exact LeO.none _
      | refine LeO.ite ?_ ?_
      | refine LeO.bind ?_ (fun _ => ?_)
theorem clevisref02_Digit.mono : ∀ a0 k, LeO (clevisref02_Digit.f k a0) (clevisref02_Digit.f (k + 1) a0) := by
  intro a0 k
  obtain ⟨ih0, ih1, ih2⟩ := clevisref02_Digit.mono_l k
  unfold clevisref02_Digit.f
  repeat' first
      | (with_reducible exact ih0 _ _ _)
      | (with_reducible exact ih1 _ _ _)
      | (with_reducible exact ih2 _ _)
      | (with_reducible exact LeO.refl _)
      | (with_reducible exact LeO.none _)
      | (with_reducible refine LeO.ite ?_ ?_)
      | (with_reducible refine LeO.bind ?_ (fun _ => ?_))
      | exact ih0 _ _ _
      | exact ih1 _ _ _
      | exact ih2 _ _
      | exact LeO.none _
      | refine LeO.ite ?_ ?_
      | refine LeO.bind ?_ (fun _ => ?_)
set_option maxHeartbeats 8000000 in
set_option maxRecDepth 100000 in
theorem clevisref02_Digit.calls (k : Nat) (a0 : ByteArray) (r : Int) (w : World) (h : clevisref02_Digit.f k a0 = some r) :
    Calls Try.prog 26 #[.string a0] w fun e w' => e = .returned (.int .i64 r) ∧ Below w.heap.size w w' := by
  have HB := Aside0.mk (Below.refl w.heap.size w)
  have H : (if (a0.size : Int) = 11 then (clevisref02_Digit.l0 k a0 ([] : List Int) 0) else (some (-1))) = some r := h
  clear h
  by_cases c2 : (a0.size : Int) = 11
  · rw [if_pos c2] at H
    have c2b0 : ((a0.size : Int) == 11) = true := beq_iff_eq.mpr c2
    have c2b1 : ((a0.size : Int) != 11) = false := bne_eq_false_iff_eq.mpr c2
    clear c2
    have H' := Aside0.mk H
    clear H
    go_enter Try.func26, Try.ntmps26
    go_wp2
    (try simp only [Act.put, List.setIfInBounds_toArray, List.set_cons_zero, List.set_cons_succ])
    go_loopg [3, 4] k (fun kq v3 v4 w' => ∃ (x3_1 : List Int) (x4_1 : Int), v4 = .int .i64 x4_1 ∧ Aside0 (clevisref02_Digit.l0 kq a0 x3_1 x4_1 = some r) ∧ Aside0 (kq ≤ k) ∧ Aside0 (Kd.R (Kd.int .i64) 3 w' w.heap.size (fun _ => True) v3 x3_1) ∧ Aside0 (Below w.heap.size w w'))
    case atStart => exact ⟨(([] : List Int)), (0), (by first | rfl | (simp; done) | (simp [*]; done)), H', ⟨Nat.le_refl _⟩, ⟨by first | exact Kd.R_nil _ _ _ _ _ | exact Kd.N_nil _ _ _ _ _ | exact Kd.V_nil _ _ _ _ _ | exact Kd.Q_nil _ _ _ _ _ | exact Kd.S_nil _ _ _ _ _⟩, ⟨by repeat (first | (with_reducible first | exact HB.out | apply below_alloc | apply pw_below_drewN | apply below_drew1) | exact HB.out)⟩⟩
    case round =>
      clear H'
      try clear c2
      try clear c2b0
      try clear c2b1
      try clear p2
      obtain ⟨x3_1, x4_1, rfl, HA, HK1, HO_3, HB⟩ := hrel
      cases gk with
      | zero => exact absurd HA.out (by simp [clevisref02_Digit.l0])
      | succ k1 =>
        have H := HA.out
        clear HA
        simp only [clevisref02_Digit.l0] at H
        by_cases c3 : x4_1 < 11
        · rw [if_pos c3] at H
          have c3b0 : decide (x4_1 < 11) = true := decide_eq_true c3
          clear c3
          by_cases c4 : 0 ≤ x4_1
          · rw [if_pos c4] at H
            have c4b0 : decide (0 ≤ x4_1) = true := decide_eq_true c4
            clear c4
            by_cases c5 : x4_1 < (a0.size : Int)
            · rw [if_pos c5] at H
              have c5b0 : decide (x4_1 < (a0.size : Int)) = true := decide_eq_true c5
              clear c5
              replace H := Option.bind_eq_some_iff.mp H
              obtain ⟨t112, A70, H⟩ := H
              replace H : (if t112 = true then ((some (([wrap64 (Int.tdiv (wrap64 ((wrap64 (bt a0 x4_1)) - 55)) 10), Int.tmod (wrap64 ((wrap64 (bt a0 x4_1)) - 55)) 10] : List Int) : List Int)).bind fun y113 => (if x3_1.length + y113.length < 17592186044416 then (clevisref02_Digit.l0 k1 a0 (x3_1 ++ y113) (wrap64 (x4_1 + 1))) else (none))) else ((clevisref02_digit.f (bt a0 x4_1)).bind fun t119 => (if t119 = true then (if x4_1 ≥ 2 then (if x3_1.length < 17592186044416 then (clevisref02_Digit.l0 k1 a0 (x3_1 ++ [wrap64 ((wrap64 (bt a0 x4_1)) - 48)]) (wrap64 (x4_1 + 1))) else (none)) else (some (-1))) else (some (-1))))) = some r := H
              have A7 := Aside0.mk A70
              clear A70
              by_cases c8 : t112 = true
              · subst c8
                have H1 : ((some (([wrap64 (Int.tdiv (wrap64 ((wrap64 (bt a0 x4_1)) - 55)) 10), Int.tmod (wrap64 ((wrap64 (bt a0 x4_1)) - 55)) 10] : List Int) : List Int)).bind fun y113 => (if x3_1.length + y113.length < 17592186044416 then (clevisref02_Digit.l0 k1 a0 (x3_1 ++ y113) (wrap64 (x4_1 + 1))) else (none))) = some r := by rw [if_pos rfl] at H; exact H
                clear H
                have H := H1
                clear H1
                obtain ⟨y113, hy113⟩ : ∃ y_ : List Int, y_ = (([wrap64 (Int.tdiv (wrap64 ((wrap64 (bt a0 x4_1)) - 55)) 10), Int.tmod (wrap64 ((wrap64 (bt a0 x4_1)) - 55)) 10] : List Int)) := ⟨_, rfl⟩
                replace H : (if x3_1.length + y113.length < 17592186044416 then (clevisref02_Digit.l0 k1 a0 (x3_1 ++ y113) (wrap64 (x4_1 + 1))) else (none)) = some r := by first | (rw [hy113]; with_reducible exact H) | (have H2_ := (Option.bind_some _ _).symm.trans H; rw [hy113]; with_reducible exact H2_) | (have H2_ := (Option.bind_some _ _).symm.trans H; with_reducible exact H2_) | with_reducible exact H | (rw [hy113]; exact H) | exact H
                have Ny113 := Aside0.mk hy113
                clear hy113
                by_cases c10 : x3_1.length + y113.length < 17592186044416
                · rw [if_pos c10] at H
                  have LMc10 := Aside0.mk c10
                  clear c10
                  obtain ⟨y116, hy116⟩ : ∃ y_ : List Int, y_ = (x3_1 ++ y113) := ⟨_, rfl⟩
                  replace H : (clevisref02_Digit.l0 k1 a0 y116 (wrap64 (x4_1 + 1))) = some r := by first | (rw [hy116]; with_reducible exact H) | (have H2_ := (Option.bind_some _ _).symm.trans H; rw [hy116]; with_reducible exact H2_) | (have H2_ := (Option.bind_some _ _).symm.trans H; with_reducible exact H2_) | with_reducible exact H | (rw [hy116]; exact H) | exact H
                  have Ny116 := Aside0.mk hy116
                  clear hy116
                  have H' := Aside0.mk H
                  clear H
                  have p6 : 0 ≤ (x4_1 : Int) := of_decide_eq_true (by first | (with_reducible assumption) | assumption)
                  have q6 : x4_1 < (a0.size : Int) := of_decide_eq_true (by first | (with_reducible assumption) | assumption)
                  have hx6 := bt_at a0 x4_1
                  replace p6 := eq_true p6
                  replace q6 := eq_true q6
                  go_wp2_with (first | ((with_reducible refine gate_callee (f := 58) rfl ?_); refine goesL_ (some 21) rfl rfl Try.func58 (by kernel_rfl) rfl #[.int .u8 (bt a0 x4_1), .int .u8 65] rfl (by (try simp only [List.map_toArray, List.map_cons, List.map_nil]); first | done | rfl | (simp only [List.length_drop, List.length_take]; rfl)) ?_; (with_reducible refine (clevisref02_letter.calls (bt a0 x4_1) 65 true _ A7.out).mono ?_); rintro e w' ⟨rfl, ⟨nd, rfl⟩⟩; refine ⟨_, rfl, ?_⟩; have p9 : 0 ≤ (x4_1 : Int) := of_decide_eq_true (by first | (with_reducible assumption) | assumption); have q9 : x4_1 < (a0.size : Int) := of_decide_eq_true (by first | (with_reducible assumption) | assumption); have hx9 := bt_at a0 x4_1; replace p9 := eq_true p9; replace q9 := eq_true q9) | ((with_reducible refine gate_dst (N := 32) rfl ?_); refine Kd.R_lit (Kd.int .i64) _ 3 ?hg (N := 32) ?hd (xs := ([wrap64 (Int.tdiv (wrap64 ((wrap64 (bt a0 x4_1)) - 55)) 10), Int.tmod (wrap64 ((wrap64 (bt a0 x4_1)) - 55)) 10] : List Int)) (inner := [.int .i64 (wrap64 (Int.tdiv (wrap64 ((wrap64 (bt a0 x4_1)) - 55)) 10)), .int .i64 (Int.tmod (wrap64 ((wrap64 (bt a0 x4_1)) - 55)) 10)]) (ok := fun _ => True) (okp := fun _ => True) ?hr ?hp (fun _ hk => hk) trivial (Below.refl _ _) (Nat.le_refl _) (by simp) ?_; (case hd => rfl); (case hg => rfl); (case hr => first | (go_simp; done) | (go_simp; rfl)); (case hp => exact (Reps.one (show Kd.M (Kd.int .i64) _ _ _ (wrap64 (Int.tdiv (wrap64 ((wrap64 (bt a0 x4_1)) - 55)) 10)) [.int .i64 (wrap64 (Int.tdiv (wrap64 ((wrap64 (bt a0 x4_1)) - 55)) 10))] from rfl) (Reps.one (show Kd.M (Kd.int .i64) _ _ _ (Int.tmod (wrap64 ((wrap64 (bt a0 x4_1)) - 55)) 10) [.int .i64 (Int.tmod (wrap64 ((wrap64 (bt a0 x4_1)) - 55)) 10)] from rfl) (Reps.none _ _)))); intro v114 w11 ho12 hb hg_ hnew_; clear hg_ hnew_; (first | rw [← Ny113.out] at ho12 | (simp only [Int.reduceToNat] at ho12; rw [← Ny113.out] at ho12)); have n0_ := Aside0.mk (Kd.R_elder' (by (with_reducible repeat (first | apply Kd.R_alloc | apply Kd.R_drewN | apply Kd.R_drew)); exact HO_3.out) (Kd.R_base ho12) hb); have n1_ := Aside0.mk (Kd.R_lower (Kd.R_new' ho12 (Kd.R_lt (by (with_reducible repeat (first | apply Kd.R_alloc | apply Kd.R_drewN | apply Kd.R_drew)); exact HO_3.out))) (below_size (by repeat (first | (with_reducible first | exact HB.out | apply below_alloc | apply pw_below_drewN | apply below_drew1) | exact HB.out)))); have n2_ := Aside0.mk (below_step (by repeat (first | (with_reducible first | exact HB.out | apply below_alloc | apply pw_below_drewN | apply below_drew1) | exact HB.out)) hb); clear HO_3; clear HB; have HO_3 := n0_; have HO115 := n1_; have HB := n2_; clear n0_ n1_ n2_; clear hb ho12; obtain ⟨Ao14, co14, eo14⟩ := Kd.R_slice HO115.out; subst eo14) | ((with_reducible refine gate_builtin (b := .append) (xs := #[.tmp 27, .tmp 32]) rfl ?_); at_builtin; refine Kd.R_append_rows (Kd.int .i64) (w0 := w) w.heap.size rfl (.tmp 27) (.tmp 32) 49 3 (.int .i64 0) 8 rfl Try.underlying49 info3 rfl (by decide) (by omega) u3 x3_1 y113 _ _ _ (fun k_ => some k_ ≠ (.slice Ao14 y113.length co14 : Value).ownBlock) (fun _ => False) rfl rfl ?aO ?aR (fun _ _ h => h) (fun _ h => h.elim) ?aF ?aB ?aS ?aL ?_; (case aR => repeat (first | exact (Kd.R_reads' HO115.out).2.2 | (with_reducible refine Kd.C_alloc ?_ _) | (with_reducible refine Kd.C_drewN ?_ _) | (with_reducible refine Kd.C_drew ?_))); (case aB => exact (by repeat (first | (with_reducible first | exact HB.out | apply below_alloc | apply pw_below_drewN | apply below_drew1) | exact HB.out))); (case aF => exact (fun k_ hk => Kd.fresh' (Kd.R_lt (by (with_reducible repeat (first | apply Kd.R_alloc | apply Kd.R_drewN | apply Kd.R_drew)); exact HO115.out)) k_ hk)); (case aO => exact (by (with_reducible repeat (first | apply Kd.R_alloc | apply Kd.R_drewN | apply Kd.R_drew)); exact Kd.R_mono HO_3.out (fun _ hk => hk.2))); (case aS => exact (below_size (by repeat (first | (with_reducible first | exact HB.out | apply below_alloc | apply pw_below_drewN | apply below_drew1) | exact HB.out)))); (case aL => have := LMc10.out; omega); intro v117 w13 ho hb hg hat; rw [← Ny116.out] at ho; have n0_ := Aside0.mk (Kd.R_after (ok := (fun _ => True)) (by (with_reducible repeat (first | apply Kd.R_alloc | apply Kd.R_drewN | apply Kd.R_drew)); exact HO115.out) hg hat); have n1_ := Aside0.mk (hb); have n2_ := Aside0.mk (ho); clear HO115; clear HB; clear HO_3; have HO115 := n0_; have HB := n1_; have HO118 := n2_; clear n0_ n1_ n2_; clear ho hb hg hat))
                  go_roundg k1
                  case measure => have := HK1.out; omega
                  case rel => exact ⟨(y116), (wrap64 (x4_1 + 1)), (by first | rfl | (simp; done) | (simp [*]; done)), H', ⟨by have := HK1.out; omega⟩, ⟨by (with_reducible repeat (first | apply Kd.R_alloc | apply Kd.R_drewN | apply Kd.R_drew)); exact Kd.R_mono HO118.out (fun _ hk => trivial)⟩, ⟨by repeat (first | (with_reducible first | exact HB.out | apply below_alloc | apply pw_below_drewN | apply below_drew1) | exact HB.out)⟩⟩
                · rw [if_neg c10] at H
                  exact absurd H (by simp)
              · replace c8 := Bool.eq_false_iff.mpr c8
                subst c8
                have H1 : ((clevisref02_digit.f (bt a0 x4_1)).bind fun t119 => (if t119 = true then (if x4_1 ≥ 2 then (if x3_1.length < 17592186044416 then (clevisref02_Digit.l0 k1 a0 (x3_1 ++ [wrap64 ((wrap64 (bt a0 x4_1)) - 48)]) (wrap64 (x4_1 + 1))) else (none)) else (some (-1))) else (some (-1)))) = some r := by rw [if_neg (show ¬ (false = true) by decide)] at H; exact H
                clear H
                have H := H1
                clear H1
                replace H := Option.bind_eq_some_iff.mp H
                obtain ⟨t119, A160, H⟩ := H
                replace H : (if t119 = true then (if x4_1 ≥ 2 then (if x3_1.length < 17592186044416 then (clevisref02_Digit.l0 k1 a0 (x3_1 ++ [wrap64 ((wrap64 (bt a0 x4_1)) - 48)]) (wrap64 (x4_1 + 1))) else (none)) else (some (-1))) else (some (-1))) = some r := H
                have A16 := Aside0.mk A160
                clear A160
                by_cases c17 : t119 = true
                · subst c17
                  have H1 : (if x4_1 ≥ 2 then (if x3_1.length < 17592186044416 then (clevisref02_Digit.l0 k1 a0 (x3_1 ++ [wrap64 ((wrap64 (bt a0 x4_1)) - 48)]) (wrap64 (x4_1 + 1))) else (none)) else (some (-1))) = some r := by rw [if_pos rfl] at H; exact H
                  clear H
                  have H := H1
                  clear H1
                  by_cases c18 : x4_1 ≥ 2
                  · rw [if_pos c18] at H
                    have c18b0 : decide (2 ≤ x4_1) = true := decide_eq_true c18
                    clear c18
                    by_cases c20 : x3_1.length < 17592186044416
                    · rw [if_pos c20] at H
                      have LMc20 := Aside0.mk c20
                      clear c20
                      obtain ⟨y120, hy120⟩ : ∃ y_ : List Int, y_ = (x3_1 ++ [wrap64 ((wrap64 (bt a0 x4_1)) - 48)]) := ⟨_, rfl⟩
                      replace H : (clevisref02_Digit.l0 k1 a0 y120 (wrap64 (x4_1 + 1))) = some r := by first | (rw [hy120]; with_reducible exact H) | (have H2_ := (Option.bind_some _ _).symm.trans H; rw [hy120]; with_reducible exact H2_) | (have H2_ := (Option.bind_some _ _).symm.trans H; with_reducible exact H2_) | with_reducible exact H | (rw [hy120]; exact H) | exact H
                      have Ny120 := Aside0.mk hy120
                      clear hy120
                      have H' := Aside0.mk H
                      clear H
                      have p6 : 0 ≤ (x4_1 : Int) := of_decide_eq_true (by first | (with_reducible assumption) | assumption)
                      have q6 : x4_1 < (a0.size : Int) := of_decide_eq_true (by first | (with_reducible assumption) | assumption)
                      have hx6 := bt_at a0 x4_1
                      replace p6 := eq_true p6
                      replace q6 := eq_true q6
                      go_wp2_with (first | ((with_reducible refine gate_callee (f := 58) rfl ?_); refine goesL_ (some 21) rfl rfl Try.func58 (by kernel_rfl) rfl #[.int .u8 (bt a0 x4_1), .int .u8 65] rfl (by (try simp only [List.map_toArray, List.map_cons, List.map_nil]); first | done | rfl | (simp only [List.length_drop, List.length_take]; rfl)) ?_; (with_reducible refine (clevisref02_letter.calls (bt a0 x4_1) 65 false _ A7.out).mono ?_); rintro e w' ⟨rfl, ⟨nd, rfl⟩⟩; refine ⟨_, rfl, ?_⟩; have p15 : 0 ≤ (x4_1 : Int) := of_decide_eq_true (by first | (with_reducible assumption) | assumption); have q15 : x4_1 < (a0.size : Int) := of_decide_eq_true (by first | (with_reducible assumption) | assumption); have hx15 := bt_at a0 x4_1; replace p15 := eq_true p15; replace q15 := eq_true q15) | ((with_reducible refine gate_callee (f := 59) rfl ?_); refine goesL_ (some 38) rfl rfl Try.func59 (by kernel_rfl) rfl #[.int .u8 (bt a0 x4_1)] rfl (by (try simp only [List.map_toArray, List.map_cons, List.map_nil]); first | done | rfl | (simp only [List.length_drop, List.length_take]; rfl)) ?_; (with_reducible refine (clevisref02_digit.calls (bt a0 x4_1) true _ A16.out).mono ?_); rintro e w' ⟨rfl, ⟨nd, rfl⟩⟩; refine ⟨_, rfl, ?_⟩; have p19 : 0 ≤ (x4_1 : Int) := of_decide_eq_true (by first | (with_reducible assumption) | assumption); have q19 : x4_1 < (a0.size : Int) := of_decide_eq_true (by first | (with_reducible assumption) | assumption); have hx19 := bt_at a0 x4_1; replace p19 := eq_true p19; replace q19 := eq_true q19) | ((with_reducible refine gate_builtin (b := .append) (xs := #[.tmp 43, .tmp 49]) rfl ?_); at_builtin; refine Kd.R_append (Kd.int .i64) (w0 := w) w.heap.size rfl (.tmp 43) (.tmp 49) 49 3 (.int .i64 0) 8 rfl Try.underlying49 info3 rfl (by decide) (by omega) u3 x3_1 (wrap64 ((wrap64 (bt a0 x4_1)) - 48)) [.int .i64 (wrap64 ((wrap64 (bt a0 x4_1)) - 48))] (fun _ => True) (fun _ => False) rfl rfl ?aP (fun _ hk => hk.elim) ?aF ?aO ?aB ?aS ?aL ?_; (case aP => exact rfl); (case aB => exact (by repeat (first | (with_reducible first | exact HB.out | apply below_alloc | apply pw_below_drewN | apply below_drew1) | exact HB.out))); (case aF => exact (fun _ _ => trivial)); (case aO => exact (by (with_reducible repeat (first | apply Kd.R_alloc | apply Kd.R_drewN | apply Kd.R_drew)); exact HO_3.out)); (case aS => exact (below_size (by repeat (first | (with_reducible first | exact HB.out | apply below_alloc | apply pw_below_drewN | apply below_drew1) | exact HB.out)))); (case aL => have := LMc20.out; omega); intro v121 w21 ho hb hg hat; rw [← Ny120.out] at ho; have n0_ := Aside0.mk (hb); have n1_ := Aside0.mk (ho); clear HB; clear HO_3; have HB := n0_; have HO122 := n1_; clear n0_ n1_; clear ho hb hg hat))
                      go_roundg k1
                      case measure => have := HK1.out; omega
                      case rel => exact ⟨(y120), (wrap64 (x4_1 + 1)), (by first | rfl | (simp; done) | (simp [*]; done)), H', ⟨by have := HK1.out; omega⟩, ⟨by (with_reducible repeat (first | apply Kd.R_alloc | apply Kd.R_drewN | apply Kd.R_drew)); exact HO122.out⟩, ⟨by repeat (first | (with_reducible first | exact HB.out | apply below_alloc | apply pw_below_drewN | apply below_drew1) | exact HB.out)⟩⟩
                    · rw [if_neg c20] at H
                      exact absurd H (by simp)
                  · rw [if_neg c18] at H
                    have c18b0 : decide (2 ≤ x4_1) = false := decide_eq_false c18
                    clear c18
                    obtain rfl := Option.some.inj H
                    have p6 : 0 ≤ (x4_1 : Int) := of_decide_eq_true (by first | (with_reducible assumption) | assumption)
                    have q6 : x4_1 < (a0.size : Int) := of_decide_eq_true (by first | (with_reducible assumption) | assumption)
                    have hx6 := bt_at a0 x4_1
                    replace p6 := eq_true p6
                    replace q6 := eq_true q6
                    go_wp2_with (first | ((with_reducible refine gate_callee (f := 58) rfl ?_); refine goesL_ (some 21) rfl rfl Try.func58 (by kernel_rfl) rfl #[.int .u8 (bt a0 x4_1), .int .u8 65] rfl (by (try simp only [List.map_toArray, List.map_cons, List.map_nil]); first | done | rfl | (simp only [List.length_drop, List.length_take]; rfl)) ?_; (with_reducible refine (clevisref02_letter.calls (bt a0 x4_1) 65 false _ A7.out).mono ?_); rintro e w' ⟨rfl, ⟨nd, rfl⟩⟩; refine ⟨_, rfl, ?_⟩; have p15 : 0 ≤ (x4_1 : Int) := of_decide_eq_true (by first | (with_reducible assumption) | assumption); have q15 : x4_1 < (a0.size : Int) := of_decide_eq_true (by first | (with_reducible assumption) | assumption); have hx15 := bt_at a0 x4_1; replace p15 := eq_true p15; replace q15 := eq_true q15) | ((with_reducible refine gate_callee (f := 59) rfl ?_); refine goesL_ (some 38) rfl rfl Try.func59 (by kernel_rfl) rfl #[.int .u8 (bt a0 x4_1)] rfl (by (try simp only [List.map_toArray, List.map_cons, List.map_nil]); first | done | rfl | (simp only [List.length_drop, List.length_take]; rfl)) ?_; (with_reducible refine (clevisref02_digit.calls (bt a0 x4_1) true _ A16.out).mono ?_); rintro e w' ⟨rfl, ⟨nd, rfl⟩⟩; refine ⟨_, rfl, ?_⟩))
                    go_ret
                    exact ⟨by first | rfl | (simp [errW_none, errW_some] <;> rfl) | (simp [*, errW_none, errW_some] <;> rfl), by repeat (first | (with_reducible first | exact HB.out | apply below_alloc | apply pw_below_drewN | apply below_drew1) | exact HB.out)⟩
                · replace c17 := Bool.eq_false_iff.mpr c17
                  subst c17
                  have H1 : (some (-1)) = some r := by rw [if_neg (show ¬ (false = true) by decide)] at H; exact H
                  clear H
                  have H := H1
                  clear H1
                  obtain rfl := Option.some.inj H
                  have p6 : 0 ≤ (x4_1 : Int) := of_decide_eq_true (by first | (with_reducible assumption) | assumption)
                  have q6 : x4_1 < (a0.size : Int) := of_decide_eq_true (by first | (with_reducible assumption) | assumption)
                  have hx6 := bt_at a0 x4_1
                  replace p6 := eq_true p6
                  replace q6 := eq_true q6
                  go_wp2_with (first | ((with_reducible refine gate_callee (f := 58) rfl ?_); refine goesL_ (some 21) rfl rfl Try.func58 (by kernel_rfl) rfl #[.int .u8 (bt a0 x4_1), .int .u8 65] rfl (by (try simp only [List.map_toArray, List.map_cons, List.map_nil]); first | done | rfl | (simp only [List.length_drop, List.length_take]; rfl)) ?_; (with_reducible refine (clevisref02_letter.calls (bt a0 x4_1) 65 false _ A7.out).mono ?_); rintro e w' ⟨rfl, ⟨nd, rfl⟩⟩; refine ⟨_, rfl, ?_⟩; have p15 : 0 ≤ (x4_1 : Int) := of_decide_eq_true (by first | (with_reducible assumption) | assumption); have q15 : x4_1 < (a0.size : Int) := of_decide_eq_true (by first | (with_reducible assumption) | assumption); have hx15 := bt_at a0 x4_1; replace p15 := eq_true p15; replace q15 := eq_true q15) | ((with_reducible refine gate_callee (f := 59) rfl ?_); refine goesL_ (some 38) rfl rfl Try.func59 (by kernel_rfl) rfl #[.int .u8 (bt a0 x4_1)] rfl (by (try simp only [List.map_toArray, List.map_cons, List.map_nil]); first | done | rfl | (simp only [List.length_drop, List.length_take]; rfl)) ?_; (with_reducible refine (clevisref02_digit.calls (bt a0 x4_1) false _ A16.out).mono ?_); rintro e w' ⟨rfl, ⟨nd, rfl⟩⟩; refine ⟨_, rfl, ?_⟩))
                  go_ret
                  exact ⟨by first | rfl | (simp [errW_none, errW_some] <;> rfl) | (simp [*, errW_none, errW_some] <;> rfl), by repeat (first | (with_reducible first | exact HB.out | apply below_alloc | apply pw_below_drewN | apply below_drew1) | exact HB.out)⟩
            · rw [if_neg c5] at H
              exact absurd H (by simp)
          · rw [if_neg c4] at H
            exact absurd H (by simp)
        · rw [if_neg c3] at H
          have c3b0 : decide (x4_1 < 11) = false := decide_eq_false c3
          clear c3
          have H' := Aside0.mk H
          clear H
          go_wp2
          (try simp only [Act.put, List.setIfInBounds_toArray, List.set_cons_zero, List.set_cons_succ])
          go_loopg [6, 7] k1 (fun kq v6 v7 w' => ∃ (x6_2 : Int) (x7_2 : Int), v6 = .int .i64 x6_2 ∧ v7 = .int .i64 x7_2 ∧ Aside0 (clevisref02_Digit.l1 kq x3_1 x6_2 x7_2 = some r) ∧ Aside0 (kq ≤ k1) ∧ Aside0 (Kd.R (Kd.int .i64) 3 w' w.heap.size (fun _ => True) u3 x3_1) ∧ Aside0 (Below w.heap.size w w'))
          case atStart => exact ⟨(0), (0), (by first | rfl | (simp; done) | (simp [*]; done)), (by first | rfl | (simp; done) | (simp [*]; done)), H', ⟨Nat.le_refl _⟩, ⟨by (with_reducible repeat (first | apply Kd.R_alloc | apply Kd.R_drewN | apply Kd.R_drew)); exact HO_3.out⟩, ⟨by repeat (first | (with_reducible first | exact HB.out | apply below_alloc | apply pw_below_drewN | apply below_drew1) | exact HB.out)⟩⟩
          case round =>
            clear H'
            try clear c1
            try clear p1
            try clear q1
            try clear hx1
            try clear c2
            try clear c2b0
            try clear c2b1
            try clear p2
            try clear c3
            try clear c3b0
            try clear c4
            try clear c4b0
            try clear c5
            try clear c5b0
            try clear p6
            try clear q6
            try clear hx6
            try clear c8
            try clear p9
            try clear q9
            try clear hx9
            try clear c10
            try clear p15
            try clear q15
            try clear hx15
            try clear c17
            try clear c18
            try clear c18b0
            try clear p19
            try clear q19
            try clear hx19
            try clear c20
            try clear p15
            try clear p19
            try clear p2
            try clear p6
            try clear p9
            try clear q15
            try clear q19
            try clear q6
            try clear q9
            obtain ⟨x6_2, x7_2, rfl, rfl, HA, HK2, HO_3, HB⟩ := hrel
            cases gk with
            | zero => exact absurd HA.out (by simp [clevisref02_Digit.l1])
            | succ k2 =>
              have H := HA.out
              clear HA
              simp only [clevisref02_Digit.l1] at H
              by_cases c22 : x7_2 < (x3_1.length : Int)
              · rw [if_pos c22] at H
                have c22b0 : decide (x7_2 < (x3_1.length : Int)) = true := decide_eq_true c22
                clear c22
                by_cases c23 : 0 ≤ x7_2
                · rw [if_pos c23] at H
                  have c23b0 : decide (0 ≤ x7_2) = true := decide_eq_true c23
                  clear c23
                  by_cases c24 : (Int.tmod (wrap64 ((x3_1.length : Int) - x7_2)) 2) = 1
                  · rw [if_pos c24] at H
                    have c24b0 : ((Int.tmod (wrap64 ((x3_1.length : Int) - x7_2)) 2) == 1) = true := beq_iff_eq.mpr c24
                    have c24b1 : ((Int.tmod (wrap64 ((x3_1.length : Int) - x7_2)) 2) != 1) = false := bne_eq_false_iff_eq.mpr c24
                    clear c24
                    by_cases c25 : (wrap64 (2 * (rd x3_1 x7_2))) > 9
                    · rw [if_pos c25] at H
                      have c25b0 : decide (9 < (wrap64 (2 * (rd x3_1 x7_2)))) = true := decide_eq_true c25
                      clear c25
                      have H' := Aside0.mk H
                      clear H
                      obtain ⟨Ao26, co26, eo26⟩ := Kd.R_slice HO_3.out
                      subst eo26
                      have p123 : 0 ≤ (x7_2 : Int) := of_decide_eq_true (by first | (with_reducible assumption) | assumption)
                      have q123 : x7_2 < (x3_1.length : Int) := of_decide_eq_true (by first | (with_reducible assumption) | assumption)
                      obtain ⟨ad123, e123, hx123_0⟩ := Kd.at_int (Kd.R_reads' HO_3.out).2.2 x7_2 p123 q123
                      cases e123
                      replace p123 := eq_true p123
                      replace q123 := eq_true q123
                      go_wp2
                      go_roundg k2
                      case measure => have := HK1.out; have := HK2.out; omega
                      case rel => exact ⟨(wrap64 (x6_2 + (wrap64 ((wrap64 (2 * (rd x3_1 x7_2))) - 9)))), (wrap64 (x7_2 + 1)), (by first | rfl | (simp; done) | (simp [*]; done)), (by first | rfl | (simp; done) | (simp [*]; done)), H', ⟨by have := HK1.out; have := HK2.out; omega⟩, ⟨by (with_reducible repeat (first | apply Kd.R_alloc | apply Kd.R_drewN | apply Kd.R_drew)); exact HO_3.out⟩, ⟨by repeat (first | (with_reducible first | exact HB.out | apply below_alloc | apply pw_below_drewN | apply below_drew1) | exact HB.out)⟩⟩
                    · rw [if_neg c25] at H
                      have c25b0 : decide (9 < (wrap64 (2 * (rd x3_1 x7_2)))) = false := decide_eq_false c25
                      clear c25
                      have H' := Aside0.mk H
                      clear H
                      obtain ⟨Ao27, co27, eo27⟩ := Kd.R_slice HO_3.out
                      subst eo27
                      have p123 : 0 ≤ (x7_2 : Int) := of_decide_eq_true (by first | (with_reducible assumption) | assumption)
                      have q123 : x7_2 < (x3_1.length : Int) := of_decide_eq_true (by first | (with_reducible assumption) | assumption)
                      obtain ⟨ad123, e123, hx123_0⟩ := Kd.at_int (Kd.R_reads' HO_3.out).2.2 x7_2 p123 q123
                      cases e123
                      replace p123 := eq_true p123
                      replace q123 := eq_true q123
                      go_wp2
                      go_roundg k2
                      case measure => have := HK1.out; have := HK2.out; omega
                      case rel => exact ⟨(wrap64 (x6_2 + (wrap64 (2 * (rd x3_1 x7_2))))), (wrap64 (x7_2 + 1)), (by first | rfl | (simp; done) | (simp [*]; done)), (by first | rfl | (simp; done) | (simp [*]; done)), H', ⟨by have := HK1.out; have := HK2.out; omega⟩, ⟨by (with_reducible repeat (first | apply Kd.R_alloc | apply Kd.R_drewN | apply Kd.R_drew)); exact HO_3.out⟩, ⟨by repeat (first | (with_reducible first | exact HB.out | apply below_alloc | apply pw_below_drewN | apply below_drew1) | exact HB.out)⟩⟩
                  · rw [if_neg c24] at H
                    have c24b0 : ((Int.tmod (wrap64 ((x3_1.length : Int) - x7_2)) 2) == 1) = false := beq_eq_false_iff_ne.mpr c24
                    have c24b1 : ((Int.tmod (wrap64 ((x3_1.length : Int) - x7_2)) 2) != 1) = true := bne_iff_ne.mpr c24
                    have H' := Aside0.mk H
                    clear H
                    obtain ⟨Ao28, co28, eo28⟩ := Kd.R_slice HO_3.out
                    subst eo28
                    have p123 : 0 ≤ (x7_2 : Int) := of_decide_eq_true (by first | (with_reducible assumption) | assumption)
                    have q123 : x7_2 < (x3_1.length : Int) := of_decide_eq_true (by first | (with_reducible assumption) | assumption)
                    obtain ⟨ad123, e123, hx123_0⟩ := Kd.at_int (Kd.R_reads' HO_3.out).2.2 x7_2 p123 q123
                    cases e123
                    replace p123 := eq_true p123
                    replace q123 := eq_true q123
                    go_wp2
                    go_roundg k2
                    case measure => have := HK1.out; have := HK2.out; omega
                    case rel => exact ⟨(wrap64 (x6_2 + (rd x3_1 x7_2))), (wrap64 (x7_2 + 1)), (by first | rfl | (simp; done) | (simp [*]; done)), (by first | rfl | (simp; done) | (simp [*]; done)), H', ⟨by have := HK1.out; have := HK2.out; omega⟩, ⟨by (with_reducible repeat (first | apply Kd.R_alloc | apply Kd.R_drewN | apply Kd.R_drew)); exact HO_3.out⟩, ⟨by repeat (first | (with_reducible first | exact HB.out | apply below_alloc | apply pw_below_drewN | apply below_drew1) | exact HB.out)⟩⟩
                · rw [if_neg c23] at H
                  exact absurd H (by simp)
              · rw [if_neg c22] at H
                have c22b0 : decide (x7_2 < (x3_1.length : Int)) = false := decide_eq_false c22
                clear c22
                have H' := Aside0.mk H
                clear H
                obtain ⟨Ao29, co29, eo29⟩ := Kd.R_slice HO_3.out
                subst eo29
                go_wp2
                (try simp only [Act.put, List.setIfInBounds_toArray, List.set_cons_zero, List.set_cons_succ])
                go_loopg [9] k2 (fun kq v9 w' => ∃ (x9_3 : Int), v9 = .int .i64 x9_3 ∧ Aside0 (clevisref02_Digit.l2 kq x6_2 x9_3 = some r) ∧ Aside0 (kq ≤ k2) ∧ Aside0 (Below w.heap.size w w'))
                case atStart => exact ⟨(0), (by first | rfl | (simp; done) | (simp [*]; done)), H', ⟨Nat.le_refl _⟩, ⟨by repeat (first | (with_reducible first | exact HB.out | apply below_alloc | apply pw_below_drewN | apply below_drew1) | exact HB.out)⟩⟩
                case round =>
                  clear H'
                  try clear c1
                  try clear p1
                  try clear q1
                  try clear hx1
                  try clear c2
                  try clear c2b0
                  try clear c2b1
                  try clear p2
                  try clear c3
                  try clear c3b0
                  try clear c4
                  try clear c4b0
                  try clear c5
                  try clear c5b0
                  try clear p6
                  try clear q6
                  try clear hx6
                  try clear c8
                  try clear p9
                  try clear q9
                  try clear hx9
                  try clear c10
                  try clear p12
                  try clear q12
                  try clear hx12
                  try clear p15
                  try clear q15
                  try clear hx15
                  try clear c17
                  try clear c18
                  try clear c18b0
                  try clear p19
                  try clear q19
                  try clear hx19
                  try clear c20
                  try clear c22
                  try clear c22b0
                  try clear c23
                  try clear c23b0
                  try clear c24
                  try clear c24b0
                  try clear c24b1
                  try clear c25
                  try clear c25b0
                  try clear c26
                  try clear hx123_0
                  try clear p1
                  try clear p123
                  try clear p15
                  try clear p19
                  try clear p2
                  try clear p6
                  try clear p9
                  try clear q1
                  try clear q123
                  try clear q15
                  try clear q19
                  try clear q6
                  try clear q9
                  obtain ⟨x9_3, rfl, HA, HK3, HB⟩ := hrel
                  cases gk with
                  | zero => exact absurd HA.out (by simp [clevisref02_Digit.l2])
                  | succ k3 =>
                    have H := HA.out
                    clear HA
                    simp only [clevisref02_Digit.l2] at H
                    by_cases c30 : x9_3 < 10
                    · rw [if_pos c30] at H
                      have c30b0 : decide (x9_3 < 10) = true := decide_eq_true c30
                      clear c30
                      by_cases c31 : (Int.tmod (wrap64 (x6_2 + x9_3)) 10) = 0
                      · rw [if_pos c31] at H
                        have c31b0 : ((Int.tmod (wrap64 (x6_2 + x9_3)) 10) == 0) = true := beq_iff_eq.mpr c31
                        have c31b1 : ((Int.tmod (wrap64 (x6_2 + x9_3)) 10) != 0) = false := bne_eq_false_iff_eq.mpr c31
                        clear c31
                        obtain rfl := Option.some.inj H
                        go_wp2
                        go_ret
                        exact ⟨by first | rfl | (simp [errW_none, errW_some] <;> rfl) | (simp [*, errW_none, errW_some] <;> rfl), by repeat (first | (with_reducible first | exact HB.out | apply below_alloc | apply pw_below_drewN | apply below_drew1) | exact HB.out)⟩
                      · rw [if_neg c31] at H
                        have c31b0 : ((Int.tmod (wrap64 (x6_2 + x9_3)) 10) == 0) = false := beq_eq_false_iff_ne.mpr c31
                        have c31b1 : ((Int.tmod (wrap64 (x6_2 + x9_3)) 10) != 0) = true := bne_iff_ne.mpr c31
                        have H' := Aside0.mk H
                        clear H
                        go_wp2
                        go_roundg k3
                        case measure => have := HK1.out; have := HK2.out; have := HK3.out; omega
                        case rel => exact ⟨(wrap64 (x9_3 + 1)), (by first | rfl | (simp; done) | (simp [*]; done)), H', ⟨by have := HK1.out; have := HK2.out; have := HK3.out; omega⟩, ⟨by repeat (first | (with_reducible first | exact HB.out | apply below_alloc | apply pw_below_drewN | apply below_drew1) | exact HB.out)⟩⟩
                    · rw [if_neg c30] at H
                      have c30b0 : decide (x9_3 < 10) = false := decide_eq_false c30
                      clear c30
                      obtain rfl := Option.some.inj H
                      go_wp2
                      go_ret
                      exact ⟨by first | rfl | (simp [errW_none, errW_some] <;> rfl) | (simp [*, errW_none, errW_some] <;> rfl), by repeat (first | (with_reducible first | exact HB.out | apply below_alloc | apply pw_below_drewN | apply below_drew1) | exact HB.out)⟩
  · rw [if_neg c2] at H
    have c2b0 : ((a0.size : Int) == 11) = false := beq_eq_false_iff_ne.mpr c2
    have c2b1 : ((a0.size : Int) != 11) = true := bne_iff_ne.mpr c2
    obtain rfl := Option.some.inj H
    go_enter Try.func26, Try.ntmps26
    go_wp2
    go_ret
    exact ⟨by first | rfl | (simp [errW_none, errW_some] <;> rfl) | (simp [*, errW_none, errW_some] <;> rfl), by repeat (first | (with_reducible first | exact HB.out | apply below_alloc | apply pw_below_drewN | apply below_drew1) | exact HB.out)⟩

end Go.Proofs.Ytebdjhgboeadgaa.Id
