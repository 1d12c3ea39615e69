/- Texts of this seat, put together (Zt11). -/
import Derived.Deep.DeepCutAuto
import Derived.Deep.CutBlock
import Derived.Test.YtjbbigodkhnokaaDoorZt5
import Derived.Test.YtjbbigodkhnokaaDoorZt8
import Derived.Test.YtjbbigodkhnokaaDoorZt10
section
namespace Go.Proofs.YtjbbigodkhnokaaDoor.Ck
set_option linter.unusedSimpArgs false
set_option linter.unusedVariables false
open Go Go.RowKit Go.Proofs.YtjbbigodkhnokaaDoorW.PrintWords Go.Proofs.YtjbbigodkhnokaaDoorW.PrintLast Go.Proofs.YtjbbigodkhnokaaDoorW.PrintMore Go.Proofs.YtjbbigodkhnokaaDoor.Hd Go.Proofs.YtjbbigodkhnokaaDoor.Tr Go.Proofs.YtjbbigodkhnokaaDoor.Or
open Go.Proofs.YtjbbigodkhnokaaDoor.Nu (I64 U64 num Num num_open Cs dig narrow_c mul_c dig_len neg)
theorem len64 {x : Int} (h : I64 x) : (dig x).length ≤ 4 := dig_len (by unfold I64 at h; rw [Nu.B4]; omega)
set_option maxRecDepth 100000 in
set_option maxHeartbeats 2000000 in
theorem value_c {w : World} (x : S30) (h4 : I64 x.f4) (h5 : I64 x.f5) : Gives Tryd.prog 8 #[.agg #[.int .i64 x.f0, .string x.f1, .string x.f2, .string x.f3, .int .i64 x.f4, .int .i64 x.f5]] w (Num (x.f4 * x.f5)) := by
  have hu30 := Tryd.underlying30
  have hu26 := Tryd.underlying26
  have l4 := Aside0.mk (Nat.le_trans (len64 h4) (show 4 ≤ 400000 by decide))
  have l5 := Aside0.mk (Nat.le_trans (len64 h5) (show 4 ≤ 400000 by decide))
  replace h4 := Aside0.mk h4
  replace h5 := Aside0.mk h5
  unfold Gives
  go_enter Tryd.func8, Tryd.ntmps8
  have H := ((All.start w).box w.heap.size 30 #[.int .i64 x.f0, .string x.f1, .string x.f2, .string x.f3, .int .i64 x.f4, .int .i64 x.f5]).box (w.heap.size + 1) 26 #[.bool false, .slice none 0 0]
  go_upto_region 1 with fail
  refine planD_ [7] (true, [([], []), ([0], [0]), ([1], [1]), ([], []), ([3], [3]), ([4, 2], [4]), ([2, 5, 5], [2, 5]), ([6, 6, 0, 1, 2, 3, 4, 5, 6], [6])]) [.p 0, .t 1, .p 3, .t 4, .c 2, .c 5, .c 6, .l 7] H (by kernel_rfl) (by kernel_rfl) rfl rfl (by kernel_rfl) (by intro c a w d v h; cases d <;> exact h) (fun w1 H => ?_)
  refine pl_P (h := ?_)
  refine pl_L 1 4 H rfl (h := ?_)
  refine pl_P (h := ?_)
  refine pl_L 1 5 H rfl (h := ?_)
  refine pl_G (narrow_c h4.out) H Tryd.func24 (h := fun v w2 H z2 => ?_)
  obtain ⟨A1, c1, rfl, hc1, hR1⟩ := num_open (H.get 0 rfl)
  replace H := H.turn 0 rfl hR1
  unfold num
  refine pl_G (narrow_c h5.out) H Tryd.func24 (h := fun v w3 H z3 => ?_)
  obtain ⟨A2, c2, rfl, hc2, hR2⟩ := num_open (H.get 0 rfl)
  replace H := H.turn 0 rfl hR2
  unfold num
  refine pl_G (mul_c (H.get 1 rfl) hc1 (H.get 0 rfl) hc2 l4.out l5.out) H Tryd.func23 (h := fun v w4 H z4 => ?_)
  obtain ⟨A3, c3, rfl, hc3, hR3⟩ := num_open (H.get 0 rfl)
  replace H := H.turn 0 rfl hR3
  unfold num
  have r := H.rd 3 rfl
  have z := H.fz 3 rfl
  refine pl_WL ((H.set 3 rfl 0 (.bool (neg (x.f4 * x.f5)))).set 3 rfl 1 (.slice A3 (dig (x.f4 * x.f5)).length c3)) (fun H => ?_)
  refine pl_done ?_
  apply_assumption
  go_wp2
  exact H.ret 3 rfl rfl rfl hu26 rfl (by kernel_rfl) rfl ⟨_, rfl, H.old, Nu.num_mk hc3 ((H.get 0 rfl).out (in_le z4))⟩
def c28 (x : S30) : S28 := ⟨x.f0, x.f1, x.f2, x.f3, x.f4, x.f5⟩
theorem orL_cmp (x y : S30) : orL [cmpI x.f0 y.f0, cmpS x.f1 y.f1, cmpS x.f2 y.f2, cmpS x.f3 y.f3, cmpI x.f4 y.f4, cmpI x.f5 y.f5] = cmpT (c28 x) (c28 y) := by
  unfold cmpT lex c28
  simp only [orL]
  (repeat' split) <;> simp_all
theorem number_t {w : World} (a b : Int) : Tells Tryd.prog 37 #[.int .i64 a, .int .i64 b] w (.int .i64 (cmpI a b)) :=
  (clevisref07_number.calls a b _ w (by unfold clevisref07_number.f cmpI; (repeat' split) <;> rfl)).mono fun e w' ⟨he, hd⟩ => ⟨he, hd.below⟩
theorem text_t {w : World} (a b : ByteArray) : Tells Tryd.prog 38 #[.string a, .string b] w (.int .i64 (cmpS a b)) :=
  (clevisref07_text.calls a b _ w rfl).mono fun e w' ⟨he, hd⟩ => ⟨he, hd.below⟩
set_option maxRecDepth 100000 in
set_option maxHeartbeats 4000000 in
theorem compare_c {w : World} (x y : S30) : Tells Tryd.prog 19 #[.agg #[.int .i64 x.f0, .string x.f1, .string x.f2, .string x.f3, .int .i64 x.f4, .int .i64 x.f5], .agg #[.int .i64 y.f0, .string y.f1, .string y.f2, .string y.f3, .int .i64 y.f4, .int .i64 y.f5]] w (.int .i64 (cmpT (c28 x) (c28 y))) := by
  have hu30 := Tryd.underlying30
  have hu69 := Tryd.underlying69
  have hR := orL_cmp x y
  unfold Tells
  go_enter Tryd.func19, Tryd.ntmps19
  have H := ((All.start w).box w.heap.size 30 #[.int .i64 x.f0, .string x.f1, .string x.f2, .string x.f3, .int .i64 x.f4, .int .i64 x.f5]).box (w.heap.size + 1) 30 #[.int .i64 y.f0, .string y.f1, .string y.f2, .string y.f3, .int .i64 y.f4, .int .i64 y.f5]
  have c0 := fun w => number_t (w := w) x.f0 y.f0
  have c1 := fun w => text_t (w := w) x.f1 y.f1
  have c2 := fun w => text_t (w := w) x.f2 y.f2
  have c3 := fun w => text_t (w := w) x.f3 y.f3
  have c4 := fun w => number_t (w := w) x.f4 y.f4
  have c5 := fun w => number_t (w := w) x.f5 y.f5
  obtain ⟨q0, hq0⟩ : ∃ q, cmpI x.f0 y.f0 = q := ⟨_, rfl⟩
  rw [hq0] at hR c0
  obtain ⟨q1, hq1⟩ : ∃ q, cmpS x.f1 y.f1 = q := ⟨_, rfl⟩
  rw [hq1] at hR c1
  obtain ⟨q2, hq2⟩ : ∃ q, cmpS x.f2 y.f2 = q := ⟨_, rfl⟩
  rw [hq2] at hR c2
  obtain ⟨q3, hq3⟩ : ∃ q, cmpS x.f3 y.f3 = q := ⟨_, rfl⟩
  rw [hq3] at hR c3
  obtain ⟨q4, hq4⟩ : ∃ q, cmpI x.f4 y.f4 = q := ⟨_, rfl⟩
  rw [hq4] at hR c4
  obtain ⟨q5, hq5⟩ : ∃ q, cmpI x.f5 y.f5 = q := ⟨_, rfl⟩
  rw [hq5] at hR c5
  clear hq0 hq1 hq2 hq3 hq4 hq5
  replace hR := Aside0.mk hR
  go_upto_region 1 with fail
  go_cut [5] (fun s5 wx => ∃ b : Nat, s5 = .pointer (some ⟨b, 0, none⟩) ∧ All w wx [bx b 69 #[.int .i64 q0, .int .i64 q1, .int .i64 q2, .int .i64 q3, .int .i64 q4, .int .i64 q5]])
  case first =>
    refine planT_ (true, [([], []), ([0], [0]), ([], []), ([2], [2]), ([1, 3], [1, 3]), ([], []), ([5], [5]), ([], []), ([7], [7]), ([6, 8, 4], [6, 8]), ([], []), ([10], [10]), ([], []), ([12], [12]), ([11, 13, 9], [11, 13]), ([], []), ([15], [15]), ([], []), ([17], [17]), ([16, 18, 14], [16, 18]), ([], []), ([20], [20]), ([], []), ([22], [22]), ([21, 23, 19], [21, 23]), ([], []), ([25], [25]), ([], []), ([27], [27]), ([26, 28, 24], [26, 28]), ([4, 9, 14, 19, 24, 29], [4, 9, 14, 19, 24, 29]), ([], []), ([31, 30, 29, 0, 1, 2, 3, 4, 5, 6, 7, 8, 9, 10, 11, 12, 13, 14, 15, 16, 17, 18, 19, 20, 21, 22, 23, 24, 25, 26, 27, 28, 29, 30, 31], [30, 31])]) (.fork [.p 0, .t 1, .p 2, .t 3, .p 5, .t 6, .p 7, .t 8, .p 10, .t 11, .p 12, .t 13, .p 15, .t 16, .p 17, .t 18, .p 20, .t 21, .p 22, .t 23, .p 25, .t 26, .p 27, .t 28] 4 31 (.fork [] 9 31 (.fork [] 14 31 (.fork [] 19 31 (.fork [] 24 31 (.fork [] 29 31 (.leaf [.p 30, .c 31, .c 32]) (.leaf [.c 29, .p 30, .c 32])) (.leaf [.c 24, .c 29, .p 30, .c 32])) (.leaf [.c 19, .c 24, .c 29, .p 30, .c 32])) (.leaf [.c 14, .c 19, .c 24, .c 29, .p 30, .c 32])) (.leaf [.c 9, .c 14, .c 19, .c 24, .c 29, .p 30, .c 32])) (.leaf [.c 4, .c 9, .c 14, .c 19, .c 24, .c 29, .p 30, .c 32])) H (by kernel_rfl) (by kernel_rfl) rfl rfl (by kernel_rfl) (by intro c a w d v h; cases d <;> exact h) (fun w2 H => ?_)
    refine pl_fork ?_
    refine pl_P (h := ?_)
    refine pl_L 1 0 H rfl (h := ?_)
    refine pl_P (h := ?_)
    refine pl_L 0 0 H rfl (h := ?_)
    refine pl_P (h := ?_)
    refine pl_L 1 1 H rfl (h := ?_)
    refine pl_P (h := ?_)
    refine pl_L 0 1 H rfl (h := ?_)
    refine pl_P (h := ?_)
    refine pl_L 1 2 H rfl (h := ?_)
    refine pl_P (h := ?_)
    refine pl_L 0 2 H rfl (h := ?_)
    refine pl_P (h := ?_)
    refine pl_L 1 3 H rfl (h := ?_)
    refine pl_P (h := ?_)
    refine pl_L 0 3 H rfl (h := ?_)
    refine pl_P (h := ?_)
    refine pl_L 1 4 H rfl (h := ?_)
    refine pl_P (h := ?_)
    refine pl_L 0 4 H rfl (h := ?_)
    refine pl_P (h := ?_)
    refine pl_L 1 5 H rfl (h := ?_)
    refine pl_P (h := ?_)
    refine pl_L 0 5 H rfl (h := ?_)
    refine pl_done ⟨?_, ?_⟩
    · refine pl_S (c0 _) H Tryd.func37 (h := fun w11 H => ?_)
      refine pl_done (pl_fork ?_)
      refine pl_done ⟨?_, ?_⟩
      · refine pl_S (c1 _) H Tryd.func38 (h := fun w12 H => ?_)
        refine pl_done (pl_fork ?_)
        refine pl_done ⟨?_, ?_⟩
        · refine pl_S (c2 _) H Tryd.func38 (h := fun w13 H => ?_)
          refine pl_done (pl_fork ?_)
          refine pl_done ⟨?_, ?_⟩
          · refine pl_S (c3 _) H Tryd.func38 (h := fun w14 H => ?_)
            refine pl_done (pl_fork ?_)
            refine pl_done ⟨?_, ?_⟩
            · refine pl_S (c4 _) H Tryd.func37 (h := fun w15 H => ?_)
              refine pl_done (pl_fork ?_)
              refine pl_done ⟨?_, ?_⟩
              · refine pl_S (c5 _) H Tryd.func37 (h := fun w16 H => ?_)
                refine pl_done (pl_leaf ?_)
                refine pl_P (h := ?_)
                have zb : w.heap.size ≤ w16.heap.size := H.old.size
                refine pl_R (H.box w16.heap.size 69 #[.int .i64 0, .int .i64 0, .int .i64 0, .int .i64 0, .int .i64 0, .int .i64 0]) (fun H => ?_)
                refine pl_WR 0 #[.int .i64 q0, .int .i64 q1, .int .i64 q2, .int .i64 q3, .int .i64 q4, .int .i64 q5] H rfl zb (fun H => ?_) (by kernel_rfl) rfl
                refine pl_done ?_
                go_wp2_with fail
                go_meet
                exact ⟨_, rfl, H.sub (by simp)⟩
              · have zb : w.heap.size ≤ w15.heap.size := H.old.size
                refine pl_R (H.box w15.heap.size 69 #[.int .i64 0, .int .i64 0, .int .i64 0, .int .i64 0, .int .i64 0, .int .i64 0]) (fun H => ?_)
                refine pl_done (pl_leaf ?_)
                refine pl_S (c5 _) H Tryd.func37 (h := fun w16 H => ?_)
                refine pl_P (h := ?_)
                refine pl_WR 0 #[.int .i64 q0, .int .i64 q1, .int .i64 q2, .int .i64 q3, .int .i64 q4, .int .i64 q5] H rfl zb (fun H => ?_) (by kernel_rfl) rfl
                refine pl_done ?_
                go_wp2_with fail
                go_meet
                exact ⟨_, rfl, H.sub (by simp)⟩
            · have zb : w.heap.size ≤ w14.heap.size := H.old.size
              refine pl_R (H.box w14.heap.size 69 #[.int .i64 0, .int .i64 0, .int .i64 0, .int .i64 0, .int .i64 0, .int .i64 0]) (fun H => ?_)
              refine pl_done (pl_leaf ?_)
              refine pl_S (c4 _) H Tryd.func37 (h := fun w15 H => ?_)
              refine pl_S (c5 _) H Tryd.func37 (h := fun w16 H => ?_)
              refine pl_P (h := ?_)
              refine pl_WR 0 #[.int .i64 q0, .int .i64 q1, .int .i64 q2, .int .i64 q3, .int .i64 q4, .int .i64 q5] H rfl zb (fun H => ?_) (by kernel_rfl) rfl
              refine pl_done ?_
              go_wp2_with fail
              go_meet
              exact ⟨_, rfl, H.sub (by simp)⟩
          · have zb : w.heap.size ≤ w13.heap.size := H.old.size
            refine pl_R (H.box w13.heap.size 69 #[.int .i64 0, .int .i64 0, .int .i64 0, .int .i64 0, .int .i64 0, .int .i64 0]) (fun H => ?_)
            refine pl_done (pl_leaf ?_)
            refine pl_S (c3 _) H Tryd.func38 (h := fun w14 H => ?_)
            refine pl_S (c4 _) H Tryd.func37 (h := fun w15 H => ?_)
            refine pl_S (c5 _) H Tryd.func37 (h := fun w16 H => ?_)
            refine pl_P (h := ?_)
            refine pl_WR 0 #[.int .i64 q0, .int .i64 q1, .int .i64 q2, .int .i64 q3, .int .i64 q4, .int .i64 q5] H rfl zb (fun H => ?_) (by kernel_rfl) rfl
            refine pl_done ?_
            go_wp2_with fail
            go_meet
            exact ⟨_, rfl, H.sub (by simp)⟩
        · have zb : w.heap.size ≤ w12.heap.size := H.old.size
          refine pl_R (H.box w12.heap.size 69 #[.int .i64 0, .int .i64 0, .int .i64 0, .int .i64 0, .int .i64 0, .int .i64 0]) (fun H => ?_)
          refine pl_done (pl_leaf ?_)
          refine pl_S (c2 _) H Tryd.func38 (h := fun w13 H => ?_)
          refine pl_S (c3 _) H Tryd.func38 (h := fun w14 H => ?_)
          refine pl_S (c4 _) H Tryd.func37 (h := fun w15 H => ?_)
          refine pl_S (c5 _) H Tryd.func37 (h := fun w16 H => ?_)
          refine pl_P (h := ?_)
          refine pl_WR 0 #[.int .i64 q0, .int .i64 q1, .int .i64 q2, .int .i64 q3, .int .i64 q4, .int .i64 q5] H rfl zb (fun H => ?_) (by kernel_rfl) rfl
          refine pl_done ?_
          go_wp2_with fail
          go_meet
          exact ⟨_, rfl, H.sub (by simp)⟩
      · have zb : w.heap.size ≤ w11.heap.size := H.old.size
        refine pl_R (H.box w11.heap.size 69 #[.int .i64 0, .int .i64 0, .int .i64 0, .int .i64 0, .int .i64 0, .int .i64 0]) (fun H => ?_)
        refine pl_done (pl_leaf ?_)
        refine pl_S (c1 _) H Tryd.func38 (h := fun w12 H => ?_)
        refine pl_S (c2 _) H Tryd.func38 (h := fun w13 H => ?_)
        refine pl_S (c3 _) H Tryd.func38 (h := fun w14 H => ?_)
        refine pl_S (c4 _) H Tryd.func37 (h := fun w15 H => ?_)
        refine pl_S (c5 _) H Tryd.func37 (h := fun w16 H => ?_)
        refine pl_P (h := ?_)
        refine pl_WR 0 #[.int .i64 q0, .int .i64 q1, .int .i64 q2, .int .i64 q3, .int .i64 q4, .int .i64 q5] H rfl zb (fun H => ?_) (by kernel_rfl) rfl
        refine pl_done ?_
        go_wp2_with fail
        go_meet
        exact ⟨_, rfl, H.sub (by simp)⟩
    · have zb : w.heap.size ≤ w2.heap.size := H.old.size
      refine pl_R (H.box w2.heap.size 69 #[.int .i64 0, .int .i64 0, .int .i64 0, .int .i64 0, .int .i64 0, .int .i64 0]) (fun H => ?_)
      refine pl_done (pl_leaf ?_)
      refine pl_S (c0 _) H Tryd.func37 (h := fun w11 H => ?_)
      refine pl_S (c1 _) H Tryd.func38 (h := fun w12 H => ?_)
      refine pl_S (c2 _) H Tryd.func38 (h := fun w13 H => ?_)
      refine pl_S (c3 _) H Tryd.func38 (h := fun w14 H => ?_)
      refine pl_S (c4 _) H Tryd.func37 (h := fun w15 H => ?_)
      refine pl_S (c5 _) H Tryd.func37 (h := fun w16 H => ?_)
      refine pl_P (h := ?_)
      refine pl_WR 0 #[.int .i64 q0, .int .i64 q1, .int .i64 q2, .int .i64 q3, .int .i64 q4, .int .i64 q5] H rfl zb (fun H => ?_) (by kernel_rfl) rfl
      refine pl_done ?_
      go_wp2_with fail
      go_meet
      exact ⟨_, rfl, H.sub (by simp)⟩
  case rest =>
    clear H c0 c1 c2 c3 c4 c5
    obtain ⟨b, rfl, H⟩ := hcut
    go_wp2_with fail
    go_loopg [6] 7 (fun kq v6 w' => ∃ k : Nat, v6 = .int .i64 (k : Int) ∧ Aside0 (k ≤ 6 ∧ kq = 7 - k ∧ orL ([q0, q1, q2, q3, q4, q5].drop k) = cmpT (c28 x) (c28 y)) ∧ All w w' [bx b 69 #[.int .i64 q0, .int .i64 q1, .int .i64 q2, .int .i64 q3, .int .i64 q4, .int .i64 q5]])
    case atStart => exact ⟨0, rfl, ⟨by omega, rfl, hR.out⟩, H⟩
    case round =>
      clear H hR
      obtain ⟨k, rfl, hk, H⟩ := hrel
      have hk4 : k = 0 ∨ k = 1 ∨ k = 2 ∨ k = 3 ∨ k = 4 ∨ k = 5 ∨ k = 6 := by have := hk.out; omega
      have r := H.rd 0 rfl
      rcases hk4 with rfl | rfl | rfl | rfl | rfl | rfl | rfl
      · obtain rfl : gk = 7 := hk.out.2.1
        have hd : orL (q0 :: [q1, q2, q3, q4, q5]) = _ := hk.out.2.2
        clear hk
        rw [orL] at hd
        by_cases e : q0 = 0
        · rw [if_pos e] at hd
          subst e
          replace hd := Aside0.mk hd
          go_wp2_with fail
          go_roundg 6
          case measure => omega
          case rel => exact ⟨1, rfl, ⟨by omega, rfl, hd.out⟩, H⟩
        · rw [if_neg e] at hd
          have e2 : (q0 != 0) = true := by simpa using e
          replace hd := Aside0.mk hd
          clear e
          go_wp2
          go_ret
          exact ⟨by rw [← hd.out]; rfl, H.old⟩
      · obtain rfl : gk = 6 := hk.out.2.1
        have hd : orL (q1 :: [q2, q3, q4, q5]) = _ := hk.out.2.2
        clear hk
        rw [orL] at hd
        by_cases e : q1 = 0
        · rw [if_pos e] at hd
          subst e
          replace hd := Aside0.mk hd
          go_wp2_with fail
          go_roundg 5
          case measure => omega
          case rel => exact ⟨2, rfl, ⟨by omega, rfl, hd.out⟩, H⟩
        · rw [if_neg e] at hd
          have e2 : (q1 != 0) = true := by simpa using e
          replace hd := Aside0.mk hd
          clear e
          go_wp2
          go_ret
          exact ⟨by rw [← hd.out]; rfl, H.old⟩
      · obtain rfl : gk = 5 := hk.out.2.1
        have hd : orL (q2 :: [q3, q4, q5]) = _ := hk.out.2.2
        clear hk
        rw [orL] at hd
        by_cases e : q2 = 0
        · rw [if_pos e] at hd
          subst e
          replace hd := Aside0.mk hd
          go_wp2_with fail
          go_roundg 4
          case measure => omega
          case rel => exact ⟨3, rfl, ⟨by omega, rfl, hd.out⟩, H⟩
        · rw [if_neg e] at hd
          have e2 : (q2 != 0) = true := by simpa using e
          replace hd := Aside0.mk hd
          clear e
          go_wp2
          go_ret
          exact ⟨by rw [← hd.out]; rfl, H.old⟩
      · obtain rfl : gk = 4 := hk.out.2.1
        have hd : orL (q3 :: [q4, q5]) = _ := hk.out.2.2
        clear hk
        rw [orL] at hd
        by_cases e : q3 = 0
        · rw [if_pos e] at hd
          subst e
          replace hd := Aside0.mk hd
          go_wp2_with fail
          go_roundg 3
          case measure => omega
          case rel => exact ⟨4, rfl, ⟨by omega, rfl, hd.out⟩, H⟩
        · rw [if_neg e] at hd
          have e2 : (q3 != 0) = true := by simpa using e
          replace hd := Aside0.mk hd
          clear e
          go_wp2
          go_ret
          exact ⟨by rw [← hd.out]; rfl, H.old⟩
      · obtain rfl : gk = 3 := hk.out.2.1
        have hd : orL (q4 :: [q5]) = _ := hk.out.2.2
        clear hk
        rw [orL] at hd
        by_cases e : q4 = 0
        · rw [if_pos e] at hd
          subst e
          replace hd := Aside0.mk hd
          go_wp2_with fail
          go_roundg 2
          case measure => omega
          case rel => exact ⟨5, rfl, ⟨by omega, rfl, hd.out⟩, H⟩
        · rw [if_neg e] at hd
          have e2 : (q4 != 0) = true := by simpa using e
          replace hd := Aside0.mk hd
          clear e
          go_wp2
          go_ret
          exact ⟨by rw [← hd.out]; rfl, H.old⟩
      · obtain rfl : gk = 2 := hk.out.2.1
        have hd : orL (q5 :: []) = _ := hk.out.2.2
        clear hk
        rw [orL] at hd
        by_cases e : q5 = 0
        · rw [if_pos e] at hd
          subst e
          replace hd := Aside0.mk hd
          go_wp2_with fail
          go_roundg 1
          case measure => omega
          case rel => exact ⟨6, rfl, ⟨by omega, rfl, hd.out⟩, H⟩
        · rw [if_neg e] at hd
          have e2 : (q5 != 0) = true := by simpa using e
          replace hd := Aside0.mk hd
          clear e
          go_wp2
          go_ret
          exact ⟨by rw [← hd.out]; rfl, H.old⟩
      · have hd : orL [] = _ := hk.out.2.2
        replace hd := Aside0.mk hd
        clear hk
        go_wp2
        go_ret
        exact ⟨by rw [← hd.out]; rfl, H.old⟩
end Go.Proofs.YtjbbigodkhnokaaDoor.Ck
end
