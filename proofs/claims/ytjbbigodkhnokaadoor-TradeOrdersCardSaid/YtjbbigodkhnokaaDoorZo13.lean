/- Texts of this seat, put together (Zo13). -/
import Derived.Deep.DeepCutAuto
import Derived.Deep.CutBlock
import Derived.Test.YtjbbigodkhnokaaDoorZo9
import Derived.Test.YtjbbigodkhnokaaDoorZo10
import Derived.Test.YtjbbigodkhnokaaDoorZo12
section
namespace Go.Proofs.YtjbbigodkhnokaaDoor.Ot
set_option linter.unusedSimpArgs false
set_option linter.unusedVariables false
open Go Go.RowKit Go.Proofs.YtjbbigodkhnokaaDoorW.PrintWords Go.Proofs.YtjbbigodkhnokaaDoorW.PrintLast Go.Proofs.YtjbbigodkhnokaaDoorW.PrintMore Go.Proofs.YtjbbigodkhnokaaDoor.Hd Go.Proofs.YtjbbigodkhnokaaDoor.Tr Go.Proofs.YtjbbigodkhnokaaDoor.Or
theorem to_c (x : S30) : ∃ X : S28, ∀ w, Tells Tryd.prog 6 #[.agg #[.int .i64 x.f0, .string x.f1, .string x.f2, .string x.f3, .int .i64 x.f4, .int .i64 x.f5]] w (.agg #[.int .i64 X.f0, .string X.f1, .string X.f2, .string X.f3, .int .i64 X.f4, .int .i64 X.f5]) :=
  ⟨⟨x.f0, x.f1.extract 0 (mn (x.f1.size : Int) 40).toNat, x.f2.extract 0 (mn (x.f2.size : Int) 40).toNat, x.f3.extract 0 (mn (x.f3.size : Int) 40).toNat, x.f4, x.f5⟩, fun w => clevislaw07_To.calls _ _ _ _ _ _ _ _ _ _ _ _ w (to_some _ _ _ _ _ _)⟩
theorem cmp_c {w : World} (x y : S28) : Tells Tryd.prog 18 #[.agg #[.int .i64 x.f0, .string x.f1, .string x.f2, .string x.f3, .int .i64 x.f4, .int .i64 x.f5], .agg #[.int .i64 y.f0, .string y.f1, .string y.f2, .string y.f3, .int .i64 y.f4, .int .i64 y.f5]] w (.int .i64 (cmpT x y)) := trade_Compare.calls 10 _ _ _ _ _ _ _ _ _ _ _ _ _ w (compare_f x y)
theorem P012 {w0 w : World} {f0 f1 f2 : F2} {L : List F2} (H : All w0 w (f0 :: f1 :: f2 :: L)) : All w0 w (f0 :: f1 :: f2 :: L) := H
theorem P021 {w0 w : World} {f0 f1 f2 : F2} {L : List F2} (H : All w0 w (f0 :: f2 :: f1 :: L)) : All w0 w (f0 :: f1 :: f2 :: L) := H.perm (.cons _ (.swap _ _ _))
theorem P102 {w0 w : World} {f0 f1 f2 : F2} {L : List F2} (H : All w0 w (f1 :: f0 :: f2 :: L)) : All w0 w (f0 :: f1 :: f2 :: L) := H.swap
theorem P120 {w0 w : World} {f0 f1 f2 : F2} {L : List F2} (H : All w0 w (f2 :: f0 :: f1 :: L)) : All w0 w (f0 :: f1 :: f2 :: L) := H.perm ((List.Perm.swap _ _ _).trans (.cons _ (.swap _ _ _)))
theorem P201 {w0 w : World} {f0 f1 f2 : F2} {L : List F2} (H : All w0 w (f1 :: f2 :: f0 :: L)) : All w0 w (f0 :: f1 :: f2 :: L) := H.perm ((List.Perm.cons _ (.swap _ _ _)).trans (.swap _ _ _))
theorem P210 {w0 w : World} {f0 f1 f2 : F2} {L : List F2} (H : All w0 w (f2 :: f1 :: f0 :: L)) : All w0 w (f0 :: f1 :: f2 :: L) := H.perm ((List.Perm.swap _ _ _).trans ((List.Perm.cons _ (.swap _ _ _)).trans (.swap _ _ _)))
set_option maxRecDepth 100000 in
set_option maxHeartbeats 8000000 in
theorem walk0 (x y z : S30) (w : World) : Calls Tryd.prog 5 #[.agg #[.int .i64 x.f0, .string x.f1, .string x.f2, .string x.f3, .int .i64 x.f4, .int .i64 x.f5], .agg #[.int .i64 y.f0, .string y.f1, .string y.f2, .string y.f3, .int .i64 y.f4, .int .i64 y.f5], .agg #[.int .i64 z.f0, .string z.f1, .string z.f2, .string z.f3, .int .i64 z.f4, .int .i64 z.f5]] w fun e w' => e = .returned (.bool true) ∧ Below w.heap.size w w' := by
  have hu28 := Tryd.underlying28
  have hu30 := Tryd.underlying30
  have hu51 := Tryd.underlying51
  obtain ⟨X, hX⟩ := to_c x
  obtain ⟨Y, hY⟩ := to_c y
  obtain ⟨Z, hZ⟩ := to_c z
  replace hX := Aside0.mk hX
  replace hY := Aside0.mk hY
  replace hZ := Aside0.mk hZ
  go_enter Tryd.func5, Tryd.ntmps5
  have H := (((All.start w).box w.heap.size 30 #[.int .i64 x.f0, .string x.f1, .string x.f2, .string x.f3, .int .i64 x.f4, .int .i64 x.f5]).box (w.heap.size + 1) 30 #[.int .i64 y.f0, .string y.f1, .string y.f2, .string y.f3, .int .i64 y.f4, .int .i64 y.f5]).box (w.heap.size + 1 + 1) 30 #[.int .i64 z.f0, .string z.f1, .string z.f2, .string z.f3, .int .i64 z.f4, .int .i64 z.f5]
  go_upto_region 1 with fail
  go_cut [7] (fun s7 wx => ∃ b : Nat, s7 = .pointer (some ⟨b, 0, none⟩) ∧ Aside0 (w.heap.size ≤ b) ∧ All w wx [bx b 51 #[.int .i64 X.f0, .string X.f1, .string X.f2, .string X.f3, .int .i64 X.f4, .int .i64 X.f5, .int .i64 Y.f0, .string Y.f1, .string Y.f2, .string Y.f3, .int .i64 Y.f4, .int .i64 Y.f5, .int .i64 Z.f0, .string Z.f1, .string Z.f2, .string Z.f3, .int .i64 Z.f4, .int .i64 Z.f5]])
  case first =>
    refine planT_ (true, [([], []), ([0], [0]), ([], []), ([2, 1], [2]), ([], []), ([4, 3], [4]), ([1, 3, 5], [1, 3, 5]), ([], []), ([7, 6, 5, 0, 1, 2, 3, 4, 5, 6, 7], [6, 7])]) (.fork [.t 0, .t 2, .t 4] 1 7 (.fork [] 3 7 (.fork [] 5 7 (.leaf [.p 6, .c 7, .c 8]) (.leaf [.c 5, .p 6, .c 8])) (.leaf [.c 3, .c 5, .p 6, .c 8])) (.leaf [.c 1, .c 3, .c 5, .p 6, .c 8])) H (by kernel_rfl) (by kernel_rfl) rfl rfl (by kernel_rfl) (by intro c a w d v h; cases d <;> exact h) (fun w2 H => ?_)
    refine pl_fork ?_
    refine pl_B 2 H rfl (h := ?_)
    refine pl_B 1 H rfl (h := ?_)
    refine pl_B 0 H rfl (h := ?_)
    refine pl_done ⟨?_, ?_⟩
    · refine pl_S (hX.out _) H Tryd.func6 (h := fun w11 H => ?_)
      refine pl_done (pl_fork ?_)
      refine pl_done ⟨?_, ?_⟩
      · refine pl_S (hY.out _) H Tryd.func6 (h := fun w12 H => ?_)
        refine pl_done (pl_fork ?_)
        refine pl_done ⟨?_, ?_⟩
        · refine pl_S (hZ.out _) H Tryd.func6 (h := fun w13 H => ?_)
          refine pl_done (pl_leaf ?_)
          refine pl_P (h := ?_)
          have zb : w.heap.size ≤ w13.heap.size := H.old.size
          refine pl_R (H.box w13.heap.size 51 #[.int .i64 0, .string ⟨#[]⟩, .string ⟨#[]⟩, .string ⟨#[]⟩, .int .i64 0, .int .i64 0, .int .i64 0, .string ⟨#[]⟩, .string ⟨#[]⟩, .string ⟨#[]⟩, .int .i64 0, .int .i64 0, .int .i64 0, .string ⟨#[]⟩, .string ⟨#[]⟩, .string ⟨#[]⟩, .int .i64 0, .int .i64 0]) (fun H => ?_)
          refine pl_WR 0 #[.int .i64 X.f0, .string X.f1, .string X.f2, .string X.f3, .int .i64 X.f4, .int .i64 X.f5, .int .i64 Y.f0, .string Y.f1, .string Y.f2, .string Y.f3, .int .i64 Y.f4, .int .i64 Y.f5, .int .i64 Z.f0, .string Z.f1, .string Z.f2, .string Z.f3, .int .i64 Z.f4, .int .i64 Z.f5] H rfl zb (fun H => ?_) (by kernel_rfl) rfl
          refine pl_done ?_
          go_wp2_with fail
          go_meet
          exact ⟨_, rfl, ⟨zb⟩, H.sub (by simp)⟩
        · have zb : w.heap.size ≤ w12.heap.size := H.old.size
          refine pl_R (H.box w12.heap.size 51 #[.int .i64 0, .string ⟨#[]⟩, .string ⟨#[]⟩, .string ⟨#[]⟩, .int .i64 0, .int .i64 0, .int .i64 0, .string ⟨#[]⟩, .string ⟨#[]⟩, .string ⟨#[]⟩, .int .i64 0, .int .i64 0, .int .i64 0, .string ⟨#[]⟩, .string ⟨#[]⟩, .string ⟨#[]⟩, .int .i64 0, .int .i64 0]) (fun H => ?_)
          refine pl_done (pl_leaf ?_)
          refine pl_S (hZ.out _) H Tryd.func6 (h := fun w13 H => ?_)
          refine pl_P (h := ?_)
          refine pl_WR 0 #[.int .i64 X.f0, .string X.f1, .string X.f2, .string X.f3, .int .i64 X.f4, .int .i64 X.f5, .int .i64 Y.f0, .string Y.f1, .string Y.f2, .string Y.f3, .int .i64 Y.f4, .int .i64 Y.f5, .int .i64 Z.f0, .string Z.f1, .string Z.f2, .string Z.f3, .int .i64 Z.f4, .int .i64 Z.f5] H rfl zb (fun H => ?_) (by kernel_rfl) rfl
          refine pl_done ?_
          go_wp2_with fail
          go_meet
          exact ⟨_, rfl, ⟨zb⟩, H.sub (by simp)⟩
      · have zb : w.heap.size ≤ w11.heap.size := H.old.size
        refine pl_R (H.box w11.heap.size 51 #[.int .i64 0, .string ⟨#[]⟩, .string ⟨#[]⟩, .string ⟨#[]⟩, .int .i64 0, .int .i64 0, .int .i64 0, .string ⟨#[]⟩, .string ⟨#[]⟩, .string ⟨#[]⟩, .int .i64 0, .int .i64 0, .int .i64 0, .string ⟨#[]⟩, .string ⟨#[]⟩, .string ⟨#[]⟩, .int .i64 0, .int .i64 0]) (fun H => ?_)
        refine pl_done (pl_leaf ?_)
        refine pl_S (hY.out _) H Tryd.func6 (h := fun w12 H => ?_)
        refine pl_S (hZ.out _) H Tryd.func6 (h := fun w13 H => ?_)
        refine pl_P (h := ?_)
        refine pl_WR 0 #[.int .i64 X.f0, .string X.f1, .string X.f2, .string X.f3, .int .i64 X.f4, .int .i64 X.f5, .int .i64 Y.f0, .string Y.f1, .string Y.f2, .string Y.f3, .int .i64 Y.f4, .int .i64 Y.f5, .int .i64 Z.f0, .string Z.f1, .string Z.f2, .string Z.f3, .int .i64 Z.f4, .int .i64 Z.f5] H rfl zb (fun H => ?_) (by kernel_rfl) rfl
        refine pl_done ?_
        go_wp2_with fail
        go_meet
        exact ⟨_, rfl, ⟨zb⟩, H.sub (by simp)⟩
    · have zb : w.heap.size ≤ w2.heap.size := H.old.size
      refine pl_R (H.box w2.heap.size 51 #[.int .i64 0, .string ⟨#[]⟩, .string ⟨#[]⟩, .string ⟨#[]⟩, .int .i64 0, .int .i64 0, .int .i64 0, .string ⟨#[]⟩, .string ⟨#[]⟩, .string ⟨#[]⟩, .int .i64 0, .int .i64 0, .int .i64 0, .string ⟨#[]⟩, .string ⟨#[]⟩, .string ⟨#[]⟩, .int .i64 0, .int .i64 0]) (fun H => ?_)
      refine pl_done (pl_leaf ?_)
      refine pl_S (hX.out _) H Tryd.func6 (h := fun w11 H => ?_)
      refine pl_S (hY.out _) H Tryd.func6 (h := fun w12 H => ?_)
      refine pl_S (hZ.out _) H Tryd.func6 (h := fun w13 H => ?_)
      refine pl_P (h := ?_)
      refine pl_WR 0 #[.int .i64 X.f0, .string X.f1, .string X.f2, .string X.f3, .int .i64 X.f4, .int .i64 X.f5, .int .i64 Y.f0, .string Y.f1, .string Y.f2, .string Y.f3, .int .i64 Y.f4, .int .i64 Y.f5, .int .i64 Z.f0, .string Z.f1, .string Z.f2, .string Z.f3, .int .i64 Z.f4, .int .i64 Z.f5] H rfl zb (fun H => ?_) (by kernel_rfl) rfl
      refine pl_done ?_
      go_wp2_with fail
      go_meet
      exact ⟨_, rfl, ⟨zb⟩, H.sub (by simp)⟩
  case rest =>
    obtain ⟨b, rfl, hb, H⟩ := hcut
    have m1 : (wrap64 1).tmod 3 = 1 := by kernel_rfl
    have m2 : (wrap64 2).tmod 3 = 2 := by kernel_rfl
    have m3 : (wrap64 3).tmod 3 = 0 := by kernel_rfl
    have m4 : (wrap64 4).tmod 3 = 1 := by kernel_rfl
    clear hX hY hZ
    go_wp2_with fail
    go_loopg [8] 4 (fun kq v8 w' => ∃ k : Nat, v8 = .int .i64 (k : Int) ∧ Aside0 (k ≤ 3 ∧ kq = 4 - k) ∧ All w w' [bx b 51 #[.int .i64 X.f0, .string X.f1, .string X.f2, .string X.f3, .int .i64 X.f4, .int .i64 X.f5, .int .i64 Y.f0, .string Y.f1, .string Y.f2, .string Y.f3, .int .i64 Y.f4, .int .i64 Y.f5, .int .i64 Z.f0, .string Z.f1, .string Z.f2, .string Z.f3, .int .i64 Z.f4, .int .i64 Z.f5]])
    case atStart => exact ⟨0, rfl, ⟨by omega, rfl⟩, H⟩
    case round =>
      clear H
      obtain ⟨k, rfl, hk, H⟩ := hrel
      have hk4 : k = 0 ∨ k = 1 ∨ k = 2 ∨ k = 3 := by have := hk.out; omega
      rcases hk4 with rfl | rfl | rfl | rfl
      · obtain rfl : gk = 4 := hk.out.2
        clear hk
        go_upto_region 5 with fail
        go_cut [9, 10, 11] (fun s9 s10 s11 wx => ∃ b9 b10 b11 : Nat, s9 = .pointer (some ⟨b9, 0, none⟩) ∧ s10 = .pointer (some ⟨b10, 0, none⟩) ∧ s11 = .pointer (some ⟨b11, 0, none⟩) ∧ All w wx [bx b9 28 #[.int .i64 X.f0, .string X.f1, .string X.f2, .string X.f3, .int .i64 X.f4, .int .i64 X.f5], bx b10 28 #[.int .i64 Y.f0, .string Y.f1, .string Y.f2, .string Y.f3, .int .i64 Y.f4, .int .i64 Y.f5], bx b11 28 #[.int .i64 Z.f0, .string Z.f1, .string Z.f2, .string Z.f3, .int .i64 Z.f4, .int .i64 Z.f5], bx b 51 #[.int .i64 X.f0, .string X.f1, .string X.f2, .string X.f3, .int .i64 X.f4, .int .i64 X.f5, .int .i64 Y.f0, .string Y.f1, .string Y.f2, .string Y.f3, .int .i64 Y.f4, .int .i64 Y.f5, .int .i64 Z.f0, .string Z.f1, .string Z.f2, .string Z.f3, .int .i64 Z.f4, .int .i64 Z.f5]])
        case first =>
          refine planT_ (true, [([], []), ([0], [0]), ([1], [1]), ([], []), ([3], [3]), ([4], [4]), ([5], [5]), ([6], [6]), ([], []), ([8], [8]), ([9], [9]), ([10], [10]), ([11], [11]), ([], []), ([], []), ([], []), ([13, 2, 0, 1, 2, 13, 14, 15], [2, 13]), ([14, 7, 16, 0, 1, 2, 3, 4, 5, 6, 7, 13, 14, 15, 16], [7, 14]), ([15, 12, 17, 0, 1, 2, 3, 4, 5, 6, 7, 8, 9, 10, 11, 12, 13, 14, 15, 16, 17], [12, 15])]) (.fork3 [.p 0, .p 1, .t 2, .p 3, .p 4, .p 5, .p 6, .t 7, .p 8, .p 9, .p 10, .p 11, .t 12] 13 14 15 (.fork [] 14 15 (.leaf [.c 15, .c 16, .c 17, .c 18]) (.leaf [.c 14, .c 16, .c 17, .c 18])) (.fork [] 13 15 (.leaf [.c 15, .c 16, .c 17, .c 18]) (.leaf [.c 13, .c 16, .c 17, .c 18])) (.fork [] 13 14 (.leaf [.c 14, .c 16, .c 17, .c 18]) (.leaf [.c 13, .c 16, .c 17, .c 18]))) H (by kernel_rfl) (by kernel_rfl) rfl rfl (by kernel_rfl) (by intro c a w d v h; cases d <;> exact h) (fun w5 H => ?_)
          have z5 : w.heap.size ≤ w5.heap.size := H.old.size
          refine pl_fork3 ?_
          refine pl_P (h := ?_)
          refine pl_P (h := ?_)
          refine pl_B 0 H rfl (h := ?_)
          refine pl_P (h := ?_)
          refine pl_P (h := ?_)
          refine pl_P (h := ?_)
          refine pl_P (h := ?_)
          refine pl_B 0 H rfl (h := ?_)
          refine pl_P (h := ?_)
          refine pl_P (h := ?_)
          refine pl_P (h := ?_)
          refine pl_P (h := ?_)
          refine pl_B 0 H rfl (h := ?_)
          refine pl_done ⟨?_, ?_, ?_⟩
          · have zb9 : w.heap.size ≤ w5.heap.size := by have := z5; omega
            refine pl_R (H.box (w5.heap.size) 28 #[.int .i64 0, .string ⟨#[]⟩, .string ⟨#[]⟩, .string ⟨#[]⟩, .int .i64 0, .int .i64 0]) (fun H => ?_)
            refine pl_done (pl_fork ?_)
            refine pl_done ⟨?_, ?_⟩
            · have zb10 : w.heap.size ≤ w5.heap.size + 1 := by have := z5; omega
              refine pl_R (H.box (w5.heap.size + 1) 28 #[.int .i64 0, .string ⟨#[]⟩, .string ⟨#[]⟩, .string ⟨#[]⟩, .int .i64 0, .int .i64 0]) (fun H => ?_)
              refine pl_done (pl_leaf ?_)
              have zb11 : w.heap.size ≤ w5.heap.size + 1 + 1 := by have := z5; omega
              refine pl_R (H.box (w5.heap.size + 1 + 1) 28 #[.int .i64 0, .string ⟨#[]⟩, .string ⟨#[]⟩, .string ⟨#[]⟩, .int .i64 0, .int .i64 0]) (fun H => ?_)
              refine pl_WR 2 #[.int .i64 X.f0, .string X.f1, .string X.f2, .string X.f3, .int .i64 X.f4, .int .i64 X.f5] H rfl zb9 (fun H => ?_) (by kernel_rfl) rfl
              refine pl_WR 1 #[.int .i64 Y.f0, .string Y.f1, .string Y.f2, .string Y.f3, .int .i64 Y.f4, .int .i64 Y.f5] H rfl zb10 (fun H => ?_) (by kernel_rfl) rfl
              refine pl_WR 0 #[.int .i64 Z.f0, .string Z.f1, .string Z.f2, .string Z.f3, .int .i64 Z.f4, .int .i64 Z.f5] H rfl zb11 (fun H => ?_) (by kernel_rfl) rfl
              refine pl_done ?_
              go_wp2_with fail
              go_meet
              exact ⟨_, _, _, rfl, rfl, rfl, P210 H⟩
            · have zb11 : w.heap.size ≤ w5.heap.size + 1 := by have := z5; omega
              refine pl_R (H.box (w5.heap.size + 1) 28 #[.int .i64 0, .string ⟨#[]⟩, .string ⟨#[]⟩, .string ⟨#[]⟩, .int .i64 0, .int .i64 0]) (fun H => ?_)
              refine pl_done (pl_leaf ?_)
              have zb10 : w.heap.size ≤ w5.heap.size + 1 + 1 := by have := z5; omega
              refine pl_R (H.box (w5.heap.size + 1 + 1) 28 #[.int .i64 0, .string ⟨#[]⟩, .string ⟨#[]⟩, .string ⟨#[]⟩, .int .i64 0, .int .i64 0]) (fun H => ?_)
              refine pl_WR 2 #[.int .i64 X.f0, .string X.f1, .string X.f2, .string X.f3, .int .i64 X.f4, .int .i64 X.f5] H rfl zb9 (fun H => ?_) (by kernel_rfl) rfl
              refine pl_WR 0 #[.int .i64 Y.f0, .string Y.f1, .string Y.f2, .string Y.f3, .int .i64 Y.f4, .int .i64 Y.f5] H rfl zb10 (fun H => ?_) (by kernel_rfl) rfl
              refine pl_WR 1 #[.int .i64 Z.f0, .string Z.f1, .string Z.f2, .string Z.f3, .int .i64 Z.f4, .int .i64 Z.f5] H rfl zb11 (fun H => ?_) (by kernel_rfl) rfl
              refine pl_done ?_
              go_wp2_with fail
              go_meet
              exact ⟨_, _, _, rfl, rfl, rfl, P201 H⟩
          · have zb10 : w.heap.size ≤ w5.heap.size := by have := z5; omega
            refine pl_R (H.box (w5.heap.size) 28 #[.int .i64 0, .string ⟨#[]⟩, .string ⟨#[]⟩, .string ⟨#[]⟩, .int .i64 0, .int .i64 0]) (fun H => ?_)
            refine pl_done (pl_fork ?_)
            refine pl_done ⟨?_, ?_⟩
            · have zb9 : w.heap.size ≤ w5.heap.size + 1 := by have := z5; omega
              refine pl_R (H.box (w5.heap.size + 1) 28 #[.int .i64 0, .string ⟨#[]⟩, .string ⟨#[]⟩, .string ⟨#[]⟩, .int .i64 0, .int .i64 0]) (fun H => ?_)
              refine pl_done (pl_leaf ?_)
              have zb11 : w.heap.size ≤ w5.heap.size + 1 + 1 := by have := z5; omega
              refine pl_R (H.box (w5.heap.size + 1 + 1) 28 #[.int .i64 0, .string ⟨#[]⟩, .string ⟨#[]⟩, .string ⟨#[]⟩, .int .i64 0, .int .i64 0]) (fun H => ?_)
              refine pl_WR 1 #[.int .i64 X.f0, .string X.f1, .string X.f2, .string X.f3, .int .i64 X.f4, .int .i64 X.f5] H rfl zb9 (fun H => ?_) (by kernel_rfl) rfl
              refine pl_WR 2 #[.int .i64 Y.f0, .string Y.f1, .string Y.f2, .string Y.f3, .int .i64 Y.f4, .int .i64 Y.f5] H rfl zb10 (fun H => ?_) (by kernel_rfl) rfl
              refine pl_WR 0 #[.int .i64 Z.f0, .string Z.f1, .string Z.f2, .string Z.f3, .int .i64 Z.f4, .int .i64 Z.f5] H rfl zb11 (fun H => ?_) (by kernel_rfl) rfl
              refine pl_done ?_
              go_wp2_with fail
              go_meet
              exact ⟨_, _, _, rfl, rfl, rfl, P120 H⟩
            · have zb11 : w.heap.size ≤ w5.heap.size + 1 := by have := z5; omega
              refine pl_R (H.box (w5.heap.size + 1) 28 #[.int .i64 0, .string ⟨#[]⟩, .string ⟨#[]⟩, .string ⟨#[]⟩, .int .i64 0, .int .i64 0]) (fun H => ?_)
              refine pl_done (pl_leaf ?_)
              have zb9 : w.heap.size ≤ w5.heap.size + 1 + 1 := by have := z5; omega
              refine pl_R (H.box (w5.heap.size + 1 + 1) 28 #[.int .i64 0, .string ⟨#[]⟩, .string ⟨#[]⟩, .string ⟨#[]⟩, .int .i64 0, .int .i64 0]) (fun H => ?_)
              refine pl_WR 0 #[.int .i64 X.f0, .string X.f1, .string X.f2, .string X.f3, .int .i64 X.f4, .int .i64 X.f5] H rfl zb9 (fun H => ?_) (by kernel_rfl) rfl
              refine pl_WR 2 #[.int .i64 Y.f0, .string Y.f1, .string Y.f2, .string Y.f3, .int .i64 Y.f4, .int .i64 Y.f5] H rfl zb10 (fun H => ?_) (by kernel_rfl) rfl
              refine pl_WR 1 #[.int .i64 Z.f0, .string Z.f1, .string Z.f2, .string Z.f3, .int .i64 Z.f4, .int .i64 Z.f5] H rfl zb11 (fun H => ?_) (by kernel_rfl) rfl
              refine pl_done ?_
              go_wp2_with fail
              go_meet
              exact ⟨_, _, _, rfl, rfl, rfl, P021 H⟩
          · have zb11 : w.heap.size ≤ w5.heap.size := by have := z5; omega
            refine pl_R (H.box (w5.heap.size) 28 #[.int .i64 0, .string ⟨#[]⟩, .string ⟨#[]⟩, .string ⟨#[]⟩, .int .i64 0, .int .i64 0]) (fun H => ?_)
            refine pl_done (pl_fork ?_)
            refine pl_done ⟨?_, ?_⟩
            · have zb9 : w.heap.size ≤ w5.heap.size + 1 := by have := z5; omega
              refine pl_R (H.box (w5.heap.size + 1) 28 #[.int .i64 0, .string ⟨#[]⟩, .string ⟨#[]⟩, .string ⟨#[]⟩, .int .i64 0, .int .i64 0]) (fun H => ?_)
              refine pl_done (pl_leaf ?_)
              have zb10 : w.heap.size ≤ w5.heap.size + 1 + 1 := by have := z5; omega
              refine pl_R (H.box (w5.heap.size + 1 + 1) 28 #[.int .i64 0, .string ⟨#[]⟩, .string ⟨#[]⟩, .string ⟨#[]⟩, .int .i64 0, .int .i64 0]) (fun H => ?_)
              refine pl_WR 1 #[.int .i64 X.f0, .string X.f1, .string X.f2, .string X.f3, .int .i64 X.f4, .int .i64 X.f5] H rfl zb9 (fun H => ?_) (by kernel_rfl) rfl
              refine pl_WR 0 #[.int .i64 Y.f0, .string Y.f1, .string Y.f2, .string Y.f3, .int .i64 Y.f4, .int .i64 Y.f5] H rfl zb10 (fun H => ?_) (by kernel_rfl) rfl
              refine pl_WR 2 #[.int .i64 Z.f0, .string Z.f1, .string Z.f2, .string Z.f3, .int .i64 Z.f4, .int .i64 Z.f5] H rfl zb11 (fun H => ?_) (by kernel_rfl) rfl
              refine pl_done ?_
              go_wp2_with fail
              go_meet
              exact ⟨_, _, _, rfl, rfl, rfl, P102 H⟩
            · have zb10 : w.heap.size ≤ w5.heap.size + 1 := by have := z5; omega
              refine pl_R (H.box (w5.heap.size + 1) 28 #[.int .i64 0, .string ⟨#[]⟩, .string ⟨#[]⟩, .string ⟨#[]⟩, .int .i64 0, .int .i64 0]) (fun H => ?_)
              refine pl_done (pl_leaf ?_)
              have zb9 : w.heap.size ≤ w5.heap.size + 1 + 1 := by have := z5; omega
              refine pl_R (H.box (w5.heap.size + 1 + 1) 28 #[.int .i64 0, .string ⟨#[]⟩, .string ⟨#[]⟩, .string ⟨#[]⟩, .int .i64 0, .int .i64 0]) (fun H => ?_)
              refine pl_WR 0 #[.int .i64 X.f0, .string X.f1, .string X.f2, .string X.f3, .int .i64 X.f4, .int .i64 X.f5] H rfl zb9 (fun H => ?_) (by kernel_rfl) rfl
              refine pl_WR 1 #[.int .i64 Y.f0, .string Y.f1, .string Y.f2, .string Y.f3, .int .i64 Y.f4, .int .i64 Y.f5] H rfl zb10 (fun H => ?_) (by kernel_rfl) rfl
              refine pl_WR 2 #[.int .i64 Z.f0, .string Z.f1, .string Z.f2, .string Z.f3, .int .i64 Z.f4, .int .i64 Z.f5] H rfl zb11 (fun H => ?_) (by kernel_rfl) rfl
              refine pl_done ?_
              go_wp2_with fail
              go_meet
              exact ⟨_, _, _, rfl, rfl, rfl, P012 H⟩
        case rest =>
          obtain ⟨b9, b10, b11, rfl, rfl, rfl, H⟩ := hcut
          have gA := good_T.anti X Y
          have gT := good_T.trans X Y Z
          have gR := good_T.anti X X
          have cAB := fun w => cmp_c (w := w) X Y
          have cBC := fun w => cmp_c (w := w) Y Z
          have cAC := fun w => cmp_c (w := w) X Z
          have cAA := fun w => cmp_c (w := w) X X
          have cBA := fun w => cmp_c (w := w) Y X
          have gS := good_T.sgn X Y
          generalize cmpT X Y = q1 at *
          generalize cmpT Y Z = q2 at *
          generalize cmpT X Z = q3 at *
          generalize cmpT X X = q4 at *
          generalize cmpT Y X = q5 at *
          obtain rfl : q4 = 0 := by omega
          subst gA
          have e5 : wrap64 q1 = q1 := by unfold wrap64; omega
          have e6 : (q1 != q1) = false := by simp
          replace gT := Aside0.mk gT
          clear gS gR
          by_cases d1 : q1 ≤ 0
          · replace d1 := decide_eq_true d1
            by_cases d2 : q2 ≤ 0
            · have d3 : decide (q3 > 0) = false := decide_eq_false (by have := gT.out (of_decide_eq_true d1) d2; omega)
              replace d2 := decide_eq_true d2
              go_wp2_with fail
              refine planT_ (true, [([], []), ([], []), ([0, 1], [0, 1]), ([2], [2]), ([3, 2], [3]), ([4], [4]), ([4], [4]), ([5, 6, 4, 4], [4, 5, 6]), ([7, 4], [4, 7]), ([4, 8], [4, 8]), ([9, 7], [9]), ([10], [10]), ([10], [10]), ([11, 12, 10, 10], [10, 11, 12]), ([13, 10], [10, 13]), ([10, 14], [10, 14]), ([15, 13], [15]), ([16], [16]), ([16], [16]), ([17, 18, 16, 16], [16, 17, 18]), ([19, 16], [16, 19]), ([16, 20], [16, 20]), ([21, 19], [21]), ([22], [22]), ([22], [22]), ([23, 24, 22, 22], [22, 23, 24]), ([22], [22]), ([22], [22]), ([26, 27, 25, 22], [22, 26, 27]), ([28, 22], [22, 28]), ([25, 29, 22], [22, 25, 29]), ([22, 30], [22, 30])]) (.leaf [.t 0, .t 1, .c 2, .p 3, .p 4, .t 5, .t 6, .c 7, .p 8, .p 9, .p 10, .t 11, .t 12, .c 13, .p 14, .p 15, .p 16, .t 17, .t 18, .c 19, .p 20, .p 21, .p 22, .t 23, .t 24, .t 26, .t 27, .c 25, .c 28, .p 29, .p 30, .p 31]) H (by kernel_rfl) (by kernel_rfl) rfl rfl (by kernel_rfl) (by intro c a w d v h; cases d <;> exact h) (fun w6 H => ?_)
              refine pl_leaf ?_
              refine pl_B 0 H rfl (h := ?_)
              refine pl_B 1 H rfl (h := ?_)
              refine pl_S (cAB _) H Tryd.func18 (h := fun w21 H => ?_)
              refine pl_P (h := ?_)
              refine pl_P (h := ?_)
              refine pl_B 1 H rfl (h := ?_)
              refine pl_B 2 H rfl (h := ?_)
              refine pl_S (cBC _) H Tryd.func18 (h := fun w22 H => ?_)
              refine pl_P (h := ?_)
              refine pl_P (h := ?_)
              refine pl_P (h := ?_)
              refine pl_B 0 H rfl (h := ?_)
              refine pl_B 2 H rfl (h := ?_)
              refine pl_S (cAC _) H Tryd.func18 (h := fun w23 H => ?_)
              refine pl_P (h := ?_)
              refine pl_P (h := ?_)
              refine pl_P (h := ?_)
              refine pl_B 0 H rfl (h := ?_)
              refine pl_B 0 H rfl (h := ?_)
              refine pl_S (cAA _) H Tryd.func18 (h := fun w24 H => ?_)
              refine pl_P (h := ?_)
              refine pl_P (h := ?_)
              refine pl_P (h := ?_)
              refine pl_B 0 H rfl (h := ?_)
              refine pl_B 1 H rfl (h := ?_)
              refine pl_B 1 H rfl (h := ?_)
              refine pl_B 0 H rfl (h := ?_)
              refine pl_S (cAB _) H Tryd.func18 (h := fun w25 H => ?_)
              refine pl_S (cBA _) H Tryd.func18 (h := fun w26 H => ?_)
              refine pl_P (h := ?_)
              refine pl_P (h := ?_)
              refine pl_P (h := ?_)
              refine pl_done ?_
              go_wp2_with fail
              go_roundg 3
              case measure => omega
              case rel => exact ⟨1, rfl, ⟨by omega, rfl⟩, H.drop 3⟩
            · replace d2 : decide (q2 ≤ 0) = false := decide_eq_false d2
              go_wp2_with fail
              refine planT_ (true, [([], []), ([], []), ([0, 1], [0, 1]), ([2], [2]), ([3, 2], [3]), ([4], [4]), ([4], [4]), ([5, 6, 4, 4], [4, 5, 6]), ([7, 4], [4, 7]), ([4, 8], [4, 8]), ([9, 7], [9]), ([10], [10]), ([10], [10]), ([11, 12, 10, 10], [10, 11, 12]), ([13, 10], [10, 13]), ([10, 14], [10, 14]), ([15, 13], [15]), ([16], [16]), ([16], [16]), ([17, 18, 16, 16], [16, 17, 18]), ([19, 16], [16, 19]), ([16, 20], [16, 20]), ([21, 19], [21]), ([22], [22]), ([22], [22]), ([23, 24, 22, 22], [22, 23, 24]), ([22], [22]), ([22], [22]), ([26, 27, 25, 22], [22, 26, 27]), ([28, 22], [22, 28]), ([25, 29, 22], [22, 25, 29]), ([22, 30], [22, 30])]) (.leaf [.t 0, .t 1, .c 2, .p 3, .p 4, .t 5, .t 6, .c 7, .p 8, .p 9, .p 10, .t 11, .t 12, .c 13, .p 14, .p 15, .p 16, .t 17, .t 18, .c 19, .p 20, .p 21, .p 22, .t 23, .t 24, .t 26, .t 27, .c 25, .c 28, .p 29, .p 30, .p 31]) H (by kernel_rfl) (by kernel_rfl) rfl rfl (by kernel_rfl) (by intro c a w d v h; cases d <;> exact h) (fun w6 H => ?_)
              refine pl_leaf ?_
              refine pl_B 0 H rfl (h := ?_)
              refine pl_B 1 H rfl (h := ?_)
              refine pl_S (cAB _) H Tryd.func18 (h := fun w21 H => ?_)
              refine pl_P (h := ?_)
              refine pl_P (h := ?_)
              refine pl_B 1 H rfl (h := ?_)
              refine pl_B 2 H rfl (h := ?_)
              refine pl_S (cBC _) H Tryd.func18 (h := fun w22 H => ?_)
              refine pl_P (h := ?_)
              refine pl_P (h := ?_)
              refine pl_P (h := ?_)
              refine pl_kT H (h := ?_)
              refine pl_kT H (h := ?_)
              refine pl_kC H (h := ?_)
              refine pl_kP (h := ?_)
              refine pl_P (h := ?_)
              refine pl_P (h := ?_)
              refine pl_B 0 H rfl (h := ?_)
              refine pl_B 0 H rfl (h := ?_)
              refine pl_S (cAA _) H Tryd.func18 (h := fun w23 H => ?_)
              refine pl_P (h := ?_)
              refine pl_P (h := ?_)
              refine pl_P (h := ?_)
              refine pl_B 0 H rfl (h := ?_)
              refine pl_B 1 H rfl (h := ?_)
              refine pl_B 1 H rfl (h := ?_)
              refine pl_B 0 H rfl (h := ?_)
              refine pl_S (cAB _) H Tryd.func18 (h := fun w24 H => ?_)
              refine pl_S (cBA _) H Tryd.func18 (h := fun w25 H => ?_)
              refine pl_P (h := ?_)
              refine pl_P (h := ?_)
              refine pl_P (h := ?_)
              refine pl_done ?_
              go_wp2_with fail
              go_roundg 3
              case measure => omega
              case rel => exact ⟨1, rfl, ⟨by omega, rfl⟩, H.drop 3⟩
          · replace d1 : decide (q1 ≤ 0) = false := decide_eq_false d1
            go_wp2_with fail
            refine planT_ (true, [([], []), ([], []), ([0, 1], [0, 1]), ([2], [2]), ([3, 2], [3]), ([4], [4]), ([4], [4]), ([5, 6, 4, 4], [4, 5, 6]), ([7, 4], [4, 7]), ([4, 8], [4, 8]), ([9, 7], [9]), ([10], [10]), ([10], [10]), ([11, 12, 10, 10], [10, 11, 12]), ([13, 10], [10, 13]), ([10, 14], [10, 14]), ([15, 13], [15]), ([16], [16]), ([16], [16]), ([17, 18, 16, 16], [16, 17, 18]), ([19, 16], [16, 19]), ([16, 20], [16, 20]), ([21, 19], [21]), ([22], [22]), ([22], [22]), ([23, 24, 22, 22], [22, 23, 24]), ([22], [22]), ([22], [22]), ([26, 27, 25, 22], [22, 26, 27]), ([28, 22], [22, 28]), ([25, 29, 22], [22, 25, 29]), ([22, 30], [22, 30])]) (.leaf [.t 0, .t 1, .c 2, .p 3, .p 4, .t 5, .t 6, .c 7, .p 8, .p 9, .p 10, .t 11, .t 12, .c 13, .p 14, .p 15, .p 16, .t 17, .t 18, .c 19, .p 20, .p 21, .p 22, .t 23, .t 24, .t 26, .t 27, .c 25, .c 28, .p 29, .p 30, .p 31]) H (by kernel_rfl) (by kernel_rfl) rfl rfl (by kernel_rfl) (by intro c a w d v h; cases d <;> exact h) (fun w6 H => ?_)
            refine pl_leaf ?_
            refine pl_B 0 H rfl (h := ?_)
            refine pl_B 1 H rfl (h := ?_)
            refine pl_S (cAB _) H Tryd.func18 (h := fun w21 H => ?_)
            refine pl_P (h := ?_)
            refine pl_P (h := ?_)
            refine pl_kT H (h := ?_)
            refine pl_kT H (h := ?_)
            refine pl_kC H (h := ?_)
            refine pl_kP (h := ?_)
            refine pl_P (h := ?_)
            refine pl_P (h := ?_)
            refine pl_kT H (h := ?_)
            refine pl_kT H (h := ?_)
            refine pl_kC H (h := ?_)
            refine pl_kP (h := ?_)
            refine pl_P (h := ?_)
            refine pl_P (h := ?_)
            refine pl_B 0 H rfl (h := ?_)
            refine pl_B 0 H rfl (h := ?_)
            refine pl_S (cAA _) H Tryd.func18 (h := fun w22 H => ?_)
            refine pl_P (h := ?_)
            refine pl_P (h := ?_)
            refine pl_P (h := ?_)
            refine pl_B 0 H rfl (h := ?_)
            refine pl_B 1 H rfl (h := ?_)
            refine pl_B 1 H rfl (h := ?_)
            refine pl_B 0 H rfl (h := ?_)
            refine pl_S (cAB _) H Tryd.func18 (h := fun w23 H => ?_)
            refine pl_S (cBA _) H Tryd.func18 (h := fun w24 H => ?_)
            refine pl_P (h := ?_)
            refine pl_P (h := ?_)
            refine pl_P (h := ?_)
            refine pl_done ?_
            go_wp2_with fail
            go_roundg 3
            case measure => omega
            case rel => exact ⟨1, rfl, ⟨by omega, rfl⟩, H.drop 3⟩
      · obtain rfl : gk = 3 := hk.out.2
        clear hk
        go_upto_region 5 with fail
        go_cut [9, 10, 11] (fun s9 s10 s11 wx => ∃ b9 b10 b11 : Nat, s9 = .pointer (some ⟨b9, 0, none⟩) ∧ s10 = .pointer (some ⟨b10, 0, none⟩) ∧ s11 = .pointer (some ⟨b11, 0, none⟩) ∧ All w wx [bx b9 28 #[.int .i64 Y.f0, .string Y.f1, .string Y.f2, .string Y.f3, .int .i64 Y.f4, .int .i64 Y.f5], bx b10 28 #[.int .i64 Z.f0, .string Z.f1, .string Z.f2, .string Z.f3, .int .i64 Z.f4, .int .i64 Z.f5], bx b11 28 #[.int .i64 X.f0, .string X.f1, .string X.f2, .string X.f3, .int .i64 X.f4, .int .i64 X.f5], bx b 51 #[.int .i64 X.f0, .string X.f1, .string X.f2, .string X.f3, .int .i64 X.f4, .int .i64 X.f5, .int .i64 Y.f0, .string Y.f1, .string Y.f2, .string Y.f3, .int .i64 Y.f4, .int .i64 Y.f5, .int .i64 Z.f0, .string Z.f1, .string Z.f2, .string Z.f3, .int .i64 Z.f4, .int .i64 Z.f5]])
        case first =>
          refine planT_ (true, [([], []), ([0], [0]), ([1], [1]), ([], []), ([3], [3]), ([4], [4]), ([5], [5]), ([6], [6]), ([], []), ([8], [8]), ([9], [9]), ([10], [10]), ([11], [11]), ([], []), ([], []), ([], []), ([13, 2, 0, 1, 2, 13, 14, 15], [2, 13]), ([14, 7, 16, 0, 1, 2, 3, 4, 5, 6, 7, 13, 14, 15, 16], [7, 14]), ([15, 12, 17, 0, 1, 2, 3, 4, 5, 6, 7, 8, 9, 10, 11, 12, 13, 14, 15, 16, 17], [12, 15])]) (.fork3 [.p 0, .p 1, .t 2, .p 3, .p 4, .p 5, .p 6, .t 7, .p 8, .p 9, .p 10, .p 11, .t 12] 13 14 15 (.fork [] 14 15 (.leaf [.c 15, .c 16, .c 17, .c 18]) (.leaf [.c 14, .c 16, .c 17, .c 18])) (.fork [] 13 15 (.leaf [.c 15, .c 16, .c 17, .c 18]) (.leaf [.c 13, .c 16, .c 17, .c 18])) (.fork [] 13 14 (.leaf [.c 14, .c 16, .c 17, .c 18]) (.leaf [.c 13, .c 16, .c 17, .c 18]))) H (by kernel_rfl) (by kernel_rfl) rfl rfl (by kernel_rfl) (by intro c a w d v h; cases d <;> exact h) (fun w5 H => ?_)
          have z5 : w.heap.size ≤ w5.heap.size := H.old.size
          refine pl_fork3 ?_
          refine pl_P (h := ?_)
          refine pl_P (h := ?_)
          refine pl_B 0 H rfl (h := ?_)
          refine pl_P (h := ?_)
          refine pl_P (h := ?_)
          refine pl_P (h := ?_)
          refine pl_P (h := ?_)
          refine pl_B 0 H rfl (h := ?_)
          refine pl_P (h := ?_)
          refine pl_P (h := ?_)
          refine pl_P (h := ?_)
          refine pl_P (h := ?_)
          refine pl_B 0 H rfl (h := ?_)
          refine pl_done ⟨?_, ?_, ?_⟩
          · have zb9 : w.heap.size ≤ w5.heap.size := by have := z5; omega
            refine pl_R (H.box (w5.heap.size) 28 #[.int .i64 0, .string ⟨#[]⟩, .string ⟨#[]⟩, .string ⟨#[]⟩, .int .i64 0, .int .i64 0]) (fun H => ?_)
            refine pl_done (pl_fork ?_)
            refine pl_done ⟨?_, ?_⟩
            · have zb10 : w.heap.size ≤ w5.heap.size + 1 := by have := z5; omega
              refine pl_R (H.box (w5.heap.size + 1) 28 #[.int .i64 0, .string ⟨#[]⟩, .string ⟨#[]⟩, .string ⟨#[]⟩, .int .i64 0, .int .i64 0]) (fun H => ?_)
              refine pl_done (pl_leaf ?_)
              have zb11 : w.heap.size ≤ w5.heap.size + 1 + 1 := by have := z5; omega
              refine pl_R (H.box (w5.heap.size + 1 + 1) 28 #[.int .i64 0, .string ⟨#[]⟩, .string ⟨#[]⟩, .string ⟨#[]⟩, .int .i64 0, .int .i64 0]) (fun H => ?_)
              refine pl_WR 2 #[.int .i64 Y.f0, .string Y.f1, .string Y.f2, .string Y.f3, .int .i64 Y.f4, .int .i64 Y.f5] H rfl zb9 (fun H => ?_) (by kernel_rfl) rfl
              refine pl_WR 1 #[.int .i64 Z.f0, .string Z.f1, .string Z.f2, .string Z.f3, .int .i64 Z.f4, .int .i64 Z.f5] H rfl zb10 (fun H => ?_) (by kernel_rfl) rfl
              refine pl_WR 0 #[.int .i64 X.f0, .string X.f1, .string X.f2, .string X.f3, .int .i64 X.f4, .int .i64 X.f5] H rfl zb11 (fun H => ?_) (by kernel_rfl) rfl
              refine pl_done ?_
              go_wp2_with fail
              go_meet
              exact ⟨_, _, _, rfl, rfl, rfl, P210 H⟩
            · have zb11 : w.heap.size ≤ w5.heap.size + 1 := by have := z5; omega
              refine pl_R (H.box (w5.heap.size + 1) 28 #[.int .i64 0, .string ⟨#[]⟩, .string ⟨#[]⟩, .string ⟨#[]⟩, .int .i64 0, .int .i64 0]) (fun H => ?_)
              refine pl_done (pl_leaf ?_)
              have zb10 : w.heap.size ≤ w5.heap.size + 1 + 1 := by have := z5; omega
              refine pl_R (H.box (w5.heap.size + 1 + 1) 28 #[.int .i64 0, .string ⟨#[]⟩, .string ⟨#[]⟩, .string ⟨#[]⟩, .int .i64 0, .int .i64 0]) (fun H => ?_)
              refine pl_WR 2 #[.int .i64 Y.f0, .string Y.f1, .string Y.f2, .string Y.f3, .int .i64 Y.f4, .int .i64 Y.f5] H rfl zb9 (fun H => ?_) (by kernel_rfl) rfl
              refine pl_WR 0 #[.int .i64 Z.f0, .string Z.f1, .string Z.f2, .string Z.f3, .int .i64 Z.f4, .int .i64 Z.f5] H rfl zb10 (fun H => ?_) (by kernel_rfl) rfl
              refine pl_WR 1 #[.int .i64 X.f0, .string X.f1, .string X.f2, .string X.f3, .int .i64 X.f4, .int .i64 X.f5] H rfl zb11 (fun H => ?_) (by kernel_rfl) rfl
              refine pl_done ?_
              go_wp2_with fail
              go_meet
              exact ⟨_, _, _, rfl, rfl, rfl, P201 H⟩
          · have zb10 : w.heap.size ≤ w5.heap.size := by have := z5; omega
            refine pl_R (H.box (w5.heap.size) 28 #[.int .i64 0, .string ⟨#[]⟩, .string ⟨#[]⟩, .string ⟨#[]⟩, .int .i64 0, .int .i64 0]) (fun H => ?_)
            refine pl_done (pl_fork ?_)
            refine pl_done ⟨?_, ?_⟩
            · have zb9 : w.heap.size ≤ w5.heap.size + 1 := by have := z5; omega
              refine pl_R (H.box (w5.heap.size + 1) 28 #[.int .i64 0, .string ⟨#[]⟩, .string ⟨#[]⟩, .string ⟨#[]⟩, .int .i64 0, .int .i64 0]) (fun H => ?_)
              refine pl_done (pl_leaf ?_)
              have zb11 : w.heap.size ≤ w5.heap.size + 1 + 1 := by have := z5; omega
              refine pl_R (H.box (w5.heap.size + 1 + 1) 28 #[.int .i64 0, .string ⟨#[]⟩, .string ⟨#[]⟩, .string ⟨#[]⟩, .int .i64 0, .int .i64 0]) (fun H => ?_)
              refine pl_WR 1 #[.int .i64 Y.f0, .string Y.f1, .string Y.f2, .string Y.f3, .int .i64 Y.f4, .int .i64 Y.f5] H rfl zb9 (fun H => ?_) (by kernel_rfl) rfl
              refine pl_WR 2 #[.int .i64 Z.f0, .string Z.f1, .string Z.f2, .string Z.f3, .int .i64 Z.f4, .int .i64 Z.f5] H rfl zb10 (fun H => ?_) (by kernel_rfl) rfl
              refine pl_WR 0 #[.int .i64 X.f0, .string X.f1, .string X.f2, .string X.f3, .int .i64 X.f4, .int .i64 X.f5] H rfl zb11 (fun H => ?_) (by kernel_rfl) rfl
              refine pl_done ?_
              go_wp2_with fail
              go_meet
              exact ⟨_, _, _, rfl, rfl, rfl, P120 H⟩
            · have zb11 : w.heap.size ≤ w5.heap.size + 1 := by have := z5; omega
              refine pl_R (H.box (w5.heap.size + 1) 28 #[.int .i64 0, .string ⟨#[]⟩, .string ⟨#[]⟩, .string ⟨#[]⟩, .int .i64 0, .int .i64 0]) (fun H => ?_)
              refine pl_done (pl_leaf ?_)
              have zb9 : w.heap.size ≤ w5.heap.size + 1 + 1 := by have := z5; omega
              refine pl_R (H.box (w5.heap.size + 1 + 1) 28 #[.int .i64 0, .string ⟨#[]⟩, .string ⟨#[]⟩, .string ⟨#[]⟩, .int .i64 0, .int .i64 0]) (fun H => ?_)
              refine pl_WR 0 #[.int .i64 Y.f0, .string Y.f1, .string Y.f2, .string Y.f3, .int .i64 Y.f4, .int .i64 Y.f5] H rfl zb9 (fun H => ?_) (by kernel_rfl) rfl
              refine pl_WR 2 #[.int .i64 Z.f0, .string Z.f1, .string Z.f2, .string Z.f3, .int .i64 Z.f4, .int .i64 Z.f5] H rfl zb10 (fun H => ?_) (by kernel_rfl) rfl
              refine pl_WR 1 #[.int .i64 X.f0, .string X.f1, .string X.f2, .string X.f3, .int .i64 X.f4, .int .i64 X.f5] H rfl zb11 (fun H => ?_) (by kernel_rfl) rfl
              refine pl_done ?_
              go_wp2_with fail
              go_meet
              exact ⟨_, _, _, rfl, rfl, rfl, P021 H⟩
          · have zb11 : w.heap.size ≤ w5.heap.size := by have := z5; omega
            refine pl_R (H.box (w5.heap.size) 28 #[.int .i64 0, .string ⟨#[]⟩, .string ⟨#[]⟩, .string ⟨#[]⟩, .int .i64 0, .int .i64 0]) (fun H => ?_)
            refine pl_done (pl_fork ?_)
            refine pl_done ⟨?_, ?_⟩
            · have zb9 : w.heap.size ≤ w5.heap.size + 1 := by have := z5; omega
              refine pl_R (H.box (w5.heap.size + 1) 28 #[.int .i64 0, .string ⟨#[]⟩, .string ⟨#[]⟩, .string ⟨#[]⟩, .int .i64 0, .int .i64 0]) (fun H => ?_)
              refine pl_done (pl_leaf ?_)
              have zb10 : w.heap.size ≤ w5.heap.size + 1 + 1 := by have := z5; omega
              refine pl_R (H.box (w5.heap.size + 1 + 1) 28 #[.int .i64 0, .string ⟨#[]⟩, .string ⟨#[]⟩, .string ⟨#[]⟩, .int .i64 0, .int .i64 0]) (fun H => ?_)
              refine pl_WR 1 #[.int .i64 Y.f0, .string Y.f1, .string Y.f2, .string Y.f3, .int .i64 Y.f4, .int .i64 Y.f5] H rfl zb9 (fun H => ?_) (by kernel_rfl) rfl
              refine pl_WR 0 #[.int .i64 Z.f0, .string Z.f1, .string Z.f2, .string Z.f3, .int .i64 Z.f4, .int .i64 Z.f5] H rfl zb10 (fun H => ?_) (by kernel_rfl) rfl
              refine pl_WR 2 #[.int .i64 X.f0, .string X.f1, .string X.f2, .string X.f3, .int .i64 X.f4, .int .i64 X.f5] H rfl zb11 (fun H => ?_) (by kernel_rfl) rfl
              refine pl_done ?_
              go_wp2_with fail
              go_meet
              exact ⟨_, _, _, rfl, rfl, rfl, P102 H⟩
            · have zb10 : w.heap.size ≤ w5.heap.size + 1 := by have := z5; omega
              refine pl_R (H.box (w5.heap.size + 1) 28 #[.int .i64 0, .string ⟨#[]⟩, .string ⟨#[]⟩, .string ⟨#[]⟩, .int .i64 0, .int .i64 0]) (fun H => ?_)
              refine pl_done (pl_leaf ?_)
              have zb9 : w.heap.size ≤ w5.heap.size + 1 + 1 := by have := z5; omega
              refine pl_R (H.box (w5.heap.size + 1 + 1) 28 #[.int .i64 0, .string ⟨#[]⟩, .string ⟨#[]⟩, .string ⟨#[]⟩, .int .i64 0, .int .i64 0]) (fun H => ?_)
              refine pl_WR 0 #[.int .i64 Y.f0, .string Y.f1, .string Y.f2, .string Y.f3, .int .i64 Y.f4, .int .i64 Y.f5] H rfl zb9 (fun H => ?_) (by kernel_rfl) rfl
              refine pl_WR 1 #[.int .i64 Z.f0, .string Z.f1, .string Z.f2, .string Z.f3, .int .i64 Z.f4, .int .i64 Z.f5] H rfl zb10 (fun H => ?_) (by kernel_rfl) rfl
              refine pl_WR 2 #[.int .i64 X.f0, .string X.f1, .string X.f2, .string X.f3, .int .i64 X.f4, .int .i64 X.f5] H rfl zb11 (fun H => ?_) (by kernel_rfl) rfl
              refine pl_done ?_
              go_wp2_with fail
              go_meet
              exact ⟨_, _, _, rfl, rfl, rfl, P012 H⟩
        case rest =>
          obtain ⟨b9, b10, b11, rfl, rfl, rfl, H⟩ := hcut
          have gA := good_T.anti Y Z
          have gT := good_T.trans Y Z X
          have gR := good_T.anti Y Y
          have cAB := fun w => cmp_c (w := w) Y Z
          have cBC := fun w => cmp_c (w := w) Z X
          have cAC := fun w => cmp_c (w := w) Y X
          have cAA := fun w => cmp_c (w := w) Y Y
          have cBA := fun w => cmp_c (w := w) Z Y
          have gS := good_T.sgn Y Z
          generalize cmpT Y Z = q1 at *
          generalize cmpT Z X = q2 at *
          generalize cmpT Y X = q3 at *
          generalize cmpT Y Y = q4 at *
          generalize cmpT Z Y = q5 at *
          obtain rfl : q4 = 0 := by omega
          subst gA
          have e5 : wrap64 q1 = q1 := by unfold wrap64; omega
          have e6 : (q1 != q1) = false := by simp
          replace gT := Aside0.mk gT
          clear gS gR
          by_cases d1 : q1 ≤ 0
          · replace d1 := decide_eq_true d1
            by_cases d2 : q2 ≤ 0
            · have d3 : decide (q3 > 0) = false := decide_eq_false (by have := gT.out (of_decide_eq_true d1) d2; omega)
              replace d2 := decide_eq_true d2
              go_wp2_with fail
              refine planT_ (true, [([], []), ([], []), ([0, 1], [0, 1]), ([2], [2]), ([3, 2], [3]), ([4], [4]), ([4], [4]), ([5, 6, 4, 4], [4, 5, 6]), ([7, 4], [4, 7]), ([4, 8], [4, 8]), ([9, 7], [9]), ([10], [10]), ([10], [10]), ([11, 12, 10, 10], [10, 11, 12]), ([13, 10], [10, 13]), ([10, 14], [10, 14]), ([15, 13], [15]), ([16], [16]), ([16], [16]), ([17, 18, 16, 16], [16, 17, 18]), ([19, 16], [16, 19]), ([16, 20], [16, 20]), ([21, 19], [21]), ([22], [22]), ([22], [22]), ([23, 24, 22, 22], [22, 23, 24]), ([22], [22]), ([22], [22]), ([26, 27, 25, 22], [22, 26, 27]), ([28, 22], [22, 28]), ([25, 29, 22], [22, 25, 29]), ([22, 30], [22, 30])]) (.leaf [.t 0, .t 1, .c 2, .p 3, .p 4, .t 5, .t 6, .c 7, .p 8, .p 9, .p 10, .t 11, .t 12, .c 13, .p 14, .p 15, .p 16, .t 17, .t 18, .c 19, .p 20, .p 21, .p 22, .t 23, .t 24, .t 26, .t 27, .c 25, .c 28, .p 29, .p 30, .p 31]) H (by kernel_rfl) (by kernel_rfl) rfl rfl (by kernel_rfl) (by intro c a w d v h; cases d <;> exact h) (fun w6 H => ?_)
              refine pl_leaf ?_
              refine pl_B 0 H rfl (h := ?_)
              refine pl_B 1 H rfl (h := ?_)
              refine pl_S (cAB _) H Tryd.func18 (h := fun w21 H => ?_)
              refine pl_P (h := ?_)
              refine pl_P (h := ?_)
              refine pl_B 1 H rfl (h := ?_)
              refine pl_B 2 H rfl (h := ?_)
              refine pl_S (cBC _) H Tryd.func18 (h := fun w22 H => ?_)
              refine pl_P (h := ?_)
              refine pl_P (h := ?_)
              refine pl_P (h := ?_)
              refine pl_B 0 H rfl (h := ?_)
              refine pl_B 2 H rfl (h := ?_)
              refine pl_S (cAC _) H Tryd.func18 (h := fun w23 H => ?_)
              refine pl_P (h := ?_)
              refine pl_P (h := ?_)
              refine pl_P (h := ?_)
              refine pl_B 0 H rfl (h := ?_)
              refine pl_B 0 H rfl (h := ?_)
              refine pl_S (cAA _) H Tryd.func18 (h := fun w24 H => ?_)
              refine pl_P (h := ?_)
              refine pl_P (h := ?_)
              refine pl_P (h := ?_)
              refine pl_B 0 H rfl (h := ?_)
              refine pl_B 1 H rfl (h := ?_)
              refine pl_B 1 H rfl (h := ?_)
              refine pl_B 0 H rfl (h := ?_)
              refine pl_S (cAB _) H Tryd.func18 (h := fun w25 H => ?_)
              refine pl_S (cBA _) H Tryd.func18 (h := fun w26 H => ?_)
              refine pl_P (h := ?_)
              refine pl_P (h := ?_)
              refine pl_P (h := ?_)
              refine pl_done ?_
              go_wp2_with fail
              go_roundg 2
              case measure => omega
              case rel => exact ⟨2, rfl, ⟨by omega, rfl⟩, H.drop 3⟩
            · replace d2 : decide (q2 ≤ 0) = false := decide_eq_false d2
              go_wp2_with fail
              refine planT_ (true, [([], []), ([], []), ([0, 1], [0, 1]), ([2], [2]), ([3, 2], [3]), ([4], [4]), ([4], [4]), ([5, 6, 4, 4], [4, 5, 6]), ([7, 4], [4, 7]), ([4, 8], [4, 8]), ([9, 7], [9]), ([10], [10]), ([10], [10]), ([11, 12, 10, 10], [10, 11, 12]), ([13, 10], [10, 13]), ([10, 14], [10, 14]), ([15, 13], [15]), ([16], [16]), ([16], [16]), ([17, 18, 16, 16], [16, 17, 18]), ([19, 16], [16, 19]), ([16, 20], [16, 20]), ([21, 19], [21]), ([22], [22]), ([22], [22]), ([23, 24, 22, 22], [22, 23, 24]), ([22], [22]), ([22], [22]), ([26, 27, 25, 22], [22, 26, 27]), ([28, 22], [22, 28]), ([25, 29, 22], [22, 25, 29]), ([22, 30], [22, 30])]) (.leaf [.t 0, .t 1, .c 2, .p 3, .p 4, .t 5, .t 6, .c 7, .p 8, .p 9, .p 10, .t 11, .t 12, .c 13, .p 14, .p 15, .p 16, .t 17, .t 18, .c 19, .p 20, .p 21, .p 22, .t 23, .t 24, .t 26, .t 27, .c 25, .c 28, .p 29, .p 30, .p 31]) H (by kernel_rfl) (by kernel_rfl) rfl rfl (by kernel_rfl) (by intro c a w d v h; cases d <;> exact h) (fun w6 H => ?_)
              refine pl_leaf ?_
              refine pl_B 0 H rfl (h := ?_)
              refine pl_B 1 H rfl (h := ?_)
              refine pl_S (cAB _) H Tryd.func18 (h := fun w21 H => ?_)
              refine pl_P (h := ?_)
              refine pl_P (h := ?_)
              refine pl_B 1 H rfl (h := ?_)
              refine pl_B 2 H rfl (h := ?_)
              refine pl_S (cBC _) H Tryd.func18 (h := fun w22 H => ?_)
              refine pl_P (h := ?_)
              refine pl_P (h := ?_)
              refine pl_P (h := ?_)
              refine pl_kT H (h := ?_)
              refine pl_kT H (h := ?_)
              refine pl_kC H (h := ?_)
              refine pl_kP (h := ?_)
              refine pl_P (h := ?_)
              refine pl_P (h := ?_)
              refine pl_B 0 H rfl (h := ?_)
              refine pl_B 0 H rfl (h := ?_)
              refine pl_S (cAA _) H Tryd.func18 (h := fun w23 H => ?_)
              refine pl_P (h := ?_)
              refine pl_P (h := ?_)
              refine pl_P (h := ?_)
              refine pl_B 0 H rfl (h := ?_)
              refine pl_B 1 H rfl (h := ?_)
              refine pl_B 1 H rfl (h := ?_)
              refine pl_B 0 H rfl (h := ?_)
              refine pl_S (cAB _) H Tryd.func18 (h := fun w24 H => ?_)
              refine pl_S (cBA _) H Tryd.func18 (h := fun w25 H => ?_)
              refine pl_P (h := ?_)
              refine pl_P (h := ?_)
              refine pl_P (h := ?_)
              refine pl_done ?_
              go_wp2_with fail
              go_roundg 2
              case measure => omega
              case rel => exact ⟨2, rfl, ⟨by omega, rfl⟩, H.drop 3⟩
          · replace d1 : decide (q1 ≤ 0) = false := decide_eq_false d1
            go_wp2_with fail
            refine planT_ (true, [([], []), ([], []), ([0, 1], [0, 1]), ([2], [2]), ([3, 2], [3]), ([4], [4]), ([4], [4]), ([5, 6, 4, 4], [4, 5, 6]), ([7, 4], [4, 7]), ([4, 8], [4, 8]), ([9, 7], [9]), ([10], [10]), ([10], [10]), ([11, 12, 10, 10], [10, 11, 12]), ([13, 10], [10, 13]), ([10, 14], [10, 14]), ([15, 13], [15]), ([16], [16]), ([16], [16]), ([17, 18, 16, 16], [16, 17, 18]), ([19, 16], [16, 19]), ([16, 20], [16, 20]), ([21, 19], [21]), ([22], [22]), ([22], [22]), ([23, 24, 22, 22], [22, 23, 24]), ([22], [22]), ([22], [22]), ([26, 27, 25, 22], [22, 26, 27]), ([28, 22], [22, 28]), ([25, 29, 22], [22, 25, 29]), ([22, 30], [22, 30])]) (.leaf [.t 0, .t 1, .c 2, .p 3, .p 4, .t 5, .t 6, .c 7, .p 8, .p 9, .p 10, .t 11, .t 12, .c 13, .p 14, .p 15, .p 16, .t 17, .t 18, .c 19, .p 20, .p 21, .p 22, .t 23, .t 24, .t 26, .t 27, .c 25, .c 28, .p 29, .p 30, .p 31]) H (by kernel_rfl) (by kernel_rfl) rfl rfl (by kernel_rfl) (by intro c a w d v h; cases d <;> exact h) (fun w6 H => ?_)
            refine pl_leaf ?_
            refine pl_B 0 H rfl (h := ?_)
            refine pl_B 1 H rfl (h := ?_)
            refine pl_S (cAB _) H Tryd.func18 (h := fun w21 H => ?_)
            refine pl_P (h := ?_)
            refine pl_P (h := ?_)
            refine pl_kT H (h := ?_)
            refine pl_kT H (h := ?_)
            refine pl_kC H (h := ?_)
            refine pl_kP (h := ?_)
            refine pl_P (h := ?_)
            refine pl_P (h := ?_)
            refine pl_kT H (h := ?_)
            refine pl_kT H (h := ?_)
            refine pl_kC H (h := ?_)
            refine pl_kP (h := ?_)
            refine pl_P (h := ?_)
            refine pl_P (h := ?_)
            refine pl_B 0 H rfl (h := ?_)
            refine pl_B 0 H rfl (h := ?_)
            refine pl_S (cAA _) H Tryd.func18 (h := fun w22 H => ?_)
            refine pl_P (h := ?_)
            refine pl_P (h := ?_)
            refine pl_P (h := ?_)
            refine pl_B 0 H rfl (h := ?_)
            refine pl_B 1 H rfl (h := ?_)
            refine pl_B 1 H rfl (h := ?_)
            refine pl_B 0 H rfl (h := ?_)
            refine pl_S (cAB _) H Tryd.func18 (h := fun w23 H => ?_)
            refine pl_S (cBA _) H Tryd.func18 (h := fun w24 H => ?_)
            refine pl_P (h := ?_)
            refine pl_P (h := ?_)
            refine pl_P (h := ?_)
            refine pl_done ?_
            go_wp2_with fail
            go_roundg 2
            case measure => omega
            case rel => exact ⟨2, rfl, ⟨by omega, rfl⟩, H.drop 3⟩
      · obtain rfl : gk = 2 := hk.out.2
        clear hk
        go_upto_region 5 with fail
        go_cut [9, 10, 11] (fun s9 s10 s11 wx => ∃ b9 b10 b11 : Nat, s9 = .pointer (some ⟨b9, 0, none⟩) ∧ s10 = .pointer (some ⟨b10, 0, none⟩) ∧ s11 = .pointer (some ⟨b11, 0, none⟩) ∧ All w wx [bx b9 28 #[.int .i64 Z.f0, .string Z.f1, .string Z.f2, .string Z.f3, .int .i64 Z.f4, .int .i64 Z.f5], bx b10 28 #[.int .i64 X.f0, .string X.f1, .string X.f2, .string X.f3, .int .i64 X.f4, .int .i64 X.f5], bx b11 28 #[.int .i64 Y.f0, .string Y.f1, .string Y.f2, .string Y.f3, .int .i64 Y.f4, .int .i64 Y.f5], bx b 51 #[.int .i64 X.f0, .string X.f1, .string X.f2, .string X.f3, .int .i64 X.f4, .int .i64 X.f5, .int .i64 Y.f0, .string Y.f1, .string Y.f2, .string Y.f3, .int .i64 Y.f4, .int .i64 Y.f5, .int .i64 Z.f0, .string Z.f1, .string Z.f2, .string Z.f3, .int .i64 Z.f4, .int .i64 Z.f5]])
        case first =>
          refine planT_ (true, [([], []), ([0], [0]), ([1], [1]), ([], []), ([3], [3]), ([4], [4]), ([5], [5]), ([6], [6]), ([], []), ([8], [8]), ([9], [9]), ([10], [10]), ([11], [11]), ([], []), ([], []), ([], []), ([13, 2, 0, 1, 2, 13, 14, 15], [2, 13]), ([14, 7, 16, 0, 1, 2, 3, 4, 5, 6, 7, 13, 14, 15, 16], [7, 14]), ([15, 12, 17, 0, 1, 2, 3, 4, 5, 6, 7, 8, 9, 10, 11, 12, 13, 14, 15, 16, 17], [12, 15])]) (.fork3 [.p 0, .p 1, .t 2, .p 3, .p 4, .p 5, .p 6, .t 7, .p 8, .p 9, .p 10, .p 11, .t 12] 13 14 15 (.fork [] 14 15 (.leaf [.c 15, .c 16, .c 17, .c 18]) (.leaf [.c 14, .c 16, .c 17, .c 18])) (.fork [] 13 15 (.leaf [.c 15, .c 16, .c 17, .c 18]) (.leaf [.c 13, .c 16, .c 17, .c 18])) (.fork [] 13 14 (.leaf [.c 14, .c 16, .c 17, .c 18]) (.leaf [.c 13, .c 16, .c 17, .c 18]))) H (by kernel_rfl) (by kernel_rfl) rfl rfl (by kernel_rfl) (by intro c a w d v h; cases d <;> exact h) (fun w5 H => ?_)
          have z5 : w.heap.size ≤ w5.heap.size := H.old.size
          refine pl_fork3 ?_
          refine pl_P (h := ?_)
          refine pl_P (h := ?_)
          refine pl_B 0 H rfl (h := ?_)
          refine pl_P (h := ?_)
          refine pl_P (h := ?_)
          refine pl_P (h := ?_)
          refine pl_P (h := ?_)
          refine pl_B 0 H rfl (h := ?_)
          refine pl_P (h := ?_)
          refine pl_P (h := ?_)
          refine pl_P (h := ?_)
          refine pl_P (h := ?_)
          refine pl_B 0 H rfl (h := ?_)
          refine pl_done ⟨?_, ?_, ?_⟩
          · have zb9 : w.heap.size ≤ w5.heap.size := by have := z5; omega
            refine pl_R (H.box (w5.heap.size) 28 #[.int .i64 0, .string ⟨#[]⟩, .string ⟨#[]⟩, .string ⟨#[]⟩, .int .i64 0, .int .i64 0]) (fun H => ?_)
            refine pl_done (pl_fork ?_)
            refine pl_done ⟨?_, ?_⟩
            · have zb10 : w.heap.size ≤ w5.heap.size + 1 := by have := z5; omega
              refine pl_R (H.box (w5.heap.size + 1) 28 #[.int .i64 0, .string ⟨#[]⟩, .string ⟨#[]⟩, .string ⟨#[]⟩, .int .i64 0, .int .i64 0]) (fun H => ?_)
              refine pl_done (pl_leaf ?_)
              have zb11 : w.heap.size ≤ w5.heap.size + 1 + 1 := by have := z5; omega
              refine pl_R (H.box (w5.heap.size + 1 + 1) 28 #[.int .i64 0, .string ⟨#[]⟩, .string ⟨#[]⟩, .string ⟨#[]⟩, .int .i64 0, .int .i64 0]) (fun H => ?_)
              refine pl_WR 2 #[.int .i64 Z.f0, .string Z.f1, .string Z.f2, .string Z.f3, .int .i64 Z.f4, .int .i64 Z.f5] H rfl zb9 (fun H => ?_) (by kernel_rfl) rfl
              refine pl_WR 1 #[.int .i64 X.f0, .string X.f1, .string X.f2, .string X.f3, .int .i64 X.f4, .int .i64 X.f5] H rfl zb10 (fun H => ?_) (by kernel_rfl) rfl
              refine pl_WR 0 #[.int .i64 Y.f0, .string Y.f1, .string Y.f2, .string Y.f3, .int .i64 Y.f4, .int .i64 Y.f5] H rfl zb11 (fun H => ?_) (by kernel_rfl) rfl
              refine pl_done ?_
              go_wp2_with fail
              go_meet
              exact ⟨_, _, _, rfl, rfl, rfl, P210 H⟩
            · have zb11 : w.heap.size ≤ w5.heap.size + 1 := by have := z5; omega
              refine pl_R (H.box (w5.heap.size + 1) 28 #[.int .i64 0, .string ⟨#[]⟩, .string ⟨#[]⟩, .string ⟨#[]⟩, .int .i64 0, .int .i64 0]) (fun H => ?_)
              refine pl_done (pl_leaf ?_)
              have zb10 : w.heap.size ≤ w5.heap.size + 1 + 1 := by have := z5; omega
              refine pl_R (H.box (w5.heap.size + 1 + 1) 28 #[.int .i64 0, .string ⟨#[]⟩, .string ⟨#[]⟩, .string ⟨#[]⟩, .int .i64 0, .int .i64 0]) (fun H => ?_)
              refine pl_WR 2 #[.int .i64 Z.f0, .string Z.f1, .string Z.f2, .string Z.f3, .int .i64 Z.f4, .int .i64 Z.f5] H rfl zb9 (fun H => ?_) (by kernel_rfl) rfl
              refine pl_WR 0 #[.int .i64 X.f0, .string X.f1, .string X.f2, .string X.f3, .int .i64 X.f4, .int .i64 X.f5] H rfl zb10 (fun H => ?_) (by kernel_rfl) rfl
              refine pl_WR 1 #[.int .i64 Y.f0, .string Y.f1, .string Y.f2, .string Y.f3, .int .i64 Y.f4, .int .i64 Y.f5] H rfl zb11 (fun H => ?_) (by kernel_rfl) rfl
              refine pl_done ?_
              go_wp2_with fail
              go_meet
              exact ⟨_, _, _, rfl, rfl, rfl, P201 H⟩
          · have zb10 : w.heap.size ≤ w5.heap.size := by have := z5; omega
            refine pl_R (H.box (w5.heap.size) 28 #[.int .i64 0, .string ⟨#[]⟩, .string ⟨#[]⟩, .string ⟨#[]⟩, .int .i64 0, .int .i64 0]) (fun H => ?_)
            refine pl_done (pl_fork ?_)
            refine pl_done ⟨?_, ?_⟩
            · have zb9 : w.heap.size ≤ w5.heap.size + 1 := by have := z5; omega
              refine pl_R (H.box (w5.heap.size + 1) 28 #[.int .i64 0, .string ⟨#[]⟩, .string ⟨#[]⟩, .string ⟨#[]⟩, .int .i64 0, .int .i64 0]) (fun H => ?_)
              refine pl_done (pl_leaf ?_)
              have zb11 : w.heap.size ≤ w5.heap.size + 1 + 1 := by have := z5; omega
              refine pl_R (H.box (w5.heap.size + 1 + 1) 28 #[.int .i64 0, .string ⟨#[]⟩, .string ⟨#[]⟩, .string ⟨#[]⟩, .int .i64 0, .int .i64 0]) (fun H => ?_)
              refine pl_WR 1 #[.int .i64 Z.f0, .string Z.f1, .string Z.f2, .string Z.f3, .int .i64 Z.f4, .int .i64 Z.f5] H rfl zb9 (fun H => ?_) (by kernel_rfl) rfl
              refine pl_WR 2 #[.int .i64 X.f0, .string X.f1, .string X.f2, .string X.f3, .int .i64 X.f4, .int .i64 X.f5] H rfl zb10 (fun H => ?_) (by kernel_rfl) rfl
              refine pl_WR 0 #[.int .i64 Y.f0, .string Y.f1, .string Y.f2, .string Y.f3, .int .i64 Y.f4, .int .i64 Y.f5] H rfl zb11 (fun H => ?_) (by kernel_rfl) rfl
              refine pl_done ?_
              go_wp2_with fail
              go_meet
              exact ⟨_, _, _, rfl, rfl, rfl, P120 H⟩
            · have zb11 : w.heap.size ≤ w5.heap.size + 1 := by have := z5; omega
              refine pl_R (H.box (w5.heap.size + 1) 28 #[.int .i64 0, .string ⟨#[]⟩, .string ⟨#[]⟩, .string ⟨#[]⟩, .int .i64 0, .int .i64 0]) (fun H => ?_)
              refine pl_done (pl_leaf ?_)
              have zb9 : w.heap.size ≤ w5.heap.size + 1 + 1 := by have := z5; omega
              refine pl_R (H.box (w5.heap.size + 1 + 1) 28 #[.int .i64 0, .string ⟨#[]⟩, .string ⟨#[]⟩, .string ⟨#[]⟩, .int .i64 0, .int .i64 0]) (fun H => ?_)
              refine pl_WR 0 #[.int .i64 Z.f0, .string Z.f1, .string Z.f2, .string Z.f3, .int .i64 Z.f4, .int .i64 Z.f5] H rfl zb9 (fun H => ?_) (by kernel_rfl) rfl
              refine pl_WR 2 #[.int .i64 X.f0, .string X.f1, .string X.f2, .string X.f3, .int .i64 X.f4, .int .i64 X.f5] H rfl zb10 (fun H => ?_) (by kernel_rfl) rfl
              refine pl_WR 1 #[.int .i64 Y.f0, .string Y.f1, .string Y.f2, .string Y.f3, .int .i64 Y.f4, .int .i64 Y.f5] H rfl zb11 (fun H => ?_) (by kernel_rfl) rfl
              refine pl_done ?_
              go_wp2_with fail
              go_meet
              exact ⟨_, _, _, rfl, rfl, rfl, P021 H⟩
          · have zb11 : w.heap.size ≤ w5.heap.size := by have := z5; omega
            refine pl_R (H.box (w5.heap.size) 28 #[.int .i64 0, .string ⟨#[]⟩, .string ⟨#[]⟩, .string ⟨#[]⟩, .int .i64 0, .int .i64 0]) (fun H => ?_)
            refine pl_done (pl_fork ?_)
            refine pl_done ⟨?_, ?_⟩
            · have zb9 : w.heap.size ≤ w5.heap.size + 1 := by have := z5; omega
              refine pl_R (H.box (w5.heap.size + 1) 28 #[.int .i64 0, .string ⟨#[]⟩, .string ⟨#[]⟩, .string ⟨#[]⟩, .int .i64 0, .int .i64 0]) (fun H => ?_)
              refine pl_done (pl_leaf ?_)
              have zb10 : w.heap.size ≤ w5.heap.size + 1 + 1 := by have := z5; omega
              refine pl_R (H.box (w5.heap.size + 1 + 1) 28 #[.int .i64 0, .string ⟨#[]⟩, .string ⟨#[]⟩, .string ⟨#[]⟩, .int .i64 0, .int .i64 0]) (fun H => ?_)
              refine pl_WR 1 #[.int .i64 Z.f0, .string Z.f1, .string Z.f2, .string Z.f3, .int .i64 Z.f4, .int .i64 Z.f5] H rfl zb9 (fun H => ?_) (by kernel_rfl) rfl
              refine pl_WR 0 #[.int .i64 X.f0, .string X.f1, .string X.f2, .string X.f3, .int .i64 X.f4, .int .i64 X.f5] H rfl zb10 (fun H => ?_) (by kernel_rfl) rfl
              refine pl_WR 2 #[.int .i64 Y.f0, .string Y.f1, .string Y.f2, .string Y.f3, .int .i64 Y.f4, .int .i64 Y.f5] H rfl zb11 (fun H => ?_) (by kernel_rfl) rfl
              refine pl_done ?_
              go_wp2_with fail
              go_meet
              exact ⟨_, _, _, rfl, rfl, rfl, P102 H⟩
            · have zb10 : w.heap.size ≤ w5.heap.size + 1 := by have := z5; omega
              refine pl_R (H.box (w5.heap.size + 1) 28 #[.int .i64 0, .string ⟨#[]⟩, .string ⟨#[]⟩, .string ⟨#[]⟩, .int .i64 0, .int .i64 0]) (fun H => ?_)
              refine pl_done (pl_leaf ?_)
              have zb9 : w.heap.size ≤ w5.heap.size + 1 + 1 := by have := z5; omega
              refine pl_R (H.box (w5.heap.size + 1 + 1) 28 #[.int .i64 0, .string ⟨#[]⟩, .string ⟨#[]⟩, .string ⟨#[]⟩, .int .i64 0, .int .i64 0]) (fun H => ?_)
              refine pl_WR 0 #[.int .i64 Z.f0, .string Z.f1, .string Z.f2, .string Z.f3, .int .i64 Z.f4, .int .i64 Z.f5] H rfl zb9 (fun H => ?_) (by kernel_rfl) rfl
              refine pl_WR 1 #[.int .i64 X.f0, .string X.f1, .string X.f2, .string X.f3, .int .i64 X.f4, .int .i64 X.f5] H rfl zb10 (fun H => ?_) (by kernel_rfl) rfl
              refine pl_WR 2 #[.int .i64 Y.f0, .string Y.f1, .string Y.f2, .string Y.f3, .int .i64 Y.f4, .int .i64 Y.f5] H rfl zb11 (fun H => ?_) (by kernel_rfl) rfl
              refine pl_done ?_
              go_wp2_with fail
              go_meet
              exact ⟨_, _, _, rfl, rfl, rfl, P012 H⟩
        case rest =>
          obtain ⟨b9, b10, b11, rfl, rfl, rfl, H⟩ := hcut
          have gA := good_T.anti Z X
          have gT := good_T.trans Z X Y
          have gR := good_T.anti Z Z
          have cAB := fun w => cmp_c (w := w) Z X
          have cBC := fun w => cmp_c (w := w) X Y
          have cAC := fun w => cmp_c (w := w) Z Y
          have cAA := fun w => cmp_c (w := w) Z Z
          have cBA := fun w => cmp_c (w := w) X Z
          have gS := good_T.sgn Z X
          generalize cmpT Z X = q1 at *
          generalize cmpT X Y = q2 at *
          generalize cmpT Z Y = q3 at *
          generalize cmpT Z Z = q4 at *
          generalize cmpT X Z = q5 at *
          obtain rfl : q4 = 0 := by omega
          subst gA
          have e5 : wrap64 q1 = q1 := by unfold wrap64; omega
          have e6 : (q1 != q1) = false := by simp
          replace gT := Aside0.mk gT
          clear gS gR
          by_cases d1 : q1 ≤ 0
          · replace d1 := decide_eq_true d1
            by_cases d2 : q2 ≤ 0
            · have d3 : decide (q3 > 0) = false := decide_eq_false (by have := gT.out (of_decide_eq_true d1) d2; omega)
              replace d2 := decide_eq_true d2
              go_wp2_with fail
              refine planT_ (true, [([], []), ([], []), ([0, 1], [0, 1]), ([2], [2]), ([3, 2], [3]), ([4], [4]), ([4], [4]), ([5, 6, 4, 4], [4, 5, 6]), ([7, 4], [4, 7]), ([4, 8], [4, 8]), ([9, 7], [9]), ([10], [10]), ([10], [10]), ([11, 12, 10, 10], [10, 11, 12]), ([13, 10], [10, 13]), ([10, 14], [10, 14]), ([15, 13], [15]), ([16], [16]), ([16], [16]), ([17, 18, 16, 16], [16, 17, 18]), ([19, 16], [16, 19]), ([16, 20], [16, 20]), ([21, 19], [21]), ([22], [22]), ([22], [22]), ([23, 24, 22, 22], [22, 23, 24]), ([22], [22]), ([22], [22]), ([26, 27, 25, 22], [22, 26, 27]), ([28, 22], [22, 28]), ([25, 29, 22], [22, 25, 29]), ([22, 30], [22, 30])]) (.leaf [.t 0, .t 1, .c 2, .p 3, .p 4, .t 5, .t 6, .c 7, .p 8, .p 9, .p 10, .t 11, .t 12, .c 13, .p 14, .p 15, .p 16, .t 17, .t 18, .c 19, .p 20, .p 21, .p 22, .t 23, .t 24, .t 26, .t 27, .c 25, .c 28, .p 29, .p 30, .p 31]) H (by kernel_rfl) (by kernel_rfl) rfl rfl (by kernel_rfl) (by intro c a w d v h; cases d <;> exact h) (fun w6 H => ?_)
              refine pl_leaf ?_
              refine pl_B 0 H rfl (h := ?_)
              refine pl_B 1 H rfl (h := ?_)
              refine pl_S (cAB _) H Tryd.func18 (h := fun w21 H => ?_)
              refine pl_P (h := ?_)
              refine pl_P (h := ?_)
              refine pl_B 1 H rfl (h := ?_)
              refine pl_B 2 H rfl (h := ?_)
              refine pl_S (cBC _) H Tryd.func18 (h := fun w22 H => ?_)
              refine pl_P (h := ?_)
              refine pl_P (h := ?_)
              refine pl_P (h := ?_)
              refine pl_B 0 H rfl (h := ?_)
              refine pl_B 2 H rfl (h := ?_)
              refine pl_S (cAC _) H Tryd.func18 (h := fun w23 H => ?_)
              refine pl_P (h := ?_)
              refine pl_P (h := ?_)
              refine pl_P (h := ?_)
              refine pl_B 0 H rfl (h := ?_)
              refine pl_B 0 H rfl (h := ?_)
              refine pl_S (cAA _) H Tryd.func18 (h := fun w24 H => ?_)
              refine pl_P (h := ?_)
              refine pl_P (h := ?_)
              refine pl_P (h := ?_)
              refine pl_B 0 H rfl (h := ?_)
              refine pl_B 1 H rfl (h := ?_)
              refine pl_B 1 H rfl (h := ?_)
              refine pl_B 0 H rfl (h := ?_)
              refine pl_S (cAB _) H Tryd.func18 (h := fun w25 H => ?_)
              refine pl_S (cBA _) H Tryd.func18 (h := fun w26 H => ?_)
              refine pl_P (h := ?_)
              refine pl_P (h := ?_)
              refine pl_P (h := ?_)
              refine pl_done ?_
              go_wp2_with fail
              go_roundg 1
              case measure => omega
              case rel => exact ⟨3, rfl, ⟨by omega, rfl⟩, H.drop 3⟩
            · replace d2 : decide (q2 ≤ 0) = false := decide_eq_false d2
              go_wp2_with fail
              refine planT_ (true, [([], []), ([], []), ([0, 1], [0, 1]), ([2], [2]), ([3, 2], [3]), ([4], [4]), ([4], [4]), ([5, 6, 4, 4], [4, 5, 6]), ([7, 4], [4, 7]), ([4, 8], [4, 8]), ([9, 7], [9]), ([10], [10]), ([10], [10]), ([11, 12, 10, 10], [10, 11, 12]), ([13, 10], [10, 13]), ([10, 14], [10, 14]), ([15, 13], [15]), ([16], [16]), ([16], [16]), ([17, 18, 16, 16], [16, 17, 18]), ([19, 16], [16, 19]), ([16, 20], [16, 20]), ([21, 19], [21]), ([22], [22]), ([22], [22]), ([23, 24, 22, 22], [22, 23, 24]), ([22], [22]), ([22], [22]), ([26, 27, 25, 22], [22, 26, 27]), ([28, 22], [22, 28]), ([25, 29, 22], [22, 25, 29]), ([22, 30], [22, 30])]) (.leaf [.t 0, .t 1, .c 2, .p 3, .p 4, .t 5, .t 6, .c 7, .p 8, .p 9, .p 10, .t 11, .t 12, .c 13, .p 14, .p 15, .p 16, .t 17, .t 18, .c 19, .p 20, .p 21, .p 22, .t 23, .t 24, .t 26, .t 27, .c 25, .c 28, .p 29, .p 30, .p 31]) H (by kernel_rfl) (by kernel_rfl) rfl rfl (by kernel_rfl) (by intro c a w d v h; cases d <;> exact h) (fun w6 H => ?_)
              refine pl_leaf ?_
              refine pl_B 0 H rfl (h := ?_)
              refine pl_B 1 H rfl (h := ?_)
              refine pl_S (cAB _) H Tryd.func18 (h := fun w21 H => ?_)
              refine pl_P (h := ?_)
              refine pl_P (h := ?_)
              refine pl_B 1 H rfl (h := ?_)
              refine pl_B 2 H rfl (h := ?_)
              refine pl_S (cBC _) H Tryd.func18 (h := fun w22 H => ?_)
              refine pl_P (h := ?_)
              refine pl_P (h := ?_)
              refine pl_P (h := ?_)
              refine pl_kT H (h := ?_)
              refine pl_kT H (h := ?_)
              refine pl_kC H (h := ?_)
              refine pl_kP (h := ?_)
              refine pl_P (h := ?_)
              refine pl_P (h := ?_)
              refine pl_B 0 H rfl (h := ?_)
              refine pl_B 0 H rfl (h := ?_)
              refine pl_S (cAA _) H Tryd.func18 (h := fun w23 H => ?_)
              refine pl_P (h := ?_)
              refine pl_P (h := ?_)
              refine pl_P (h := ?_)
              refine pl_B 0 H rfl (h := ?_)
              refine pl_B 1 H rfl (h := ?_)
              refine pl_B 1 H rfl (h := ?_)
              refine pl_B 0 H rfl (h := ?_)
              refine pl_S (cAB _) H Tryd.func18 (h := fun w24 H => ?_)
              refine pl_S (cBA _) H Tryd.func18 (h := fun w25 H => ?_)
              refine pl_P (h := ?_)
              refine pl_P (h := ?_)
              refine pl_P (h := ?_)
              refine pl_done ?_
              go_wp2_with fail
              go_roundg 1
              case measure => omega
              case rel => exact ⟨3, rfl, ⟨by omega, rfl⟩, H.drop 3⟩
          · replace d1 : decide (q1 ≤ 0) = false := decide_eq_false d1
            go_wp2_with fail
            refine planT_ (true, [([], []), ([], []), ([0, 1], [0, 1]), ([2], [2]), ([3, 2], [3]), ([4], [4]), ([4], [4]), ([5, 6, 4, 4], [4, 5, 6]), ([7, 4], [4, 7]), ([4, 8], [4, 8]), ([9, 7], [9]), ([10], [10]), ([10], [10]), ([11, 12, 10, 10], [10, 11, 12]), ([13, 10], [10, 13]), ([10, 14], [10, 14]), ([15, 13], [15]), ([16], [16]), ([16], [16]), ([17, 18, 16, 16], [16, 17, 18]), ([19, 16], [16, 19]), ([16, 20], [16, 20]), ([21, 19], [21]), ([22], [22]), ([22], [22]), ([23, 24, 22, 22], [22, 23, 24]), ([22], [22]), ([22], [22]), ([26, 27, 25, 22], [22, 26, 27]), ([28, 22], [22, 28]), ([25, 29, 22], [22, 25, 29]), ([22, 30], [22, 30])]) (.leaf [.t 0, .t 1, .c 2, .p 3, .p 4, .t 5, .t 6, .c 7, .p 8, .p 9, .p 10, .t 11, .t 12, .c 13, .p 14, .p 15, .p 16, .t 17, .t 18, .c 19, .p 20, .p 21, .p 22, .t 23, .t 24, .t 26, .t 27, .c 25, .c 28, .p 29, .p 30, .p 31]) H (by kernel_rfl) (by kernel_rfl) rfl rfl (by kernel_rfl) (by intro c a w d v h; cases d <;> exact h) (fun w6 H => ?_)
            refine pl_leaf ?_
            refine pl_B 0 H rfl (h := ?_)
            refine pl_B 1 H rfl (h := ?_)
            refine pl_S (cAB _) H Tryd.func18 (h := fun w21 H => ?_)
            refine pl_P (h := ?_)
            refine pl_P (h := ?_)
            refine pl_kT H (h := ?_)
            refine pl_kT H (h := ?_)
            refine pl_kC H (h := ?_)
            refine pl_kP (h := ?_)
            refine pl_P (h := ?_)
            refine pl_P (h := ?_)
            refine pl_kT H (h := ?_)
            refine pl_kT H (h := ?_)
            refine pl_kC H (h := ?_)
            refine pl_kP (h := ?_)
            refine pl_P (h := ?_)
            refine pl_P (h := ?_)
            refine pl_B 0 H rfl (h := ?_)
            refine pl_B 0 H rfl (h := ?_)
            refine pl_S (cAA _) H Tryd.func18 (h := fun w22 H => ?_)
            refine pl_P (h := ?_)
            refine pl_P (h := ?_)
            refine pl_P (h := ?_)
            refine pl_B 0 H rfl (h := ?_)
            refine pl_B 1 H rfl (h := ?_)
            refine pl_B 1 H rfl (h := ?_)
            refine pl_B 0 H rfl (h := ?_)
            refine pl_S (cAB _) H Tryd.func18 (h := fun w23 H => ?_)
            refine pl_S (cBA _) H Tryd.func18 (h := fun w24 H => ?_)
            refine pl_P (h := ?_)
            refine pl_P (h := ?_)
            refine pl_P (h := ?_)
            refine pl_done ?_
            go_wp2_with fail
            go_roundg 1
            case measure => omega
            case rel => exact ⟨3, rfl, ⟨by omega, rfl⟩, H.drop 3⟩
      · clear hk
        go_wp2_with fail
        refine (show Tells Tryd.prog 11 #[] _ (.bool true) from Kn.known_c).on H fun w9 H => ?_
        go_wp2
        go_ret
        exact ⟨rfl, H.old⟩
theorem walk (w : World) (x : S30) (_ : Rt.Good30 x) (y : S30) (_ : Rt.Good30 y) (z : S30) (_ : Rt.Good30 z) : Calls Tryd.prog 5 #[.agg #[.int .i64 x.f0, .string x.f1, .string x.f2, .string x.f3, .int .i64 x.f4, .int .i64 x.f5], .agg #[.int .i64 y.f0, .string y.f1, .string y.f2, .string y.f3, .int .i64 y.f4, .int .i64 y.f5], .agg #[.int .i64 z.f0, .string z.f1, .string z.f2, .string z.f3, .int .i64 z.f4, .int .i64 z.f5]] w fun e w' => e = .returned (.bool true) ∧ Below w.heap.size w w' := walk0 x y z w
end Go.Proofs.YtjbbigodkhnokaaDoor.Ot
end
