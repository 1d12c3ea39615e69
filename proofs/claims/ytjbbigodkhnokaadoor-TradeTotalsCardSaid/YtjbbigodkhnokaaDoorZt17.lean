/- Texts of this seat, put together (Zt17). -/
import Derived.Deep.DeepCutAuto
import Derived.Deep.CutBlock
import Derived.Test.YtjbbigodkhnokaaDoorZt5
import Derived.Test.YtjbbigodkhnokaaDoorZt7
import Derived.Test.YtjbbigodkhnokaaDoorZt9
import Derived.Test.YtjbbigodkhnokaaDoorZt11
import Derived.Test.YtjbbigodkhnokaaDoorZt12
import Derived.Test.YtjbbigodkhnokaaDoorZt13
import Derived.Test.YtjbbigodkhnokaaDoorZt14
import Derived.Test.YtjbbigodkhnokaaDoorZt16
section
namespace Go.Proofs.YtjbbigodkhnokaaDoor.Tc
set_option linter.unusedSimpArgs false
set_option linter.unusedVariables false
open Go Go.RowKit Go.Proofs.YtjbbigodkhnokaaDoorW.PrintWords Go.Proofs.YtjbbigodkhnokaaDoorW.PrintLast Go.Proofs.YtjbbigodkhnokaaDoorW.PrintMore Go.Proofs.YtjbbigodkhnokaaDoor.Hd Go.Proofs.YtjbbigodkhnokaaDoor.Tr Go.Proofs.YtjbbigodkhnokaaDoor.Or Go.Proofs.YtjbbigodkhnokaaDoor.Tp Go.Proofs.YtjbbigodkhnokaaDoor.Ck
open Go.Proofs.YtjbbigodkhnokaaDoor.Nu (I64 U64 num Num num_open Cs dig narrow_c mul_c dig_len neg wd num_c sgn)
def cut (x : S30) : S28 := ⟨x.f0, x.f1.extract 0 (mn (x.f1.size : Int) 40).toNat, x.f2.extract 0 (mn (x.f2.size : Int) 40).toNat, x.f3.extract 0 (mn (x.f3.size : Int) 40).toNat, x.f4, x.f5⟩
theorem to_c (x : S30) : ∃ X : S28, X = cut x ∧ ∀ w, Tells Tryd.prog 6 #[.agg #[.int .i64 x.f0, .string x.f1, .string x.f2, .string x.f3, .int .i64 x.f4, .int .i64 x.f5]] w (.agg #[.int .i64 X.f0, .string X.f1, .string X.f2, .string X.f3, .int .i64 X.f4, .int .i64 X.f5]) :=
  ⟨cut x, rfl, fun w => clevislaw07_To.calls _ _ _ _ _ _ _ _ _ _ _ _ w (to_some _ _ _ _ _ _)⟩
theorem of_c {w : World} (X : S28) : Tells Tryd.prog 14 #[.agg #[.int .i64 X.f0, .string X.f1, .string X.f2, .string X.f3, .int .i64 X.f4, .int .i64 X.f5]] w (.agg #[.int .i64 X.f0, .string X.f1, .string X.f2, .string X.f3, .int .i64 X.f4, .int .i64 X.f5]) := clevislaw07_Of.calls _ _ _ _ _ _ _ _ _ _ _ _ w rfl
theorem check_c {w : World} (X : S28) : Tells Tryd.prog 15 #[.agg #[.int .i64 X.f0, .string X.f1, .string X.f2, .string X.f3, .int .i64 X.f4, .int .i64 X.f5]] w (.int .i64 (chkT X.f0 X.f1 X.f2 X.f3 X.f4 X.f5)) := trade_Check.calls 80 _ _ _ _ _ _ _ w (iCheck _ _ _ _ _ _ _ (Nat.le_refl _))
theorem rcheck_c {w : World} (X : S28) : Tells Tryd.prog 16 #[.agg #[.int .i64 X.f0, .string X.f1, .string X.f2, .string X.f3, .int .i64 X.f4, .int .i64 X.f5]] w (.int .i64 (chkT X.f0 X.f1 X.f2 X.f3 X.f4 X.f5)) := clevisref07_Check.calls 80 _ _ _ _ _ _ _ w (rCheck _ _ _ _ _ _ _ (Nat.le_refl _))
theorem val_c (X : S28) (h4 : I64 X.f4) (h5 : I64 X.f5) : ∃ hi lo, I64 hi ∧ U64 lo ∧ wd hi lo = X.f4 * X.f5 ∧ ∀ w, Tells Tryd.prog 17 #[.agg #[.int .i64 X.f0, .string X.f1, .string X.f2, .string X.f3, .int .i64 X.f4, .int .i64 X.f5]] w (.agg #[.int .i64 hi, .int .u64 lo]) := by
  obtain ⟨hi, lo, h1, h2, h3, h6⟩ := Fp.Times_f h4 h5
  refine ⟨hi, lo, h2, h3, h6, fun w => trade_Value.calls _ _ _ _ _ _ _ _ w ?_⟩
  unfold trade_Value.f
  rw [h1]
  rfl
theorem cmp_c {w : World} (x y : S28) : Tells Tryd.prog 18 #[.agg #[.int .i64 x.f0, .string x.f1, .string x.f2, .string x.f3, .int .i64 x.f4, .int .i64 x.f5], .agg #[.int .i64 y.f0, .string y.f1, .string y.f2, .string y.f3, .int .i64 y.f4, .int .i64 y.f5]] w (.int .i64 (cmpT x y)) := trade_Compare.calls 10 _ _ _ _ _ _ _ _ _ _ _ _ _ w (compare_f x y)
theorem rcmp_c {w : World} (x y : S28) : Tells Tryd.prog 19 #[.agg #[.int .i64 x.f0, .string x.f1, .string x.f2, .string x.f3, .int .i64 x.f4, .int .i64 x.f5], .agg #[.int .i64 y.f0, .string y.f1, .string y.f2, .string y.f3, .int .i64 y.f4, .int .i64 y.f5]] w (.int .i64 (cmpT x y)) := compare_c (⟨x.f0, x.f1, x.f2, x.f3, x.f4, x.f5⟩ : S30) (⟨y.f0, y.f1, y.f2, y.f3, y.f4, y.f5⟩ : S30)
theorem rval_c {w : World} (x : S28) (h4 : I64 x.f4) (h5 : I64 x.f5) : Gives Tryd.prog 8 #[.agg #[.int .i64 x.f0, .string x.f1, .string x.f2, .string x.f3, .int .i64 x.f4, .int .i64 x.f5]] w (Num (x.f4 * x.f5)) := value_c (⟨x.f0, x.f1, x.f2, x.f3, x.f4, x.f5⟩ : S30) h4 h5
theorem same_c {w : World} {ok ok' : Nat → Prop} {A A' : Option Addr} {c c' : Nat} {z : Int} (h : Held w ok (Cs A (dig z))) (hc : (dig z).length ≤ c) (h' : Held w ok' (Cs A' (dig z))) (hc' : (dig z).length ≤ c') (hl : (dig z).length ≤ 1000000) :
    Tells Tryd.prog 12 #[num z A c, num z A' c'] w (.int .i64 0) := by
  have h := Nu.cmp_c h hc h' hc' hl hl
  rwa [show sgn z z = 0 by unfold sgn; simp] at h
theorem len128 {a b : Int} (ha : I64 a) (hb : I64 b) : (dig (a * b)).length ≤ 1000000 := by
  refine Nat.le_trans (dig_len (n := 9) ?_) (by decide)
  rw [Nu.B_succ, Nu.B8, Int.natAbs_mul]
  have h1 : (a.natAbs : Int) ≤ 9223372036854775808 := by unfold I64 at ha; omega
  have h2 : (b.natAbs : Int) ≤ 9223372036854775808 := by unfold I64 at hb; omega
  have h3 : (a.natAbs : Int) * (b.natAbs : Int) ≤ 9223372036854775808 * 9223372036854775808 := Int.mul_le_mul h1 h2 (by omega) (by omega)
  rw [Int.natCast_mul]
  omega
theorem eqA28 (d : Nat) (w : World) (x0 y0 : Int) (x1 y1 : ByteArray) (x2 y2 : ByteArray) (x3 y3 : ByteArray) (x4 y4 : Int) (x5 y5 : Int) :
    (Op.equalIn (d + 2) 28 (.agg #[.int .i64 x0, .string x1, .string x2, .string x3, .int .i64 x4, .int .i64 x5]) (.agg #[.int .i64 y0, .string y1, .string y2, .string y3, .int .i64 y4, .int .i64 y5])).run Tryd.prog w = .ok (x0 == y0 && (x1.toList == y1.toList && (x2.toList == y2.toList && (x3.toList == y3.toList && (x4 == y4 && (x5 == y5)))))) w := by
  refine eqA_of Tryd.underlying28 (by kernel_rfl) ?_
  refine eqf_cons (by rfl) (by go_simp; rfl) (by go_simp; rfl) (by go_simp) ?_
  refine eqf_cons (by rfl) (by go_simp; rfl) (by go_simp; rfl) (by go_simp) ?_
  refine eqf_cons (by rfl) (by go_simp; rfl) (by go_simp; rfl) (by go_simp) ?_
  refine eqf_cons (by rfl) (by go_simp; rfl) (by go_simp; rfl) (by go_simp) ?_
  refine eqf_cons (by rfl) (by go_simp; rfl) (by go_simp; rfl) (by go_simp) ?_
  exact eqf_last (by rfl) (by go_simp; rfl) (by go_simp; rfl) (by go_simp)
theorem lst_ne {a b : ByteArray} : (a.toList == b.toList) = decide (cmpS a b = 0) := by
  rw [Bool.eq_iff_iff]
  simp [cmpS_eq]
theorem int_ne {a b : Int} : (a == b) = decide (cmpI a b = 0) := by
  rw [Bool.eq_iff_iff]
  simp only [beq_iff_eq, decide_eq_true_eq]
  unfold cmpI
  split
  · omega
  · split <;> omega
set_option maxRecDepth 100000 in
theorem same_s (X Y : S28) (w : World) : (Op.equalIn 10000 28 (.agg #[.int .i64 X.f0, .string X.f1, .string X.f2, .string X.f3, .int .i64 X.f4, .int .i64 X.f5]) (.agg #[.int .i64 Y.f0, .string Y.f1, .string Y.f2, .string Y.f3, .int .i64 Y.f4, .int .i64 Y.f5])).run Tryd.prog w = .ok (cmpT X Y == 0) w := by
  have h := eqA28 9998 w X.f0 Y.f0 X.f1 Y.f1 X.f2 Y.f2 X.f3 Y.f3 X.f4 Y.f4 X.f5 Y.f5
  refine h.trans ?_
  congr 1
  rw [show (cmpT X Y == 0) = decide (cmpT X Y = 0) by rw [Bool.eq_iff_iff]; simp]
  simp only [lst_ne, int_ne]
  unfold cmpT lex
  rw [Bool.eq_iff_iff]
  simp only [Bool.and_eq_true, decide_eq_true_eq, beq_iff_eq]
  (repeat' split) <;> simp_all
set_option maxRecDepth 100000 in
set_option maxHeartbeats 8000000 in
theorem walk (w : World) (x : S30) (gx : Rt.Good30 x) (y : S30) (gy : Rt.Good30 y) : Calls Tryd.prog 4 #[.agg #[.int .i64 x.f0, .string x.f1, .string x.f2, .string x.f3, .int .i64 x.f4, .int .i64 x.f5], .agg #[.int .i64 y.f0, .string y.f1, .string y.f2, .string y.f3, .int .i64 y.f4, .int .i64 y.f5]] w fun e w' => e = .returned (.bool true) ∧ Below w.heap.size w w' := by
  have hu28 := Tryd.underlying28
  have hu30 := Tryd.underlying30
  have hg28 : Tryd.prog.eqGuardType Tryd.prog.depth 28 = false := by kernel_rfl
  obtain ⟨X, hX', hX⟩ := to_c x
  obtain ⟨Y, hY', hY⟩ := to_c y
  have h4 : I64 X.f4 := by rw [hX']; exact gx.2.1
  have h5 : I64 X.f5 := by rw [hX']; exact gx.2.2
  clear hX' hY' gx gy
  obtain ⟨hi, lo, g1, g2, g3, hV⟩ := val_c X h4 h5
  have hN : ∀ w, Gives Tryd.prog 13 #[.agg #[.int .i64 hi, .int .u64 lo]] w (Num (X.f4 * X.f5)) := fun w => by have := num_c (w := w) g1 g2; rwa [g3] at this
  have hR := fun w => rval_c (w := w) X h4 h5
  have hl := Aside0.mk (len128 h4 h5)
  clear g1 g2 g3 h4 h5
  obtain ⟨pz, hpz⟩ : ∃ z, X.f4 * X.f5 = z := ⟨_, rfl⟩
  rw [hpz] at hN hR hl
  clear hpz
  have hC := fun w => check_c (w := w) X
  have hCr := fun w => rcheck_c (w := w) X
  generalize chkT X.f0 X.f1 X.f2 X.f3 X.f4 X.f5 = ck at hC hCr
  have hA := good_T.anti X Y
  have hS := good_T.sgn X Y
  have c1 := fun w => cmp_c (w := w) X Y
  have c2 := fun w => rcmp_c (w := w) X Y
  have c3 := fun w => cmp_c (w := w) Y X
  have heq := same_s X Y
  rw [hA] at c3
  clear hA
  generalize cmpT X Y = q1 at *
  have e5 : wrap64 (-q1) = -q1 := by unfold wrap64; omega
  clear hS
  replace hX := Aside0.mk hX
  replace hY := Aside0.mk hY
  replace hV := Aside0.mk hV
  replace hN := Aside0.mk hN
  replace hR := Aside0.mk hR
  replace hC := Aside0.mk hC
  replace hCr := Aside0.mk hCr
  replace c1 := Aside0.mk c1
  replace c2 := Aside0.mk c2
  replace c3 := Aside0.mk c3
  go_enter Tryd.func4, Tryd.ntmps4
  have H := ((All.start w).box w.heap.size 30 #[.int .i64 x.f0, .string x.f1, .string x.f2, .string x.f3, .int .i64 x.f4, .int .i64 x.f5]).box (w.heap.size + 1) 30 #[.int .i64 y.f0, .string y.f1, .string y.f2, .string y.f3, .int .i64 y.f4, .int .i64 y.f5]
  go_upto_region 1 with fail
  go_cut [5, 6] (fun s5 s6 wx => ∃ b5 b6 : Nat, s5 = .pointer (some ⟨b5, 0, none⟩) ∧ s6 = .pointer (some ⟨b6, 0, none⟩) ∧ All w wx [bx b5 28 #[.int .i64 X.f0, .string X.f1, .string X.f2, .string X.f3, .int .i64 X.f4, .int .i64 X.f5], bx b6 28 #[.int .i64 Y.f0, .string Y.f1, .string Y.f2, .string Y.f3, .int .i64 Y.f4, .int .i64 Y.f5]])
  case first =>
    refine planT_ (true, [([], []), ([0], [0]), ([], []), ([2, 1], [2]), ([], []), ([], []), ([4, 1, 3, 0, 1, 4, 5], [1, 4]), ([5, 3, 6, 0, 1, 2, 3, 4, 5, 6], [3, 5])]) (.fork3 [.t 0, .t 2] 1 4 5 (.fork3 [] 3 4 5 (.fork [] 4 5 (.leaf [.c 5, .c 6, .c 7]) (.leaf [.c 4, .c 6, .c 7])) (.fork [] 3 5 (.leaf [.c 5, .c 6, .c 7]) (.leaf [.c 3, .c 6, .c 7])) (.fork [] 3 4 (.leaf [.c 4, .c 6, .c 7]) (.leaf [.c 3, .c 6, .c 7]))) (.fork [] 1 5 (.fork [] 3 5 (.leaf [.c 5, .c 6, .c 7]) (.leaf [.c 3, .c 6, .c 7])) (.leaf [.c 1, .c 3, .c 6, .c 7])) (.fork [] 1 4 (.fork [] 3 4 (.leaf [.c 4, .c 6, .c 7]) (.leaf [.c 3, .c 6, .c 7])) (.leaf [.c 1, .c 3, .c 6, .c 7]))) H (by kernel_rfl) (by kernel_rfl) rfl rfl (by kernel_rfl) (by intro c a w d v h; cases d <;> exact h) (fun w2 H => ?_)
    refine pl_fork3 ?_
    refine pl_B 1 H rfl (h := ?_)
    refine pl_B 0 H rfl (h := ?_)
    refine pl_done ⟨?_, ?_, ?_⟩
    · refine pl_S (hX.out _) H Tryd.func6 (h := fun w11 H => ?_)
      refine pl_done (pl_fork3 ?_)
      refine pl_done ⟨?_, ?_, ?_⟩
      · refine pl_S (hY.out _) H Tryd.func6 (h := fun w12 H => ?_)
        refine pl_done (pl_fork ?_)
        refine pl_done ⟨?_, ?_⟩
        · have zn5 : w.heap.size ≤ w12.heap.size := by have := (H.old).size; first | omega | (simp at this; omega)
          refine pl_R (H.box (w12.heap.size) 28 #[.int .i64 0, .string ⟨#[]⟩, .string ⟨#[]⟩, .string ⟨#[]⟩, .int .i64 0, .int .i64 0]) (fun H => ?_)
          refine pl_done (pl_leaf ?_)
          have zn6 : w.heap.size ≤ w12.heap.size + 1 := by have := (H.old).size; first | omega | (simp at this; omega)
          refine pl_R (H.box (w12.heap.size + 1) 28 #[.int .i64 0, .string ⟨#[]⟩, .string ⟨#[]⟩, .string ⟨#[]⟩, .int .i64 0, .int .i64 0]) (fun H => ?_)
          refine pl_WR 1 #[.int .i64 X.f0, .string X.f1, .string X.f2, .string X.f3, .int .i64 X.f4, .int .i64 X.f5] H rfl zn5 (fun H => ?_) (by kernel_rfl) rfl
          refine pl_WR 0 #[.int .i64 Y.f0, .string Y.f1, .string Y.f2, .string Y.f3, .int .i64 Y.f4, .int .i64 Y.f5] H rfl zn6 (fun H => ?_) (by kernel_rfl) rfl
          refine pl_done ?_
          go_wp2_with fail
          go_meet
          exact ⟨_, _, rfl, rfl, (H.swap).sub (by simp)⟩
        · have zn6 : w.heap.size ≤ w12.heap.size := by have := (H.old).size; first | omega | (simp at this; omega)
          refine pl_R (H.box (w12.heap.size) 28 #[.int .i64 0, .string ⟨#[]⟩, .string ⟨#[]⟩, .string ⟨#[]⟩, .int .i64 0, .int .i64 0]) (fun H => ?_)
          refine pl_done (pl_leaf ?_)
          have zn5 : w.heap.size ≤ w12.heap.size + 1 := by have := (H.old).size; first | omega | (simp at this; omega)
          refine pl_R (H.box (w12.heap.size + 1) 28 #[.int .i64 0, .string ⟨#[]⟩, .string ⟨#[]⟩, .string ⟨#[]⟩, .int .i64 0, .int .i64 0]) (fun H => ?_)
          refine pl_WR 0 #[.int .i64 X.f0, .string X.f1, .string X.f2, .string X.f3, .int .i64 X.f4, .int .i64 X.f5] H rfl zn5 (fun H => ?_) (by kernel_rfl) rfl
          refine pl_WR 1 #[.int .i64 Y.f0, .string Y.f1, .string Y.f2, .string Y.f3, .int .i64 Y.f4, .int .i64 Y.f5] H rfl zn6 (fun H => ?_) (by kernel_rfl) rfl
          refine pl_done ?_
          go_wp2_with fail
          go_meet
          exact ⟨_, _, rfl, rfl, (H).sub (by simp)⟩
      · have zn5 : w.heap.size ≤ w11.heap.size := by have := (H.old).size; first | omega | (simp at this; omega)
        refine pl_R (H.box (w11.heap.size) 28 #[.int .i64 0, .string ⟨#[]⟩, .string ⟨#[]⟩, .string ⟨#[]⟩, .int .i64 0, .int .i64 0]) (fun H => ?_)
        refine pl_done (pl_fork ?_)
        refine pl_done ⟨?_, ?_⟩
        · refine pl_S (hY.out _) H Tryd.func6 (h := fun w12 H => ?_)
          refine pl_done (pl_leaf ?_)
          have zn6 : w.heap.size ≤ w12.heap.size := by have := (H.old).size; first | omega | (simp at this; omega)
          refine pl_R (H.box (w12.heap.size) 28 #[.int .i64 0, .string ⟨#[]⟩, .string ⟨#[]⟩, .string ⟨#[]⟩, .int .i64 0, .int .i64 0]) (fun H => ?_)
          refine pl_WR 1 #[.int .i64 X.f0, .string X.f1, .string X.f2, .string X.f3, .int .i64 X.f4, .int .i64 X.f5] H rfl zn5 (fun H => ?_) (by kernel_rfl) rfl
          refine pl_WR 0 #[.int .i64 Y.f0, .string Y.f1, .string Y.f2, .string Y.f3, .int .i64 Y.f4, .int .i64 Y.f5] H rfl zn6 (fun H => ?_) (by kernel_rfl) rfl
          refine pl_done ?_
          go_wp2_with fail
          go_meet
          exact ⟨_, _, rfl, rfl, (H.swap).sub (by simp)⟩
        · have zn6 : w.heap.size ≤ w11.heap.size + 1 := by have := (H.old).size; first | omega | (simp at this; omega)
          refine pl_R (H.box (w11.heap.size + 1) 28 #[.int .i64 0, .string ⟨#[]⟩, .string ⟨#[]⟩, .string ⟨#[]⟩, .int .i64 0, .int .i64 0]) (fun H => ?_)
          refine pl_done (pl_leaf ?_)
          refine pl_S (hY.out _) H Tryd.func6 (h := fun w12 H => ?_)
          refine pl_WR 1 #[.int .i64 X.f0, .string X.f1, .string X.f2, .string X.f3, .int .i64 X.f4, .int .i64 X.f5] H rfl zn5 (fun H => ?_) (by kernel_rfl) rfl
          refine pl_WR 0 #[.int .i64 Y.f0, .string Y.f1, .string Y.f2, .string Y.f3, .int .i64 Y.f4, .int .i64 Y.f5] H rfl zn6 (fun H => ?_) (by kernel_rfl) rfl
          refine pl_done ?_
          go_wp2_with fail
          go_meet
          exact ⟨_, _, rfl, rfl, (H.swap).sub (by simp)⟩
      · have zn6 : w.heap.size ≤ w11.heap.size := by have := (H.old).size; first | omega | (simp at this; omega)
        refine pl_R (H.box (w11.heap.size) 28 #[.int .i64 0, .string ⟨#[]⟩, .string ⟨#[]⟩, .string ⟨#[]⟩, .int .i64 0, .int .i64 0]) (fun H => ?_)
        refine pl_done (pl_fork ?_)
        refine pl_done ⟨?_, ?_⟩
        · refine pl_S (hY.out _) H Tryd.func6 (h := fun w12 H => ?_)
          refine pl_done (pl_leaf ?_)
          have zn5 : w.heap.size ≤ w12.heap.size := by have := (H.old).size; first | omega | (simp at this; omega)
          refine pl_R (H.box (w12.heap.size) 28 #[.int .i64 0, .string ⟨#[]⟩, .string ⟨#[]⟩, .string ⟨#[]⟩, .int .i64 0, .int .i64 0]) (fun H => ?_)
          refine pl_WR 0 #[.int .i64 X.f0, .string X.f1, .string X.f2, .string X.f3, .int .i64 X.f4, .int .i64 X.f5] H rfl zn5 (fun H => ?_) (by kernel_rfl) rfl
          refine pl_WR 1 #[.int .i64 Y.f0, .string Y.f1, .string Y.f2, .string Y.f3, .int .i64 Y.f4, .int .i64 Y.f5] H rfl zn6 (fun H => ?_) (by kernel_rfl) rfl
          refine pl_done ?_
          go_wp2_with fail
          go_meet
          exact ⟨_, _, rfl, rfl, (H).sub (by simp)⟩
        · have zn5 : w.heap.size ≤ w11.heap.size + 1 := by have := (H.old).size; first | omega | (simp at this; omega)
          refine pl_R (H.box (w11.heap.size + 1) 28 #[.int .i64 0, .string ⟨#[]⟩, .string ⟨#[]⟩, .string ⟨#[]⟩, .int .i64 0, .int .i64 0]) (fun H => ?_)
          refine pl_done (pl_leaf ?_)
          refine pl_S (hY.out _) H Tryd.func6 (h := fun w12 H => ?_)
          refine pl_WR 0 #[.int .i64 X.f0, .string X.f1, .string X.f2, .string X.f3, .int .i64 X.f4, .int .i64 X.f5] H rfl zn5 (fun H => ?_) (by kernel_rfl) rfl
          refine pl_WR 1 #[.int .i64 Y.f0, .string Y.f1, .string Y.f2, .string Y.f3, .int .i64 Y.f4, .int .i64 Y.f5] H rfl zn6 (fun H => ?_) (by kernel_rfl) rfl
          refine pl_done ?_
          go_wp2_with fail
          go_meet
          exact ⟨_, _, rfl, rfl, (H).sub (by simp)⟩
    · have zn5 : w.heap.size ≤ w2.heap.size := by have := (H.old).size; first | omega | (simp at this; omega)
      refine pl_R (H.box (w2.heap.size) 28 #[.int .i64 0, .string ⟨#[]⟩, .string ⟨#[]⟩, .string ⟨#[]⟩, .int .i64 0, .int .i64 0]) (fun H => ?_)
      refine pl_done (pl_fork ?_)
      refine pl_done ⟨?_, ?_⟩
      · refine pl_S (hX.out _) H Tryd.func6 (h := fun w11 H => ?_)
        refine pl_done (pl_fork ?_)
        refine pl_done ⟨?_, ?_⟩
        · refine pl_S (hY.out _) H Tryd.func6 (h := fun w12 H => ?_)
          refine pl_done (pl_leaf ?_)
          have zn6 : w.heap.size ≤ w12.heap.size := by have := (H.old).size; first | omega | (simp at this; omega)
          refine pl_R (H.box (w12.heap.size) 28 #[.int .i64 0, .string ⟨#[]⟩, .string ⟨#[]⟩, .string ⟨#[]⟩, .int .i64 0, .int .i64 0]) (fun H => ?_)
          refine pl_WR 1 #[.int .i64 X.f0, .string X.f1, .string X.f2, .string X.f3, .int .i64 X.f4, .int .i64 X.f5] H rfl zn5 (fun H => ?_) (by kernel_rfl) rfl
          refine pl_WR 0 #[.int .i64 Y.f0, .string Y.f1, .string Y.f2, .string Y.f3, .int .i64 Y.f4, .int .i64 Y.f5] H rfl zn6 (fun H => ?_) (by kernel_rfl) rfl
          refine pl_done ?_
          go_wp2_with fail
          go_meet
          exact ⟨_, _, rfl, rfl, (H.swap).sub (by simp)⟩
        · have zn6 : w.heap.size ≤ w11.heap.size := by have := (H.old).size; first | omega | (simp at this; omega)
          refine pl_R (H.box (w11.heap.size) 28 #[.int .i64 0, .string ⟨#[]⟩, .string ⟨#[]⟩, .string ⟨#[]⟩, .int .i64 0, .int .i64 0]) (fun H => ?_)
          refine pl_done (pl_leaf ?_)
          refine pl_S (hY.out _) H Tryd.func6 (h := fun w12 H => ?_)
          refine pl_WR 1 #[.int .i64 X.f0, .string X.f1, .string X.f2, .string X.f3, .int .i64 X.f4, .int .i64 X.f5] H rfl zn5 (fun H => ?_) (by kernel_rfl) rfl
          refine pl_WR 0 #[.int .i64 Y.f0, .string Y.f1, .string Y.f2, .string Y.f3, .int .i64 Y.f4, .int .i64 Y.f5] H rfl zn6 (fun H => ?_) (by kernel_rfl) rfl
          refine pl_done ?_
          go_wp2_with fail
          go_meet
          exact ⟨_, _, rfl, rfl, (H.swap).sub (by simp)⟩
      · have zn6 : w.heap.size ≤ w2.heap.size + 1 := by have := (H.old).size; first | omega | (simp at this; omega)
        refine pl_R (H.box (w2.heap.size + 1) 28 #[.int .i64 0, .string ⟨#[]⟩, .string ⟨#[]⟩, .string ⟨#[]⟩, .int .i64 0, .int .i64 0]) (fun H => ?_)
        refine pl_done (pl_leaf ?_)
        refine pl_S (hX.out _) H Tryd.func6 (h := fun w11 H => ?_)
        refine pl_S (hY.out _) H Tryd.func6 (h := fun w12 H => ?_)
        refine pl_WR 1 #[.int .i64 X.f0, .string X.f1, .string X.f2, .string X.f3, .int .i64 X.f4, .int .i64 X.f5] H rfl zn5 (fun H => ?_) (by kernel_rfl) rfl
        refine pl_WR 0 #[.int .i64 Y.f0, .string Y.f1, .string Y.f2, .string Y.f3, .int .i64 Y.f4, .int .i64 Y.f5] H rfl zn6 (fun H => ?_) (by kernel_rfl) rfl
        refine pl_done ?_
        go_wp2_with fail
        go_meet
        exact ⟨_, _, rfl, rfl, (H.swap).sub (by simp)⟩
    · have zn6 : w.heap.size ≤ w2.heap.size := by have := (H.old).size; first | omega | (simp at this; omega)
      refine pl_R (H.box (w2.heap.size) 28 #[.int .i64 0, .string ⟨#[]⟩, .string ⟨#[]⟩, .string ⟨#[]⟩, .int .i64 0, .int .i64 0]) (fun H => ?_)
      refine pl_done (pl_fork ?_)
      refine pl_done ⟨?_, ?_⟩
      · refine pl_S (hX.out _) H Tryd.func6 (h := fun w11 H => ?_)
        refine pl_done (pl_fork ?_)
        refine pl_done ⟨?_, ?_⟩
        · refine pl_S (hY.out _) H Tryd.func6 (h := fun w12 H => ?_)
          refine pl_done (pl_leaf ?_)
          have zn5 : w.heap.size ≤ w12.heap.size := by have := (H.old).size; first | omega | (simp at this; omega)
          refine pl_R (H.box (w12.heap.size) 28 #[.int .i64 0, .string ⟨#[]⟩, .string ⟨#[]⟩, .string ⟨#[]⟩, .int .i64 0, .int .i64 0]) (fun H => ?_)
          refine pl_WR 0 #[.int .i64 X.f0, .string X.f1, .string X.f2, .string X.f3, .int .i64 X.f4, .int .i64 X.f5] H rfl zn5 (fun H => ?_) (by kernel_rfl) rfl
          refine pl_WR 1 #[.int .i64 Y.f0, .string Y.f1, .string Y.f2, .string Y.f3, .int .i64 Y.f4, .int .i64 Y.f5] H rfl zn6 (fun H => ?_) (by kernel_rfl) rfl
          refine pl_done ?_
          go_wp2_with fail
          go_meet
          exact ⟨_, _, rfl, rfl, (H).sub (by simp)⟩
        · have zn5 : w.heap.size ≤ w11.heap.size := by have := (H.old).size; first | omega | (simp at this; omega)
          refine pl_R (H.box (w11.heap.size) 28 #[.int .i64 0, .string ⟨#[]⟩, .string ⟨#[]⟩, .string ⟨#[]⟩, .int .i64 0, .int .i64 0]) (fun H => ?_)
          refine pl_done (pl_leaf ?_)
          refine pl_S (hY.out _) H Tryd.func6 (h := fun w12 H => ?_)
          refine pl_WR 0 #[.int .i64 X.f0, .string X.f1, .string X.f2, .string X.f3, .int .i64 X.f4, .int .i64 X.f5] H rfl zn5 (fun H => ?_) (by kernel_rfl) rfl
          refine pl_WR 1 #[.int .i64 Y.f0, .string Y.f1, .string Y.f2, .string Y.f3, .int .i64 Y.f4, .int .i64 Y.f5] H rfl zn6 (fun H => ?_) (by kernel_rfl) rfl
          refine pl_done ?_
          go_wp2_with fail
          go_meet
          exact ⟨_, _, rfl, rfl, (H).sub (by simp)⟩
      · have zn5 : w.heap.size ≤ w2.heap.size + 1 := by have := (H.old).size; first | omega | (simp at this; omega)
        refine pl_R (H.box (w2.heap.size + 1) 28 #[.int .i64 0, .string ⟨#[]⟩, .string ⟨#[]⟩, .string ⟨#[]⟩, .int .i64 0, .int .i64 0]) (fun H => ?_)
        refine pl_done (pl_leaf ?_)
        refine pl_S (hX.out _) H Tryd.func6 (h := fun w11 H => ?_)
        refine pl_S (hY.out _) H Tryd.func6 (h := fun w12 H => ?_)
        refine pl_WR 0 #[.int .i64 X.f0, .string X.f1, .string X.f2, .string X.f3, .int .i64 X.f4, .int .i64 X.f5] H rfl zn5 (fun H => ?_) (by kernel_rfl) rfl
        refine pl_WR 1 #[.int .i64 Y.f0, .string Y.f1, .string Y.f2, .string Y.f3, .int .i64 Y.f4, .int .i64 Y.f5] H rfl zn6 (fun H => ?_) (by kernel_rfl) rfl
        refine pl_done ?_
        go_wp2_with fail
        go_meet
        exact ⟨_, _, rfl, rfl, (H).sub (by simp)⟩
  case rest =>
    clear H hX hY
    obtain ⟨b5, b6, rfl, rfl, H⟩ := hcut
    go_upto_region 2 with fail
    go_cut [7, 8] (fun s7 s8 wx => ∃ b7 b8 : Nat, s7 = .pointer (some ⟨b7, 0, none⟩) ∧ s8 = .pointer (some ⟨b8, 0, none⟩) ∧ All w wx [bx b7 30 #[.int .i64 X.f0, .string X.f1, .string X.f2, .string X.f3, .int .i64 X.f4, .int .i64 X.f5], bx b8 30 #[.int .i64 Y.f0, .string Y.f1, .string Y.f2, .string Y.f3, .int .i64 Y.f4, .int .i64 Y.f5], bx b5 28 #[.int .i64 X.f0, .string X.f1, .string X.f2, .string X.f3, .int .i64 X.f4, .int .i64 X.f5], bx b6 28 #[.int .i64 Y.f0, .string Y.f1, .string Y.f2, .string Y.f3, .int .i64 Y.f4, .int .i64 Y.f5]])
    case first =>
      refine planT_ (true, [([], []), ([0], [0]), ([], []), ([2, 1], [2]), ([], []), ([], []), ([4, 1, 3, 0, 1, 4, 5], [1, 4]), ([5, 3, 6, 0, 1, 2, 3, 4, 5, 6], [3, 5])]) (.fork3 [.t 0, .t 2] 1 4 5 (.fork3 [] 3 4 5 (.fork [] 4 5 (.leaf [.c 5, .c 6, .c 7]) (.leaf [.c 4, .c 6, .c 7])) (.fork [] 3 5 (.leaf [.c 5, .c 6, .c 7]) (.leaf [.c 3, .c 6, .c 7])) (.fork [] 3 4 (.leaf [.c 4, .c 6, .c 7]) (.leaf [.c 3, .c 6, .c 7]))) (.fork [] 1 5 (.fork [] 3 5 (.leaf [.c 5, .c 6, .c 7]) (.leaf [.c 3, .c 6, .c 7])) (.leaf [.c 1, .c 3, .c 6, .c 7])) (.fork [] 1 4 (.fork [] 3 4 (.leaf [.c 4, .c 6, .c 7]) (.leaf [.c 3, .c 6, .c 7])) (.leaf [.c 1, .c 3, .c 6, .c 7]))) H (by kernel_rfl) (by kernel_rfl) rfl rfl (by kernel_rfl) (by intro c a w d v h; cases d <;> exact h) (fun w3 H => ?_)
      refine pl_fork3 ?_
      refine pl_B 0 H rfl (h := ?_)
      refine pl_B 1 H rfl (h := ?_)
      refine pl_done ⟨?_, ?_, ?_⟩
      · refine pl_S (of_c X) H Tryd.func14 (h := fun w11 H => ?_)
        refine pl_done (pl_fork3 ?_)
        refine pl_done ⟨?_, ?_, ?_⟩
        · refine pl_S (of_c Y) H Tryd.func14 (h := fun w12 H => ?_)
          refine pl_done (pl_fork ?_)
          refine pl_done ⟨?_, ?_⟩
          · have zn7 : w.heap.size ≤ w12.heap.size := by have := (H.old).size; first | omega | (simp at this; omega)
            refine pl_R (H.box (w12.heap.size) 30 #[.int .i64 0, .string ⟨#[]⟩, .string ⟨#[]⟩, .string ⟨#[]⟩, .int .i64 0, .int .i64 0]) (fun H => ?_)
            refine pl_done (pl_leaf ?_)
            have zn8 : w.heap.size ≤ w12.heap.size + 1 := by have := (H.old).size; first | omega | (simp at this; omega)
            refine pl_R (H.box (w12.heap.size + 1) 30 #[.int .i64 0, .string ⟨#[]⟩, .string ⟨#[]⟩, .string ⟨#[]⟩, .int .i64 0, .int .i64 0]) (fun H => ?_)
            refine pl_WR 1 #[.int .i64 X.f0, .string X.f1, .string X.f2, .string X.f3, .int .i64 X.f4, .int .i64 X.f5] H rfl zn7 (fun H => ?_) (by kernel_rfl) rfl
            refine pl_WR 0 #[.int .i64 Y.f0, .string Y.f1, .string Y.f2, .string Y.f3, .int .i64 Y.f4, .int .i64 Y.f5] H rfl zn8 (fun H => ?_) (by kernel_rfl) rfl
            refine pl_done ?_
            go_wp2_with fail
            go_meet
            exact ⟨_, _, rfl, rfl, (H.swap).sub (by simp)⟩
          · have zn8 : w.heap.size ≤ w12.heap.size := by have := (H.old).size; first | omega | (simp at this; omega)
            refine pl_R (H.box (w12.heap.size) 30 #[.int .i64 0, .string ⟨#[]⟩, .string ⟨#[]⟩, .string ⟨#[]⟩, .int .i64 0, .int .i64 0]) (fun H => ?_)
            refine pl_done (pl_leaf ?_)
            have zn7 : w.heap.size ≤ w12.heap.size + 1 := by have := (H.old).size; first | omega | (simp at this; omega)
            refine pl_R (H.box (w12.heap.size + 1) 30 #[.int .i64 0, .string ⟨#[]⟩, .string ⟨#[]⟩, .string ⟨#[]⟩, .int .i64 0, .int .i64 0]) (fun H => ?_)
            refine pl_WR 0 #[.int .i64 X.f0, .string X.f1, .string X.f2, .string X.f3, .int .i64 X.f4, .int .i64 X.f5] H rfl zn7 (fun H => ?_) (by kernel_rfl) rfl
            refine pl_WR 1 #[.int .i64 Y.f0, .string Y.f1, .string Y.f2, .string Y.f3, .int .i64 Y.f4, .int .i64 Y.f5] H rfl zn8 (fun H => ?_) (by kernel_rfl) rfl
            refine pl_done ?_
            go_wp2_with fail
            go_meet
            exact ⟨_, _, rfl, rfl, (H).sub (by simp)⟩
        · have zn7 : w.heap.size ≤ w11.heap.size := by have := (H.old).size; first | omega | (simp at this; omega)
          refine pl_R (H.box (w11.heap.size) 30 #[.int .i64 0, .string ⟨#[]⟩, .string ⟨#[]⟩, .string ⟨#[]⟩, .int .i64 0, .int .i64 0]) (fun H => ?_)
          refine pl_done (pl_fork ?_)
          refine pl_done ⟨?_, ?_⟩
          · refine pl_S (of_c Y) H Tryd.func14 (h := fun w12 H => ?_)
            refine pl_done (pl_leaf ?_)
            have zn8 : w.heap.size ≤ w12.heap.size := by have := (H.old).size; first | omega | (simp at this; omega)
            refine pl_R (H.box (w12.heap.size) 30 #[.int .i64 0, .string ⟨#[]⟩, .string ⟨#[]⟩, .string ⟨#[]⟩, .int .i64 0, .int .i64 0]) (fun H => ?_)
            refine pl_WR 1 #[.int .i64 X.f0, .string X.f1, .string X.f2, .string X.f3, .int .i64 X.f4, .int .i64 X.f5] H rfl zn7 (fun H => ?_) (by kernel_rfl) rfl
            refine pl_WR 0 #[.int .i64 Y.f0, .string Y.f1, .string Y.f2, .string Y.f3, .int .i64 Y.f4, .int .i64 Y.f5] H rfl zn8 (fun H => ?_) (by kernel_rfl) rfl
            refine pl_done ?_
            go_wp2_with fail
            go_meet
            exact ⟨_, _, rfl, rfl, (H.swap).sub (by simp)⟩
          · have zn8 : w.heap.size ≤ w11.heap.size + 1 := by have := (H.old).size; first | omega | (simp at this; omega)
            refine pl_R (H.box (w11.heap.size + 1) 30 #[.int .i64 0, .string ⟨#[]⟩, .string ⟨#[]⟩, .string ⟨#[]⟩, .int .i64 0, .int .i64 0]) (fun H => ?_)
            refine pl_done (pl_leaf ?_)
            refine pl_S (of_c Y) H Tryd.func14 (h := fun w12 H => ?_)
            refine pl_WR 1 #[.int .i64 X.f0, .string X.f1, .string X.f2, .string X.f3, .int .i64 X.f4, .int .i64 X.f5] H rfl zn7 (fun H => ?_) (by kernel_rfl) rfl
            refine pl_WR 0 #[.int .i64 Y.f0, .string Y.f1, .string Y.f2, .string Y.f3, .int .i64 Y.f4, .int .i64 Y.f5] H rfl zn8 (fun H => ?_) (by kernel_rfl) rfl
            refine pl_done ?_
            go_wp2_with fail
            go_meet
            exact ⟨_, _, rfl, rfl, (H.swap).sub (by simp)⟩
        · have zn8 : w.heap.size ≤ w11.heap.size := by have := (H.old).size; first | omega | (simp at this; omega)
          refine pl_R (H.box (w11.heap.size) 30 #[.int .i64 0, .string ⟨#[]⟩, .string ⟨#[]⟩, .string ⟨#[]⟩, .int .i64 0, .int .i64 0]) (fun H => ?_)
          refine pl_done (pl_fork ?_)
          refine pl_done ⟨?_, ?_⟩
          · refine pl_S (of_c Y) H Tryd.func14 (h := fun w12 H => ?_)
            refine pl_done (pl_leaf ?_)
            have zn7 : w.heap.size ≤ w12.heap.size := by have := (H.old).size; first | omega | (simp at this; omega)
            refine pl_R (H.box (w12.heap.size) 30 #[.int .i64 0, .string ⟨#[]⟩, .string ⟨#[]⟩, .string ⟨#[]⟩, .int .i64 0, .int .i64 0]) (fun H => ?_)
            refine pl_WR 0 #[.int .i64 X.f0, .string X.f1, .string X.f2, .string X.f3, .int .i64 X.f4, .int .i64 X.f5] H rfl zn7 (fun H => ?_) (by kernel_rfl) rfl
            refine pl_WR 1 #[.int .i64 Y.f0, .string Y.f1, .string Y.f2, .string Y.f3, .int .i64 Y.f4, .int .i64 Y.f5] H rfl zn8 (fun H => ?_) (by kernel_rfl) rfl
            refine pl_done ?_
            go_wp2_with fail
            go_meet
            exact ⟨_, _, rfl, rfl, (H).sub (by simp)⟩
          · have zn7 : w.heap.size ≤ w11.heap.size + 1 := by have := (H.old).size; first | omega | (simp at this; omega)
            refine pl_R (H.box (w11.heap.size + 1) 30 #[.int .i64 0, .string ⟨#[]⟩, .string ⟨#[]⟩, .string ⟨#[]⟩, .int .i64 0, .int .i64 0]) (fun H => ?_)
            refine pl_done (pl_leaf ?_)
            refine pl_S (of_c Y) H Tryd.func14 (h := fun w12 H => ?_)
            refine pl_WR 0 #[.int .i64 X.f0, .string X.f1, .string X.f2, .string X.f3, .int .i64 X.f4, .int .i64 X.f5] H rfl zn7 (fun H => ?_) (by kernel_rfl) rfl
            refine pl_WR 1 #[.int .i64 Y.f0, .string Y.f1, .string Y.f2, .string Y.f3, .int .i64 Y.f4, .int .i64 Y.f5] H rfl zn8 (fun H => ?_) (by kernel_rfl) rfl
            refine pl_done ?_
            go_wp2_with fail
            go_meet
            exact ⟨_, _, rfl, rfl, (H).sub (by simp)⟩
      · have zn7 : w.heap.size ≤ w3.heap.size := by have := (H.old).size; first | omega | (simp at this; omega)
        refine pl_R (H.box (w3.heap.size) 30 #[.int .i64 0, .string ⟨#[]⟩, .string ⟨#[]⟩, .string ⟨#[]⟩, .int .i64 0, .int .i64 0]) (fun H => ?_)
        refine pl_done (pl_fork ?_)
        refine pl_done ⟨?_, ?_⟩
        · refine pl_S (of_c X) H Tryd.func14 (h := fun w11 H => ?_)
          refine pl_done (pl_fork ?_)
          refine pl_done ⟨?_, ?_⟩
          · refine pl_S (of_c Y) H Tryd.func14 (h := fun w12 H => ?_)
            refine pl_done (pl_leaf ?_)
            have zn8 : w.heap.size ≤ w12.heap.size := by have := (H.old).size; first | omega | (simp at this; omega)
            refine pl_R (H.box (w12.heap.size) 30 #[.int .i64 0, .string ⟨#[]⟩, .string ⟨#[]⟩, .string ⟨#[]⟩, .int .i64 0, .int .i64 0]) (fun H => ?_)
            refine pl_WR 1 #[.int .i64 X.f0, .string X.f1, .string X.f2, .string X.f3, .int .i64 X.f4, .int .i64 X.f5] H rfl zn7 (fun H => ?_) (by kernel_rfl) rfl
            refine pl_WR 0 #[.int .i64 Y.f0, .string Y.f1, .string Y.f2, .string Y.f3, .int .i64 Y.f4, .int .i64 Y.f5] H rfl zn8 (fun H => ?_) (by kernel_rfl) rfl
            refine pl_done ?_
            go_wp2_with fail
            go_meet
            exact ⟨_, _, rfl, rfl, (H.swap).sub (by simp)⟩
          · have zn8 : w.heap.size ≤ w11.heap.size := by have := (H.old).size; first | omega | (simp at this; omega)
            refine pl_R (H.box (w11.heap.size) 30 #[.int .i64 0, .string ⟨#[]⟩, .string ⟨#[]⟩, .string ⟨#[]⟩, .int .i64 0, .int .i64 0]) (fun H => ?_)
            refine pl_done (pl_leaf ?_)
            refine pl_S (of_c Y) H Tryd.func14 (h := fun w12 H => ?_)
            refine pl_WR 1 #[.int .i64 X.f0, .string X.f1, .string X.f2, .string X.f3, .int .i64 X.f4, .int .i64 X.f5] H rfl zn7 (fun H => ?_) (by kernel_rfl) rfl
            refine pl_WR 0 #[.int .i64 Y.f0, .string Y.f1, .string Y.f2, .string Y.f3, .int .i64 Y.f4, .int .i64 Y.f5] H rfl zn8 (fun H => ?_) (by kernel_rfl) rfl
            refine pl_done ?_
            go_wp2_with fail
            go_meet
            exact ⟨_, _, rfl, rfl, (H.swap).sub (by simp)⟩
        · have zn8 : w.heap.size ≤ w3.heap.size + 1 := by have := (H.old).size; first | omega | (simp at this; omega)
          refine pl_R (H.box (w3.heap.size + 1) 30 #[.int .i64 0, .string ⟨#[]⟩, .string ⟨#[]⟩, .string ⟨#[]⟩, .int .i64 0, .int .i64 0]) (fun H => ?_)
          refine pl_done (pl_leaf ?_)
          refine pl_S (of_c X) H Tryd.func14 (h := fun w11 H => ?_)
          refine pl_S (of_c Y) H Tryd.func14 (h := fun w12 H => ?_)
          refine pl_WR 1 #[.int .i64 X.f0, .string X.f1, .string X.f2, .string X.f3, .int .i64 X.f4, .int .i64 X.f5] H rfl zn7 (fun H => ?_) (by kernel_rfl) rfl
          refine pl_WR 0 #[.int .i64 Y.f0, .string Y.f1, .string Y.f2, .string Y.f3, .int .i64 Y.f4, .int .i64 Y.f5] H rfl zn8 (fun H => ?_) (by kernel_rfl) rfl
          refine pl_done ?_
          go_wp2_with fail
          go_meet
          exact ⟨_, _, rfl, rfl, (H.swap).sub (by simp)⟩
      · have zn8 : w.heap.size ≤ w3.heap.size := by have := (H.old).size; first | omega | (simp at this; omega)
        refine pl_R (H.box (w3.heap.size) 30 #[.int .i64 0, .string ⟨#[]⟩, .string ⟨#[]⟩, .string ⟨#[]⟩, .int .i64 0, .int .i64 0]) (fun H => ?_)
        refine pl_done (pl_fork ?_)
        refine pl_done ⟨?_, ?_⟩
        · refine pl_S (of_c X) H Tryd.func14 (h := fun w11 H => ?_)
          refine pl_done (pl_fork ?_)
          refine pl_done ⟨?_, ?_⟩
          · refine pl_S (of_c Y) H Tryd.func14 (h := fun w12 H => ?_)
            refine pl_done (pl_leaf ?_)
            have zn7 : w.heap.size ≤ w12.heap.size := by have := (H.old).size; first | omega | (simp at this; omega)
            refine pl_R (H.box (w12.heap.size) 30 #[.int .i64 0, .string ⟨#[]⟩, .string ⟨#[]⟩, .string ⟨#[]⟩, .int .i64 0, .int .i64 0]) (fun H => ?_)
            refine pl_WR 0 #[.int .i64 X.f0, .string X.f1, .string X.f2, .string X.f3, .int .i64 X.f4, .int .i64 X.f5] H rfl zn7 (fun H => ?_) (by kernel_rfl) rfl
            refine pl_WR 1 #[.int .i64 Y.f0, .string Y.f1, .string Y.f2, .string Y.f3, .int .i64 Y.f4, .int .i64 Y.f5] H rfl zn8 (fun H => ?_) (by kernel_rfl) rfl
            refine pl_done ?_
            go_wp2_with fail
            go_meet
            exact ⟨_, _, rfl, rfl, (H).sub (by simp)⟩
          · have zn7 : w.heap.size ≤ w11.heap.size := by have := (H.old).size; first | omega | (simp at this; omega)
            refine pl_R (H.box (w11.heap.size) 30 #[.int .i64 0, .string ⟨#[]⟩, .string ⟨#[]⟩, .string ⟨#[]⟩, .int .i64 0, .int .i64 0]) (fun H => ?_)
            refine pl_done (pl_leaf ?_)
            refine pl_S (of_c Y) H Tryd.func14 (h := fun w12 H => ?_)
            refine pl_WR 0 #[.int .i64 X.f0, .string X.f1, .string X.f2, .string X.f3, .int .i64 X.f4, .int .i64 X.f5] H rfl zn7 (fun H => ?_) (by kernel_rfl) rfl
            refine pl_WR 1 #[.int .i64 Y.f0, .string Y.f1, .string Y.f2, .string Y.f3, .int .i64 Y.f4, .int .i64 Y.f5] H rfl zn8 (fun H => ?_) (by kernel_rfl) rfl
            refine pl_done ?_
            go_wp2_with fail
            go_meet
            exact ⟨_, _, rfl, rfl, (H).sub (by simp)⟩
        · have zn7 : w.heap.size ≤ w3.heap.size + 1 := by have := (H.old).size; first | omega | (simp at this; omega)
          refine pl_R (H.box (w3.heap.size + 1) 30 #[.int .i64 0, .string ⟨#[]⟩, .string ⟨#[]⟩, .string ⟨#[]⟩, .int .i64 0, .int .i64 0]) (fun H => ?_)
          refine pl_done (pl_leaf ?_)
          refine pl_S (of_c X) H Tryd.func14 (h := fun w11 H => ?_)
          refine pl_S (of_c Y) H Tryd.func14 (h := fun w12 H => ?_)
          refine pl_WR 0 #[.int .i64 X.f0, .string X.f1, .string X.f2, .string X.f3, .int .i64 X.f4, .int .i64 X.f5] H rfl zn7 (fun H => ?_) (by kernel_rfl) rfl
          refine pl_WR 1 #[.int .i64 Y.f0, .string Y.f1, .string Y.f2, .string Y.f3, .int .i64 Y.f4, .int .i64 Y.f5] H rfl zn8 (fun H => ?_) (by kernel_rfl) rfl
          refine pl_done ?_
          go_wp2_with fail
          go_meet
          exact ⟨_, _, rfl, rfl, (H).sub (by simp)⟩
    case rest =>
      clear H
      obtain ⟨b7, b8, rfl, rfl, H⟩ := hcut
      go_wp2_with fail
      refine planT_ (true, [([], []), ([0, 0], [0]), ([1], [1]), ([2, 1, 1], [1, 2]), ([1], [1]), ([4, 3, 1], [1, 4]), ([3, 5, 1], [1, 3, 5]), ([1, 6], [1, 6]), ([7, 5], [7]), ([8], [8]), ([9, 8, 8], [8, 9]), ([10, 10, 8], [8, 10]), ([8], [8]), ([12, 11, 8], [8, 12]), ([11, 13, 13, 8], [8, 11, 13]), ([14, 8], [8, 14]), ([8, 15], [8, 15]), ([16, 14], [16]), ([17], [17]), ([17], [17]), ([18, 19, 17, 17], [17, 18, 19]), ([17], [17]), ([17], [17]), ([21, 22, 20, 17], [17, 21, 22]), ([20, 23, 17], [17, 20, 23]), ([17, 24], [17, 24]), ([25, 23], [25]), ([26], [26]), ([26], [26]), ([27, 28, 26, 26], [26, 27, 28]), ([26], [26]), ([26], [26]), ([30, 31, 29, 26], [26, 30, 31]), ([32, 26], [26, 32]), ([29, 33, 26], [26, 29, 33]), ([26, 34], [26, 34]), ([35, 32], [35]), ([36], [36]), ([36], [36]), ([37, 38, 36], [36, 37, 38]), ([36], [36]), ([36], [36]), ([40, 41, 36, 36], [36, 40, 41]), ([42, 36], [36, 42]), ([39, 43, 36], [36, 39, 43]), ([36, 44], [36, 44]), ([45, 42, 0, 1, 2, 3, 4, 5, 6, 7, 8, 9, 10, 11, 12, 13, 14, 15, 16, 17, 18, 19, 20, 21, 22, 23, 24, 25, 26, 27, 28, 29, 30, 31, 32, 33, 34, 35, 36, 37, 38, 39, 40, 41, 42, 43, 44, 45], [45])]) (.leaf [.c 0, .p 1, .t 2, .t 4, .c 3, .c 5, .p 6, .p 7, .p 8, .t 9, .t 12, .c 10, .c 11, .c 13, .c 14, .p 15, .p 16, .p 17, .t 18, .t 19, .t 21, .t 22, .c 20, .c 23, .p 24, .p 25, .p 26, .t 27, .t 28, .t 30, .t 31, .c 29, .c 32, .p 33, .p 34, .p 35, .p 36, .t 37, .t 38, .p 39, .t 40, .t 41, .c 42, .p 43, .p 44, .p 45, .p 46]) H (by kernel_rfl) (by kernel_rfl) rfl rfl (by kernel_rfl) (by intro c a w d v h; cases d <;> exact h) (fun w4 H => ?_)
      refine pl_leaf ?_
      refine pl_S (show Tells Tryd.prog 11 #[] _ (.bool true) from Kn.known_c) H Tryd.func11 (h := fun w21 H => ?_)
      refine pl_P (h := ?_)
      refine pl_B 2 H rfl (h := ?_)
      refine pl_B 0 H rfl (h := ?_)
      refine pl_S (hC.out _) H Tryd.func15 (h := fun w22 H => ?_)
      refine pl_S (hCr.out _) H Tryd.func16 (h := fun w23 H => ?_)
      refine pl_P (h := ?_)
      refine pl_P (h := ?_)
      refine pl_P (h := ?_)
      refine pl_B 2 H rfl (h := ?_)
      refine pl_B 0 H rfl (h := ?_)
      refine pl_S (hV.out _) H Tryd.func17 (h := fun w24 H => ?_)
      refine pl_G (hN.out _) H Tryd.func13 (h := fun v w25 H z5 => ?_)
      obtain ⟨A5, k5, rfl, hc5, hR5⟩ := num_open (H.get 0 rfl)
      replace H := H.turn 0 rfl hR5
      unfold num
      refine pl_G (hR.out _) H Tryd.func8 (h := fun v w26 H z6 => ?_)
      obtain ⟨A6, k6, rfl, hc6, hR6⟩ := num_open (H.get 0 rfl)
      replace H := H.turn 0 rfl hR6
      unfold num
      refine pl_S (same_c (H.get 1 rfl) hc5 (H.get 0 rfl) hc6 hl.out) H Tryd.func12 (h := fun w27 H => ?_)
      refine pl_P (h := ?_)
      refine pl_P (h := ?_)
      refine pl_P (h := ?_)
      refine pl_B 2 H rfl (h := ?_)
      refine pl_B 3 H rfl (h := ?_)
      refine pl_B 0 H rfl (h := ?_)
      refine pl_B 1 H rfl (h := ?_)
      refine pl_S (c1.out _) H Tryd.func18 (h := fun w28 H => ?_)
      refine pl_S (c2.out _) H Tryd.func19 (h := fun w29 H => ?_)
      refine pl_P (h := ?_)
      refine pl_P (h := ?_)
      refine pl_P (h := ?_)
      refine pl_B 3 H rfl (h := ?_)
      refine pl_B 2 H rfl (h := ?_)
      refine pl_B 0 H rfl (h := ?_)
      refine pl_B 1 H rfl (h := ?_)
      refine pl_S (c3.out _) H Tryd.func18 (h := fun w30 H => ?_)
      refine pl_S (c2.out _) H Tryd.func19 (h := fun w31 H => ?_)
      refine pl_P (h := ?_)
      refine pl_P (h := ?_)
      refine pl_P (h := ?_)
      refine pl_P (h := ?_)
      refine pl_B 2 H rfl (h := ?_)
      refine pl_B 3 H rfl (h := ?_)
      refine pl_P (h := ?_)
      refine pl_B 0 H rfl (h := ?_)
      refine pl_B 1 H rfl (h := ?_)
      refine pl_S (c2.out _) H Tryd.func19 (h := fun w32 H => ?_)
      refine pl_P (h := ?_)
      refine pl_P (h := ?_)
      refine pl_P (h := ?_)
      refine pl_P (h := ?_)
      refine pl_done ?_
      go_wp2
      go_ret
      exact ⟨rfl, H.old⟩
end Go.Proofs.YtjbbigodkhnokaaDoor.Tc
end
section
namespace Go.Proofs.YtjbbigodkhnokaaDoor.Tt
set_option linter.unusedSimpArgs false
set_option linter.unusedVariables false
open Go Go.RowKit Go.Proofs.YtjbbigodkhnokaaDoorW.PrintWords Go.Proofs.YtjbbigodkhnokaaDoorW.PrintLast Go.Proofs.YtjbbigodkhnokaaDoorW.PrintMore Go.Proofs.YtjbbigodkhnokaaDoor.Hd Go.Proofs.YtjbbigodkhnokaaDoor.Tr Go.Proofs.YtjbbigodkhnokaaDoor.Or Go.Proofs.YtjbbigodkhnokaaDoor.Tp Go.Proofs.YtjbbigodkhnokaaDoor.Ck Go.Proofs.YtjbbigodkhnokaaDoor.Tc
open Go.Proofs.YtjbbigodkhnokaaDoor.Nu (I64 U64 I128 num Num num_open num_mk Cs dig narrow_c mul_c add_c fits128_c dig_len neg wd num_c sgn)
open Go.Proofs.YtjbbigodkhnokaaDoor.Fp (Is128 Times_f Plus_f totW)
def enc (x : S28) : List Value := [.int .i64 x.f0, .string x.f1, .string x.f2, .string x.f3, .int .i64 x.f4, .int .i64 x.f5]
def tot (l : List S28) : Int := (l.map fun x => x.f4 * x.f5).sum
def G (l : List S28) : Prop := ∀ x ∈ l, I64 x.f4 ∧ I64 x.f5
theorem total_l0 (l : List S28) (hl : l.length ≤ 1000) (hG : G l) (d : Nat) : ∀ (k i : Nat) (acc : List S35), i + d = l.length → d < k → acc.length ≤ i → (∀ a ∈ acc, I64 a.f0 ∧ U64 a.f1) →
    ∃ r1 r2 r3, trade_Total.l0 k acc l (l.length : Int) (i : Int) = some (r1, r2, r3) ∧ Is128 (totW acc + tot (l.drop i)) r1 r2 r3 := by
  induction d with
  | zero =>
    intro k i acc hi hk ha hg
    obtain ⟨k, rfl⟩ : ∃ m, k = m + 1 := ⟨k - 1, by omega⟩
    obtain ⟨r1, r2, r3, h1, h2⟩ := Plus_f acc (by omega) hg
    refine ⟨r1, r2, r3, ?_, ?_⟩
    · simp only [trade_Total.l0]
      rw [if_neg (by omega), h1]
      rfl
    · rw [List.drop_of_length_le (by omega)]
      simpa [tot] using h2
  | succ d ih =>
    intro k i acc hi hk ha hg
    obtain ⟨k, rfl⟩ : ∃ m, k = m + 1 := ⟨k - 1, by omega⟩
    have hlt : i < l.length := by omega
    have hx := hG l[i] (List.getElem_mem hlt)
    obtain ⟨hi_, lo_, t1, t2, t3, t4⟩ := Times_f hx.1 hx.2
    have e : rd_T28 l (i : Int) = l[i] := by unfold rd_T28; rw [Int.toNat_natCast, List.getD_eq_getElem?_getD, List.getElem?_eq_getElem hlt]; rfl
    have hw : wrap64 ((i : Int) + 1) = ((i + 1 : Nat) : Int) := by unfold wrap64; omega
    obtain ⟨r1, r2, r3, h1, h2⟩ := ih k (i + 1) (acc ++ [(⟨hi_, lo_⟩ : S35)]) (by omega) (by omega) (by simp; omega) (fun a h => by
      rcases List.mem_append.1 h with h | h
      · exact hg a h
      · rw [List.mem_singleton.1 h]; exact ⟨t2, t3⟩)
    refine ⟨r1, r2, r3, ?_, ?_⟩
    · simp only [trade_Total.l0]
      rw [if_pos (by omega), if_pos (by omega), if_pos (by omega), e]
      unfold trade_Value.f
      rw [t1]
      simp only [Option.bind_some]
      rw [if_pos (by omega), hw]
      exact h1
    · have e2 : totW (acc ++ [(⟨hi_, lo_⟩ : S35)]) = totW acc + l[i].f4 * l[i].f5 := by
        unfold totW
        rw [List.map_append, List.sum_append]
        simp [t4]
      rw [e2] at h2
      rw [List.drop_eq_getElem_cons hlt]
      have e3 : tot (l[i] :: l.drop (i + 1)) = l[i].f4 * l[i].f5 + tot (l.drop (i + 1)) := by unfold tot; rw [List.map_cons, List.sum_cons]
      rw [e3, ← Int.add_assoc]
      exact h2
theorem total_f (l : List S28) (hl : l.length ≤ 1000) (hG : G l) : ∃ r1 r2 r3, trade_Total.f (l.length + 1) l = some (r1, r2, r3) ∧ Is128 (tot l) r1 r2 r3 := by
  obtain ⟨r1, r2, r3, h1, h2⟩ := total_l0 l hl hG l.length (l.length + 1) 0 [] (by omega) (by omega) (by simp) (fun a h => by cases h)
  exact ⟨r1, r2, r3, h1, by simpa [totW] using h2⟩
theorem tot_le {l : List S28} (hG : G l) : (tot l).natAbs ≤ l.length * 85070591730234615865843651857942052864 := by
  induction l with
  | nil => simp [tot]
  | cons x l ih =>
    have h1 := ih fun y hy => hG y (by simp [hy])
    have hx := hG x (by simp)
    have e : tot (x :: l) = x.f4 * x.f5 + tot l := by simp [tot]
    have h2 : (x.f4 * x.f5).natAbs ≤ 9223372036854775808 * 9223372036854775808 := by
      rw [Int.natAbs_mul]
      apply Nat.mul_le_mul
      · have := hx.1; unfold I64 at this; omega
      · have := hx.2; unfold I64 at this; omega
    rw [e, List.length_cons, Nat.add_mul]
    have := Int.natAbs_add_le (x.f4 * x.f5) (tot l)
    omega
theorem tot_len {l : List S28} (hl : l.length ≤ 30) (hG : G l) : (dig (tot l)).length ≤ 9 := by
  refine dig_len ?_
  rw [Nu.B_succ, Nu.B8]
  have := tot_le hG
  have h2 : l.length * 85070591730234615865843651857942052864 ≤ 30 * 85070591730234615865843651857942052864 := Nat.mul_le_mul_right _ hl
  omega
theorem info28 : (Tryd.prog.info? 28).map (fun i => (i.zero, i.size, i.bytes)) = some (some (.agg #[.int .i64 0, .string ⟨#[]⟩, .string ⟨#[]⟩, .string ⟨#[]⟩, .int .i64 0, .int .i64 0]), 6, 72) := by kernel_rfl
theorem held_30 {w : World} {A : Option Addr} {n : Nat} {p : List S30} (h : Kd.C k30 w A n p) : Held w (fun k => k < w.heap.size) (fun W => Kd.C k30 W A n p) :=
  ⟨fun _ h => h, fun W hW => by have h2 := Kd.C_below h (Nu.below_of hW); exact h2⟩
def E30 (W : World) (a : Addr) (x : S30) : Prop := W.cell? a = some (.int .i64 x.f0) ∧ W.cell? ⟨a.block, a.off + 1, none⟩ = some (.string x.f1) ∧ W.cell? ⟨a.block, a.off + 2, none⟩ = some (.string x.f2) ∧ W.cell? ⟨a.block, a.off + 3, none⟩ = some (.string x.f3) ∧ W.cell? ⟨a.block, a.off + 4, none⟩ = some (.int .i64 x.f4) ∧ W.cell? ⟨a.block, a.off + 5, none⟩ = some (.int .i64 x.f5)
theorem at30 {W : World} {ad : Addr} {p : List S30} (h : Kd.C k30 W (some ad) p.length p) (i : Nat) (hi : i < p.length) {x : S30} (hx : p[i] = x) : E30 W (ad.add (i * 6)) x := by
  obtain ⟨ad', e, r⟩ := at_T30 h (i : Int) (by omega) (by omega)
  injection e with e
  subst e
  have e2 : rd_T30 p (i : Int) = x := by unfold rd_T30; rw [Int.toNat_natCast, List.getD_eq_getElem?_getD, List.getElem?_eq_getElem hi, ← hx]; rfl
  rw [e2, Int.toNat_natCast] at r
  exact r
set_option maxRecDepth 100000 in
set_option maxHeartbeats 8000000 in
theorem walk (w : World) (A : Option Addr) (c : Nat) (l : List S30) (hc : l.length ≤ c) (hC : Kd.C k30 w A l.length l) (hg : ∀ x ∈ l, Rt.Good30 x) : Calls Tryd.prog 3 #[.slice A l.length c] w fun e w' => e = .returned (.bool true) ∧ Below w.heap.size w w' := by
  have hu26 := Tryd.underlying26
  have hu28 := Tryd.underlying28
  have hu30 := Tryd.underlying30
  have hu35 := Tryd.underlying35
  have hu23 := Tryd.underlying23
  have hG : Aside0 (∀ i, i ≤ 30 → G ((l.take i).map cut) ∧ ((l.take i).map cut).length ≤ 30) := ⟨fun i hi => ⟨fun x hx => by
    obtain ⟨y, hy, rfl⟩ := List.mem_map.1 hx
    have := hg y (List.mem_of_mem_take hy)
    exact ⟨this.2.1, this.2.2⟩, by rw [List.length_map, List.length_take]; omega⟩⟩
  replace hg := Aside0.mk hg
  have hmax : l.length ≤ 9223372036854775807 := Kd.C_max hC
  go_enter Tryd.func3, Tryd.ntmps3
  have H := ((All.start w).arg (held_30 hC)).box w.heap.size 26 #[.bool false, .slice none 0 0]
  replace H := H.row w.heap.size 28 6
  clear hC
  go_wp2_with fail
  go_loopg [3, 5] 31 (fun kq v3 v5 w' => ∃ (i : Nat) (oA : Nat → Prop) (Ao Am : Option Addr) (co cm : Nat), v3 = .slice Am i cm ∧ v5 = .int .i64 (i : Int) ∧ Aside0 (∀ k, oA k → w.heap.size ≤ k) ∧ Aside0 (i ≤ l.length ∧ i ≤ 30 ∧ kq = 31 - i ∧ (dig (tot ((l.take i).map cut))).length ≤ co) ∧
    All w w' [(oA, Cs Ao (dig (tot ((l.take i).map cut)))), ow w.heap.size 28 6 (.slice Am i cm) i (((l.take i).map cut).flatMap enc), bx w.heap.size 26 #[.bool (neg (tot ((l.take i).map cut))), .slice Ao (dig (tot ((l.take i).map cut))).length co], ((fun k => k < w.heap.size), fun W => Kd.C k30 W A l.length l)])
  case atStart =>
    have e0 : tot ((l.take 0).map cut) = 0 := rfl
    exact ⟨0, fun _ => False, none, none, 0, 0, rfl, rfl, ⟨fun k h => h.elim⟩, ⟨Nat.zero_le _, by omega, rfl, by rw [e0, Nu.dig_zero]; simp⟩, by rw [e0, Nu.dig_zero]; exact H.put (ok := fun _ => False) ⟨(fun k h => h.elim), fun W _ => Kd.C_nil _ W⟩ (fun _ _ _ h => h.elim)⟩
  case round =>
    clear H
    obtain ⟨i, oA, Ao, Am, co, cm, rfl, rfl, hoA, hk, H⟩ := hrel
    by_cases hlt : (i : Int) < (l.length : Int) ∧ (i : Int) < 30
    · have hi : i < l.length := by omega
      have hi30 : i < 30 := by omega
      obtain ⟨ad, rfl, _⟩ := at_T30 (H.at 3 rfl) (i : Int) (by omega) hlt.1
      obtain ⟨x, hpx⟩ : ∃ x, l[i] = x := ⟨_, rfl⟩
      have gx := hg.out _ (List.getElem_mem hi)
      rw [hpx] at gx
      obtain ⟨X, hX', hX⟩ := to_c x
      have hx4 : X.f4 = x.f4 := by rw [hX']; rfl
      have hx5 : X.f5 = x.f5 := by rw [hX']; rfl
      have hV := fun w => value_c (w := w) x gx.2.1 gx.2.2
      have et : (l.take (i + 1)).map cut = (l.take i).map cut ++ [X] := by
        rw [List.take_succ_eq_append_getElem hi, List.map_append, hpx, hX']
        rfl
      have en : tot ((l.take (i + 1)).map cut) = tot ((l.take i).map cut) + x.f4 * x.f5 := by
        rw [et]
        unfold tot
        rw [List.map_append, List.sum_append]
        simp [hx4, hx5]
      have ef : ((l.take (i + 1)).map cut).flatMap enc = ((l.take i).map cut).flatMap enc ++ enc X := by rw [et, List.flatMap_append]; simp
      have l1 := hG.out i (by omega)
      have l2 := hG.out (i + 1) (by omega)
      have d1 := Nat.le_trans (tot_len l1.2 l1.1) (show 9 ≤ 900000 by decide)
      have d2 := Nat.le_trans (len128 gx.2.1 gx.2.2) (show 1000000 ≤ 1000000 by decide)
      have dv : (dig (x.f4 * x.f5)).length ≤ 900000 := by
        refine Nat.le_trans (dig_len (n := 9) ?_) (by decide)
        have := tot_le (l := [X]) (fun y hy => by rw [List.mem_singleton.1 hy, hx4, hx5]; exact gx.2)
        have e3 : tot [X] = x.f4 * x.f5 := by simp [tot, hx4, hx5]
        rw [e3] at this
        rw [Nu.B_succ, Nu.B8]
        simp at this
        omega
      clear hX' hx4 hx5 et gx l1 l2 d2
      obtain ⟨T, hT⟩ : ∃ T, tot ((l.take i).map cut) = T := ⟨_, rfl⟩
      obtain ⟨T2, hT2⟩ : ∃ T, tot ((l.take (i + 1)).map cut) = T := ⟨_, rfl⟩
      obtain ⟨fl, hfl⟩ : ∃ T, ((l.take i).map cut).flatMap enc = T := ⟨_, rfl⟩
      rw [hT] at en d1 H hk
      rw [hT2] at en
      rw [hfl] at ef H
      have hg1 : Aside0 (31 - (i + 1) < gk ∧ i + 1 ≤ l.length ∧ i + 1 ≤ 30) := ⟨by have := hk.out; omega⟩
      have hco := Aside0.mk hk.out.2.2.2
      replace en := Aside0.mk en
      replace ef := Aside0.mk ef
      replace hT := Aside0.mk hT
      replace hT2 := Aside0.mk hT2
      replace hfl := Aside0.mk hfl
      replace d1 := Aside0.mk d1
      replace dv := Aside0.mk dv
      replace hX := Aside0.mk hX
      replace hV := Aside0.mk hV
      replace hpx := Aside0.mk hpx
      have b1 := eq_true hlt.1
      have b2 := eq_true hlt.2
      have b0 := eq_true (Int.natCast_nonneg i)
      replace hi := Aside0.mk hi
      have hsz : (i + 1) * 72 ≤ 140737488355328 := by omega
      have hzb : w.heap.size < wr.heap.size := (H.get 2 rfl).lt _ rfl
      obtain ⟨f0, f1, f2, f3, f4, f5⟩ := at30 (H.at 3 rfl) i hi.out hpx.out
      clear hk hlt
      go_wp2_with fail
      refine (hX.out _).on H fun w1 H => ?_
      have hzb : w.heap.size < w1.heap.size := (H.get 2 rfl).lt _ rfl
      clear f0 f1 f2 f3 f4 f5
      go_wp2_with ((with_reducible refine gate_builtin (b := .append) rfl ?_); refine app_ (enc X) H 1 rfl (Nat.le_refl _) (Nat.le_of_lt hzb) hsz (.tmp 19) (.tmp 25) 23 (.agg #[.int .i64 0, .string ⟨#[]⟩, .string ⟨#[]⟩, .string ⟨#[]⟩, .int .i64 0, .int .i64 0]) info28 hu23 rfl rfl rfl (by decide) (by decide) rfl rfl rfl (by intro u hu; simp [enc] at hu; rcases hu with rfl | rfl | rfl | rfl | rfl | rfl <;> rfl) ?_; intro A1 c1 w2 H z)
      rw [← ef.out] at H
      refine planD_ [7] (true, [([], []), ([], []), ([], []), ([1, 2], [1, 2]), ([3], [3]), ([4], [4]), ([0, 5, 5], [0, 5]), ([6, 6, 0, 1, 2, 3, 4, 5, 6], [6])]) [.t 0, .p 1, .p 2, .p 3, .t 4, .c 5, .c 6, .l 7] H (by kernel_rfl) (by kernel_rfl) rfl rfl (by kernel_rfl) (by intro c a w d v h; cases d <;> exact h) (fun w3 H => ?_)
      refine pl_B 2 H rfl (h := ?_)
      repeat refine pl_P (h := ?_)
      refine pl_t (v := .agg #[.int .i64 x.f0, .string x.f1, .string x.f2, .string x.f3, .int .i64 x.f4, .int .i64 x.f5]) (a' := ?_) H (fun _ h => h) (by simp only [List.getElem?_toArray, List.getElem?_cons_succ, List.getElem?_cons_zero]; rfl) rfl (by rfl) (fun W hW => ?_) ?_ ?_
      rotate_left
      rotate_left
      · simp only [Act.put, List.setIfInBounds_toArray, List.set_cons_zero, List.set_cons_succ, i64_w, i32_w]
        rfl
      rotate_left
      · obtain ⟨f0, f1, f2, f3, f4, f5⟩ := at30 (hW.at 3 rfl) i hi.out hpx.out
        go_simp
      refine pl_G (hV.out _) H Tryd.func8 (h := fun v w4 H z4 => ?_)
      obtain ⟨A2, c2, rfl, hc2, hR2⟩ := num_open (H.get 0 rfl)
      refine pl_G (add_c (H.get 1 rfl) hco.out hR2 hc2 d1.out dv.out) H Tryd.func7 (h := fun v w5 H z5 => ?_)
      rw [← en.out] at H
      obtain ⟨A3, c3, rfl, hc3, hR3⟩ := num_open (H.get 0 rfl)
      replace H := ((H.turn 0 rfl hR3).cut 1).cut 1
      unfold num
      have r1 := H.rd 2 rfl
      have z1 := H.fz 2 rfl
      refine pl_WL ((H.set 2 rfl 0 (.bool (neg T2))).set 2 rfl 1 (.slice A3 (dig T2).length c3)) (fun H => ?_)
      refine pl_done ?_
      go_wp2
      go_roundg (31 - (i + 1))
      case measure => exact hg1.out.1
      case rel => exact ⟨i + 1, _, A3, A1, c3, c1, rfl, by first | rfl | (simp; done), ⟨in_le (by assumption)⟩, ⟨hg1.out.2.1, hg1.out.2.2, rfl, by rw [hT2.out]; exact hc3⟩, by rw [hT2.out]; exact H⟩
    · have gD := hG.out i hk.out.2.1
      obtain ⟨D, hD⟩ : ∃ D, (l.take i).map cut = D := ⟨_, rfl⟩
      have hco := hk.out.2.2.2
      rw [hD] at gD H hco
      obtain ⟨A', c', ev, hlen, hcc, hCD⟩ := ow_C k28 enc (fun w x => k28_mk w x) (by decide) (H.at 1 rfl)
      injection ev with e1 e2 e3
      subst e1 e3
      have hnl : (decide ((i : Int) < (l.length : Int)) && decide ((i : Int) < 30)) = false := by
        rw [Bool.eq_false_iff]
        intro h
        rw [Bool.and_eq_true, decide_eq_true_eq, decide_eq_true_eq] at h
        exact hlt h
      have hl2 := tot_len gD.2 gD.1
      obtain ⟨r1, r2, r3, h1, h2⟩ := total_f D (by omega) gD.1
      obtain ⟨T, hT⟩ : ∃ T, tot D = T := ⟨_, rfl⟩
      rw [hT] at H hco hl2 h2
      have hi0 := eq_true (Int.natCast_nonneg i)
      by_cases c1 : (i : Int) < (l.length : Int)
      · have c2 : decide ((i : Int) < 30) = false := decide_eq_false (fun h => hlt ⟨c1, h⟩)
        replace c1 := eq_true c1
        replace hT := Aside0.mk hT
        replace hD := Aside0.mk hD
        replace h1 := Aside0.mk h1
        replace h2 := Aside0.mk h2
        replace hco := Aside0.mk hco
        replace hl2 := Aside0.mk (Nat.le_trans hl2 (show 9 ≤ 1000000 by decide))
        replace hcc := Aside0.mk hcc
        replace hlen := Aside0.mk hlen
        replace hCD := Aside0.mk hCD
        clear hk hG hg hlt hnl gD
        go_wp2_with fail
        refine (show Calls Tryd.prog 9 #[.slice Am i cm] wr _ from by
          have h := trade_Total.calls _ Am cm D r1 r2 r3 wr (by rw [hlen.out]; exact hCD.out) (by rw [hlen.out]; exact hcc.out) h1.out
          rw [hlen.out] at h
          exact h).mono ?_
        rintro e w1 ⟨rfl, hb1⟩
        replace H := (H.grow hb1).box w1.heap.size 35 #[.int .i64 r1, .int .u64 r2]
        have q2 := H.rd 3 rfl
        go_wp2_with fail
        refine (fits128_c (H.get 1 rfl) hco.out hl2.out).on H fun w2 H => ?_
        clear q2
        rcases h2.out with ⟨g1, rfl, g2, g3, g4⟩ | ⟨g1, rfl, rfl, rfl⟩
        · rw [decide_eq_true g1]
          have hN : ∀ w, Gives Tryd.prog 13 #[.agg #[.int .i64 r1, .int .u64 r2]] w (Num T) := fun w => by have := num_c (w := w) g2 g3; rwa [show wd r1 r2 = T from g4] at this
          replace hN := Aside0.mk hN
          replace g1 := Aside0.mk g1
          replace g4 := Aside0.mk g4
          clear h2 g2 g3
          go_wp2_with fail
          refine planT_ (true, [([], []), ([0, 0], [0]), ([1], [1]), ([2, 1], [1, 2]), ([1, 3], [1, 3]), ([4, 1], [4]), ([5], [5]), ([6, 5, 5], [5, 6]), ([5], [5]), ([7, 8, 7, 5], [5, 7, 8]), ([9, 5], [5, 9]), ([5, 10], [5, 10]), ([11, 9, 0, 1, 2, 3, 4, 5, 6, 7, 8, 9, 10, 11], [11])]) (.leaf [.c 0, .p 1, .p 2, .p 3, .p 4, .p 5, .t 6, .t 8, .c 7, .c 9, .p 10, .p 11, .p 12]) H (by kernel_rfl) (by kernel_rfl) rfl rfl (by kernel_rfl) (by intro c a w d v h; cases d <;> exact h) (fun w3 H => ?_)
          refine pl_leaf ?_
          refine pl_S (show Tells Tryd.prog 11 #[] _ (.bool true) from Kn.known_c) H Tryd.func11 (h := fun w4 H => ?_)
          refine pl_P (h := ?_)
          refine pl_P (h := ?_)
          refine pl_P (h := ?_)
          refine pl_P (h := ?_)
          refine pl_P (h := ?_)
          refine pl_B 0 H rfl (h := ?_)
          refine pl_B 3 H rfl (h := ?_)
          refine pl_G (hN.out _) H Tryd.func13 (h := fun v w5 H z5 => ?_)
          obtain ⟨A5, c5, rfl, hc5, hR5⟩ := num_open (H.get 0 rfl)
          replace H := H.turn 0 rfl hR5
          unfold num
          refine pl_S (same_c (H.get 0 rfl) hc5 (H.get 2 rfl) hco.out hl2.out) H Tryd.func12 (h := fun w6 H => ?_)
          refine pl_P (h := ?_)
          refine pl_P (h := ?_)
          refine pl_P (h := ?_)
          refine pl_done ?_
          go_wp2
          go_ret
          exact ⟨rfl, H.old⟩
        · rw [decide_eq_false g1]
          replace g1 := Aside0.mk g1
          clear h2
          go_wp2_with fail
          refine (show Tells Tryd.prog 11 #[] _ (.bool true) from Kn.known_c).on H fun w3 H => ?_
          go_wp2
          go_ret
          exact ⟨rfl, H.old⟩
      · replace c1 := eq_false c1
        replace hT := Aside0.mk hT
        replace hD := Aside0.mk hD
        replace h1 := Aside0.mk h1
        replace h2 := Aside0.mk h2
        replace hco := Aside0.mk hco
        replace hl2 := Aside0.mk (Nat.le_trans hl2 (show 9 ≤ 1000000 by decide))
        replace hcc := Aside0.mk hcc
        replace hlen := Aside0.mk hlen
        replace hCD := Aside0.mk hCD
        clear hk hG hg hlt hnl gD
        go_wp2_with fail
        refine (show Calls Tryd.prog 9 #[.slice Am i cm] wr _ from by
          have h := trade_Total.calls _ Am cm D r1 r2 r3 wr (by rw [hlen.out]; exact hCD.out) (by rw [hlen.out]; exact hcc.out) h1.out
          rw [hlen.out] at h
          exact h).mono ?_
        rintro e w1 ⟨rfl, hb1⟩
        replace H := (H.grow hb1).box w1.heap.size 35 #[.int .i64 r1, .int .u64 r2]
        have q2 := H.rd 3 rfl
        go_wp2_with fail
        refine (fits128_c (H.get 1 rfl) hco.out hl2.out).on H fun w2 H => ?_
        clear q2
        rcases h2.out with ⟨g1, rfl, g2, g3, g4⟩ | ⟨g1, rfl, rfl, rfl⟩
        · rw [decide_eq_true g1]
          have hN : ∀ w, Gives Tryd.prog 13 #[.agg #[.int .i64 r1, .int .u64 r2]] w (Num T) := fun w => by have := num_c (w := w) g2 g3; rwa [show wd r1 r2 = T from g4] at this
          replace hN := Aside0.mk hN
          replace g1 := Aside0.mk g1
          replace g4 := Aside0.mk g4
          clear h2 g2 g3
          go_wp2_with fail
          refine planT_ (true, [([], []), ([0, 0], [0]), ([1], [1]), ([2, 1], [1, 2]), ([1, 3], [1, 3]), ([4, 1], [4]), ([5], [5]), ([6, 5, 5], [5, 6]), ([5], [5]), ([7, 8, 7, 5], [5, 7, 8]), ([9, 5], [5, 9]), ([5, 10], [5, 10]), ([11, 9, 0, 1, 2, 3, 4, 5, 6, 7, 8, 9, 10, 11], [11])]) (.leaf [.c 0, .p 1, .p 2, .p 3, .p 4, .p 5, .t 6, .t 8, .c 7, .c 9, .p 10, .p 11, .p 12]) H (by kernel_rfl) (by kernel_rfl) rfl rfl (by kernel_rfl) (by intro c a w d v h; cases d <;> exact h) (fun w3 H => ?_)
          refine pl_leaf ?_
          refine pl_S (show Tells Tryd.prog 11 #[] _ (.bool true) from Kn.known_c) H Tryd.func11 (h := fun w4 H => ?_)
          refine pl_P (h := ?_)
          refine pl_P (h := ?_)
          refine pl_P (h := ?_)
          refine pl_P (h := ?_)
          refine pl_P (h := ?_)
          refine pl_B 0 H rfl (h := ?_)
          refine pl_B 3 H rfl (h := ?_)
          refine pl_G (hN.out _) H Tryd.func13 (h := fun v w5 H z5 => ?_)
          obtain ⟨A5, c5, rfl, hc5, hR5⟩ := num_open (H.get 0 rfl)
          replace H := H.turn 0 rfl hR5
          unfold num
          refine pl_S (same_c (H.get 0 rfl) hc5 (H.get 2 rfl) hco.out hl2.out) H Tryd.func12 (h := fun w6 H => ?_)
          refine pl_P (h := ?_)
          refine pl_P (h := ?_)
          refine pl_P (h := ?_)
          refine pl_done ?_
          go_wp2
          go_ret
          exact ⟨rfl, H.old⟩
        · rw [decide_eq_false g1]
          replace g1 := Aside0.mk g1
          clear h2
          go_wp2_with fail
          refine (show Tells Tryd.prog 11 #[] _ (.bool true) from Kn.known_c).on H fun w3 H => ?_
          go_wp2
          go_ret
          exact ⟨rfl, H.old⟩
end Go.Proofs.YtjbbigodkhnokaaDoor.Tt
end
