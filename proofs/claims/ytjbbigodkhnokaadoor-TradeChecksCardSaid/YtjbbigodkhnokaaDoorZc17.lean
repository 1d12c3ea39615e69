/- Texts of this seat, put together (Zc17). -/
import Derived.Deep.DeepCutAuto
import Derived.Deep.CutBlock
import Derived.Test.YtjbbigodkhnokaaDoorZc7
import Derived.Test.YtjbbigodkhnokaaDoorZc9
import Derived.Test.YtjbbigodkhnokaaDoorZc11
import Derived.Test.YtjbbigodkhnokaaDoorZc12
import Derived.Test.YtjbbigodkhnokaaDoorZc14
import Derived.Test.YtjbbigodkhnokaaDoorZc16
section
namespace Go.Proofs.YtjbbigodkhnokaaDoor.Tc
set_option linter.unusedSimpArgs false
set_option linter.unusedVariables false
open Go Go.RowKit Go.Proofs.YtjbbigodkhnokaaDoorW.PrintWords Go.Proofs.YtjbbigodkhnokaaDoorW.PrintLast Go.Proofs.YtjbbigodkhnokaaDoorW.PrintMore Go.Proofs.YtjbbigodkhnokaaDoor.Hd Go.Proofs.YtjbbigodkhnokaaDoor.Tr Go.Proofs.YtjbbigodkhnokaaDoor.Or Go.Proofs.YtjbbigodkhnokaaDoor.Tp Go.Proofs.YtjbbigodkhnokaaDoor.Ck
open Go.Proofs.YtjbbigodkhnokaaDoor.Nu (I64 U64 num Num num_open Cs dig narrow_c mul_c dig_len neg wd num_c sgn)
def cut (x : S30) : S28 := ⟨x.f0, x.f1.extract 0 (mn (x.f1.size : Int) 40).toNat, x.f2.extract 0 (mn (x.f2.size : Int) 40).toNat, x.f3.extract 0 (mn (x.f3.size : Int) 40).toNat, x.f4, x.f5⟩
theorem to_c (x : S30) : ∃ X : S28, X = cut x ∧ ∀ w, Tells Tryd.prog 6 #[.agg #[.int .i64 x.f0, .string x.f1, .string x.f2, .string x.f3, .int .i64 x.f4, .int .i64 x.f5]] w (.agg #[.int .i64 X.f0, .string X.f1, .string X.f2, .string X.f3, .int .i64 X.f4, .int .i64 X.f5]) :=
  ⟨cut x, rfl, fun w => clevislaw07_To.calls _ _ _ _ _ _ _ _ _ _ _ _ w (to_some _ _ _ _ _ _)⟩
theorem of_c {w : World} (X : S28) : Tells Tryd.prog 14 #[.agg #[.int .i64 X.f0, .string X.f1, .string X.f2, .string X.f3, .int .i64 X.f4, .int .i64 X.f5]] w (.agg #[.int .i64 X.f0, .string X.f1, .string X.f2, .string X.f3, .int .i64 X.f4, .int .i64 X.f5]) := clevislaw07_Of.calls _ _ _ _ _ _ _ _ _ _ _ _ w rfl
theorem check_c {w : World} (X : S28) : Tells Tryd.prog 15 #[.agg #[.int .i64 X.f0, .string X.f1, .string X.f2, .string X.f3, .int .i64 X.f4, .int .i64 X.f5]] w (.int .i64 (chkT X.f0 X.f1 X.f2 X.f3 X.f4 X.f5)) := trade_Check.calls 80 _ _ _ _ _ _ _ w (iCheck _ _ _ _ _ _ _ (Nat.le_refl _))
theorem rcheck_c {w : World} (X : S28) : Tells Tryd.prog 16 #[.agg #[.int .i64 X.f0, .string X.f1, .string X.f2, .string X.f3, .int .i64 X.f4, .int .i64 X.f5]] w (.int .i64 (chkT X.f0 X.f1 X.f2 X.f3 X.f4 X.f5)) := clevisref07_Check.calls 80 _ _ _ _ _ _ _ w (rCheck _ _ _ _ _ _ _ (Nat.le_refl _))
theorem val_c (X : S28) (h4 : I64 X.f4) (h5 : I64 X.f5) : ∃ hi lo, I64 hi ∧ U64 lo ∧ wd hi lo = X.f4 * X.f5 ∧ ∀ w, Tells Tryd.prog 17 #[.agg #[.int .i64 X.f0, .string X.f1, .string X.f2, .string X.f3, .int .i64 X.f4, .int .i64 X.f5]] w (.agg #[.int .i64 hi, .int .u64 lo]) := by
  obtain ⟨hi, lo, h1, h2, h3, h6⟩ := Fp.Times_f h4 h5
  refine ⟨hi, lo, h2, h3, h6, fun w => trade_Value.calls _ _ _ _ _ _ _ _ w ?_⟩
  unfold trade_Value.f
  rw [h1]
  rfl
theorem cmp_c {w : World} (x y : S28) : Tells Tryd.prog 18 #[.agg #[.int .i64 x.f0, .string x.f1, .string x.f2, .string x.f3, .int .i64 x.f4, .int .i64 x.f5], .agg #[.int .i64 y.f0, .string y.f1, .string y.f2, .string y.f3, .int .i64 y.f4, .int .i64 y.f5]] w (.int .i64 (cmpT x y)) := trade_Compare.calls 10 _ _ _ _ _ _ _ _ _ _ _ _ _ w (compare_f x y)
theorem rcmp_c {w : World} (x y : S28) : Tells Tryd.prog 19 #[.agg #[.int .i64 x.f0, .string x.f1, .string x.f2, .string x.f3, .int .i64 x.f4, .int .i64 x.f5], .agg #[.int .i64 y.f0, .string y.f1, .string y.f2, .string y.f3, .int .i64 y.f4, .int .i64 y.f5]] w (.int .i64 (cmpT x y)) := compare_c (⟨x.f0, x.f1, x.f2, x.f3, x.f4, x.f5⟩ : S30) (⟨y.f0, y.f1, y.f2, y.f3, y.f4, y.f5⟩ : S30)
theorem rval_c {w : World} (x : S28) (h4 : I64 x.f4) (h5 : I64 x.f5) : Gives Tryd.prog 8 #[.agg #[.int .i64 x.f0, .string x.f1, .string x.f2, .string x.f3, .int .i64 x.f4, .int .i64 x.f5]] w (Num (x.f4 * x.f5)) := value_c (⟨x.f0, x.f1, x.f2, x.f3, x.f4, x.f5⟩ : S30) h4 h5
theorem same_c {w : World} {ok ok' : Nat → Prop} {A A' : Option Addr} {c c' : Nat} {z : Int} (h : Held w ok (Cs A (dig z))) (hc : (dig z).length ≤ c) (h' : Held w ok' (Cs A' (dig z))) (hc' : (dig z).length ≤ c') (hl : (dig z).length ≤ 1000000) :
    Tells Tryd.prog 12 #[num z A c, num z A' c'] w (.int .i64 0) := by
  have h := Nu.cmp_c h hc h' hc' hl hl
  rwa [show sgn z z = 0 by unfold sgn; simp] at h
theorem len128 {a b : Int} (ha : I64 a) (hb : I64 b) : (dig (a * b)).length ≤ 1000000 := by
  refine Nat.le_trans (dig_len (n := 9) ?_) (by decide)
  rw [Nu.B_succ, Nu.B8, Int.natAbs_mul]
  have h1 : (a.natAbs : Int) ≤ 9223372036854775808 := by unfold I64 at ha; omega
  have h2 : (b.natAbs : Int) ≤ 9223372036854775808 := by unfold I64 at hb; omega
  have h3 : (a.natAbs : Int) * (b.natAbs : Int) ≤ 9223372036854775808 * 9223372036854775808 := Int.mul_le_mul h1 h2 (by omega) (by omega)
  rw [Int.natCast_mul]
  omega
theorem eqA28 (d : Nat) (w : World) (x0 y0 : Int) (x1 y1 : ByteArray) (x2 y2 : ByteArray) (x3 y3 : ByteArray) (x4 y4 : Int) (x5 y5 : Int) :
    (Op.equalIn (d + 2) 28 (.agg #[.int .i64 x0, .string x1, .string x2, .string x3, .int .i64 x4, .int .i64 x5]) (.agg #[.int .i64 y0, .string y1, .string y2, .string y3, .int .i64 y4, .int .i64 y5])).run Tryd.prog w = .ok (x0 == y0 && (x1.toList == y1.toList && (x2.toList == y2.toList && (x3.toList == y3.toList && (x4 == y4 && (x5 == y5)))))) w := by
  refine eqA_of Tryd.underlying28 (by kernel_rfl) ?_
  refine eqf_cons (by rfl) (by go_simp; rfl) (by go_simp; rfl) (by go_simp) ?_
  refine eqf_cons (by rfl) (by go_simp; rfl) (by go_simp; rfl) (by go_simp) ?_
  refine eqf_cons (by rfl) (by go_simp; rfl) (by go_simp; rfl) (by go_simp) ?_
  refine eqf_cons (by rfl) (by go_simp; rfl) (by go_simp; rfl) (by go_simp) ?_
  refine eqf_cons (by rfl) (by go_simp; rfl) (by go_simp; rfl) (by go_simp) ?_
  exact eqf_last (by rfl) (by go_simp; rfl) (by go_simp; rfl) (by go_simp)
theorem lst_ne {a b : ByteArray} : (a.toList == b.toList) = decide (cmpS a b = 0) := by
  rw [Bool.eq_iff_iff]
  simp [cmpS_eq]
theorem int_ne {a b : Int} : (a == b) = decide (cmpI a b = 0) := by
  rw [Bool.eq_iff_iff]
  simp only [beq_iff_eq, decide_eq_true_eq]
  unfold cmpI
  split
  · omega
  · split <;> omega
set_option maxRecDepth 100000 in
theorem same_s (X Y : S28) (w : World) : (Op.equalIn 10000 28 (.agg #[.int .i64 X.f0, .string X.f1, .string X.f2, .string X.f3, .int .i64 X.f4, .int .i64 X.f5]) (.agg #[.int .i64 Y.f0, .string Y.f1, .string Y.f2, .string Y.f3, .int .i64 Y.f4, .int .i64 Y.f5])).run Tryd.prog w = .ok (cmpT X Y == 0) w := by
  have h := eqA28 9998 w X.f0 Y.f0 X.f1 Y.f1 X.f2 Y.f2 X.f3 Y.f3 X.f4 Y.f4 X.f5 Y.f5
  refine h.trans ?_
  congr 1
  rw [show (cmpT X Y == 0) = decide (cmpT X Y = 0) by rw [Bool.eq_iff_iff]; simp]
  simp only [lst_ne, int_ne]
  unfold cmpT lex
  rw [Bool.eq_iff_iff]
  simp only [Bool.and_eq_true, decide_eq_true_eq, beq_iff_eq]
  (repeat' split) <;> simp_all
set_option maxRecDepth 100000 in
set_option maxHeartbeats 8000000 in
theorem walk (w : World) (x : S30) (gx : Rt.Good30 x) (y : S30) (gy : Rt.Good30 y) : Calls Tryd.prog 4 #[.agg #[.int .i64 x.f0, .string x.f1, .string x.f2, .string x.f3, .int .i64 x.f4, .int .i64 x.f5], .agg #[.int .i64 y.f0, .string y.f1, .string y.f2, .string y.f3, .int .i64 y.f4, .int .i64 y.f5]] w fun e w' => e = .returned (.bool true) ∧ Below w.heap.size w w' := by
  have hu28 := Tryd.underlying28
  have hu30 := Tryd.underlying30
  have hg28 : Tryd.prog.eqGuardType Tryd.prog.depth 28 = false := by kernel_rfl
  obtain ⟨X, hX', hX⟩ := to_c x
  obtain ⟨Y, hY', hY⟩ := to_c y
  have h4 : I64 X.f4 := by rw [hX']; exact gx.2.1
  have h5 : I64 X.f5 := by rw [hX']; exact gx.2.2
  clear hX' hY' gx gy
  obtain ⟨hi, lo, g1, g2, g3, hV⟩ := val_c X h4 h5
  have hN : ∀ w, Gives Tryd.prog 13 #[.agg #[.int .i64 hi, .int .u64 lo]] w (Num (X.f4 * X.f5)) := fun w => by have := num_c (w := w) g1 g2; rwa [g3] at this
  have hR := fun w => rval_c (w := w) X h4 h5
  have hl := Aside0.mk (len128 h4 h5)
  clear g1 g2 g3 h4 h5
  obtain ⟨pz, hpz⟩ : ∃ z, X.f4 * X.f5 = z := ⟨_, rfl⟩
  rw [hpz] at hN hR hl
  clear hpz
  have hC := fun w => check_c (w := w) X
  have hCr := fun w => rcheck_c (w := w) X
  generalize chkT X.f0 X.f1 X.f2 X.f3 X.f4 X.f5 = ck at hC hCr
  have hA := good_T.anti X Y
  have hS := good_T.sgn X Y
  have c1 := fun w => cmp_c (w := w) X Y
  have c2 := fun w => rcmp_c (w := w) X Y
  have c3 := fun w => cmp_c (w := w) Y X
  have heq := same_s X Y
  rw [hA] at c3
  clear hA
  generalize cmpT X Y = q1 at *
  have e5 : wrap64 (-q1) = -q1 := by unfold wrap64; omega
  clear hS
  replace hX := Aside0.mk hX
  replace hY := Aside0.mk hY
  replace hV := Aside0.mk hV
  replace hN := Aside0.mk hN
  replace hR := Aside0.mk hR
  replace hC := Aside0.mk hC
  replace hCr := Aside0.mk hCr
  replace c1 := Aside0.mk c1
  replace c2 := Aside0.mk c2
  replace c3 := Aside0.mk c3
  go_enter Tryd.func4, Tryd.ntmps4
  have H := ((All.start w).box w.heap.size 30 #[.int .i64 x.f0, .string x.f1, .string x.f2, .string x.f3, .int .i64 x.f4, .int .i64 x.f5]).box (w.heap.size + 1) 30 #[.int .i64 y.f0, .string y.f1, .string y.f2, .string y.f3, .int .i64 y.f4, .int .i64 y.f5]
  go_upto_region 1 with fail
  go_cut [5, 6] (fun s5 s6 wx => ∃ b5 b6 : Nat, s5 = .pointer (some ⟨b5, 0, none⟩) ∧ s6 = .pointer (some ⟨b6, 0, none⟩) ∧ All w wx [bx b5 28 #[.int .i64 X.f0, .string X.f1, .string X.f2, .string X.f3, .int .i64 X.f4, .int .i64 X.f5], bx b6 28 #[.int .i64 Y.f0, .string Y.f1, .string Y.f2, .string Y.f3, .int .i64 Y.f4, .int .i64 Y.f5]])
  case first =>
    refine planT_ (true, [([], []), ([0], [0]), ([], []), ([2, 1], [2]), ([], []), ([], []), ([4, 1, 3, 0, 1, 4, 5], [1, 4]), ([5, 3, 6, 0, 1, 2, 3, 4, 5, 6], [3, 5])]) (.fork3 [.t 0, .t 2] 1 4 5 (.fork3 [] 3 4 5 (.fork [] 4 5 (.leaf [.c 5, .c 6, .c 7]) (.leaf [.c 4, .c 6, .c 7])) (.fork [] 3 5 (.leaf [.c 5, .c 6, .c 7]) (.leaf [.c 3, .c 6, .c 7])) (.fork [] 3 4 (.leaf [.c 4, .c 6, .c 7]) (.leaf [.c 3, .c 6, .c 7]))) (.fork [] 1 5 (.fork [] 3 5 (.leaf [.c 5, .c 6, .c 7]) (.leaf [.c 3, .c 6, .c 7])) (.leaf [.c 1, .c 3, .c 6, .c 7])) (.fork [] 1 4 (.fork [] 3 4 (.leaf [.c 4, .c 6, .c 7]) (.leaf [.c 3, .c 6, .c 7])) (.leaf [.c 1, .c 3, .c 6, .c 7]))) H (by kernel_rfl) (by kernel_rfl) rfl rfl (by kernel_rfl) (by intro c a w d v h; cases d <;> exact h) (fun w2 H => ?_)
    refine pl_fork3 ?_
    refine pl_B 1 H rfl (h := ?_)
    refine pl_B 0 H rfl (h := ?_)
    refine pl_done ⟨?_, ?_, ?_⟩
    · refine pl_S (hX.out _) H Tryd.func6 (h := fun w11 H => ?_)
      refine pl_done (pl_fork3 ?_)
      refine pl_done ⟨?_, ?_, ?_⟩
      · refine pl_S (hY.out _) H Tryd.func6 (h := fun w12 H => ?_)
        refine pl_done (pl_fork ?_)
        refine pl_done ⟨?_, ?_⟩
        · have zn5 : w.heap.size ≤ w12.heap.size := by have := (H.old).size; first | omega | (simp at this; omega)
          refine pl_R (H.box (w12.heap.size) 28 #[.int .i64 0, .string ⟨#[]⟩, .string ⟨#[]⟩, .string ⟨#[]⟩, .int .i64 0, .int .i64 0]) (fun H => ?_)
          refine pl_done (pl_leaf ?_)
          have zn6 : w.heap.size ≤ w12.heap.size + 1 := by have := (H.old).size; first | omega | (simp at this; omega)
          refine pl_R (H.box (w12.heap.size + 1) 28 #[.int .i64 0, .string ⟨#[]⟩, .string ⟨#[]⟩, .string ⟨#[]⟩, .int .i64 0, .int .i64 0]) (fun H => ?_)
          refine pl_WR 1 #[.int .i64 X.f0, .string X.f1, .string X.f2, .string X.f3, .int .i64 X.f4, .int .i64 X.f5] H rfl zn5 (fun H => ?_) (by kernel_rfl) rfl
          refine pl_WR 0 #[.int .i64 Y.f0, .string Y.f1, .string Y.f2, .string Y.f3, .int .i64 Y.f4, .int .i64 Y.f5] H rfl zn6 (fun H => ?_) (by kernel_rfl) rfl
          refine pl_done ?_
          go_wp2_with fail
          go_meet
          exact ⟨_, _, rfl, rfl, (H.swap).sub (by simp)⟩
        · have zn6 : w.heap.size ≤ w12.heap.size := by have := (H.old).size; first | omega | (simp at this; omega)
          refine pl_R (H.box (w12.heap.size) 28 #[.int .i64 0, .string ⟨#[]⟩, .string ⟨#[]⟩, .string ⟨#[]⟩, .int .i64 0, .int .i64 0]) (fun H => ?_)
          refine pl_done (pl_leaf ?_)
          have zn5 : w.heap.size ≤ w12.heap.size + 1 := by have := (H.old).size; first | omega | (simp at this; omega)
          refine pl_R (H.box (w12.heap.size + 1) 28 #[.int .i64 0, .string ⟨#[]⟩, .string ⟨#[]⟩, .string ⟨#[]⟩, .int .i64 0, .int .i64 0]) (fun H => ?_)
          refine pl_WR 0 #[.int .i64 X.f0, .string X.f1, .string X.f2, .string X.f3, .int .i64 X.f4, .int .i64 X.f5] H rfl zn5 (fun H => ?_) (by kernel_rfl) rfl
          refine pl_WR 1 #[.int .i64 Y.f0, .string Y.f1, .string Y.f2, .string Y.f3, .int .i64 Y.f4, .int .i64 Y.f5] H rfl zn6 (fun H => ?_) (by kernel_rfl) rfl
          refine pl_done ?_
          go_wp2_with fail
          go_meet
          exact ⟨_, _, rfl, rfl, (H).sub (by simp)⟩
      · have zn5 : w.heap.size ≤ w11.heap.size := by have := (H.old).size; first | omega | (simp at this; omega)
        refine pl_R (H.box (w11.heap.size) 28 #[.int .i64 0, .string ⟨#[]⟩, .string ⟨#[]⟩, .string ⟨#[]⟩, .int .i64 0, .int .i64 0]) (fun H => ?_)
        refine pl_done (pl_fork ?_)
        refine pl_done ⟨?_, ?_⟩
        · refine pl_S (hY.out _) H Tryd.func6 (h := fun w12 H => ?_)
          refine pl_done (pl_leaf ?_)
          have zn6 : w.heap.size ≤ w12.heap.size := by have := (H.old).size; first | omega | (simp at this; omega)
          refine pl_R (H.box (w12.heap.size) 28 #[.int .i64 0, .string ⟨#[]⟩, .string ⟨#[]⟩, .string ⟨#[]⟩, .int .i64 0, .int .i64 0]) (fun H => ?_)
          refine pl_WR 1 #[.int .i64 X.f0, .string X.f1, .string X.f2, .string X.f3, .int .i64 X.f4, .int .i64 X.f5] H rfl zn5 (fun H => ?_) (by kernel_rfl) rfl
          refine pl_WR 0 #[.int .i64 Y.f0, .string Y.f1, .string Y.f2, .string Y.f3, .int .i64 Y.f4, .int .i64 Y.f5] H rfl zn6 (fun H => ?_) (by kernel_rfl) rfl
          refine pl_done ?_
          go_wp2_with fail
          go_meet
          exact ⟨_, _, rfl, rfl, (H.swap).sub (by simp)⟩
        · have zn6 : w.heap.size ≤ w11.heap.size + 1 := by have := (H.old).size; first | omega | (simp at this; omega)
          refine pl_R (H.box (w11.heap.size + 1) 28 #[.int .i64 0, .string ⟨#[]⟩, .string ⟨#[]⟩, .string ⟨#[]⟩, .int .i64 0, .int .i64 0]) (fun H => ?_)
          refine pl_done (pl_leaf ?_)
          refine pl_S (hY.out _) H Tryd.func6 (h := fun w12 H => ?_)
          refine pl_WR 1 #[.int .i64 X.f0, .string X.f1, .string X.f2, .string X.f3, .int .i64 X.f4, .int .i64 X.f5] H rfl zn5 (fun H => ?_) (by kernel_rfl) rfl
          refine pl_WR 0 #[.int .i64 Y.f0, .string Y.f1, .string Y.f2, .string Y.f3, .int .i64 Y.f4, .int .i64 Y.f5] H rfl zn6 (fun H => ?_) (by kernel_rfl) rfl
          refine pl_done ?_
          go_wp2_with fail
          go_meet
          exact ⟨_, _, rfl, rfl, (H.swap).sub (by simp)⟩
      · have zn6 : w.heap.size ≤ w11.heap.size := by have := (H.old).size; first | omega | (simp at this; omega)
        refine pl_R (H.box (w11.heap.size) 28 #[.int .i64 0, .string ⟨#[]⟩, .string ⟨#[]⟩, .string ⟨#[]⟩, .int .i64 0, .int .i64 0]) (fun H => ?_)
        refine pl_done (pl_fork ?_)
        refine pl_done ⟨?_, ?_⟩
        · refine pl_S (hY.out _) H Tryd.func6 (h := fun w12 H => ?_)
          refine pl_done (pl_leaf ?_)
          have zn5 : w.heap.size ≤ w12.heap.size := by have := (H.old).size; first | omega | (simp at this; omega)
          refine pl_R (H.box (w12.heap.size) 28 #[.int .i64 0, .string ⟨#[]⟩, .string ⟨#[]⟩, .string ⟨#[]⟩, .int .i64 0, .int .i64 0]) (fun H => ?_)
          refine pl_WR 0 #[.int .i64 X.f0, .string X.f1, .string X.f2, .string X.f3, .int .i64 X.f4, .int .i64 X.f5] H rfl zn5 (fun H => ?_) (by kernel_rfl) rfl
          refine pl_WR 1 #[.int .i64 Y.f0, .string Y.f1, .string Y.f2, .string Y.f3, .int .i64 Y.f4, .int .i64 Y.f5] H rfl zn6 (fun H => ?_) (by kernel_rfl) rfl
          refine pl_done ?_
          go_wp2_with fail
          go_meet
          exact ⟨_, _, rfl, rfl, (H).sub (by simp)⟩
        · have zn5 : w.heap.size ≤ w11.heap.size + 1 := by have := (H.old).size; first | omega | (simp at this; omega)
          refine pl_R (H.box (w11.heap.size + 1) 28 #[.int .i64 0, .string ⟨#[]⟩, .string ⟨#[]⟩, .string ⟨#[]⟩, .int .i64 0, .int .i64 0]) (fun H => ?_)
          refine pl_done (pl_leaf ?_)
          refine pl_S (hY.out _) H Tryd.func6 (h := fun w12 H => ?_)
          refine pl_WR 0 #[.int .i64 X.f0, .string X.f1, .string X.f2, .string X.f3, .int .i64 X.f4, .int .i64 X.f5] H rfl zn5 (fun H => ?_) (by kernel_rfl) rfl
          refine pl_WR 1 #[.int .i64 Y.f0, .string Y.f1, .string Y.f2, .string Y.f3, .int .i64 Y.f4, .int .i64 Y.f5] H rfl zn6 (fun H => ?_) (by kernel_rfl) rfl
          refine pl_done ?_
          go_wp2_with fail
          go_meet
          exact ⟨_, _, rfl, rfl, (H).sub (by simp)⟩
    · have zn5 : w.heap.size ≤ w2.heap.size := by have := (H.old).size; first | omega | (simp at this; omega)
      refine pl_R (H.box (w2.heap.size) 28 #[.int .i64 0, .string ⟨#[]⟩, .string ⟨#[]⟩, .string ⟨#[]⟩, .int .i64 0, .int .i64 0]) (fun H => ?_)
      refine pl_done (pl_fork ?_)
      refine pl_done ⟨?_, ?_⟩
      · refine pl_S (hX.out _) H Tryd.func6 (h := fun w11 H => ?_)
        refine pl_done (pl_fork ?_)
        refine pl_done ⟨?_, ?_⟩
        · refine pl_S (hY.out _) H Tryd.func6 (h := fun w12 H => ?_)
          refine pl_done (pl_leaf ?_)
          have zn6 : w.heap.size ≤ w12.heap.size := by have := (H.old).size; first | omega | (simp at this; omega)
          refine pl_R (H.box (w12.heap.size) 28 #[.int .i64 0, .string ⟨#[]⟩, .string ⟨#[]⟩, .string ⟨#[]⟩, .int .i64 0, .int .i64 0]) (fun H => ?_)
          refine pl_WR 1 #[.int .i64 X.f0, .string X.f1, .string X.f2, .string X.f3, .int .i64 X.f4, .int .i64 X.f5] H rfl zn5 (fun H => ?_) (by kernel_rfl) rfl
          refine pl_WR 0 #[.int .i64 Y.f0, .string Y.f1, .string Y.f2, .string Y.f3, .int .i64 Y.f4, .int .i64 Y.f5] H rfl zn6 (fun H => ?_) (by kernel_rfl) rfl
          refine pl_done ?_
          go_wp2_with fail
          go_meet
          exact ⟨_, _, rfl, rfl, (H.swap).sub (by simp)⟩
        · have zn6 : w.heap.size ≤ w11.heap.size := by have := (H.old).size; first | omega | (simp at this; omega)
          refine pl_R (H.box (w11.heap.size) 28 #[.int .i64 0, .string ⟨#[]⟩, .string ⟨#[]⟩, .string ⟨#[]⟩, .int .i64 0, .int .i64 0]) (fun H => ?_)
          refine pl_done (pl_leaf ?_)
          refine pl_S (hY.out _) H Tryd.func6 (h := fun w12 H => ?_)
          refine pl_WR 1 #[.int .i64 X.f0, .string X.f1, .string X.f2, .string X.f3, .int .i64 X.f4, .int .i64 X.f5] H rfl zn5 (fun H => ?_) (by kernel_rfl) rfl
          refine pl_WR 0 #[.int .i64 Y.f0, .string Y.f1, .string Y.f2, .string Y.f3, .int .i64 Y.f4, .int .i64 Y.f5] H rfl zn6 (fun H => ?_) (by kernel_rfl) rfl
          refine pl_done ?_
          go_wp2_with fail
          go_meet
          exact ⟨_, _, rfl, rfl, (H.swap).sub (by simp)⟩
      · have zn6 : w.heap.size ≤ w2.heap.size + 1 := by have := (H.old).size; first | omega | (simp at this; omega)
        refine pl_R (H.box (w2.heap.size + 1) 28 #[.int .i64 0, .string ⟨#[]⟩, .string ⟨#[]⟩, .string ⟨#[]⟩, .int .i64 0, .int .i64 0]) (fun H => ?_)
        refine pl_done (pl_leaf ?_)
        refine pl_S (hX.out _) H Tryd.func6 (h := fun w11 H => ?_)
        refine pl_S (hY.out _) H Tryd.func6 (h := fun w12 H => ?_)
        refine pl_WR 1 #[.int .i64 X.f0, .string X.f1, .string X.f2, .string X.f3, .int .i64 X.f4, .int .i64 X.f5] H rfl zn5 (fun H => ?_) (by kernel_rfl) rfl
        refine pl_WR 0 #[.int .i64 Y.f0, .string Y.f1, .string Y.f2, .string Y.f3, .int .i64 Y.f4, .int .i64 Y.f5] H rfl zn6 (fun H => ?_) (by kernel_rfl) rfl
        refine pl_done ?_
        go_wp2_with fail
        go_meet
        exact ⟨_, _, rfl, rfl, (H.swap).sub (by simp)⟩
    · have zn6 : w.heap.size ≤ w2.heap.size := by have := (H.old).size; first | omega | (simp at this; omega)
      refine pl_R (H.box (w2.heap.size) 28 #[.int .i64 0, .string ⟨#[]⟩, .string ⟨#[]⟩, .string ⟨#[]⟩, .int .i64 0, .int .i64 0]) (fun H => ?_)
      refine pl_done (pl_fork ?_)
      refine pl_done ⟨?_, ?_⟩
      · refine pl_S (hX.out _) H Tryd.func6 (h := fun w11 H => ?_)
        refine pl_done (pl_fork ?_)
        refine pl_done ⟨?_, ?_⟩
        · refine pl_S (hY.out _) H Tryd.func6 (h := fun w12 H => ?_)
          refine pl_done (pl_leaf ?_)
          have zn5 : w.heap.size ≤ w12.heap.size := by have := (H.old).size; first | omega | (simp at this; omega)
          refine pl_R (H.box (w12.heap.size) 28 #[.int .i64 0, .string ⟨#[]⟩, .string ⟨#[]⟩, .string ⟨#[]⟩, .int .i64 0, .int .i64 0]) (fun H => ?_)
          refine pl_WR 0 #[.int .i64 X.f0, .string X.f1, .string X.f2, .string X.f3, .int .i64 X.f4, .int .i64 X.f5] H rfl zn5 (fun H => ?_) (by kernel_rfl) rfl
          refine pl_WR 1 #[.int .i64 Y.f0, .string Y.f1, .string Y.f2, .string Y.f3, .int .i64 Y.f4, .int .i64 Y.f5] H rfl zn6 (fun H => ?_) (by kernel_rfl) rfl
          refine pl_done ?_
          go_wp2_with fail
          go_meet
          exact ⟨_, _, rfl, rfl, (H).sub (by simp)⟩
        · have zn5 : w.heap.size ≤ w11.heap.size := by have := (H.old).size; first | omega | (simp at this; omega)
          refine pl_R (H.box (w11.heap.size) 28 #[.int .i64 0, .string ⟨#[]⟩, .string ⟨#[]⟩, .string ⟨#[]⟩, .int .i64 0, .int .i64 0]) (fun H => ?_)
          refine pl_done (pl_leaf ?_)
          refine pl_S (hY.out _) H Tryd.func6 (h := fun w12 H => ?_)
          refine pl_WR 0 #[.int .i64 X.f0, .string X.f1, .string X.f2, .string X.f3, .int .i64 X.f4, .int .i64 X.f5] H rfl zn5 (fun H => ?_) (by kernel_rfl) rfl
          refine pl_WR 1 #[.int .i64 Y.f0, .string Y.f1, .string Y.f2, .string Y.f3, .int .i64 Y.f4, .int .i64 Y.f5] H rfl zn6 (fun H => ?_) (by kernel_rfl) rfl
          refine pl_done ?_
          go_wp2_with fail
          go_meet
          exact ⟨_, _, rfl, rfl, (H).sub (by simp)⟩
      · have zn5 : w.heap.size ≤ w2.heap.size + 1 := by have := (H.old).size; first | omega | (simp at this; omega)
        refine pl_R (H.box (w2.heap.size + 1) 28 #[.int .i64 0, .string ⟨#[]⟩, .string ⟨#[]⟩, .string ⟨#[]⟩, .int .i64 0, .int .i64 0]) (fun H => ?_)
        refine pl_done (pl_leaf ?_)
        refine pl_S (hX.out _) H Tryd.func6 (h := fun w11 H => ?_)
        refine pl_S (hY.out _) H Tryd.func6 (h := fun w12 H => ?_)
        refine pl_WR 0 #[.int .i64 X.f0, .string X.f1, .string X.f2, .string X.f3, .int .i64 X.f4, .int .i64 X.f5] H rfl zn5 (fun H => ?_) (by kernel_rfl) rfl
        refine pl_WR 1 #[.int .i64 Y.f0, .string Y.f1, .string Y.f2, .string Y.f3, .int .i64 Y.f4, .int .i64 Y.f5] H rfl zn6 (fun H => ?_) (by kernel_rfl) rfl
        refine pl_done ?_
        go_wp2_with fail
        go_meet
        exact ⟨_, _, rfl, rfl, (H).sub (by simp)⟩
  case rest =>
    clear H hX hY
    obtain ⟨b5, b6, rfl, rfl, H⟩ := hcut
    go_upto_region 2 with fail
    go_cut [7, 8] (fun s7 s8 wx => ∃ b7 b8 : Nat, s7 = .pointer (some ⟨b7, 0, none⟩) ∧ s8 = .pointer (some ⟨b8, 0, none⟩) ∧ All w wx [bx b7 30 #[.int .i64 X.f0, .string X.f1, .string X.f2, .string X.f3, .int .i64 X.f4, .int .i64 X.f5], bx b8 30 #[.int .i64 Y.f0, .string Y.f1, .string Y.f2, .string Y.f3, .int .i64 Y.f4, .int .i64 Y.f5], bx b5 28 #[.int .i64 X.f0, .string X.f1, .string X.f2, .string X.f3, .int .i64 X.f4, .int .i64 X.f5], bx b6 28 #[.int .i64 Y.f0, .string Y.f1, .string Y.f2, .string Y.f3, .int .i64 Y.f4, .int .i64 Y.f5]])
    case first =>
      refine planT_ (true, [([], []), ([0], [0]), ([], []), ([2, 1], [2]), ([], []), ([], []), ([4, 1, 3, 0, 1, 4, 5], [1, 4]), ([5, 3, 6, 0, 1, 2, 3, 4, 5, 6], [3, 5])]) (.fork3 [.t 0, .t 2] 1 4 5 (.fork3 [] 3 4 5 (.fork [] 4 5 (.leaf [.c 5, .c 6, .c 7]) (.leaf [.c 4, .c 6, .c 7])) (.fork [] 3 5 (.leaf [.c 5, .c 6, .c 7]) (.leaf [.c 3, .c 6, .c 7])) (.fork [] 3 4 (.leaf [.c 4, .c 6, .c 7]) (.leaf [.c 3, .c 6, .c 7]))) (.fork [] 1 5 (.fork [] 3 5 (.leaf [.c 5, .c 6, .c 7]) (.leaf [.c 3, .c 6, .c 7])) (.leaf [.c 1, .c 3, .c 6, .c 7])) (.fork [] 1 4 (.fork [] 3 4 (.leaf [.c 4, .c 6, .c 7]) (.leaf [.c 3, .c 6, .c 7])) (.leaf [.c 1, .c 3, .c 6, .c 7]))) H (by kernel_rfl) (by kernel_rfl) rfl rfl (by kernel_rfl) (by intro c a w d v h; cases d <;> exact h) (fun w3 H => ?_)
      refine pl_fork3 ?_
      refine pl_B 0 H rfl (h := ?_)
      refine pl_B 1 H rfl (h := ?_)
      refine pl_done ⟨?_, ?_, ?_⟩
      · refine pl_S (of_c X) H Tryd.func14 (h := fun w11 H => ?_)
        refine pl_done (pl_fork3 ?_)
        refine pl_done ⟨?_, ?_, ?_⟩
        · refine pl_S (of_c Y) H Tryd.func14 (h := fun w12 H => ?_)
          refine pl_done (pl_fork ?_)
          refine pl_done ⟨?_, ?_⟩
          · have zn7 : w.heap.size ≤ w12.heap.size := by have := (H.old).size; first | omega | (simp at this; omega)
            refine pl_R (H.box (w12.heap.size) 30 #[.int .i64 0, .string ⟨#[]⟩, .string ⟨#[]⟩, .string ⟨#[]⟩, .int .i64 0, .int .i64 0]) (fun H => ?_)
            refine pl_done (pl_leaf ?_)
            have zn8 : w.heap.size ≤ w12.heap.size + 1 := by have := (H.old).size; first | omega | (simp at this; omega)
            refine pl_R (H.box (w12.heap.size + 1) 30 #[.int .i64 0, .string ⟨#[]⟩, .string ⟨#[]⟩, .string ⟨#[]⟩, .int .i64 0, .int .i64 0]) (fun H => ?_)
            refine pl_WR 1 #[.int .i64 X.f0, .string X.f1, .string X.f2, .string X.f3, .int .i64 X.f4, .int .i64 X.f5] H rfl zn7 (fun H => ?_) (by kernel_rfl) rfl
            refine pl_WR 0 #[.int .i64 Y.f0, .string Y.f1, .string Y.f2, .string Y.f3, .int .i64 Y.f4, .int .i64 Y.f5] H rfl zn8 (fun H => ?_) (by kernel_rfl) rfl
            refine pl_done ?_
            go_wp2_with fail
            go_meet
            exact ⟨_, _, rfl, rfl, (H.swap).sub (by simp)⟩
          · have zn8 : w.heap.size ≤ w12.heap.size := by have := (H.old).size; first | omega | (simp at this; omega)
            refine pl_R (H.box (w12.heap.size) 30 #[.int .i64 0, .string ⟨#[]⟩, .string ⟨#[]⟩, .string ⟨#[]⟩, .int .i64 0, .int .i64 0]) (fun H => ?_)
            refine pl_done (pl_leaf ?_)
            have zn7 : w.heap.size ≤ w12.heap.size + 1 := by have := (H.old).size; first | omega | (simp at this; omega)
            refine pl_R (H.box (w12.heap.size + 1) 30 #[.int .i64 0, .string ⟨#[]⟩, .string ⟨#[]⟩, .string ⟨#[]⟩, .int .i64 0, .int .i64 0]) (fun H => ?_)
            refine pl_WR 0 #[.int .i64 X.f0, .string X.f1, .string X.f2, .string X.f3, .int .i64 X.f4, .int .i64 X.f5] H rfl zn7 (fun H => ?_) (by kernel_rfl) rfl
            refine pl_WR 1 #[.int .i64 Y.f0, .string Y.f1, .string Y.f2, .string Y.f3, .int .i64 Y.f4, .int .i64 Y.f5] H rfl zn8 (fun H => ?_) (by kernel_rfl) rfl
            refine pl_done ?_
            go_wp2_with fail
            go_meet
            exact ⟨_, _, rfl, rfl, (H).sub (by simp)⟩
        · have zn7 : w.heap.size ≤ w11.heap.size := by have := (H.old).size; first | omega | (simp at this; omega)
          refine pl_R (H.box (w11.heap.size) 30 #[.int .i64 0, .string ⟨#[]⟩, .string ⟨#[]⟩, .string ⟨#[]⟩, .int .i64 0, .int .i64 0]) (fun H => ?_)
          refine pl_done (pl_fork ?_)
          refine pl_done ⟨?_, ?_⟩
          · refine pl_S (of_c Y) H Tryd.func14 (h := fun w12 H => ?_)
            refine pl_done (pl_leaf ?_)
            have zn8 : w.heap.size ≤ w12.heap.size := by have := (H.old).size; first | omega | (simp at this; omega)
            refine pl_R (H.box (w12.heap.size) 30 #[.int .i64 0, .string ⟨#[]⟩, .string ⟨#[]⟩, .string ⟨#[]⟩, .int .i64 0, .int .i64 0]) (fun H => ?_)
            refine pl_WR 1 #[.int .i64 X.f0, .string X.f1, .string X.f2, .string X.f3, .int .i64 X.f4, .int .i64 X.f5] H rfl zn7 (fun H => ?_) (by kernel_rfl) rfl
            refine pl_WR 0 #[.int .i64 Y.f0, .string Y.f1, .string Y.f2, .string Y.f3, .int .i64 Y.f4, .int .i64 Y.f5] H rfl zn8 (fun H => ?_) (by kernel_rfl) rfl
            refine pl_done ?_
            go_wp2_with fail
            go_meet
            exact ⟨_, _, rfl, rfl, (H.swap).sub (by simp)⟩
          · have zn8 : w.heap.size ≤ w11.heap.size + 1 := by have := (H.old).size; first | omega | (simp at this; omega)
            refine pl_R (H.box (w11.heap.size + 1) 30 #[.int .i64 0, .string ⟨#[]⟩, .string ⟨#[]⟩, .string ⟨#[]⟩, .int .i64 0, .int .i64 0]) (fun H => ?_)
            refine pl_done (pl_leaf ?_)
            refine pl_S (of_c Y) H Tryd.func14 (h := fun w12 H => ?_)
            refine pl_WR 1 #[.int .i64 X.f0, .string X.f1, .string X.f2, .string X.f3, .int .i64 X.f4, .int .i64 X.f5] H rfl zn7 (fun H => ?_) (by kernel_rfl) rfl
            refine pl_WR 0 #[.int .i64 Y.f0, .string Y.f1, .string Y.f2, .string Y.f3, .int .i64 Y.f4, .int .i64 Y.f5] H rfl zn8 (fun H => ?_) (by kernel_rfl) rfl
            refine pl_done ?_
            go_wp2_with fail
            go_meet
            exact ⟨_, _, rfl, rfl, (H.swap).sub (by simp)⟩
        · have zn8 : w.heap.size ≤ w11.heap.size := by have := (H.old).size; first | omega | (simp at this; omega)
          refine pl_R (H.box (w11.heap.size) 30 #[.int .i64 0, .string ⟨#[]⟩, .string ⟨#[]⟩, .string ⟨#[]⟩, .int .i64 0, .int .i64 0]) (fun H => ?_)
          refine pl_done (pl_fork ?_)
          refine pl_done ⟨?_, ?_⟩
          · refine pl_S (of_c Y) H Tryd.func14 (h := fun w12 H => ?_)
            refine pl_done (pl_leaf ?_)
            have zn7 : w.heap.size ≤ w12.heap.size := by have := (H.old).size; first | omega | (simp at this; omega)
            refine pl_R (H.box (w12.heap.size) 30 #[.int .i64 0, .string ⟨#[]⟩, .string ⟨#[]⟩, .string ⟨#[]⟩, .int .i64 0, .int .i64 0]) (fun H => ?_)
            refine pl_WR 0 #[.int .i64 X.f0, .string X.f1, .string X.f2, .string X.f3, .int .i64 X.f4, .int .i64 X.f5] H rfl zn7 (fun H => ?_) (by kernel_rfl) rfl
            refine pl_WR 1 #[.int .i64 Y.f0, .string Y.f1, .string Y.f2, .string Y.f3, .int .i64 Y.f4, .int .i64 Y.f5] H rfl zn8 (fun H => ?_) (by kernel_rfl) rfl
            refine pl_done ?_
            go_wp2_with fail
            go_meet
            exact ⟨_, _, rfl, rfl, (H).sub (by simp)⟩
          · have zn7 : w.heap.size ≤ w11.heap.size + 1 := by have := (H.old).size; first | omega | (simp at this; omega)
            refine pl_R (H.box (w11.heap.size + 1) 30 #[.int .i64 0, .string ⟨#[]⟩, .string ⟨#[]⟩, .string ⟨#[]⟩, .int .i64 0, .int .i64 0]) (fun H => ?_)
            refine pl_done (pl_leaf ?_)
            refine pl_S (of_c Y) H Tryd.func14 (h := fun w12 H => ?_)
            refine pl_WR 0 #[.int .i64 X.f0, .string X.f1, .string X.f2, .string X.f3, .int .i64 X.f4, .int .i64 X.f5] H rfl zn7 (fun H => ?_) (by kernel_rfl) rfl
            refine pl_WR 1 #[.int .i64 Y.f0, .string Y.f1, .string Y.f2, .string Y.f3, .int .i64 Y.f4, .int .i64 Y.f5] H rfl zn8 (fun H => ?_) (by kernel_rfl) rfl
            refine pl_done ?_
            go_wp2_with fail
            go_meet
            exact ⟨_, _, rfl, rfl, (H).sub (by simp)⟩
      · have zn7 : w.heap.size ≤ w3.heap.size := by have := (H.old).size; first | omega | (simp at this; omega)
        refine pl_R (H.box (w3.heap.size) 30 #[.int .i64 0, .string ⟨#[]⟩, .string ⟨#[]⟩, .string ⟨#[]⟩, .int .i64 0, .int .i64 0]) (fun H => ?_)
        refine pl_done (pl_fork ?_)
        refine pl_done ⟨?_, ?_⟩
        · refine pl_S (of_c X) H Tryd.func14 (h := fun w11 H => ?_)
          refine pl_done (pl_fork ?_)
          refine pl_done ⟨?_, ?_⟩
          · refine pl_S (of_c Y) H Tryd.func14 (h := fun w12 H => ?_)
            refine pl_done (pl_leaf ?_)
            have zn8 : w.heap.size ≤ w12.heap.size := by have := (H.old).size; first | omega | (simp at this; omega)
            refine pl_R (H.box (w12.heap.size) 30 #[.int .i64 0, .string ⟨#[]⟩, .string ⟨#[]⟩, .string ⟨#[]⟩, .int .i64 0, .int .i64 0]) (fun H => ?_)
            refine pl_WR 1 #[.int .i64 X.f0, .string X.f1, .string X.f2, .string X.f3, .int .i64 X.f4, .int .i64 X.f5] H rfl zn7 (fun H => ?_) (by kernel_rfl) rfl
            refine pl_WR 0 #[.int .i64 Y.f0, .string Y.f1, .string Y.f2, .string Y.f3, .int .i64 Y.f4, .int .i64 Y.f5] H rfl zn8 (fun H => ?_) (by kernel_rfl) rfl
            refine pl_done ?_
            go_wp2_with fail
            go_meet
            exact ⟨_, _, rfl, rfl, (H.swap).sub (by simp)⟩
          · have zn8 : w.heap.size ≤ w11.heap.size := by have := (H.old).size; first | omega | (simp at this; omega)
            refine pl_R (H.box (w11.heap.size) 30 #[.int .i64 0, .string ⟨#[]⟩, .string ⟨#[]⟩, .string ⟨#[]⟩, .int .i64 0, .int .i64 0]) (fun H => ?_)
            refine pl_done (pl_leaf ?_)
            refine pl_S (of_c Y) H Tryd.func14 (h := fun w12 H => ?_)
            refine pl_WR 1 #[.int .i64 X.f0, .string X.f1, .string X.f2, .string X.f3, .int .i64 X.f4, .int .i64 X.f5] H rfl zn7 (fun H => ?_) (by kernel_rfl) rfl
            refine pl_WR 0 #[.int .i64 Y.f0, .string Y.f1, .string Y.f2, .string Y.f3, .int .i64 Y.f4, .int .i64 Y.f5] H rfl zn8 (fun H => ?_) (by kernel_rfl) rfl
            refine pl_done ?_
            go_wp2_with fail
            go_meet
            exact ⟨_, _, rfl, rfl, (H.swap).sub (by simp)⟩
        · have zn8 : w.heap.size ≤ w3.heap.size + 1 := by have := (H.old).size; first | omega | (simp at this; omega)
          refine pl_R (H.box (w3.heap.size + 1) 30 #[.int .i64 0, .string ⟨#[]⟩, .string ⟨#[]⟩, .string ⟨#[]⟩, .int .i64 0, .int .i64 0]) (fun H => ?_)
          refine pl_done (pl_leaf ?_)
          refine pl_S (of_c X) H Tryd.func14 (h := fun w11 H => ?_)
          refine pl_S (of_c Y) H Tryd.func14 (h := fun w12 H => ?_)
          refine pl_WR 1 #[.int .i64 X.f0, .string X.f1, .string X.f2, .string X.f3, .int .i64 X.f4, .int .i64 X.f5] H rfl zn7 (fun H => ?_) (by kernel_rfl) rfl
          refine pl_WR 0 #[.int .i64 Y.f0, .string Y.f1, .string Y.f2, .string Y.f3, .int .i64 Y.f4, .int .i64 Y.f5] H rfl zn8 (fun H => ?_) (by kernel_rfl) rfl
          refine pl_done ?_
          go_wp2_with fail
          go_meet
          exact ⟨_, _, rfl, rfl, (H.swap).sub (by simp)⟩
      · have zn8 : w.heap.size ≤ w3.heap.size := by have := (H.old).size; first | omega | (simp at this; omega)
        refine pl_R (H.box (w3.heap.size) 30 #[.int .i64 0, .string ⟨#[]⟩, .string ⟨#[]⟩, .string ⟨#[]⟩, .int .i64 0, .int .i64 0]) (fun H => ?_)
        refine pl_done (pl_fork ?_)
        refine pl_done ⟨?_, ?_⟩
        · refine pl_S (of_c X) H Tryd.func14 (h := fun w11 H => ?_)
          refine pl_done (pl_fork ?_)
          refine pl_done ⟨?_, ?_⟩
          · refine pl_S (of_c Y) H Tryd.func14 (h := fun w12 H => ?_)
            refine pl_done (pl_leaf ?_)
            have zn7 : w.heap.size ≤ w12.heap.size := by have := (H.old).size; first | omega | (simp at this; omega)
            refine pl_R (H.box (w12.heap.size) 30 #[.int .i64 0, .string ⟨#[]⟩, .string ⟨#[]⟩, .string ⟨#[]⟩, .int .i64 0, .int .i64 0]) (fun H => ?_)
            refine pl_WR 0 #[.int .i64 X.f0, .string X.f1, .string X.f2, .string X.f3, .int .i64 X.f4, .int .i64 X.f5] H rfl zn7 (fun H => ?_) (by kernel_rfl) rfl
            refine pl_WR 1 #[.int .i64 Y.f0, .string Y.f1, .string Y.f2, .string Y.f3, .int .i64 Y.f4, .int .i64 Y.f5] H rfl zn8 (fun H => ?_) (by kernel_rfl) rfl
            refine pl_done ?_
            go_wp2_with fail
            go_meet
            exact ⟨_, _, rfl, rfl, (H).sub (by simp)⟩
          · have zn7 : w.heap.size ≤ w11.heap.size := by have := (H.old).size; first | omega | (simp at this; omega)
            refine pl_R (H.box (w11.heap.size) 30 #[.int .i64 0, .string ⟨#[]⟩, .string ⟨#[]⟩, .string ⟨#[]⟩, .int .i64 0, .int .i64 0]) (fun H => ?_)
            refine pl_done (pl_leaf ?_)
            refine pl_S (of_c Y) H Tryd.func14 (h := fun w12 H => ?_)
            refine pl_WR 0 #[.int .i64 X.f0, .string X.f1, .string X.f2, .string X.f3, .int .i64 X.f4, .int .i64 X.f5] H rfl zn7 (fun H => ?_) (by kernel_rfl) rfl
            refine pl_WR 1 #[.int .i64 Y.f0, .string Y.f1, .string Y.f2, .string Y.f3, .int .i64 Y.f4, .int .i64 Y.f5] H rfl zn8 (fun H => ?_) (by kernel_rfl) rfl
            refine pl_done ?_
            go_wp2_with fail
            go_meet
            exact ⟨_, _, rfl, rfl, (H).sub (by simp)⟩
        · have zn7 : w.heap.size ≤ w3.heap.size + 1 := by have := (H.old).size; first | omega | (simp at this; omega)
          refine pl_R (H.box (w3.heap.size + 1) 30 #[.int .i64 0, .string ⟨#[]⟩, .string ⟨#[]⟩, .string ⟨#[]⟩, .int .i64 0, .int .i64 0]) (fun H => ?_)
          refine pl_done (pl_leaf ?_)
          refine pl_S (of_c X) H Tryd.func14 (h := fun w11 H => ?_)
          refine pl_S (of_c Y) H Tryd.func14 (h := fun w12 H => ?_)
          refine pl_WR 0 #[.int .i64 X.f0, .string X.f1, .string X.f2, .string X.f3, .int .i64 X.f4, .int .i64 X.f5] H rfl zn7 (fun H => ?_) (by kernel_rfl) rfl
          refine pl_WR 1 #[.int .i64 Y.f0, .string Y.f1, .string Y.f2, .string Y.f3, .int .i64 Y.f4, .int .i64 Y.f5] H rfl zn8 (fun H => ?_) (by kernel_rfl) rfl
          refine pl_done ?_
          go_wp2_with fail
          go_meet
          exact ⟨_, _, rfl, rfl, (H).sub (by simp)⟩
    case rest =>
      clear H
      obtain ⟨b7, b8, rfl, rfl, H⟩ := hcut
      go_wp2_with fail
      refine planT_ (true, [([], []), ([0, 0], [0]), ([1], [1]), ([2, 1, 1], [1, 2]), ([1], [1]), ([4, 3, 1], [1, 4]), ([3, 5, 1], [1, 3, 5]), ([1, 6], [1, 6]), ([7, 5], [7]), ([8], [8]), ([9, 8, 8], [8, 9]), ([10, 10, 8], [8, 10]), ([8], [8]), ([12, 11, 8], [8, 12]), ([11, 13, 13, 8], [8, 11, 13]), ([14, 8], [8, 14]), ([8, 15], [8, 15]), ([16, 14], [16]), ([17], [17]), ([17], [17]), ([18, 19, 17, 17], [17, 18, 19]), ([17], [17]), ([17], [17]), ([21, 22, 20, 17], [17, 21, 22]), ([20, 23, 17], [17, 20, 23]), ([17, 24], [17, 24]), ([25, 23], [25]), ([26], [26]), ([26], [26]), ([27, 28, 26, 26], [26, 27, 28]), ([26], [26]), ([26], [26]), ([30, 31, 29, 26], [26, 30, 31]), ([32, 26], [26, 32]), ([29, 33, 26], [26, 29, 33]), ([26, 34], [26, 34]), ([35, 32], [35]), ([36], [36]), ([36], [36]), ([37, 38, 36], [36, 37, 38]), ([36], [36]), ([36], [36]), ([40, 41, 36, 36], [36, 40, 41]), ([42, 36], [36, 42]), ([39, 43, 36], [36, 39, 43]), ([36, 44], [36, 44]), ([45, 42, 0, 1, 2, 3, 4, 5, 6, 7, 8, 9, 10, 11, 12, 13, 14, 15, 16, 17, 18, 19, 20, 21, 22, 23, 24, 25, 26, 27, 28, 29, 30, 31, 32, 33, 34, 35, 36, 37, 38, 39, 40, 41, 42, 43, 44, 45], [45])]) (.leaf [.c 0, .p 1, .t 2, .t 4, .c 3, .c 5, .p 6, .p 7, .p 8, .t 9, .t 12, .c 10, .c 11, .c 13, .c 14, .p 15, .p 16, .p 17, .t 18, .t 19, .t 21, .t 22, .c 20, .c 23, .p 24, .p 25, .p 26, .t 27, .t 28, .t 30, .t 31, .c 29, .c 32, .p 33, .p 34, .p 35, .p 36, .t 37, .t 38, .p 39, .t 40, .t 41, .c 42, .p 43, .p 44, .p 45, .p 46]) H (by kernel_rfl) (by kernel_rfl) rfl rfl (by kernel_rfl) (by intro c a w d v h; cases d <;> exact h) (fun w4 H => ?_)
      refine pl_leaf ?_
      refine pl_S (show Tells Tryd.prog 11 #[] _ (.bool true) from Kn.known_c) H Tryd.func11 (h := fun w21 H => ?_)
      refine pl_P (h := ?_)
      refine pl_B 2 H rfl (h := ?_)
      refine pl_B 0 H rfl (h := ?_)
      refine pl_S (hC.out _) H Tryd.func15 (h := fun w22 H => ?_)
      refine pl_S (hCr.out _) H Tryd.func16 (h := fun w23 H => ?_)
      refine pl_P (h := ?_)
      refine pl_P (h := ?_)
      refine pl_P (h := ?_)
      refine pl_B 2 H rfl (h := ?_)
      refine pl_B 0 H rfl (h := ?_)
      refine pl_S (hV.out _) H Tryd.func17 (h := fun w24 H => ?_)
      refine pl_G (hN.out _) H Tryd.func13 (h := fun v w25 H z5 => ?_)
      obtain ⟨A5, k5, rfl, hc5, hR5⟩ := num_open (H.get 0 rfl)
      replace H := H.turn 0 rfl hR5
      unfold num
      refine pl_G (hR.out _) H Tryd.func8 (h := fun v w26 H z6 => ?_)
      obtain ⟨A6, k6, rfl, hc6, hR6⟩ := num_open (H.get 0 rfl)
      replace H := H.turn 0 rfl hR6
      unfold num
      refine pl_S (same_c (H.get 1 rfl) hc5 (H.get 0 rfl) hc6 hl.out) H Tryd.func12 (h := fun w27 H => ?_)
      refine pl_P (h := ?_)
      refine pl_P (h := ?_)
      refine pl_P (h := ?_)
      refine pl_B 2 H rfl (h := ?_)
      refine pl_B 3 H rfl (h := ?_)
      refine pl_B 0 H rfl (h := ?_)
      refine pl_B 1 H rfl (h := ?_)
      refine pl_S (c1.out _) H Tryd.func18 (h := fun w28 H => ?_)
      refine pl_S (c2.out _) H Tryd.func19 (h := fun w29 H => ?_)
      refine pl_P (h := ?_)
      refine pl_P (h := ?_)
      refine pl_P (h := ?_)
      refine pl_B 3 H rfl (h := ?_)
      refine pl_B 2 H rfl (h := ?_)
      refine pl_B 0 H rfl (h := ?_)
      refine pl_B 1 H rfl (h := ?_)
      refine pl_S (c3.out _) H Tryd.func18 (h := fun w30 H => ?_)
      refine pl_S (c2.out _) H Tryd.func19 (h := fun w31 H => ?_)
      refine pl_P (h := ?_)
      refine pl_P (h := ?_)
      refine pl_P (h := ?_)
      refine pl_P (h := ?_)
      refine pl_B 2 H rfl (h := ?_)
      refine pl_B 3 H rfl (h := ?_)
      refine pl_P (h := ?_)
      refine pl_B 0 H rfl (h := ?_)
      refine pl_B 1 H rfl (h := ?_)
      refine pl_S (c2.out _) H Tryd.func19 (h := fun w32 H => ?_)
      refine pl_P (h := ?_)
      refine pl_P (h := ?_)
      refine pl_P (h := ?_)
      refine pl_P (h := ?_)
      refine pl_done ?_
      go_wp2
      go_ret
      exact ⟨rfl, H.old⟩
end Go.Proofs.YtjbbigodkhnokaaDoor.Tc
end
