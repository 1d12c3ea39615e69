-- Written by a program of ours (pf.sh), for this seat.
import Derived.Test.YtebdjhgboeadgaaFr0
import Derived.Test.YtebdjhgboeadgaaFr2
import Derived.Test.YtebdjhgboeadgaaFr6
import Derived.Test.YtebdjhgboeadgaaFr12
namespace Go.Proofs.Ytebdjhgboeadgaa.Fr
open Go.RowKit Go.Proofs.YtebdjhgboeadgaaW.PrintWords Go.Proofs.YtebdjhgboeadgaaW.PrintLast Go.Proofs.YtebdjhgboeadgaaW.PrintMore
attribute [local go_sem] max2_int min2_int max_two min_two max_three min_three max_four min_four   -- for this text's walks alone
set_option linter.unusedVariables false
set_option linter.unusedSimpArgs false

/-! ### clevislaw06_known: function 42 -/
def clevislaw06_known.f : Option Bool := some true
theorem clevislaw06_known.k1 : frame_Make.f [] = some ([0, 0, 0, 0, 33, 68, 223, 28], 0) := by kernel_rfl
theorem clevislaw06_known.k2 : frame_Sum.f 300 [[49, 50, 51, 52], [53, 54, 55, 56, 57]] = some 3421780262 := by kernel_rfl
theorem clevislaw06_known.k3 : clevisref05_Same.f 30 [0, 0, 0, 0, 33, 68, 223, 28] [0, 0, 0, 0, 33, 68, 223, 28] = some true := by kernel_rfl
set_option maxHeartbeats 4000000 in
set_option maxRecDepth 100000 in
theorem clevislaw06_known.calls (r : Bool) (w : World) (h : clevislaw06_known.f = some r) :
    Calls Try.prog 42 #[] w fun e w' => e = .returned (.bool r) ∧ Below w.heap.size w w' := by
  obtain rfl := Option.some.inj h
  clear h
  go_enter Try.func42, Try.ntmps42
  go_wp2_with fail
  refine (frame_Make.calls none 0 [] _ _ w (Kd.C_nil _ _) (Nat.le_refl _) clevislaw06_known.k1).mono ?_
  rintro e w1 ⟨v1, rfl, hR1, hb1⟩
  obtain ⟨A1, c1, rfl, hc1, hC1⟩ := Kd.R_reads hR1
  have HB1 := Aside0.mk hb1
  have HC1 := Aside0.mk hC1
  clear hb1 hC1 hR1
  have hcv1 := Go.Joins.run_convert_bytes_const_at (P := Try.prog) w1 44 5 #[.int .u8 49, .int .u8 50, .int .u8 51, .int .u8 52] 4 4 w1.heap.size rfl Try.underlying44 Try.underlying5
  have hcv2 := Go.Joins.run_convert_bytes_const_at (P := Try.prog) (w1.alloc (.cells #[.int .u8 49, .int .u8 50, .int .u8 51, .int .u8 52] 5 (4, 5))) 44 5 #[.int .u8 53, .int .u8 54, .int .u8 55, .int .u8 56, .int .u8 57] 5 5 (w1.heap.size + 1) (Jf.asz _ _).symm Try.underlying44 Try.underlying5
  go_wp2_with fail
  have hx := Jf.lit_CF w1 [49, 50, 51, 52] #[.int .u8 49, .int .u8 50, .int .u8 51, .int .u8 52] (4, 5) rfl (by simp)
  have hy := Jf.lit_CF (w1.alloc (.cells #[.int .u8 49, .int .u8 50, .int .u8 51, .int .u8 52] 5 (4, 5))) [53, 54, 55, 56, 57] #[.int .u8 53, .int .u8 54, .int .u8 55, .int .u8 56, .int .u8 57] (5, 6) rfl (by simp)
  have b1 := (Below.refl w1.heap.size w1).alloc (Nat.le_refl _) (.cells #[.int .u8 49, .int .u8 50, .int .u8 51, .int .u8 52] 5 (4, 5))
  have b2 := (Below.refl (w1.alloc (.cells #[.int .u8 49, .int .u8 50, .int .u8 51, .int .u8 52] 5 (4, 5))).heap.size _).alloc (Nat.le_refl _) (.cells #[.int .u8 53, .int .u8 54, .int .u8 55, .int .u8 56, .int .u8 57] 5 (5, 6))
  have hC12 := Jf.CC_two (w := (w1.alloc (.cells #[.int .u8 49, .int .u8 50, .int .u8 51, .int .u8 52] 5 (4, 5))).alloc (.cells #[.int .u8 53, .int .u8 54, .int .u8 55, .int .u8 56, .int .u8 57] 5 (5, 6))) (e := 44) (n1 := 4) (n2 := 5) (c1 := 4) (c2 := 5) rfl rfl (Nat.le_refl _) (Nat.le_refl _) (Kd.C_below hx b2) hy
  have b3 := (Below.refl ((w1.alloc (.cells #[.int .u8 49, .int .u8 50, .int .u8 51, .int .u8 52] 5 (4, 5))).alloc (.cells #[.int .u8 53, .int .u8 54, .int .u8 55, .int .u8 56, .int .u8 57] 5 (5, 6))).heap.size _).alloc (Nat.le_refl _) (.cells #[.slice (some ⟨w1.heap.size, 0, none⟩) 4 4, .slice (some ⟨(w1.alloc (.cells #[.int .u8 49, .int .u8 50, .int .u8 51, .int .u8 52] 5 (4, 5))).heap.size, 0, none⟩) 5 5] 44)
  have b4 := (b1.trans (b2.mono b1.size)).trans (b3.mono (Nat.le_trans b1.size b2.size))
  simp only [Jf.asz] at hC12 b4
  refine (frame_Sum.calls 300 _ 2 [[49, 50, 51, 52], [53, 54, 55, 56, 57]] _ _ hC12 (Nat.le_refl _) clevislaw06_known.k2).mono ?_
  rintro e w2 ⟨rfl, hd⟩
  have b5 := b4.trans (hd.below.mono b4.size)
  have HC2 := Aside0.mk (Kd.C_below HC1.out b5)
  have HB2 := Aside0.mk (HB1.out.trans (b5.mono HB1.out.size))
  clear b1 b2 b3 b4 b5 hd hC12 hx hy
  go_wp2_with fail
  have hz := Jf.lit_C w2 [0, 0, 0, 0, 33, 68, 223, 28] #[.int .u8 0, .int .u8 0, .int .u8 0, .int .u8 0, .int .u8 33, .int .u8 68, .int .u8 223, .int .u8 28] rfl (by simp)
  have b1 := (Below.refl w2.heap.size w2).alloc (Nat.le_refl _) (.cells #[.int .u8 0, .int .u8 0, .int .u8 0, .int .u8 0, .int .u8 33, .int .u8 68, .int .u8 223, .int .u8 28] 5)
  refine (clevisref05_Same.calls 30 A1 c1 [0, 0, 0, 0, 33, 68, 223, 28] _ 8 [0, 0, 0, 0, 33, 68, 223, 28] _ _ (Kd.C_below HC2.out b1) hc1 hz (Nat.le_refl _) clevislaw06_known.k3).mono ?_
  rintro e w3 ⟨rfl, hd⟩
  have b2 := b1.trans (hd.below.mono b1.size)
  have HB3 := Aside0.mk (HB2.out.trans (b2.mono HB2.out.size))
  clear b1 b2 hd hz
  go_wp2
  go_ret
  exact ⟨rfl, HB3.out⟩

end Go.Proofs.Ytebdjhgboeadgaa.Fr
