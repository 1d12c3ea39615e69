/- Texts of this seat, put together (ZD6). -/
import Derived.Test.YtjbcigiffihjaaaZD3
import Derived.Test.YtjbcigiffihjaaaZD5
section
namespace Go.Proofs.Ytjbcigiffihjaaa.Fx
open Go.RowKit Go.Proofs.YtjbcigiffihjaaaW.PrintWords Go.Proofs.YtjbcigiffihjaaaW.PrintLast Go.Proofs.YtjbcigiffihjaaaW.PrintMore
attribute [local go_sem] max2_int min2_int max_two min_two max_three min_three max_four min_four   -- for this text's walks alone
set_option linter.unusedVariables false
set_option linter.unusedSimpArgs false
attribute [local go_sem] run_add64_any
mutual
def clevisref01_Mul.l0 : Nat → Int → Bool → List Int → Bool → List Int → Bool → List Int → Option (Bool × List Int)
 | 0, _, _, _, _, _, _, _ => none
 | k + 1, x6, x303000, x303001, x304000, x304001, x306000, x306001 => if x6 < (x303001.length : Int) then (clevisref01_Mul.l1 k x6 0 0 x303000 x303001 x304000 x304001 x306000 x306001) else ((clevisref01_clean.f k x306000 x306001).bind fun bt221 => (some (bt221.1, bt221.2)))
def clevisref01_Mul.l1 : Nat → Int → Int → Int → Bool → List Int → Bool → List Int → Bool → List Int → Option (Bool × List Int)
 | 0, _, _, _, _, _, _, _, _, _ => none
 | k + 1, x6, x7, x8, x303000, x303001, x304000, x304001, x306000, x306001 => if x8 < (x304001.length : Int) then (if 0 ≤ (wrap64 (x6 + x8)) then (if (wrap64 (x6 + x8)) < (x306001.length : Int) then (if 0 ≤ x6 then (if x6 < (x303001.length : Int) then ((clevisref01_at.f x304001 x8).bind fun t227 => (clevisref01_Mul.l1 k x6 (wrap64 (Int.tdiv (wrap64 ((wrap64 ((rd x306001 (wrap64 (x6 + x8))) + (wrap64 ((rd x303001 x6) * t227)))) + x7)) 65536)) (wrap64 (x8 + 1)) x303000 x303001 x304000 x304001 x306000 (x306001.set ((wrap64 (x6 + x8)) : Int).toNat (Int.tmod (wrap64 ((wrap64 ((rd x306001 (wrap64 (x6 + x8))) + (wrap64 ((rd x303001 x6) * t227)))) + x7)) 65536)))) else (none)) else (none)) else (none)) else (none)) else (if x7 > 0 then (if 0 ≤ (wrap64 (x6 + x8)) then (if (wrap64 (x6 + x8)) < (x306001.length : Int) then (if 0 ≤ x6 then (if x6 < (x303001.length : Int) then ((clevisref01_at.f x304001 x8).bind fun t231 => (clevisref01_Mul.l1 k x6 (wrap64 (Int.tdiv (wrap64 ((wrap64 ((rd x306001 (wrap64 (x6 + x8))) + (wrap64 ((rd x303001 x6) * t231)))) + x7)) 65536)) (wrap64 (x8 + 1)) x303000 x303001 x304000 x304001 x306000 (x306001.set ((wrap64 (x6 + x8)) : Int).toNat (Int.tmod (wrap64 ((wrap64 ((rd x306001 (wrap64 (x6 + x8))) + (wrap64 ((rd x303001 x6) * t231)))) + x7)) 65536)))) else (none)) else (none)) else (none)) else (none)) else (clevisref01_Mul.l0 k (wrap64 (x6 + 1)) x303000 x303001 x304000 x304001 x306000 x306001))
end
def clevisref01_Mul.f (k : Nat) (a0_0 : Bool) (l0_1 : List Int) (a1_0 : Bool) (l1_1 : List Int) : Option (Bool × List Int) := if 0 ≤ (wrap64 ((wrap64 ((l0_1.length : Int) + (l1_1.length : Int))) + 1)) then (if (wrap64 ((wrap64 ((l0_1.length : Int) + (l1_1.length : Int))) + 1) : Int).toNat ≤ 35184372088832 then ((some (List.replicate (wrap64 ((wrap64 ((l0_1.length : Int) + (l1_1.length : Int))) + 1) : Int).toNat 0 : List Int)).bind fun y218 => (if (a0_0 != a1_0) = true then (clevisref01_Mul.l0 k 0 a0_0 l0_1 a1_0 l1_1 true y218) else (clevisref01_Mul.l0 k 0 a0_0 l0_1 a1_0 l1_1 false y218))) else (none)) else (none)
def clevisref01_Mul.T1 : Bool × List (List Nat × List Nat) := (true, [([], []), ([0], [0]), ([], []), ([2], [2]), ([1, 3], [1, 3]), ([], []), ([5], [5]), ([6], [6]), ([], []), ([8], [8]), ([9], [9]), ([7, 10], [7, 10]), ([11], [11]), ([12, 12], [12]), ([4, 13], [4, 13]), ([], []), ([15, 14, 0, 1, 2, 3, 4, 5, 6, 7, 8, 9, 10, 11, 12, 13, 14, 15], [14, 15])])
def clevisref01_Mul.B1 : List Nat := [0, 1, 0, 4, 15, 0, 32, 96, 0, 256, 768, 2016, 4064, 8160, 16383, 0, 65535]
theorem clevisref01_Mul.tab1 : rtab .any (opsOf Try.f26 1) = clevisref01_Mul.T1 := by kernel_rfl
theorem clevisref01_Mul.bits1 : waitsOk clevisref01_Mul.T1.2 clevisref01_Mul.B1 = true := by kernel_rfl
def clevisref01_Mul.T9 : Bool × List (List Nat × List Nat) := (true, [([], []), ([0], [0]), ([], []), ([], []), ([2, 3], [2, 3]), ([1, 4], [1, 4]), ([5], [5]), ([], []), ([7], [7]), ([], []), ([8, 9], [8, 9]), ([10], [10]), ([], []), ([12], [12]), ([], []), ([13, 14], [13, 14]), ([11, 15], [11, 15]), ([6, 16], [6, 16]), ([], []), ([17, 18], [17, 18]), ([19, 15, 0, 1, 2, 3, 4, 5, 6, 7, 8, 9, 10, 11, 12, 13, 14, 15, 16, 17, 18, 19], [19])])
def clevisref01_Mul.B9 : List Nat := [0, 1, 0, 0, 12, 31, 63, 0, 128, 0, 896, 1920, 0, 4096, 0, 28672, 65408, 131071, 0, 524287, 1048575]
theorem clevisref01_Mul.tab9 : rtab .any (opsOf Try.f26 9) = clevisref01_Mul.T9 := by kernel_rfl
theorem clevisref01_Mul.bits9 : waitsOk clevisref01_Mul.T9.2 clevisref01_Mul.B9 = true := by kernel_rfl
set_option maxHeartbeats 8000000 in
set_option maxRecDepth 100000 in
theorem clevisref01_Mul.calls (k : Nat) (a0_0 : Bool) (A0_1 : Option Addr) (c0_1 : Nat) (l0_1 : List Int) (a1_0 : Bool) (A1_1 : Option Addr) (c1_1 : Nat) (l1_1 : List Int) (r1 : Bool) (r2 : List Int) (w : World) (hr0_1 : Kd.C (Kd.int .i64) w A0_1 l0_1.length l0_1) (hc0_1 : l0_1.length ≤ c0_1) (hr1_1 : Kd.C (Kd.int .i64) w A1_1 l1_1.length l1_1) (hc1_1 : l1_1.length ≤ c1_1) (h : clevisref01_Mul.f k a0_0 l0_1 a1_0 l1_1 = some (r1, r2)) :
  Calls Try.prog 26 #[.agg #[.bool a0_0, .slice A0_1 l0_1.length c0_1], .agg #[.bool a1_0, .slice A1_1 l1_1.length c1_1]] w fun e w' => ∃ v1_ : Value, e = .returned (.agg #[.bool r1, v1_]) ∧ Kd.V (Kd.int .i64) 3 w' w.heap.size (fun k_ => (w.heap.size ≤ k_)) v1_ r2 ∧ Below w.heap.size w w' := by
 have hu32 := Try.underlying32
 have HR0_1 := A_ hr0_1
 have HC0_1 := A_ hc0_1
 clear hr0_1 hc0_1
 have HR1_1 := A_ hr1_1
 have HC1_1 := A_ hc1_1
 clear hr1_1 hc1_1
 have HB := A_ (Below.refl w.heap.size w)
 have H : (if 0 ≤ (wrap64 ((wrap64 ((l0_1.length : Int) + (l1_1.length : Int))) + 1)) then (if (wrap64 ((wrap64 ((l0_1.length : Int) + (l1_1.length : Int))) + 1) : Int).toNat ≤ 35184372088832 then ((some (List.replicate (wrap64 ((wrap64 ((l0_1.length : Int) + (l1_1.length : Int))) + 1) : Int).toNat 0 : List Int)).bind fun y218 => (if (a0_0 != a1_0) = true then (clevisref01_Mul.l0 k 0 a0_0 l0_1 a1_0 l1_1 true y218) else (clevisref01_Mul.l0 k 0 a0_0 l0_1 a1_0 l1_1 false y218))) else (none)) else (none)) = some (r1, r2) := h
 clear h
 obtain ⟨ji3, hji3⟩ : ∃ j_ : Int, (wrap64 ((wrap64 ((l0_1.length : Int) + (l1_1.length : Int))) + 1)) = j_ := ⟨_, rfl⟩
 replace H : (if 0 ≤ (ji3) then (if (ji3 : Int).toNat ≤ 35184372088832 then ((some (List.replicate (ji3 : Int).toNat 0 : List Int)).bind fun y218 => (if (a0_0 != a1_0) = true then (clevisref01_Mul.l0 k 0 a0_0 l0_1 a1_0 l1_1 true y218) else (clevisref01_Mul.l0 k 0 a0_0 l0_1 a1_0 l1_1 false y218))) else (none)) else (none)) = some (r1, r2) := by first | (rw [hji3] at H; exact H) | (simp only [hji3] at H ⊢; exact H)
 have hji3w : (IntKind.i64.wrap ((wrap64 ((l0_1.length : Int) + (l1_1.length : Int))) + 1)) = ji3 := (i64_w _).trans hji3
 by_cases c4 : 0 ≤ (ji3)
 ·
  rw [if_pos c4] at H
  have c4b0 := eq_true c4
  have c4b1 : decide (0 ≤ (ji3)) = true := decide_eq_true c4
  clear c4
  by_cases c5 : (ji3 : Int).toNat ≤ 35184372088832
  ·
   rw [if_pos c5] at H
   have c5b0 := eq_true c5
   have c5b1 : decide ((ji3 : Int).toNat ≤ 35184372088832) = true := decide_eq_true c5
   clear c5
   obtain ⟨y218, hy218⟩ : ∃ y_ : List Int, y_ = (List.replicate (ji3 : Int).toNat 0) := ⟨_, rfl⟩
   replace H : (if (a0_0 != a1_0) = true then (clevisref01_Mul.l0 k 0 a0_0 l0_1 a1_0 l1_1 true y218) else (clevisref01_Mul.l0 k 0 a0_0 l0_1 a1_0 l1_1 false y218)) = some (r1, r2) := by first | (rw [hy218]; with_reducible exact H) | (have H2_ := (Option.bind_some _ _).symm.trans H; rw [hy218]; with_reducible exact H2_) | (have H2_ := (Option.bind_some _ _).symm.trans H; with_reducible exact H2_) | with_reducible exact H | (rw [hy218]; exact H) | exact H
   have Ny218 := A_ hy218
   clear hy218
   by_cases c6 : (a0_0 != a1_0) = true
   ·
    rw [if_pos c6] at H
    have c6b0 : (a0_0 != a1_0) = true := c6
    (try (have c6b1 : decide (a0_0 = a1_0) = false := by simpa using c6))
    (try (have c6b2 : (a0_0 == a1_0) = false := by simpa using c6))
    (try (have c6b3 : ¬ (a0_0 = a1_0) := by simpa using c6))
    clear c6
    have H' := A_ H
    clear H
    go_enter Try.func26, Try.ntmps26
    try go_wp2_with (first | ((with_reducible refine gate_dst (N := 2) rfl ?_); refine box_event ?hg (N := 2) ?hd (cs := #[.bool a0_0, .slice A0_1 l0_1.length c0_1]) (t := 32) ?hr ?_; (case hd => rfl); (case hg => rfl); (case hr => first | (go_simp; done) | (go_simp; rfl)); intro gb302 hg w7 hbox hb; have n0_ := A_ (bs_ bw_ hb); have n1_ := A_ (hbox); have n2_ := A_ ((by rw [hg]; exact (bz_ bw_) : w.heap.size ≤ gb302)); have n3_ := A_ ((by rw [hg]; exact (bz_ bw_) : w.heap.size ≤ gb302)); clear HB; have HB := n0_; have BK302 := n1_; have GW302 := n2_; have GE302 := n3_; clear n0_ n1_ n2_ n3_; clear hb hbox hg) | ((with_reducible refine gate_dst (N := 3) rfl ?_); refine box_event ?hg (N := 3) ?hd (cs := #[.bool a1_0, .slice A1_1 l1_1.length c1_1]) (t := 32) ?hr ?_; (case hd => rfl); (case hg => rfl); (case hr => first | (go_simp; done) | (go_simp; rfl)); intro gb303 hg w8 hbox hb; have n0_ := A_ (kb_ BK302 hb); have n1_ := A_ (bs_ bw_ hb); have n2_ := A_ (hbox); have n3_ := A_ ((by rw [hg]; exact (bz_ bw_) : w.heap.size ≤ gb303)); have n4_ := A_ ((by rw [hg]; exact (bz_ bw_) : w.heap.size ≤ gb303)); have n5_ := A_ ((by rw [hg]; exact nl_ (lt_ BK302) : gb302 ≠ gb303)); have n6_ := A_ ((by rw [hg]; exact ng_ (lt_ BK302) : gb303 ≠ gb302)); clear BK302; clear HB; have BK302 := n0_; have HB := n1_; have BK303 := n2_; have GW303 := n3_; have GE303 := n4_; have NB302_303 := n5_; have NB303_302 := n6_; clear n0_ n1_ n2_ n3_ n4_ n5_ n6_; clear hb hbox hg) | ((with_reducible refine gate_dst (N := 4) rfl ?_); refine box_event ?hg (N := 4) ?hd (cs := #[.bool false, .slice none 0 0]) (t := 32) ?hr ?_; (case hd => rfl); (case hg => rfl); (case hr => first | (go_simp; done) | (go_simp; rfl)); intro gb304 hg w9 hbox hb; have n0_ := A_ (kb_ BK302 hb); have n1_ := A_ (kb_ BK303 hb); have n2_ := A_ (bs_ bw_ hb); have n3_ := A_ (hbox); have n4_ := A_ ((by rw [hg]; exact (bz_ bw_) : w.heap.size ≤ gb304)); have n5_ := A_ ((by rw [hg]; exact (bz_ bw_) : w.heap.size ≤ gb304)); have n6_ := A_ ((by rw [hg]; exact nl_ (lt_ BK302) : gb302 ≠ gb304)); have n7_ := A_ ((by rw [hg]; exact ng_ (lt_ BK302) : gb304 ≠ gb302)); have n8_ := A_ ((by rw [hg]; exact nl_ (lt_ BK303) : gb303 ≠ gb304)); have n9_ := A_ ((by rw [hg]; exact ng_ (lt_ BK303) : gb304 ≠ gb303)); clear BK302; clear BK303; clear HB; have BK302 := n0_; have BK303 := n1_; have HB := n2_; have BK304 := n3_; have GW304 := n4_; have GE304 := n5_; have NB302_304 := n6_; have NB304_302 := n7_; have NB303_304 := n8_; have NB304_303 := n9_; clear n0_ n1_ n2_ n3_ n4_ n5_ n6_ n7_ n8_ n9_; clear hb hbox hg))
    have n0_ := A_ (bd_ BK302.out)
    have n1_ := A_ (bd_ BK303.out)
    have n2_ := A_ (bd_ BK304.out)
    have n3_ := A_ (b1_ HB.out)
    clear BK302
    clear BK303
    clear BK304
    clear HB
    have BK302 := n0_
    have BK303 := n1_
    have BK304 := n2_
    have HB := n3_
    clear n0_ n1_ n2_ n3_
    refine start_ (n := 17) (S := fun w' => w'.cell? ⟨gb302, 0, none⟩ = some (.bool a0_0) ∧ w'.cell? ⟨gb302, 1, none⟩ = some (.slice A0_1 l0_1.length c0_1) ∧ w'.cell? ⟨gb303, 0, none⟩ = some (.bool a1_0) ∧ w'.cell? ⟨gb303, 1, none⟩ = some (.slice A1_1 l1_1.length c1_1)) (ds := []) #[false, false, false, false, false, false, false, false, false, false, false, false, false, false, false, false, false] (by kernel_rfl) rfl rfl ⟨(bc_ BK302.out 0).trans rfl, (bc_ BK302.out 1).trans rfl, (bc_ BK303.out 0).trans rfl, (bc_ BK303.out 1).trans rfl⟩ (fun hHeld => ?_); refine with_tabW clevisref01_Mul.tab1 clevisref01_Mul.bits1 (fun HT_ HW_ => ?_)
    generalize w9.drew = w10 at BK302 BK303 BK304 HB hHeld ⊢
    refine pure_ (i := 0) (N := some 10) (v := ?_) (a' := ?_) #[true, false, false, false, false, false, false, false, false, false, false, false, false, false, false, false, false] rfl rfl (any_of HT_.out (by kernel_rfl)) (fun _ _ _ h => h) (Or.inl ⟨by rfl, ?_⟩) ?_ ?_
    rotate_left
    ·
     intro w'
     go_simp
     with_reducible rfl
    rotate_left
    ·
     simp only [Act.put, sA_, sZ_, sS_, i64_w, i32_w]
     rfl
    refine pure_ (i := 2) (N := some 12) (v := ?_) (a' := ?_) #[true, false, true, false, false, false, false, false, false, false, false, false, false, false, false, false, false] rfl rfl (any_of HT_.out (by kernel_rfl)) (fun _ _ _ h => h) (Or.inl ⟨by rfl, ?_⟩) ?_ ?_
    rotate_left
    ·
     intro w'
     go_simp
     with_reducible rfl
    rotate_left
    ·
     simp only [Act.put, sA_, sZ_, sS_, i64_w, i32_w]
     rfl
    refine pure_ (i := 5) (N := some 15) (v := ?_) (a' := ?_) #[true, false, true, false, false, true, false, false, false, false, false, false, false, false, false, false, false] rfl rfl (any_of HT_.out (by kernel_rfl)) (fun _ _ _ h => h) (Or.inl ⟨by rfl, ?_⟩) ?_ ?_
    rotate_left
    ·
     intro w'
     go_simp
     with_reducible rfl
    rotate_left
    ·
     simp only [Act.put, sA_, sZ_, sS_, i64_w, i32_w]
     rfl
    refine pure_ (i := 8) (N := some 18) (v := ?_) (a' := ?_) #[true, false, true, false, false, true, false, false, true, false, false, false, false, false, false, false, false] rfl rfl (any_of HT_.out (by kernel_rfl)) (fun _ _ _ h => h) (Or.inl ⟨by rfl, ?_⟩) ?_ ?_
    rotate_left
    ·
     intro w'
     go_simp
     with_reducible rfl
    rotate_left
    ·
     simp only [Act.put, sA_, sZ_, sS_, i64_w, i32_w]
     rfl
    refine take_ (i := 1) (N := some 11) (v := ?_) (a' := ?_) #[true, true, true, false, false, true, false, false, true, false, false, false, false, false, false, false, false] rfl rfl (take_ofW HT_.out HW_.out (by kernel_rfl)) (fun _ _ _ h => h) (Or.inl ⟨by rfl, ?_⟩) hHeld ?_ ?_
    rotate_left
    ·
     rintro w' ⟨s0, s1, s2, s3⟩
     go_simp
     with_reducible rfl
    rotate_left
    ·
     simp only [Act.put, sA_, sZ_, sS_, i64_w, i32_w]
     rfl
    refine take_ (i := 3) (N := some 13) (v := ?_) (a' := ?_) #[true, true, true, true, false, true, false, false, true, false, false, false, false, false, false, false, false] rfl rfl (take_ofW HT_.out HW_.out (by kernel_rfl)) (fun _ _ _ h => h) (Or.inl ⟨by rfl, ?_⟩) hHeld ?_ ?_
    rotate_left
    ·
     rintro w' ⟨s0, s1, s2, s3⟩
     go_simp
     with_reducible rfl
    rotate_left
    ·
     simp only [Act.put, sA_, sZ_, sS_, i64_w, i32_w]
     rfl
    refine pure_ (i := 4) (N := some 14) (v := ?_) (a' := ?_) #[true, true, true, true, true, true, false, false, true, false, false, false, false, false, false, false, false] rfl rfl (any_of HT_.out (by kernel_rfl)) (fun _ _ _ h => h) (Or.inl ⟨by rfl, ?_⟩) ?_ ?_
    rotate_left
    ·
     intro w'
     go_simp
     with_reducible rfl
    rotate_left
    ·
     simp only [Act.put, sA_, sZ_, sS_, i64_w, i32_w]
     rfl
    refine take_ (i := 6) (N := some 16) (v := ?_) (a' := ?_) #[true, true, true, true, true, true, true, false, true, false, false, false, false, false, false, false, false] rfl rfl (take_ofW HT_.out HW_.out (by kernel_rfl)) (fun _ _ _ h => h) (Or.inl ⟨by rfl, ?_⟩) hHeld ?_ ?_
    rotate_left
    ·
     rintro w' ⟨s0, s1, s2, s3⟩
     go_simp
     with_reducible rfl
    rotate_left
    ·
     simp only [Act.put, sA_, sZ_, sS_, i64_w, i32_w]
     rfl
    refine pure_ (i := 7) (N := some 17) (v := ?_) (a' := ?_) #[true, true, true, true, true, true, true, true, true, false, false, false, false, false, false, false, false] rfl rfl (any_of HT_.out (by kernel_rfl)) (fun _ _ _ h => h) (Or.inl ⟨by rfl, ?_⟩) ?_ ?_
    rotate_left
    ·
     intro w'
     go_simp
     with_reducible rfl
    rotate_left
    ·
     simp only [Act.put, sA_, sZ_, sS_, i64_w, i32_w]
     rfl
    refine take_ (i := 9) (N := some 19) (v := ?_) (a' := ?_) #[true, true, true, true, true, true, true, true, true, true, false, false, false, false, false, false, false] rfl rfl (take_ofW HT_.out HW_.out (by kernel_rfl)) (fun _ _ _ h => h) (Or.inl ⟨by rfl, ?_⟩) hHeld ?_ ?_
    rotate_left
    ·
     rintro w' ⟨s0, s1, s2, s3⟩
     go_simp
     with_reducible rfl
    rotate_left
    ·
     simp only [Act.put, sA_, sZ_, sS_, i64_w, i32_w]
     rfl
    refine pure_ (i := 10) (N := some 20) (v := ?_) (a' := ?_) #[true, true, true, true, true, true, true, true, true, true, true, false, false, false, false, false, false] rfl rfl (any_of HT_.out (by kernel_rfl)) (fun _ _ _ h => h) (Or.inl ⟨by rfl, ?_⟩) ?_ ?_
    rotate_left
    ·
     intro w'
     go_simp
     with_reducible rfl
    rotate_left
    ·
     simp only [Act.put, sA_, sZ_, sS_, i64_w, i32_w]
     rfl
    refine pure_ (i := 11) (N := some 21) (v := ?_) (a' := ?_) #[true, true, true, true, true, true, true, true, true, true, true, true, false, false, false, false, false] rfl rfl (any_of HT_.out (by kernel_rfl)) (fun _ _ _ h => h) (Or.inl ⟨by rfl, ?_⟩) ?_ ?_
    rotate_left
    ·
     intro w'
     go_simp
     with_reducible rfl
    rotate_left
    ·
     simp only [Act.put, sA_, sZ_, sS_, i64_w, i32_w]
     rfl
    refine pure_ (i := 12) (N := some 22) (v := ?_) (a' := ?_) #[true, true, true, true, true, true, true, true, true, true, true, true, true, false, false, false, false] rfl rfl (any_of HT_.out (by kernel_rfl)) (fun _ _ _ h => h) (Or.inl ⟨by rfl, ?_⟩) ?_ ?_
    rotate_left
    ·
     intro w'
     go_simp
     with_reducible rfl
    rotate_left
    ·
     simp only [Act.put, sA_, sZ_, sS_, i64_w, i32_w]
     rfl
    refine join_ (σ := Value × Nat) 1 #[true, true, true, true, true, true, true, true, true, true, true, true, true, true, true, true, false] (fun s_ => [(23, s_.1), (5, .pointer (some ⟨s_.2, 0, none⟩)), (24, .agg #[.bool true, s_.1])]) (fun s_ w' => (w'.cell? ⟨gb302, 0, none⟩ = some (.bool a0_0) ∧ w'.cell? ⟨gb302, 1, none⟩ = some (.slice A0_1 l0_1.length c0_1) ∧ w'.cell? ⟨gb303, 0, none⟩ = some (.bool a1_0) ∧ w'.cell? ⟨gb303, 1, none⟩ = some (.slice A1_1 l1_1.length c1_1)) ∧ (Kd.R (Kd.int .i64) 3 w' w.heap.size (fun k_ => (w.heap.size ≤ k_)) s_.1 y218) ∧ (w'.heap[gb302]? = some (.cells #[.bool a0_0, .slice A0_1 l0_1.length c0_1] 32 (0, 0))) ∧ (w'.heap[gb303]? = some (.cells #[.bool a1_0, .slice A1_1 l1_1.length c1_1] 32 (0, 0))) ∧ (w'.heap[gb304]? = some (.cells #[.bool false, .slice none 0 0] 32 (0, 0))) ∧ (w'.heap[s_.2]? = some (.cells #[.bool false, .slice none 0 0] 32 (0, 0))) ∧ (w.heap.size ≤ s_.2) ∧ (w.heap.size ≤ s_.2) ∧ (gb302 ≠ s_.2) ∧ (s_.2 ≠ gb302) ∧ (gb303 ≠ s_.2) ∧ (s_.2 ≠ gb303) ∧ (gb304 ≠ s_.2) ∧ (s_.2 ≠ gb304) ∧ (Below w.heap.size w w')) ?_ ?_
    rotate_left
    ·
     intro hCont
     refine two_ (i := 13) (j := 15) (Ni := some 23) (Nj := some 5) #[true, true, true, true, true, true, true, true, true, true, true, true, true, true, false, false, false] #[true, true, true, true, true, true, true, true, true, true, true, true, true, false, false, true, false] rfl rfl rfl rfl (two_of HT_.out (by kernel_rfl)) (by decide) (by decide) (fun K hK => ?_) (fun K hK => ?_)
     ·
      skip
      refine Kd.R_make_step (Kd.int .i64) _ 3 (by rfl) (N := 23) rfl 30 _ _ rfl ji3 rfl rfl Try.underlying30 (.int .i64 0) 8 info3 rfl (by decide) (by omega) 0 (ok := fun _ => True) (okp := fun _ => True) rfl (fun _ hk => hk) trivial (od_ (by first | (with_reducible assumption) | assumption)) (Nat.le_trans (Nat.mul_le_mul_right _ (od_ (by first | (with_reducible assumption) | assumption) : ji3.toNat ≤ 35184372088832)) (by omega)) (Below.refl _ _) (Nat.le_refl _) ?_
      intro v219 w11 ho12 hb hg_ hnew_
      clear hg_ hnew_
      (first | rw [← Ny218.out] at ho12 | (simp only [Int.reduceToNat] at ho12; rw [← Ny218.out] at ho12))
      have n0_ := A_ (Kd.R_lower (Kd.R_newM (M := fun k_ => (w.heap.size ≤ k_)) ho12 (bz_ bw_) (fun k_ h_ => h_)) (bz_ bw_))
      have n1_ := A_ (kb_ BK302 hb)
      have n2_ := A_ (kb_ BK303 hb)
      have n3_ := A_ (kb_ BK304 hb)
      have n4_ := A_ (bs_ bw_ hb)
      clear BK302
      clear BK303
      clear BK304
      clear HB
      have HO220 := n0_
      have BK302 := n1_
      have BK303 := n2_
      have BK304 := n3_
      have HB := n4_
      clear n0_ n1_ n2_ n3_ n4_
      clear hb ho12
      obtain ⟨Ao13, co13, eo13⟩ := Kd.R_slice HO220.out
      (first | subst eo13 | (injection eo13 with f1_ f2_ f3_; have f4_ := f1_.symm; have f5_ := f3_.symm; clear f1_ f2_ f3_; subst f4_; subst f5_))
      refine hK.out _ _ ⟨(bc_ BK302.out 0).trans rfl, (bc_ BK302.out 1).trans rfl, (bc_ BK303.out 0).trans rfl, (bc_ BK303.out 1).trans rfl⟩ (fun hHeld => ?_)
      clear hK K
      refine norm_ (a' := ?_) ?_ ?_
      rotate_left
      ·
       show Act.put _ (some 23) _ = _
       simp only [Act.put, sA_, sZ_, sS_, i64_w, i32_w]
       rfl
      refine pure_ (i := 14) (N := some 24) (v := ?_) (a' := ?_) #[true, true, true, true, true, true, true, true, true, true, true, true, true, true, true, false, false] rfl rfl (any_of HT_.out (by kernel_rfl)) (fun _ _ _ h => h) (Or.inl ⟨by rfl, ?_⟩) ?_ ?_
      rotate_left
      ·
       intro w'
       go_simp
       with_reducible rfl
      rotate_left
      ·
       simp only [Act.put, sA_, sZ_, sS_, i64_w, i32_w]
       rfl
      refine one_ (i := 15) (N := some 5) #[true, true, true, true, true, true, true, true, true, true, true, true, true, true, true, true, false] rfl rfl (one_of HT_.out (by kernel_rfl)) (by decide) (fun K hK => ?_)
      refine box_step ?hg (N := 5) ?hd (cs := #[.bool false, .slice none 0 0]) (t := 32) ?hr ?_; (case hd => rfl); (case hg => rfl); (case hr => first | (go_simp; done) | (go_simp; rfl))
      intro gb305 hg w14 hbox hb
      have n0_ := A_ (Kd.R_below (by (with_reducible repeat (first | apply Kd.R_alloc | apply Kd.R_drewN | apply Kd.R_drew)); exact HO220.out) hb)
      have n1_ := A_ (kb_ BK302 hb)
      have n2_ := A_ (kb_ BK303 hb)
      have n3_ := A_ (kb_ BK304 hb)
      have n4_ := A_ (bs_ bw_ hb)
      have n5_ := A_ (hbox)
      have n6_ := A_ ((by rw [hg]; exact (bz_ bw_) : w.heap.size ≤ gb305))
      have n7_ := A_ ((by rw [hg]; exact (bz_ bw_) : w.heap.size ≤ gb305))
      have n8_ := A_ ((by rw [hg]; exact nl_ (lt_ BK302) : gb302 ≠ gb305))
      have n9_ := A_ ((by rw [hg]; exact ng_ (lt_ BK302) : gb305 ≠ gb302))
      have n10_ := A_ ((by rw [hg]; exact nl_ (lt_ BK303) : gb303 ≠ gb305))
      have n11_ := A_ ((by rw [hg]; exact ng_ (lt_ BK303) : gb305 ≠ gb303))
      have n12_ := A_ ((by rw [hg]; exact nl_ (lt_ BK304) : gb304 ≠ gb305))
      have n13_ := A_ ((by rw [hg]; exact ng_ (lt_ BK304) : gb305 ≠ gb304))
      clear HO220
      clear BK302
      clear BK303
      clear BK304
      clear HB
      have HO220 := n0_
      have BK302 := n1_
      have BK303 := n2_
      have BK304 := n3_
      have HB := n4_
      have BK305 := n5_
      have GW305 := n6_
      have GE305 := n7_
      have NB302_305 := n8_
      have NB305_302 := n9_
      have NB303_305 := n10_
      have NB305_303 := n11_
      have NB304_305 := n12_
      have NB305_304 := n13_
      clear n0_ n1_ n2_ n3_ n4_ n5_ n6_ n7_ n8_ n9_ n10_ n11_ n12_ n13_
      clear hb hbox hg
      refine hK.out _ _ ⟨(bc_ BK302.out 0).trans rfl, (bc_ BK302.out 1).trans rfl, (bc_ BK303.out 0).trans rfl, (bc_ BK303.out 1).trans rfl⟩ (fun hHeld => ?_)
      clear hK K
      refine norm_ (a' := ?_) ?_ ?_
      rotate_left
      ·
       show Act.put _ (some 5) _ = _
       simp only [Act.put, sA_, sZ_, sS_, i64_w, i32_w]
       rfl
      exact norm_ (by simp only [putAll, Act.put, sA_, sZ_, sS_]) (hCont (.slice Ao13 y218.length co13, gb305) _ ⟨hHeld, (by (with_reducible repeat (first | apply Kd.R_alloc | apply Kd.R_drewN | apply Kd.R_drew)); exact Kd.R_mono HO220.out (fun _ hk => hk.1)), bk_, bk_, bk_, bk_, GW305.out, GE305.out, NB302_305.out, NB305_302.out, NB303_305.out, NB305_303.out, NB304_305.out, NB305_304.out, bw_⟩)
     ·
      skip
      refine box_step ?hg (N := 5) ?hd (cs := #[.bool false, .slice none 0 0]) (t := 32) ?hr ?_; (case hd => rfl); (case hg => rfl); (case hr => first | (go_simp; done) | (go_simp; rfl))
      intro gb305 hg w11 hbox hb
      have n0_ := A_ (kb_ BK302 hb)
      have n1_ := A_ (kb_ BK303 hb)
      have n2_ := A_ (kb_ BK304 hb)
      have n3_ := A_ (bs_ bw_ hb)
      have n4_ := A_ (hbox)
      have n5_ := A_ ((by rw [hg]; exact (bz_ bw_) : w.heap.size ≤ gb305))
      have n6_ := A_ ((by rw [hg]; exact (bz_ bw_) : w.heap.size ≤ gb305))
      have n7_ := A_ ((by rw [hg]; exact nl_ (lt_ BK302) : gb302 ≠ gb305))
      have n8_ := A_ ((by rw [hg]; exact ng_ (lt_ BK302) : gb305 ≠ gb302))
      have n9_ := A_ ((by rw [hg]; exact nl_ (lt_ BK303) : gb303 ≠ gb305))
      have n10_ := A_ ((by rw [hg]; exact ng_ (lt_ BK303) : gb305 ≠ gb303))
      have n11_ := A_ ((by rw [hg]; exact nl_ (lt_ BK304) : gb304 ≠ gb305))
      have n12_ := A_ ((by rw [hg]; exact ng_ (lt_ BK304) : gb305 ≠ gb304))
      clear BK302
      clear BK303
      clear BK304
      clear HB
      have BK302 := n0_
      have BK303 := n1_
      have BK304 := n2_
      have HB := n3_
      have BK305 := n4_
      have GW305 := n5_
      have GE305 := n6_
      have NB302_305 := n7_
      have NB305_302 := n8_
      have NB303_305 := n9_
      have NB305_303 := n10_
      have NB304_305 := n11_
      have NB305_304 := n12_
      clear n0_ n1_ n2_ n3_ n4_ n5_ n6_ n7_ n8_ n9_ n10_ n11_ n12_
      clear hb hbox hg
      refine hK.out _ _ ⟨(bc_ BK302.out 0).trans rfl, (bc_ BK302.out 1).trans rfl, (bc_ BK303.out 0).trans rfl, (bc_ BK303.out 1).trans rfl⟩ (fun hHeld => ?_)
      clear hK K
      refine norm_ (a' := ?_) ?_ ?_
      rotate_left
      ·
       show Act.put _ (some 5) _ = _
       simp only [Act.put, sA_, sZ_, sS_, i64_w, i32_w]
       rfl
      refine one_ (i := 13) (N := some 23) #[true, true, true, true, true, true, true, true, true, true, true, true, true, true, false, true, false] rfl rfl (one_of HT_.out (by kernel_rfl)) (by decide) (fun K hK => ?_)
      refine Kd.R_make_step (Kd.int .i64) _ 3 (by rfl) (N := 23) rfl 30 _ _ rfl ji3 rfl rfl Try.underlying30 (.int .i64 0) 8 info3 rfl (by decide) (by omega) 0 (ok := fun _ => True) (okp := fun _ => True) rfl (fun _ hk => hk) trivial (od_ (by first | (with_reducible assumption) | assumption)) (Nat.le_trans (Nat.mul_le_mul_right _ (od_ (by first | (with_reducible assumption) | assumption) : ji3.toNat ≤ 35184372088832)) (by omega)) (Below.refl _ _) (Nat.le_refl _) ?_
      intro v219 w12 ho13 hb hg_ hnew_
      clear hg_ hnew_
      (first | rw [← Ny218.out] at ho13 | (simp only [Int.reduceToNat] at ho13; rw [← Ny218.out] at ho13))
      have n0_ := A_ (Kd.R_lower (Kd.R_newM (M := fun k_ => (w.heap.size ≤ k_)) ho13 (bz_ bw_) (fun k_ h_ => h_)) (bz_ bw_))
      have n1_ := A_ (kb_ BK302 hb)
      have n2_ := A_ (kb_ BK303 hb)
      have n3_ := A_ (kb_ BK304 hb)
      have n4_ := A_ (kb_ BK305 hb)
      have n5_ := A_ (bs_ bw_ hb)
      clear BK302
      clear BK303
      clear BK304
      clear BK305
      clear HB
      have HO220 := n0_
      have BK302 := n1_
      have BK303 := n2_
      have BK304 := n3_
      have BK305 := n4_
      have HB := n5_
      clear n0_ n1_ n2_ n3_ n4_ n5_
      clear hb ho13
      obtain ⟨Ao14, co14, eo14⟩ := Kd.R_slice HO220.out
      (first | subst eo14 | (injection eo14 with f1_ f2_ f3_; have f4_ := f1_.symm; have f5_ := f3_.symm; clear f1_ f2_ f3_; subst f4_; subst f5_))
      refine hK.out _ _ ⟨(bc_ BK302.out 0).trans rfl, (bc_ BK302.out 1).trans rfl, (bc_ BK303.out 0).trans rfl, (bc_ BK303.out 1).trans rfl⟩ (fun hHeld => ?_)
      clear hK K
      refine norm_ (a' := ?_) ?_ ?_
      rotate_left
      ·
       show Act.put _ (some 23) _ = _
       simp only [Act.put, sA_, sZ_, sS_, i64_w, i32_w]
       rfl
      refine pure_ (i := 14) (N := some 24) (v := ?_) (a' := ?_) #[true, true, true, true, true, true, true, true, true, true, true, true, true, true, true, true, false] rfl rfl (any_of HT_.out (by kernel_rfl)) (fun _ _ _ h => h) (Or.inl ⟨by rfl, ?_⟩) ?_ ?_
      rotate_left
      ·
       intro w'
       go_simp
       with_reducible rfl
      rotate_left
      ·
       simp only [Act.put, sA_, sZ_, sS_, i64_w, i32_w]
       rfl
      exact norm_ (by simp only [putAll, Act.put, sA_, sZ_, sS_]) (hCont (.slice Ao14 y218.length co14, gb305) _ ⟨hHeld, (by (with_reducible repeat (first | apply Kd.R_alloc | apply Kd.R_drewN | apply Kd.R_drew)); exact Kd.R_mono HO220.out (fun _ hk => hk.1)), bk_, bk_, bk_, bk_, GW305.out, GE305.out, NB302_305.out, NB305_302.out, NB303_305.out, NB305_303.out, NB304_305.out, NB305_304.out, bw_⟩)
    rintro ⟨v219, gb305⟩ w15 ⟨hS_, h0_, h1_, h2_, h3_, h4_, h5_, h6_, h7_, h8_, h9_, h10_, h11_, h12_, h13_⟩
    have n0_ : Aside0 (Kd.R (Kd.int .i64) 3 w15 w.heap.size (fun k_ => (w.heap.size ≤ k_)) v219 y218) := ⟨h0_⟩
    have n1_ : Aside0 (w15.heap[gb302]? = some (.cells #[.bool a0_0, .slice A0_1 l0_1.length c0_1] 32 (0, 0))) := ⟨h1_⟩
    have n2_ : Aside0 (w15.heap[gb303]? = some (.cells #[.bool a1_0, .slice A1_1 l1_1.length c1_1] 32 (0, 0))) := ⟨h2_⟩
    have n3_ : Aside0 (w15.heap[gb304]? = some (.cells #[.bool false, .slice none 0 0] 32 (0, 0))) := ⟨h3_⟩
    have n4_ : Aside0 (w15.heap[gb305]? = some (.cells #[.bool false, .slice none 0 0] 32 (0, 0))) := ⟨h4_⟩
    have n5_ : Aside0 (w.heap.size ≤ gb305) := ⟨h5_⟩
    have n6_ : Aside0 (w.heap.size ≤ gb305) := ⟨h6_⟩
    have n7_ : Aside0 (gb302 ≠ gb305) := ⟨h7_⟩
    have n8_ : Aside0 (gb305 ≠ gb302) := ⟨h8_⟩
    have n9_ : Aside0 (gb303 ≠ gb305) := ⟨h9_⟩
    have n10_ : Aside0 (gb305 ≠ gb303) := ⟨h10_⟩
    have n11_ : Aside0 (gb304 ≠ gb305) := ⟨h11_⟩
    have n12_ : Aside0 (gb305 ≠ gb304) := ⟨h12_⟩
    have n13_ : Aside0 (Below w.heap.size w w15) := ⟨h13_⟩
    clear BK302
    clear BK303
    clear BK304
    clear HB
    clear h0_ h1_ h2_ h3_ h4_ h5_ h6_ h7_ h8_ h9_ h10_ h11_ h12_ h13_
    have HO220 := n0_
    have BK302 := n1_
    have BK303 := n2_
    have BK304 := n3_
    have BK305 := n4_
    have GW305 := n5_
    have GE305 := n6_
    have NB302_305 := n7_
    have NB305_302 := n8_
    have NB303_305 := n9_
    have NB305_303 := n10_
    have NB304_305 := n11_
    have NB305_304 := n12_
    have HB := n13_
    clear n0_ n1_ n2_ n3_ n4_ n5_ n6_ n7_ n8_ n9_ n10_ n11_ n12_ n13_
    have hHeld : w15.cell? ⟨gb302, 0, none⟩ = some (.bool a0_0) ∧ w15.cell? ⟨gb302, 1, none⟩ = some (.slice A0_1 l0_1.length c0_1) ∧ w15.cell? ⟨gb303, 0, none⟩ = some (.bool a1_0) ∧ w15.cell? ⟨gb303, 1, none⟩ = some (.slice A1_1 l1_1.length c1_1) := hS_
    obtain ⟨Ao16, co16, eo16⟩ := Kd.R_slice HO220.out
    (first | subst eo16 | (injection eo16 with f1_ f2_ f3_; have f4_ := f1_.symm; have f5_ := f3_.symm; clear f1_ f2_ f3_; subst f4_; subst f5_))
    refine norm_ (a' := ?_) ?_ ?_
    rotate_left
    ·
     simp only [putAll, Act.put, sA_, sZ_, sS_]
     rfl
    refine one_ (i := 16) (N := none) #[true, true, true, true, true, true, true, true, true, true, true, true, true, true, true, true, true] rfl rfl (one_of HT_.out (by kernel_rfl)) (by decide) (fun K hK => ?_)
    have hs17 : w15.cell? ⟨gb305, 0, none⟩ = some (.bool false) := (bc_ BK305.out 0).trans rfl
    have hfs17 := bf_ BK305.out 0
    have hns17_0 := NB302_305.out
    have hns17_1 := NB303_305.out
    have hns17_2 := NB304_305.out
    have hms17_0 := NB305_302.out
    have hms17_1 := NB305_303.out
    have hms17_2 := NB305_304.out
    have hs18 : w15.cell? ⟨gb305, 1, none⟩ = some (.slice none 0 0) := (bc_ BK305.out 1).trans rfl
    have hfs18 := bf_ BK305.out 1
    have hns18_0 := NB302_305.out
    have hns18_1 := NB303_305.out
    have hns18_2 := NB304_305.out
    have hms18_0 := NB305_302.out
    have hms18_1 := NB305_303.out
    have hms18_2 := NB305_304.out
    refine skip_ (w1 := ?_) (by rfl) rfl ?_ ?_
    rotate_left
    ·
     go_simp
     rfl
    refine hK.out _ _ ⟨((cell_far (p := ⟨gb305, _, none⟩) NB302_305.out _).trans (((cell_far (p := ⟨gb305, _, none⟩) NB302_305.out _).trans (hHeld.1)))), ((cell_far (p := ⟨gb305, _, none⟩) NB302_305.out _).trans (((cell_far (p := ⟨gb305, _, none⟩) NB302_305.out _).trans (hHeld.2.1)))), ((cell_far (p := ⟨gb305, _, none⟩) NB303_305.out _).trans (((cell_far (p := ⟨gb305, _, none⟩) NB303_305.out _).trans (hHeld.2.2.1)))), ((cell_far (p := ⟨gb305, _, none⟩) NB303_305.out _).trans (((cell_far (p := ⟨gb305, _, none⟩) NB303_305.out _).trans (hHeld.2.2.2))))⟩ (fun hHeld => ?_)
    clear hK K
    refine done_ (done_of HT_.out (by kernel_rfl)) ?_
    try go_wp2
    (try simp only [Act.put, sA_, sZ_, sS_])
    go_loopg [6] k (fun kq v6 w' => ∃ (x6_1 : Int) (x306001_1 : List Int) (u306001 : Value), v6 = .int .i64 x6_1 ∧ Aside0 (clevisref01_Mul.l0 kq x6_1 a0_0 l0_1 a1_0 l1_1 true x306001_1 = some (r1, r2)) ∧ Aside0 (kq ≤ k) ∧ Aside0 (Kd.R (Kd.int .i64) 3 w' w.heap.size (fun k_ => (w.heap.size ≤ k_)) u306001 x306001_1) ∧ Aside0 (w'.heap[gb302]? = some (.cells #[.bool a0_0, (.slice A0_1 l0_1.length c0_1)] 32 (0, 0))) ∧ Aside0 (w'.heap[gb303]? = some (.cells #[.bool a1_0, (.slice A1_1 l1_1.length c1_1)] 32 (0, 0))) ∧ Aside0 (w'.heap[gb304]? = some (.cells #[.bool false, (.slice none 0 0)] 32 (0, 0))) ∧ Aside0 (w'.heap[gb305]? = some (.cells #[.bool true, u306001] 32 (0, 0))) ∧ Aside0 (Below w.heap.size w w'))
    case atStart => exact ⟨(0), (y218), (.slice Ao16 y218.length co16), (by first | rfl | (simp; done) | (simp [*]; done)), H', ⟨Nat.le_refl _⟩, ⟨by (with_reducible repeat (first | apply Kd.R_alloc | apply Kd.R_drewN | apply Kd.R_drew)); exact Kd.R_mono (Kd.R_far (p := ⟨gb305, 1, none⟩) (Kd.R_far (p := ⟨gb305, 0, none⟩) (Kd.R_types HO220.out BK305.out (by decide)) (fun _ hk => hk.2) (.bool true)) (fun _ hk => hk.2) (.slice Ao16 y218.length co16)) (fun _ hk => hk.1)⟩, ⟨bk_⟩, ⟨bk_⟩, ⟨bk_⟩, ⟨by (with_reducible repeat (first | refine bn_ ?_ _ | refine bd_ ?_ | refine ba_ ?_ _)); refine bp_ (cs := #[.bool true, .slice none 0 0]) ?_ 1 _ rfl; (with_reducible repeat (first | refine bn_ ?_ _ | refine bd_ ?_ | refine ba_ ?_ _)); refine bp_ (cs := #[.bool false, .slice none 0 0]) ?_ 0 _ rfl; (with_reducible repeat (first | refine bn_ ?_ _ | refine bd_ ?_ | refine ba_ ?_ _)); exact BK305.out⟩, ⟨bw_⟩⟩
    case round =>
     clear H'
     try clear c1
     try clear c2
     try clear p2
     try clear c4
     try clear c4b0
     try clear c4b1
     try clear c5
     try clear c5b0
     try clear c5b1
     try clear c6
     try clear c6b0
     try clear c6b1
     try clear c6b2
     try clear p6
     obtain ⟨x6_1, x306001_1, u306001, rfl, HA, HK1, HO_306001, BK302, BK303, BK304, BK305, HB⟩ := hrel
     cases gk with
     | zero => exact absurd HA.out (by simp [clevisref01_Mul.l0])
     | succ k1 =>
      have H := HA.out
      clear HA
      simp only [clevisref01_Mul.l0] at H
      by_cases c19 : x6_1 < (l0_1.length : Int)
      ·
       rw [if_pos c19] at H
       have c19b0 : decide (x6_1 < (l0_1.length : Int)) = true := decide_eq_true c19
       clear c19
       have H' := A_ H
       clear H
       have hnb20 := NB302_303.out
       have hnc20 := NB303_302.out
       have hnb21 := NB302_304.out
       have hnc21 := NB304_302.out
       have hnb22 := NB302_305.out
       have hnc22 := NB305_302.out
       have hcz23_0 : wr.cell? ⟨gb302, 0, none⟩ = some (.bool a0_0) := (bc_ BK302.out 0).trans rfl
       have hcz23_1 : wr.cell? ⟨gb302, 1, none⟩ = some (.slice A0_1 l0_1.length c0_1) := (bc_ BK302.out 1).trans rfl
       have hfz23_0 := bf_ BK302.out 0
       have hfz23_1 := bf_ BK302.out 1
       go_wp2
       (try simp only [Act.put, sA_, sZ_, sS_])
       go_loopg [7, 8] k1 (fun kq v7 v8 w' => ∃ (x7_2 : Int) (x8_2 : Int) (x306001_2 : List Int) (u306001 : Value), v7 = .int .i64 x7_2 ∧ v8 = .int .i64 x8_2 ∧ Aside0 (clevisref01_Mul.l1 kq x6_1 x7_2 x8_2 a0_0 l0_1 a1_0 l1_1 true x306001_2 = some (r1, r2)) ∧ Aside0 (kq ≤ k1) ∧ Aside0 (Kd.R (Kd.int .i64) 3 w' w.heap.size (fun k_ => (w.heap.size ≤ k_)) u306001 x306001_2) ∧ Aside0 (w'.heap[gb302]? = some (.cells #[.bool a0_0, (.slice A0_1 l0_1.length c0_1)] 32 (0, 0))) ∧ Aside0 (w'.heap[gb303]? = some (.cells #[.bool a1_0, (.slice A1_1 l1_1.length c1_1)] 32 (0, 0))) ∧ Aside0 (w'.heap[gb304]? = some (.cells #[.bool false, (.slice none 0 0)] 32 (0, 0))) ∧ Aside0 (w'.heap[gb305]? = some (.cells #[.bool true, u306001] 32 (0, 0))) ∧ Aside0 (Below w.heap.size w w'))
       case atStart => exact ⟨(0), (0), (x306001_1), (u306001), (by first | rfl | (simp; done) | (simp [*]; done)), (by first | rfl | (simp; done) | (simp [*]; done)), H', ⟨Nat.le_refl _⟩, ⟨by (with_reducible repeat (first | apply Kd.R_alloc | apply Kd.R_drewN | apply Kd.R_drew)); exact HO_306001.out⟩, ⟨bk_⟩, ⟨bk_⟩, ⟨bk_⟩, ⟨bk_⟩, ⟨bw_⟩⟩
       case round =>
        clear H'
        try clear c1
        try clear c2
        try clear p2
        try clear c4
        try clear c4b0
        try clear c4b1
        try clear c5
        try clear c5b0
        try clear c5b1
        try clear c6
        try clear c6b0
        try clear c6b1
        try clear c6b2
        try clear p6
        try clear c19
        try clear c19b0
        try clear c20
        try clear c21
        try clear c22
        try clear hcz23_0
        try clear hcz23_1
        try clear hfz23_0
        try clear hfz23_1
        try clear p2
        try clear p6
        obtain ⟨x7_2, x8_2, x306001_2, u306001, rfl, rfl, HA, HK2, HO_306001, BK302, BK303, BK304, BK305, HB⟩ := hrel
        cases gk with
        | zero => exact absurd HA.out (by simp [clevisref01_Mul.l1])
        | succ k2 =>
         have H := HA.out
         clear HA
         simp only [clevisref01_Mul.l1] at H
         by_cases c24 : x8_2 < (l1_1.length : Int)
         ·
          rw [if_pos c24] at H
          have c24b0 : decide (x8_2 < (l1_1.length : Int)) = true := decide_eq_true c24
          clear c24
          obtain ⟨ji25, hji25⟩ : ∃ j_ : Int, (wrap64 (x6_1 + x8_2)) = j_ := ⟨_, rfl⟩
          replace H : (if 0 ≤ (ji25) then (if (ji25) < (x306001_2.length : Int) then (if 0 ≤ x6_1 then (if x6_1 < (l0_1.length : Int) then ((clevisref01_at.f l1_1 x8_2).bind fun t227 => (clevisref01_Mul.l1 k2 x6_1 (wrap64 (Int.tdiv (wrap64 ((wrap64 ((rd x306001_2 (ji25)) + (wrap64 ((rd l0_1 x6_1) * t227)))) + x7_2)) 65536)) (wrap64 (x8_2 + 1)) a0_0 l0_1 a1_0 l1_1 true (x306001_2.set ((ji25) : Int).toNat (Int.tmod (wrap64 ((wrap64 ((rd x306001_2 (ji25)) + (wrap64 ((rd l0_1 x6_1) * t227)))) + x7_2)) 65536)))) else (none)) else (none)) else (none)) else (none)) = some (r1, r2) := by first | (rw [hji25] at H; exact H) | (simp only [hji25] at H ⊢; exact H)
          have hji25w : (IntKind.i64.wrap (x6_1 + x8_2)) = ji25 := (i64_w _).trans hji25
          by_cases c26 : 0 ≤ (ji25)
          ·
           rw [if_pos c26] at H
           have c26b0 : decide (0 ≤ (ji25)) = true := decide_eq_true c26
           clear c26
           by_cases c27 : (ji25) < (x306001_2.length : Int)
           ·
            rw [if_pos c27] at H
            have c27b0 : decide ((ji25) < (x306001_2.length : Int)) = true := decide_eq_true c27
            clear c27
            by_cases c28 : 0 ≤ x6_1
            ·
             rw [if_pos c28] at H
             have c28b0 : decide (0 ≤ x6_1) = true := decide_eq_true c28
             clear c28
             by_cases c29 : x6_1 < (l0_1.length : Int)
             ·
              rw [if_pos c29] at H
              have c29b0 : decide (x6_1 < (l0_1.length : Int)) = true := decide_eq_true c29
              clear c29
              replace H := os_ H
              obtain ⟨t227, A300, H⟩ := H
              replace H : (clevisref01_Mul.l1 k2 x6_1 (wrap64 (Int.tdiv (wrap64 ((wrap64 ((rd x306001_2 (ji25)) + (wrap64 ((rd l0_1 x6_1) * t227)))) + x7_2)) 65536)) (wrap64 (x8_2 + 1)) a0_0 l0_1 a1_0 l1_1 true (x306001_2.set ((ji25) : Int).toNat (Int.tmod (wrap64 ((wrap64 ((rd x306001_2 (ji25)) + (wrap64 ((rd l0_1 x6_1) * t227)))) + x7_2)) 65536))) = some (r1, r2) := H
              have A30 := A_ A300
              clear A300
              obtain ⟨y228, hy228⟩ : ∃ y_ : List Int, y_ = (x306001_2.set ((ji25) : Int).toNat (Int.tmod (wrap64 ((wrap64 ((rd x306001_2 (ji25)) + (wrap64 ((rd l0_1 x6_1) * t227)))) + x7_2)) 65536)) := ⟨_, rfl⟩
              replace H : (clevisref01_Mul.l1 k2 x6_1 (wrap64 (Int.tdiv (wrap64 ((wrap64 ((rd x306001_2 (ji25)) + (wrap64 ((rd l0_1 x6_1) * t227)))) + x7_2)) 65536)) (wrap64 (x8_2 + 1)) a0_0 l0_1 a1_0 l1_1 true y228) = some (r1, r2) := by first | (rw [hy228]; with_reducible exact H) | (have H2_ := (Option.bind_some _ _).symm.trans H; rw [hy228]; with_reducible exact H2_) | (have H2_ := (Option.bind_some _ _).symm.trans H; with_reducible exact H2_) | with_reducible exact H | (rw [hy228]; exact H) | exact H
              have Ny228 := A_ hy228
              clear hy228
              have H' := A_ H
              clear H
              have hnb32 := NB303_302.out
              have hnc32 := NB302_303.out
              have hnb33 := NB303_304.out
              have hnc33 := NB304_303.out
              have hnb34 := NB303_305.out
              have hnc34 := NB305_303.out
              have hcz35_0 : wr.cell? ⟨gb303, 0, none⟩ = some (.bool a1_0) := (bc_ BK303.out 0).trans rfl
              have hcz35_1 : wr.cell? ⟨gb303, 1, none⟩ = some (.slice A1_1 l1_1.length c1_1) := (bc_ BK303.out 1).trans rfl
              have hfz35_0 := bf_ BK303.out 0
              have hfz35_1 := bf_ BK303.out 1
              try go_wp2
              have n0_ := A_ (Kd.R_drew HO_306001.out)
              have n1_ := A_ (bd_ BK302.out)
              have n2_ := A_ (bd_ BK303.out)
              have n3_ := A_ (bd_ BK304.out)
              have n4_ := A_ (bd_ BK305.out)
              have n5_ := A_ (b1_ HB.out)
              clear HO_306001
              clear BK302
              clear BK303
              clear BK304
              clear BK305
              clear HB
              have HO_306001 := n0_
              have BK302 := n1_
              have BK303 := n2_
              have BK304 := n3_
              have BK305 := n4_
              have HB := n5_
              clear n0_ n1_ n2_ n3_ n4_ n5_
              obtain ⟨Ao37, co37, eo37⟩ := Kd.R_slice HO_306001.out
              (first | subst eo37 | (injection eo37 with f1_ f2_ f3_; have f4_ := f1_.symm; have f5_ := f3_.symm; clear f1_ f2_ f3_; subst f4_; subst f5_))
              have p225 : 0 ≤ ((ji25) : Int) := od_ (by first | (with_reducible assumption) | assumption)
              have q225 : (ji25) < (x306001_2.length : Int) := od_ (by first | (with_reducible assumption) | assumption)
              obtain ⟨ad225, e225, hx225_0⟩ := Kd.at_int (Kd.R_reads' HO_306001.out).2.2 (ji25) p225 q225
              cases e225
              replace p225 := eq_true p225
              replace q225 := eq_true q225
              have p226 : 0 ≤ (x6_1 : Int) := od_ (by first | (with_reducible assumption) | assumption)
              have q226 : x6_1 < (l0_1.length : Int) := od_ (by first | (with_reducible assumption) | assumption)
              obtain ⟨ad226, e226, hx226_0⟩ := Kd.at_int HR0_1.out x6_1 p226 q226
              have hw226_0 := hx226_0
              cases e226
              replace hx226_0 := (HB.out.cell (World.block_lt_of_cell? w _ hx226_0)).trans hx226_0
              replace p226 := eq_true p226
              replace q226 := eq_true q226
              refine start_ (n := 21) (S := fun w' => w'.cell? ⟨gb305, 0, none⟩ = some (.bool true) ∧ w'.cell? ⟨gb305, 1, none⟩ = some (.slice (some ad225) x306001_2.length co37) ∧ w'.cell? ⟨gb302, 0, none⟩ = some (.bool a0_0) ∧ w'.cell? ⟨gb302, 1, none⟩ = some (.slice (some ad226) l0_1.length c0_1) ∧ w'.cell? ⟨gb303, 0, none⟩ = some (.bool a1_0) ∧ w'.cell? ⟨gb303, 1, none⟩ = some (.slice A1_1 l1_1.length c1_1) ∧ w'.cell? (ad225.add ((ji25)).toNat) = some (.int .i64 (rd x306001_2 (ji25))) ∧ w'.cell? (ad226.add (x6_1).toNat) = some (.int .i64 (rd l0_1 x6_1))) (ds := []) #[false, false, false, false, false, false, false, false, false, false, false, false, false, false, false, false, false, false, false, false, false] (by kernel_rfl) rfl rfl ⟨(bc_ BK305.out 0).trans rfl, (bc_ BK305.out 1).trans rfl, (bc_ BK302.out 0).trans rfl, (bc_ BK302.out 1).trans rfl, (bc_ BK303.out 0).trans rfl, (bc_ BK303.out 1).trans rfl, hx225_0, ((HB.out.cell (World.block_lt_of_cell? w _ hw226_0)).trans hw226_0)⟩ (fun hHeld => ?_); refine with_tabW clevisref01_Mul.tab9 clevisref01_Mul.bits9 (fun HT_ HW_ => ?_)
              generalize wr.drew = w36 at HO_306001 BK302 BK303 BK304 BK305 HB hx225_0 hx226_0 hHeld ⊢
              refine pure_ (i := 0) (N := some 43) (v := ?_) (a' := ?_) #[true, false, false, false, false, false, false, false, false, false, false, false, false, false, false, false, false, false, false, false, false] rfl rfl (any_of HT_.out (by kernel_rfl)) (fun _ _ _ h => h) (Or.inl ⟨by rfl, ?_⟩) ?_ ?_
              rotate_left
              ·
               intro w'
               go_simp
               with_reducible rfl
              rotate_left
              ·
               simp only [Act.put, sA_, sZ_, sS_, i64_w, i32_w]
               rfl
              refine pure_ (i := 2) (N := some 45) (v := ?_) (a' := ?_) #[true, false, true, false, false, false, false, false, false, false, false, false, false, false, false, false, false, false, false, false, false] rfl rfl (any_of HT_.out (by kernel_rfl)) (fun _ _ _ h => h) (Or.inl ⟨by rfl, ?_⟩) ?_ ?_
              rotate_left
              ·
               intro w'
               go_simp
               with_reducible rfl
              rotate_left
              ·
               simp only [Act.put, sA_, sZ_, sS_, i64_w, i32_w]
               rfl
              refine pure_ (i := 3) (N := some 46) (v := ?_) (a' := ?_) #[true, false, true, true, false, false, false, false, false, false, false, false, false, false, false, false, false, false, false, false, false] rfl rfl (any_of HT_.out (by kernel_rfl)) (fun _ _ _ h => h) (Or.inl ⟨by rfl, ?_⟩) ?_ ?_
              rotate_left
              ·
               intro w'
               go_simp
               with_reducible rfl
              rotate_left
              ·
               simp only [Act.put, sA_, sZ_, sS_, i64_w, i32_w]
               rfl
              refine pure_ (i := 4) (N := some 47) (v := ?_) (a' := ?_) #[true, false, true, true, true, false, false, false, false, false, false, false, false, false, false, false, false, false, false, false, false] rfl rfl (any_of HT_.out (by kernel_rfl)) (fun _ _ _ h => h) (Or.inl ⟨by rfl, ?_⟩) ?_ ?_
              rotate_left
              ·
               intro w'
               go_simp
               with_reducible rfl
              rotate_left
              ·
               simp only [Act.put, sA_, sZ_, sS_, i64_w, i32_w]
               rfl
              refine pure_ (i := 7) (N := some 50) (v := ?_) (a' := ?_) #[true, false, true, true, true, false, false, true, false, false, false, false, false, false, false, false, false, false, false, false, false] rfl rfl (any_of HT_.out (by kernel_rfl)) (fun _ _ _ h => h) (Or.inl ⟨by rfl, ?_⟩) ?_ ?_
              rotate_left
              ·
               intro w'
               go_simp
               with_reducible rfl
              rotate_left
              ·
               simp only [Act.put, sA_, sZ_, sS_, i64_w, i32_w]
               rfl
              refine pure_ (i := 9) (N := some 52) (v := ?_) (a' := ?_) #[true, false, true, true, true, false, false, true, false, true, false, false, false, false, false, false, false, false, false, false, false] rfl rfl (any_of HT_.out (by kernel_rfl)) (fun _ _ _ h => h) (Or.inl ⟨by rfl, ?_⟩) ?_ ?_
              rotate_left
              ·
               intro w'
               go_simp
               with_reducible rfl
              rotate_left
              ·
               simp only [Act.put, sA_, sZ_, sS_, i64_w, i32_w]
               rfl
              refine pure_ (i := 12) (N := some 55) (v := ?_) (a' := ?_) #[true, false, true, true, true, false, false, true, false, true, false, false, true, false, false, false, false, false, false, false, false] rfl rfl (any_of HT_.out (by kernel_rfl)) (fun _ _ _ h => h) (Or.inl ⟨by rfl, ?_⟩) ?_ ?_
              rotate_left
              ·
               intro w'
               go_simp
               with_reducible rfl
              rotate_left
              ·
               simp only [Act.put, sA_, sZ_, sS_, i64_w, i32_w]
               rfl
              refine pure_ (i := 14) (N := some 57) (v := ?_) (a' := ?_) #[true, false, true, true, true, false, false, true, false, true, false, false, true, false, true, false, false, false, false, false, false] rfl rfl (any_of HT_.out (by kernel_rfl)) (fun _ _ _ h => h) (Or.inl ⟨by rfl, ?_⟩) ?_ ?_
              rotate_left
              ·
               intro w'
               go_simp
               with_reducible rfl
              rotate_left
              ·
               simp only [Act.put, sA_, sZ_, sS_, i64_w, i32_w]
               rfl
              refine pure_ (i := 18) (N := some 61) (v := ?_) (a' := ?_) #[true, false, true, true, true, false, false, true, false, true, false, false, true, false, true, false, false, false, true, false, false] rfl rfl (any_of HT_.out (by kernel_rfl)) (fun _ _ _ h => h) (Or.inl ⟨by rfl, ?_⟩) ?_ ?_
              rotate_left
              ·
               intro w'
               go_simp
               with_reducible rfl
              rotate_left
              ·
               simp only [Act.put, sA_, sZ_, sS_, i64_w, i32_w]
               rfl
              refine take_ (i := 1) (N := some 44) (v := ?_) (a' := ?_) #[true, true, true, true, true, false, false, true, false, true, false, false, true, false, true, false, false, false, true, false, false] rfl rfl (take_ofW HT_.out HW_.out (by kernel_rfl)) (fun _ _ _ h => h) (Or.inl ⟨by rfl, ?_⟩) hHeld ?_ ?_
              rotate_left
              ·
               rintro w' ⟨s0, s1, s2, s3, s4, s5, s6, s7⟩
               go_simp
               with_reducible rfl
              rotate_left
              ·
               simp only [Act.put, sA_, sZ_, sS_, i64_w, i32_w]
               rfl
              refine pure_ (i := 5) (N := some 48) (v := ?_) (a' := ?_) #[true, true, true, true, true, true, false, true, false, true, false, false, true, false, true, false, false, false, true, false, false] rfl rfl (any_of HT_.out (by kernel_rfl)) (fun _ _ _ h => h) (Or.inl ⟨by rfl, ?_⟩) ?_ ?_
              rotate_left
              ·
               intro w'
               go_simp
               with_reducible rfl
              rotate_left
              ·
               simp only [Act.put, sA_, sZ_, sS_, i64_w, i32_w]
               rfl
              refine take_ (i := 6) (N := some 49) (v := ?_) (a' := ?_) #[true, true, true, true, true, true, true, true, false, true, false, false, true, false, true, false, false, false, true, false, false] rfl rfl (take_ofW HT_.out HW_.out (by kernel_rfl)) (fun _ _ _ h => h) (Or.inl ⟨by rfl, ?_⟩) hHeld ?_ ?_
              rotate_left
              ·
               rintro w' ⟨s0, s1, s2, s3, s4, s5, s6, s7⟩
               go_simp
               with_reducible rfl
              rotate_left
              ·
               simp only [Act.put, sA_, sZ_, sS_, i64_w, i32_w]
               rfl
              refine take_ (i := 8) (N := some 51) (v := ?_) (a' := ?_) #[true, true, true, true, true, true, true, true, true, true, false, false, true, false, true, false, false, false, true, false, false] rfl rfl (take_ofW HT_.out HW_.out (by kernel_rfl)) (fun _ _ _ h => h) (Or.inl ⟨by rfl, ?_⟩) hHeld ?_ ?_
              rotate_left
              ·
               rintro w' ⟨s0, s1, s2, s3, s4, s5, s6, s7⟩
               go_simp
               with_reducible rfl
              rotate_left
              ·
               simp only [Act.put, sA_, sZ_, sS_, i64_w, i32_w]
               rfl
              refine pure_ (i := 10) (N := some 53) (v := ?_) (a' := ?_) #[true, true, true, true, true, true, true, true, true, true, true, false, true, false, true, false, false, false, true, false, false] rfl rfl (any_of HT_.out (by kernel_rfl)) (fun _ _ _ h => h) (Or.inl ⟨by rfl, ?_⟩) ?_ ?_
              rotate_left
              ·
               intro w'
               go_simp
               with_reducible rfl
              rotate_left
              ·
               simp only [Act.put, sA_, sZ_, sS_, i64_w, i32_w]
               rfl
              refine take_ (i := 11) (N := some 54) (v := ?_) (a' := ?_) #[true, true, true, true, true, true, true, true, true, true, true, true, true, false, true, false, false, false, true, false, false] rfl rfl (take_ofW HT_.out HW_.out (by kernel_rfl)) (fun _ _ _ h => h) (Or.inl ⟨by rfl, ?_⟩) hHeld ?_ ?_
              rotate_left
              ·
               rintro w' ⟨s0, s1, s2, s3, s4, s5, s6, s7⟩
               go_simp
               with_reducible rfl
              rotate_left
              ·
               simp only [Act.put, sA_, sZ_, sS_, i64_w, i32_w]
               rfl
              refine take_ (i := 13) (N := some 56) (v := ?_) (a' := ?_) #[true, true, true, true, true, true, true, true, true, true, true, true, true, true, true, false, false, false, true, false, false] rfl rfl (take_ofW HT_.out HW_.out (by kernel_rfl)) (fun _ _ _ h => h) (Or.inl ⟨by rfl, ?_⟩) hHeld ?_ ?_
              rotate_left
              ·
               rintro w' ⟨s0, s1, s2, s3, s4, s5, s6, s7⟩
               go_simp
               with_reducible rfl
              rotate_left
              ·
               simp only [Act.put, sA_, sZ_, sS_, i64_w, i32_w]
               rfl
              refine one_ (i := 15) (N := some 58) #[true, true, true, true, true, true, true, true, true, true, true, true, true, true, true, true, false, false, true, false, false] rfl rfl (one_of HT_.out (by kernel_rfl)) (by decide) (fun K hK => ?_)
              refine goes_ Try.func54 (by kernel_rfl) rfl #[.slice A1_1 l1_1.length c1_1, .int .i64 x8_2] (by rfl) rfl rfl (by (try simp only [List.map_toArray, List.map_cons, List.map_nil]); first | done | rfl | (simp only [List.length_drop, List.length_take]; rfl)) ?_
              with_reducible refine (clevisref01_at.calls _ _ l1_1 x8_2 t227 _ ?side1 ?side2 A30.out).mono ?_
              (case side1 => repeat (first | exact (cb_ HR1_1.out HB.out) | (with_reducible refine ca_ ?_ _) | (with_reducible refine cn_ ?_ _) | (with_reducible refine cd_ ?_)))
              (case side2 => exact HC1_1.out)
              rintro e w' ⟨rfl, ⟨nd, rfl⟩⟩
              refine ⟨_, rfl, ?_⟩
              refine hK.out _ _ ⟨(bc_ BK305.out 0).trans rfl, (bc_ BK305.out 1).trans rfl, (bc_ BK302.out 0).trans rfl, (bc_ BK302.out 1).trans rfl, (bc_ BK303.out 0).trans rfl, (bc_ BK303.out 1).trans rfl, hHeld.2.2.2.2.2.2.1, ((HB.out.cell (World.block_lt_of_cell? w _ hw226_0)).trans hw226_0)⟩ (fun hHeld => ?_)
              clear hK K
              refine norm_ (a' := ?_) ?_ ?_
              rotate_left
              ·
               show Act.put _ (some 58) _ = _
               simp only [Act.put, sA_, sZ_, sS_, i64_w, i32_w]
               rfl
              refine pure_ (i := 16) (N := some 59) (v := ?_) (a' := ?_) #[true, true, true, true, true, true, true, true, true, true, true, true, true, true, true, true, true, false, true, false, false] rfl rfl (any_of HT_.out (by kernel_rfl)) (fun _ _ _ h => h) (Or.inl ⟨by rfl, ?_⟩) ?_ ?_
              rotate_left
              ·
               intro w'
               go_simp
               with_reducible rfl
              rotate_left
              ·
               simp only [Act.put, sA_, sZ_, sS_, i64_w, i32_w]
               rfl
              refine pure_ (i := 17) (N := some 60) (v := ?_) (a' := ?_) #[true, true, true, true, true, true, true, true, true, true, true, true, true, true, true, true, true, true, true, false, false] rfl rfl (any_of HT_.out (by kernel_rfl)) (fun _ _ _ h => h) (Or.inl ⟨by rfl, ?_⟩) ?_ ?_
              rotate_left
              ·
               intro w'
               go_simp
               with_reducible rfl
              rotate_left
              ·
               simp only [Act.put, sA_, sZ_, sS_, i64_w, i32_w]
               rfl
              refine pure_ (i := 19) (N := some 62) (v := ?_) (a' := ?_) #[true, true, true, true, true, true, true, true, true, true, true, true, true, true, true, true, true, true, true, true, false] rfl rfl (any_of HT_.out (by kernel_rfl)) (fun _ _ _ h => h) (Or.inl ⟨by rfl, ?_⟩) ?_ ?_
              rotate_left
              ·
               intro w'
               go_simp
               with_reducible rfl
              rotate_left
              ·
               simp only [Act.put, sA_, sZ_, sS_, i64_w, i32_w]
               rfl
              refine pure_ (i := 20) (N := some 9) (v := ?_) (a' := ?_) #[true, true, true, true, true, true, true, true, true, true, true, true, true, true, true, true, true, true, true, true, true] rfl rfl (any_of HT_.out (by kernel_rfl)) (fun _ _ _ h => h) (Or.inl ⟨by rfl, ?_⟩) ?_ ?_
              rotate_left
              ·
               intro w'
               go_simp
               with_reducible rfl
              rotate_left
              ·
               simp only [Act.put, sA_, sZ_, sS_, i64_w, i32_w]
               rfl
              refine done_ (done_of HT_.out (by kernel_rfl)) ?_
              have hnb38 := NB305_302.out
              have hnc38 := NB302_305.out
              have hnb39 := NB305_304.out
              have hnc39 := NB304_305.out
              have hcz40_0 : w36.cell? ⟨gb305, 0, none⟩ = some (.bool true) := (bc_ BK305.out 0).trans rfl
              have hcz40_1 : w36.cell? ⟨gb305, 1, none⟩ = some (.slice (some ad225) x306001_2.length co37) := (bc_ BK305.out 1).trans rfl
              have hfz40_0 := bf_ BK305.out 0
              have hfz40_1 := bf_ BK305.out 1
              have p31 : 0 ≤ ((ji25) : Int) := od_ (by first | (with_reducible assumption) | assumption)
              have q31 : ((ji25) : Int) < ((x306001_2.length : Int) : Int) := od_ (by first | (with_reducible assumption) | assumption)
              obtain ⟨go31, co31, eo31, gb31, gl31, cl31, HG31⟩ := Kd.R_form HO_306001.out (by omega)
              (first | cases eo31 | (injection eo31 with ea_ en_ ec_; (first | subst ea_ | (injection ea_ with ea_; subst ea_)); subst ec_; clear en_))
              have GB31 := A_ gb31
              have GG31 := A_ HG31
              clear gb31 gl31 HG31
              (first | simp only [add_plain] at hx225_0 | skip)
              obtain ⟨hx31_0, hf31_0⟩ := Kd.R_celln 0 HO_306001.out ((ji25) : Int) p31 q31
              replace p31 := eq_true p31
              replace q31 := eq_true q31
              obtain ⟨hy41_, hz41_⟩ := Kd.R_celln 0 HO_306001.out ((ji25) : Int) (od_ (by first | (with_reducible assumption) | assumption)) (od_ (by first | (with_reducible assumption) | assumption))
              have HP41 := Kd.R_putg HO_306001.out ((ji25) : Int) (Int.tmod (wrap64 ((wrap64 ((rd x306001_2 (ji25)) + (wrap64 ((rd l0_1 x6_1) * t227)))) + x7_2)) 65536)
              try go_wp2_with (((with_reducible refine gate_store (t := 3) (p := 70) rfl ?_); (first | (refine store_event (t := 3) (p := 70) (v := ?vo_w42) (w1 := (w36.setCell ⟨go31, ((ji25) : Int).toNat, none⟩ (.int .i64 (Int.tmod (wrap64 ((wrap64 ((rd x306001_2 (ji25)) + (wrap64 ((rd l0_1 x6_1) * t227)))) + x7_2)) 65536)))) ?hg ?ho ?hn ?hr ?_; (case ho => rfl); (case hg => rfl); (case hn => rfl); (case hr => first | (go_simp; done) | (go_simp; rfl)); intro w42 hw) | (refine store_event (t := 3) (p := 70) (v := ?vo_w42) (w1 := ((w36.drewN ?ndq_w42).setCell ⟨go31, ((ji25) : Int).toNat, none⟩ (.int .i64 (Int.tmod (wrap64 ((wrap64 ((rd x306001_2 (ji25)) + (wrap64 ((rd l0_1 x6_1) * t227)))) + x7_2)) 65536)))) ?hg ?ho ?hn ?hr ?_; (case ho => rfl); (case hg => rfl); (case hn => rfl); (case hr => first | (go_simp; done) | (go_simp; rfl)); intro w42 hw; rw [sd_eq] at hw)); have hg : w36.grownBy w42 (some go31) := (by rw [hw]; first | (with_reducible exact HP41.2) | (exact grown_dn (HP41.2) _) | (exact pn_ (HP41.2) _) | (exact Kd.R_drewN (HP41.2) _) | exact HP41.2); have hp_ : Kd.R (Kd.int .i64) 3 w42 w.heap.size (fun k_ => (w.heap.size ≤ k_)) (.slice (some ⟨go31, 0, none⟩) x306001_2.length co37) y228 := (by rw [hw, Ny228.out]; first | (with_reducible exact HP41.1) | (exact grown_dn (HP41.1) _) | (exact pn_ (HP41.1) _) | (exact Kd.R_drewN (HP41.1) _) | exact HP41.1); clear HP41; have n0_ := A_ (hp_); have n1_ := A_ (blk_grown (g := gb302) (o := .cells #[.bool a0_0, .slice (some ad226) l0_1.length c0_1] 32 (0, 0)) bk_ hg (Kd.R_ne HO_306001.out BK302.out (by decide))); have n2_ := A_ (blk_grown (g := gb303) (o := .cells #[.bool a1_0, .slice A1_1 l1_1.length c1_1] 32 (0, 0)) bk_ hg (Kd.R_ne HO_306001.out BK303.out (by decide))); have n3_ := A_ (blk_grown (g := gb304) (o := .cells #[.bool false, .slice none 0 0] 32 (0, 0)) bk_ hg (Kd.R_ne HO_306001.out BK304.out (by decide))); have n4_ := A_ (blk_grown (g := gb305) (o := .cells #[.bool true, .slice (some ⟨go31, 0, none⟩) x306001_2.length co37] 32 (0, 0)) bk_ hg (Kd.R_ne HO_306001.out BK305.out (by decide))); have n5_ := A_ ((by rw [hw]; first | (with_reducible exact bt_ (HB.out) GB31.out) | (exact grown_dn (bt_ (HB.out) GB31.out) _) | (exact pn_ (bt_ (HB.out) GB31.out) _) | (exact Kd.R_drewN (bt_ (HB.out) GB31.out) _) | exact bt_ (HB.out) GB31.out : Below w.heap.size w w42)); clear HO_306001; clear BK302; clear BK303; clear BK304; clear BK305; clear HB; have HO_306001 := n0_; have BK302 := n1_; have BK303 := n2_; have BK304 := n3_; have BK305 := n4_; have HB := n5_; clear n0_ n1_ n2_ n3_ n4_ n5_; clear hg hw hp_))
              go_roundg k2
              case measure => have := HK1.out; have := HK2.out; omega
              case rel => exact ⟨(wrap64 (Int.tdiv (wrap64 ((wrap64 ((rd x306001_2 (ji25)) + (wrap64 ((rd l0_1 x6_1) * t227)))) + x7_2)) 65536)), (wrap64 (x8_2 + 1)), (y228), (.slice (some ⟨go31, 0, none⟩) x306001_2.length co37), (by first | rfl | (simp; done) | (simp only [← hji25] <;> (first | rfl | simp)) | (simp [*]; done)), (by first | rfl | (simp; done) | (simp [*]; done)), H', ⟨by have := HK1.out; have := HK2.out; omega⟩, ⟨by (with_reducible repeat (first | apply Kd.R_alloc | apply Kd.R_drewN | apply Kd.R_drew)); exact HO_306001.out⟩, ⟨bk_⟩, ⟨bk_⟩, ⟨bk_⟩, ⟨bk_⟩, ⟨bw_⟩⟩
             ·
              rw [if_neg c29] at H
              exact absurd H (by simp)
            ·
             rw [if_neg c28] at H
             exact absurd H (by simp)
           ·
            rw [if_neg c27] at H
            exact absurd H (by simp)
          ·
           rw [if_neg c26] at H
           exact absurd H (by simp)
         ·
          rw [if_neg c24] at H
          have c24b0 : decide (x8_2 < (l1_1.length : Int)) = false := decide_eq_false c24
          clear c24
          by_cases c43 : x7_2 > 0
          ·
           rw [if_pos c43] at H
           have c43b0 : decide (0 < x7_2) = true := decide_eq_true c43
           clear c43
           obtain ⟨ji44, hji44⟩ : ∃ j_ : Int, (wrap64 (x6_1 + x8_2)) = j_ := ⟨_, rfl⟩
           replace H : (if 0 ≤ (ji44) then (if (ji44) < (x306001_2.length : Int) then (if 0 ≤ x6_1 then (if x6_1 < (l0_1.length : Int) then ((clevisref01_at.f l1_1 x8_2).bind fun t231 => (clevisref01_Mul.l1 k2 x6_1 (wrap64 (Int.tdiv (wrap64 ((wrap64 ((rd x306001_2 (ji44)) + (wrap64 ((rd l0_1 x6_1) * t231)))) + x7_2)) 65536)) (wrap64 (x8_2 + 1)) a0_0 l0_1 a1_0 l1_1 true (x306001_2.set ((ji44) : Int).toNat (Int.tmod (wrap64 ((wrap64 ((rd x306001_2 (ji44)) + (wrap64 ((rd l0_1 x6_1) * t231)))) + x7_2)) 65536)))) else (none)) else (none)) else (none)) else (none)) = some (r1, r2) := by first | (rw [hji44] at H; exact H) | (simp only [hji44] at H ⊢; exact H)
           have hji44w : (IntKind.i64.wrap (x6_1 + x8_2)) = ji44 := (i64_w _).trans hji44
           by_cases c45 : 0 ≤ (ji44)
           ·
            rw [if_pos c45] at H
            have c45b0 : decide (0 ≤ (ji44)) = true := decide_eq_true c45
            clear c45
            by_cases c46 : (ji44) < (x306001_2.length : Int)
            ·
             rw [if_pos c46] at H
             have c46b0 : decide ((ji44) < (x306001_2.length : Int)) = true := decide_eq_true c46
             clear c46
             by_cases c47 : 0 ≤ x6_1
             ·
              rw [if_pos c47] at H
              have c47b0 : decide (0 ≤ x6_1) = true := decide_eq_true c47
              clear c47
              by_cases c48 : x6_1 < (l0_1.length : Int)
              ·
               rw [if_pos c48] at H
               have c48b0 : decide (x6_1 < (l0_1.length : Int)) = true := decide_eq_true c48
               clear c48
               replace H := os_ H
               obtain ⟨t231, A490, H⟩ := H
               replace H : (clevisref01_Mul.l1 k2 x6_1 (wrap64 (Int.tdiv (wrap64 ((wrap64 ((rd x306001_2 (ji44)) + (wrap64 ((rd l0_1 x6_1) * t231)))) + x7_2)) 65536)) (wrap64 (x8_2 + 1)) a0_0 l0_1 a1_0 l1_1 true (x306001_2.set ((ji44) : Int).toNat (Int.tmod (wrap64 ((wrap64 ((rd x306001_2 (ji44)) + (wrap64 ((rd l0_1 x6_1) * t231)))) + x7_2)) 65536))) = some (r1, r2) := H
               have A49 := A_ A490
               clear A490
               obtain ⟨y232, hy232⟩ : ∃ y_ : List Int, y_ = (x306001_2.set ((ji44) : Int).toNat (Int.tmod (wrap64 ((wrap64 ((rd x306001_2 (ji44)) + (wrap64 ((rd l0_1 x6_1) * t231)))) + x7_2)) 65536)) := ⟨_, rfl⟩
               replace H : (clevisref01_Mul.l1 k2 x6_1 (wrap64 (Int.tdiv (wrap64 ((wrap64 ((rd x306001_2 (ji44)) + (wrap64 ((rd l0_1 x6_1) * t231)))) + x7_2)) 65536)) (wrap64 (x8_2 + 1)) a0_0 l0_1 a1_0 l1_1 true y232) = some (r1, r2) := by first | (rw [hy232]; with_reducible exact H) | (have H2_ := (Option.bind_some _ _).symm.trans H; rw [hy232]; with_reducible exact H2_) | (have H2_ := (Option.bind_some _ _).symm.trans H; with_reducible exact H2_) | with_reducible exact H | (rw [hy232]; exact H) | exact H
               have Ny232 := A_ hy232
               clear hy232
               have H' := A_ H
               clear H
               have hnb51 := NB303_302.out
               have hnc51 := NB302_303.out
               have hnb52 := NB303_304.out
               have hnc52 := NB304_303.out
               have hnb53 := NB303_305.out
               have hnc53 := NB305_303.out
               have hcz54_0 : wr.cell? ⟨gb303, 0, none⟩ = some (.bool a1_0) := (bc_ BK303.out 0).trans rfl
               have hcz54_1 : wr.cell? ⟨gb303, 1, none⟩ = some (.slice A1_1 l1_1.length c1_1) := (bc_ BK303.out 1).trans rfl
               have hfz54_0 := bf_ BK303.out 0
               have hfz54_1 := bf_ BK303.out 1
               try go_wp2
               have n0_ := A_ (Kd.R_drew HO_306001.out)
               have n1_ := A_ (bd_ BK302.out)
               have n2_ := A_ (bd_ BK303.out)
               have n3_ := A_ (bd_ BK304.out)
               have n4_ := A_ (bd_ BK305.out)
               have n5_ := A_ (b1_ HB.out)
               clear HO_306001
               clear BK302
               clear BK303
               clear BK304
               clear BK305
               clear HB
               have HO_306001 := n0_
               have BK302 := n1_
               have BK303 := n2_
               have BK304 := n3_
               have BK305 := n4_
               have HB := n5_
               clear n0_ n1_ n2_ n3_ n4_ n5_
               obtain ⟨Ao56, co56, eo56⟩ := Kd.R_slice HO_306001.out
               (first | subst eo56 | (injection eo56 with f1_ f2_ f3_; have f4_ := f1_.symm; have f5_ := f3_.symm; clear f1_ f2_ f3_; subst f4_; subst f5_))
               have p229 : 0 ≤ ((ji44) : Int) := od_ (by first | (with_reducible assumption) | assumption)
               have q229 : (ji44) < (x306001_2.length : Int) := od_ (by first | (with_reducible assumption) | assumption)
               obtain ⟨ad229, e229, hx229_0⟩ := Kd.at_int (Kd.R_reads' HO_306001.out).2.2 (ji44) p229 q229
               cases e229
               replace p229 := eq_true p229
               replace q229 := eq_true q229
               have p230 : 0 ≤ (x6_1 : Int) := od_ (by first | (with_reducible assumption) | assumption)
               have q230 : x6_1 < (l0_1.length : Int) := od_ (by first | (with_reducible assumption) | assumption)
               obtain ⟨ad230, e230, hx230_0⟩ := Kd.at_int HR0_1.out x6_1 p230 q230
               have hw230_0 := hx230_0
               cases e230
               replace hx230_0 := (HB.out.cell (World.block_lt_of_cell? w _ hx230_0)).trans hx230_0
               replace p230 := eq_true p230
               replace q230 := eq_true q230
               refine start_ (n := 21) (S := fun w' => w'.cell? ⟨gb305, 0, none⟩ = some (.bool true) ∧ w'.cell? ⟨gb305, 1, none⟩ = some (.slice (some ad229) x306001_2.length co56) ∧ w'.cell? ⟨gb302, 0, none⟩ = some (.bool a0_0) ∧ w'.cell? ⟨gb302, 1, none⟩ = some (.slice (some ad230) l0_1.length c0_1) ∧ w'.cell? ⟨gb303, 0, none⟩ = some (.bool a1_0) ∧ w'.cell? ⟨gb303, 1, none⟩ = some (.slice A1_1 l1_1.length c1_1) ∧ w'.cell? (ad229.add ((ji44)).toNat) = some (.int .i64 (rd x306001_2 (ji44))) ∧ w'.cell? (ad230.add (x6_1).toNat) = some (.int .i64 (rd l0_1 x6_1))) (ds := []) #[false, false, false, false, false, false, false, false, false, false, false, false, false, false, false, false, false, false, false, false, false] (by kernel_rfl) rfl rfl ⟨(bc_ BK305.out 0).trans rfl, (bc_ BK305.out 1).trans rfl, (bc_ BK302.out 0).trans rfl, (bc_ BK302.out 1).trans rfl, (bc_ BK303.out 0).trans rfl, (bc_ BK303.out 1).trans rfl, hx229_0, ((HB.out.cell (World.block_lt_of_cell? w _ hw230_0)).trans hw230_0)⟩ (fun hHeld => ?_); refine with_tabW clevisref01_Mul.tab9 clevisref01_Mul.bits9 (fun HT_ HW_ => ?_)
               generalize wr.drew = w55 at HO_306001 BK302 BK303 BK304 BK305 HB hx229_0 hx230_0 hHeld ⊢
               refine pure_ (i := 0) (N := some 43) (v := ?_) (a' := ?_) #[true, false, false, false, false, false, false, false, false, false, false, false, false, false, false, false, false, false, false, false, false] rfl rfl (any_of HT_.out (by kernel_rfl)) (fun _ _ _ h => h) (Or.inl ⟨by rfl, ?_⟩) ?_ ?_
               rotate_left
               ·
                intro w'
                go_simp
                with_reducible rfl
               rotate_left
               ·
                simp only [Act.put, sA_, sZ_, sS_, i64_w, i32_w]
                rfl
               refine pure_ (i := 2) (N := some 45) (v := ?_) (a' := ?_) #[true, false, true, false, false, false, false, false, false, false, false, false, false, false, false, false, false, false, false, false, false] rfl rfl (any_of HT_.out (by kernel_rfl)) (fun _ _ _ h => h) (Or.inl ⟨by rfl, ?_⟩) ?_ ?_
               rotate_left
               ·
                intro w'
                go_simp
                with_reducible rfl
               rotate_left
               ·
                simp only [Act.put, sA_, sZ_, sS_, i64_w, i32_w]
                rfl
               refine pure_ (i := 3) (N := some 46) (v := ?_) (a' := ?_) #[true, false, true, true, false, false, false, false, false, false, false, false, false, false, false, false, false, false, false, false, false] rfl rfl (any_of HT_.out (by kernel_rfl)) (fun _ _ _ h => h) (Or.inl ⟨by rfl, ?_⟩) ?_ ?_
               rotate_left
               ·
                intro w'
                go_simp
                with_reducible rfl
               rotate_left
               ·
                simp only [Act.put, sA_, sZ_, sS_, i64_w, i32_w]
                rfl
               refine pure_ (i := 4) (N := some 47) (v := ?_) (a' := ?_) #[true, false, true, true, true, false, false, false, false, false, false, false, false, false, false, false, false, false, false, false, false] rfl rfl (any_of HT_.out (by kernel_rfl)) (fun _ _ _ h => h) (Or.inl ⟨by rfl, ?_⟩) ?_ ?_
               rotate_left
               ·
                intro w'
                go_simp
                with_reducible rfl
               rotate_left
               ·
                simp only [Act.put, sA_, sZ_, sS_, i64_w, i32_w]
                rfl
               refine pure_ (i := 7) (N := some 50) (v := ?_) (a' := ?_) #[true, false, true, true, true, false, false, true, false, false, false, false, false, false, false, false, false, false, false, false, false] rfl rfl (any_of HT_.out (by kernel_rfl)) (fun _ _ _ h => h) (Or.inl ⟨by rfl, ?_⟩) ?_ ?_
               rotate_left
               ·
                intro w'
                go_simp
                with_reducible rfl
               rotate_left
               ·
                simp only [Act.put, sA_, sZ_, sS_, i64_w, i32_w]
                rfl
               refine pure_ (i := 9) (N := some 52) (v := ?_) (a' := ?_) #[true, false, true, true, true, false, false, true, false, true, false, false, false, false, false, false, false, false, false, false, false] rfl rfl (any_of HT_.out (by kernel_rfl)) (fun _ _ _ h => h) (Or.inl ⟨by rfl, ?_⟩) ?_ ?_
               rotate_left
               ·
                intro w'
                go_simp
                with_reducible rfl
               rotate_left
               ·
                simp only [Act.put, sA_, sZ_, sS_, i64_w, i32_w]
                rfl
               refine pure_ (i := 12) (N := some 55) (v := ?_) (a' := ?_) #[true, false, true, true, true, false, false, true, false, true, false, false, true, false, false, false, false, false, false, false, false] rfl rfl (any_of HT_.out (by kernel_rfl)) (fun _ _ _ h => h) (Or.inl ⟨by rfl, ?_⟩) ?_ ?_
               rotate_left
               ·
                intro w'
                go_simp
                with_reducible rfl
               rotate_left
               ·
                simp only [Act.put, sA_, sZ_, sS_, i64_w, i32_w]
                rfl
               refine pure_ (i := 14) (N := some 57) (v := ?_) (a' := ?_) #[true, false, true, true, true, false, false, true, false, true, false, false, true, false, true, false, false, false, false, false, false] rfl rfl (any_of HT_.out (by kernel_rfl)) (fun _ _ _ h => h) (Or.inl ⟨by rfl, ?_⟩) ?_ ?_
               rotate_left
               ·
                intro w'
                go_simp
                with_reducible rfl
               rotate_left
               ·
                simp only [Act.put, sA_, sZ_, sS_, i64_w, i32_w]
                rfl
               refine pure_ (i := 18) (N := some 61) (v := ?_) (a' := ?_) #[true, false, true, true, true, false, false, true, false, true, false, false, true, false, true, false, false, false, true, false, false] rfl rfl (any_of HT_.out (by kernel_rfl)) (fun _ _ _ h => h) (Or.inl ⟨by rfl, ?_⟩) ?_ ?_
               rotate_left
               ·
                intro w'
                go_simp
                with_reducible rfl
               rotate_left
               ·
                simp only [Act.put, sA_, sZ_, sS_, i64_w, i32_w]
                rfl
               refine take_ (i := 1) (N := some 44) (v := ?_) (a' := ?_) #[true, true, true, true, true, false, false, true, false, true, false, false, true, false, true, false, false, false, true, false, false] rfl rfl (take_ofW HT_.out HW_.out (by kernel_rfl)) (fun _ _ _ h => h) (Or.inl ⟨by rfl, ?_⟩) hHeld ?_ ?_
               rotate_left
               ·
                rintro w' ⟨s0, s1, s2, s3, s4, s5, s6, s7⟩
                go_simp
                with_reducible rfl
               rotate_left
               ·
                simp only [Act.put, sA_, sZ_, sS_, i64_w, i32_w]
                rfl
               refine pure_ (i := 5) (N := some 48) (v := ?_) (a' := ?_) #[true, true, true, true, true, true, false, true, false, true, false, false, true, false, true, false, false, false, true, false, false] rfl rfl (any_of HT_.out (by kernel_rfl)) (fun _ _ _ h => h) (Or.inl ⟨by rfl, ?_⟩) ?_ ?_
               rotate_left
               ·
                intro w'
                go_simp
                with_reducible rfl
               rotate_left
               ·
                simp only [Act.put, sA_, sZ_, sS_, i64_w, i32_w]
                rfl
               refine take_ (i := 6) (N := some 49) (v := ?_) (a' := ?_) #[true, true, true, true, true, true, true, true, false, true, false, false, true, false, true, false, false, false, true, false, false] rfl rfl (take_ofW HT_.out HW_.out (by kernel_rfl)) (fun _ _ _ h => h) (Or.inl ⟨by rfl, ?_⟩) hHeld ?_ ?_
               rotate_left
               ·
                rintro w' ⟨s0, s1, s2, s3, s4, s5, s6, s7⟩
                go_simp
                with_reducible rfl
               rotate_left
               ·
                simp only [Act.put, sA_, sZ_, sS_, i64_w, i32_w]
                rfl
               refine take_ (i := 8) (N := some 51) (v := ?_) (a' := ?_) #[true, true, true, true, true, true, true, true, true, true, false, false, true, false, true, false, false, false, true, false, false] rfl rfl (take_ofW HT_.out HW_.out (by kernel_rfl)) (fun _ _ _ h => h) (Or.inl ⟨by rfl, ?_⟩) hHeld ?_ ?_
               rotate_left
               ·
                rintro w' ⟨s0, s1, s2, s3, s4, s5, s6, s7⟩
                go_simp
                with_reducible rfl
               rotate_left
               ·
                simp only [Act.put, sA_, sZ_, sS_, i64_w, i32_w]
                rfl
               refine pure_ (i := 10) (N := some 53) (v := ?_) (a' := ?_) #[true, true, true, true, true, true, true, true, true, true, true, false, true, false, true, false, false, false, true, false, false] rfl rfl (any_of HT_.out (by kernel_rfl)) (fun _ _ _ h => h) (Or.inl ⟨by rfl, ?_⟩) ?_ ?_
               rotate_left
               ·
                intro w'
                go_simp
                with_reducible rfl
               rotate_left
               ·
                simp only [Act.put, sA_, sZ_, sS_, i64_w, i32_w]
                rfl
               refine take_ (i := 11) (N := some 54) (v := ?_) (a' := ?_) #[true, true, true, true, true, true, true, true, true, true, true, true, true, false, true, false, false, false, true, false, false] rfl rfl (take_ofW HT_.out HW_.out (by kernel_rfl)) (fun _ _ _ h => h) (Or.inl ⟨by rfl, ?_⟩) hHeld ?_ ?_
               rotate_left
               ·
                rintro w' ⟨s0, s1, s2, s3, s4, s5, s6, s7⟩
                go_simp
                with_reducible rfl
               rotate_left
               ·
                simp only [Act.put, sA_, sZ_, sS_, i64_w, i32_w]
                rfl
               refine take_ (i := 13) (N := some 56) (v := ?_) (a' := ?_) #[true, true, true, true, true, true, true, true, true, true, true, true, true, true, true, false, false, false, true, false, false] rfl rfl (take_ofW HT_.out HW_.out (by kernel_rfl)) (fun _ _ _ h => h) (Or.inl ⟨by rfl, ?_⟩) hHeld ?_ ?_
               rotate_left
               ·
                rintro w' ⟨s0, s1, s2, s3, s4, s5, s6, s7⟩
                go_simp
                with_reducible rfl
               rotate_left
               ·
                simp only [Act.put, sA_, sZ_, sS_, i64_w, i32_w]
                rfl
               refine one_ (i := 15) (N := some 58) #[true, true, true, true, true, true, true, true, true, true, true, true, true, true, true, true, false, false, true, false, false] rfl rfl (one_of HT_.out (by kernel_rfl)) (by decide) (fun K hK => ?_)
               refine goes_ Try.func54 (by kernel_rfl) rfl #[.slice A1_1 l1_1.length c1_1, .int .i64 x8_2] (by rfl) rfl rfl (by (try simp only [List.map_toArray, List.map_cons, List.map_nil]); first | done | rfl | (simp only [List.length_drop, List.length_take]; rfl)) ?_
               with_reducible refine (clevisref01_at.calls _ _ l1_1 x8_2 t231 _ ?side1 ?side2 A49.out).mono ?_
               (case side1 => repeat (first | exact (cb_ HR1_1.out HB.out) | (with_reducible refine ca_ ?_ _) | (with_reducible refine cn_ ?_ _) | (with_reducible refine cd_ ?_)))
               (case side2 => exact HC1_1.out)
               rintro e w' ⟨rfl, ⟨nd, rfl⟩⟩
               refine ⟨_, rfl, ?_⟩
               refine hK.out _ _ ⟨(bc_ BK305.out 0).trans rfl, (bc_ BK305.out 1).trans rfl, (bc_ BK302.out 0).trans rfl, (bc_ BK302.out 1).trans rfl, (bc_ BK303.out 0).trans rfl, (bc_ BK303.out 1).trans rfl, hHeld.2.2.2.2.2.2.1, ((HB.out.cell (World.block_lt_of_cell? w _ hw230_0)).trans hw230_0)⟩ (fun hHeld => ?_)
               clear hK K
               refine norm_ (a' := ?_) ?_ ?_
               rotate_left
               ·
                show Act.put _ (some 58) _ = _
                simp only [Act.put, sA_, sZ_, sS_, i64_w, i32_w]
                rfl
               refine pure_ (i := 16) (N := some 59) (v := ?_) (a' := ?_) #[true, true, true, true, true, true, true, true, true, true, true, true, true, true, true, true, true, false, true, false, false] rfl rfl (any_of HT_.out (by kernel_rfl)) (fun _ _ _ h => h) (Or.inl ⟨by rfl, ?_⟩) ?_ ?_
               rotate_left
               ·
                intro w'
                go_simp
                with_reducible rfl
               rotate_left
               ·
                simp only [Act.put, sA_, sZ_, sS_, i64_w, i32_w]
                rfl
               refine pure_ (i := 17) (N := some 60) (v := ?_) (a' := ?_) #[true, true, true, true, true, true, true, true, true, true, true, true, true, true, true, true, true, true, true, false, false] rfl rfl (any_of HT_.out (by kernel_rfl)) (fun _ _ _ h => h) (Or.inl ⟨by rfl, ?_⟩) ?_ ?_
               rotate_left
               ·
                intro w'
                go_simp
                with_reducible rfl
               rotate_left
               ·
                simp only [Act.put, sA_, sZ_, sS_, i64_w, i32_w]
                rfl
               refine pure_ (i := 19) (N := some 62) (v := ?_) (a' := ?_) #[true, true, true, true, true, true, true, true, true, true, true, true, true, true, true, true, true, true, true, true, false] rfl rfl (any_of HT_.out (by kernel_rfl)) (fun _ _ _ h => h) (Or.inl ⟨by rfl, ?_⟩) ?_ ?_
               rotate_left
               ·
                intro w'
                go_simp
                with_reducible rfl
               rotate_left
               ·
                simp only [Act.put, sA_, sZ_, sS_, i64_w, i32_w]
                rfl
               refine pure_ (i := 20) (N := some 9) (v := ?_) (a' := ?_) #[true, true, true, true, true, true, true, true, true, true, true, true, true, true, true, true, true, true, true, true, true] rfl rfl (any_of HT_.out (by kernel_rfl)) (fun _ _ _ h => h) (Or.inl ⟨by rfl, ?_⟩) ?_ ?_
               rotate_left
               ·
                intro w'
                go_simp
                with_reducible rfl
               rotate_left
               ·
                simp only [Act.put, sA_, sZ_, sS_, i64_w, i32_w]
                rfl
               refine done_ (done_of HT_.out (by kernel_rfl)) ?_
               have hnb57 := NB305_302.out
               have hnc57 := NB302_305.out
               have hnb58 := NB305_304.out
               have hnc58 := NB304_305.out
               have hcz59_0 : w55.cell? ⟨gb305, 0, none⟩ = some (.bool true) := (bc_ BK305.out 0).trans rfl
               have hcz59_1 : w55.cell? ⟨gb305, 1, none⟩ = some (.slice (some ad229) x306001_2.length co56) := (bc_ BK305.out 1).trans rfl
               have hfz59_0 := bf_ BK305.out 0
               have hfz59_1 := bf_ BK305.out 1
               have p50 : 0 ≤ ((ji44) : Int) := od_ (by first | (with_reducible assumption) | assumption)
               have q50 : ((ji44) : Int) < ((x306001_2.length : Int) : Int) := od_ (by first | (with_reducible assumption) | assumption)
               obtain ⟨go50, co50, eo50, gb50, gl50, cl50, HG50⟩ := Kd.R_form HO_306001.out (by omega)
               (first | cases eo50 | (injection eo50 with ea_ en_ ec_; (first | subst ea_ | (injection ea_ with ea_; subst ea_)); subst ec_; clear en_))
               have GB50 := A_ gb50
               have GG50 := A_ HG50
               clear gb50 gl50 HG50
               (first | simp only [add_plain] at hx229_0 | skip)
               obtain ⟨hx50_0, hf50_0⟩ := Kd.R_celln 0 HO_306001.out ((ji44) : Int) p50 q50
               replace p50 := eq_true p50
               replace q50 := eq_true q50
               obtain ⟨hy60_, hz60_⟩ := Kd.R_celln 0 HO_306001.out ((ji44) : Int) (od_ (by first | (with_reducible assumption) | assumption)) (od_ (by first | (with_reducible assumption) | assumption))
               have HP60 := Kd.R_putg HO_306001.out ((ji44) : Int) (Int.tmod (wrap64 ((wrap64 ((rd x306001_2 (ji44)) + (wrap64 ((rd l0_1 x6_1) * t231)))) + x7_2)) 65536)
               try go_wp2_with (((with_reducible refine gate_store (t := 3) (p := 70) rfl ?_); (first | (refine store_event (t := 3) (p := 70) (v := ?vo_w61) (w1 := (w55.setCell ⟨go50, ((ji44) : Int).toNat, none⟩ (.int .i64 (Int.tmod (wrap64 ((wrap64 ((rd x306001_2 (ji44)) + (wrap64 ((rd l0_1 x6_1) * t231)))) + x7_2)) 65536)))) ?hg ?ho ?hn ?hr ?_; (case ho => rfl); (case hg => rfl); (case hn => rfl); (case hr => first | (go_simp; done) | (go_simp; rfl)); intro w61 hw) | (refine store_event (t := 3) (p := 70) (v := ?vo_w61) (w1 := ((w55.drewN ?ndq_w61).setCell ⟨go50, ((ji44) : Int).toNat, none⟩ (.int .i64 (Int.tmod (wrap64 ((wrap64 ((rd x306001_2 (ji44)) + (wrap64 ((rd l0_1 x6_1) * t231)))) + x7_2)) 65536)))) ?hg ?ho ?hn ?hr ?_; (case ho => rfl); (case hg => rfl); (case hn => rfl); (case hr => first | (go_simp; done) | (go_simp; rfl)); intro w61 hw; rw [sd_eq] at hw)); have hg : w55.grownBy w61 (some go50) := (by rw [hw]; first | (with_reducible exact HP60.2) | (exact grown_dn (HP60.2) _) | (exact pn_ (HP60.2) _) | (exact Kd.R_drewN (HP60.2) _) | exact HP60.2); have hp_ : Kd.R (Kd.int .i64) 3 w61 w.heap.size (fun k_ => (w.heap.size ≤ k_)) (.slice (some ⟨go50, 0, none⟩) x306001_2.length co56) y232 := (by rw [hw, Ny232.out]; first | (with_reducible exact HP60.1) | (exact grown_dn (HP60.1) _) | (exact pn_ (HP60.1) _) | (exact Kd.R_drewN (HP60.1) _) | exact HP60.1); clear HP60; have n0_ := A_ (hp_); have n1_ := A_ (blk_grown (g := gb302) (o := .cells #[.bool a0_0, .slice (some ad230) l0_1.length c0_1] 32 (0, 0)) bk_ hg (Kd.R_ne HO_306001.out BK302.out (by decide))); have n2_ := A_ (blk_grown (g := gb303) (o := .cells #[.bool a1_0, .slice A1_1 l1_1.length c1_1] 32 (0, 0)) bk_ hg (Kd.R_ne HO_306001.out BK303.out (by decide))); have n3_ := A_ (blk_grown (g := gb304) (o := .cells #[.bool false, .slice none 0 0] 32 (0, 0)) bk_ hg (Kd.R_ne HO_306001.out BK304.out (by decide))); have n4_ := A_ (blk_grown (g := gb305) (o := .cells #[.bool true, .slice (some ⟨go50, 0, none⟩) x306001_2.length co56] 32 (0, 0)) bk_ hg (Kd.R_ne HO_306001.out BK305.out (by decide))); have n5_ := A_ ((by rw [hw]; first | (with_reducible exact bt_ (HB.out) GB50.out) | (exact grown_dn (bt_ (HB.out) GB50.out) _) | (exact pn_ (bt_ (HB.out) GB50.out) _) | (exact Kd.R_drewN (bt_ (HB.out) GB50.out) _) | exact bt_ (HB.out) GB50.out : Below w.heap.size w w61)); clear HO_306001; clear BK302; clear BK303; clear BK304; clear BK305; clear HB; have HO_306001 := n0_; have BK302 := n1_; have BK303 := n2_; have BK304 := n3_; have BK305 := n4_; have HB := n5_; clear n0_ n1_ n2_ n3_ n4_ n5_; clear hg hw hp_))
               go_roundg k2
               case measure => have := HK1.out; have := HK2.out; omega
               case rel => exact ⟨(wrap64 (Int.tdiv (wrap64 ((wrap64 ((rd x306001_2 (ji44)) + (wrap64 ((rd l0_1 x6_1) * t231)))) + x7_2)) 65536)), (wrap64 (x8_2 + 1)), (y232), (.slice (some ⟨go50, 0, none⟩) x306001_2.length co56), (by first | rfl | (simp; done) | (simp only [← hji44] <;> (first | rfl | simp)) | (simp [*]; done)), (by first | rfl | (simp; done) | (simp [*]; done)), H', ⟨by have := HK1.out; have := HK2.out; omega⟩, ⟨by (with_reducible repeat (first | apply Kd.R_alloc | apply Kd.R_drewN | apply Kd.R_drew)); exact HO_306001.out⟩, ⟨bk_⟩, ⟨bk_⟩, ⟨bk_⟩, ⟨bk_⟩, ⟨bw_⟩⟩
              ·
               rw [if_neg c48] at H
               exact absurd H (by simp)
             ·
              rw [if_neg c47] at H
              exact absurd H (by simp)
            ·
             rw [if_neg c46] at H
             exact absurd H (by simp)
           ·
            rw [if_neg c45] at H
            exact absurd H (by simp)
          ·
           rw [if_neg c43] at H
           have c43b0 : decide (0 < x7_2) = false := decide_eq_false c43
           clear c43
           have H' := A_ H
           clear H
           have hnb62 := NB303_302.out
           have hnc62 := NB302_303.out
           have hnb63 := NB303_304.out
           have hnc63 := NB304_303.out
           have hnb64 := NB303_305.out
           have hnc64 := NB305_303.out
           have hcz65_0 : wr.cell? ⟨gb303, 0, none⟩ = some (.bool a1_0) := (bc_ BK303.out 0).trans rfl
           have hcz65_1 : wr.cell? ⟨gb303, 1, none⟩ = some (.slice A1_1 l1_1.length c1_1) := (bc_ BK303.out 1).trans rfl
           have hfz65_0 := bf_ BK303.out 0
           have hfz65_1 := bf_ BK303.out 1
           go_wp2
           go_roundg k2
           case measure => have := HK1.out; have := HK2.out; omega
           case rel => exact ⟨(wrap64 (x6_1 + 1)), (x306001_2), (u306001), (by first | rfl | (simp; done) | (simp [*]; done)), H', ⟨by have := HK1.out; have := HK2.out; omega⟩, ⟨by (with_reducible repeat (first | apply Kd.R_alloc | apply Kd.R_drewN | apply Kd.R_drew)); exact HO_306001.out⟩, ⟨bk_⟩, ⟨bk_⟩, ⟨bk_⟩, ⟨bk_⟩, ⟨bw_⟩⟩
      ·
       rw [if_neg c19] at H
       have c19b0 : decide (x6_1 < (l0_1.length : Int)) = false := decide_eq_false c19
       clear c19
       replace H := os_ H
       obtain ⟨⟨t221, t222⟩, A660, H⟩ := H
       replace H : (some (t221, t222)) = some (r1, r2) := H
       have A66 := A_ A660
       clear A660
       simp only [Option.some.injEq, Prod.mk.injEq] at H
       obtain ⟨rfl, rfl⟩ := H
       have hnb67 := NB302_303.out
       have hnc67 := NB303_302.out
       have hnb68 := NB302_304.out
       have hnc68 := NB304_302.out
       have hnb69 := NB302_305.out
       have hnc69 := NB305_302.out
       have hcz70_0 : wr.cell? ⟨gb302, 0, none⟩ = some (.bool a0_0) := (bc_ BK302.out 0).trans rfl
       have hcz70_1 : wr.cell? ⟨gb302, 1, none⟩ = some (.slice A0_1 l0_1.length c0_1) := (bc_ BK302.out 1).trans rfl
       have hfz70_0 := bf_ BK302.out 0
       have hfz70_1 := bf_ BK302.out 1
       have hnb71 := NB305_303.out
       have hnc71 := NB303_305.out
       have hnb72 := NB305_304.out
       have hnc72 := NB304_305.out
       have hcz73_0 : wr.cell? ⟨gb305, 0, none⟩ = some (.bool true) := (bc_ BK305.out 0).trans rfl
       have hcz73_1 : wr.cell? ⟨gb305, 1, none⟩ = some (u306001) := (bc_ BK305.out 1).trans rfl
       have hfz73_0 := bf_ BK305.out 0
       have hfz73_1 := bf_ BK305.out 1
       obtain ⟨Ao74, co74, eo74⟩ := Kd.R_slice HO_306001.out
       subst eo74
       go_wp2_with (((with_reducible refine gate_callee (f := 47) rfl ?_); refine goesL_ (some 74) rfl rfl Try.func47 (by kernel_rfl) rfl #[.agg #[.bool true, .slice Ao74 x306001_1.length co74]] rfl (by (try simp only [List.map_toArray, List.map_cons, List.map_nil]); first | done | rfl | (simp only [List.length_drop, List.length_take]; rfl)) ?_; (with_reducible refine (clevisref01_clean.calls k1 true (fun k_ => some k_ = (.slice Ao74 x306001_1.length co74 : Value).ownBlock) _ _ x306001_1 t221 t222 _ ?side1 A66.out).mono ?_); (case side1 => exact Kd.R_V (Kd.R_tight rfl (Kd.R_types (Kd.R_types (Kd.R_types (Kd.R_types (HO_306001.out) BK302.out (by decide)) BK303.out (by decide)) BK304.out (by decide)) BK305.out (by decide)))); rintro e w75 ⟨v223, rfl, ho0, hb⟩; refine ⟨_, rfl, ?_⟩; have n0_ := A_ (Kd.R_below (by (with_reducible repeat (first | apply Kd.R_alloc | apply Kd.R_drewN | apply Kd.R_drew)); exact HO_306001.out) hb); have n1_ := A_ (Kd.V_lower (vm_ (ok' := fun k_ => (w.heap.size ≤ k_) ∧ k_ ≠ gb302 ∧ k_ ≠ gb303 ∧ k_ ≠ gb304 ∧ k_ ≠ gb305) ho0 (fun k_ hk_ => ⟨Or.elim hk_ (fun hs_ => ((Kd.R_types (Kd.R_types (Kd.R_types (Kd.R_types (HO_306001.out) BK302.out (by decide)) BK303.out (by decide)) BK304.out (by decide)) BK305.out (by decide)).1 k_ hs_.symm).1.1.1.1) (fun hn_ => (Nat.le_trans (bz_ bw_) hn_)), Or.elim hk_ (fun hs_ => ((Kd.R_types (Kd.R_types (Kd.R_types (Kd.R_types (HO_306001.out) BK302.out (by decide)) BK303.out (by decide)) BK304.out (by decide)) BK305.out (by decide)).1 k_ hs_.symm).1.1.1.2) (fun hn_ => (Kd.freshB (g := gb302) (o := .cells #[.bool a0_0, .slice A0_1 l0_1.length c0_1] 32 (0, 0)) bk_ k_ hn_)), Or.elim hk_ (fun hs_ => ((Kd.R_types (Kd.R_types (Kd.R_types (Kd.R_types (HO_306001.out) BK302.out (by decide)) BK303.out (by decide)) BK304.out (by decide)) BK305.out (by decide)).1 k_ hs_.symm).1.1.2) (fun hn_ => (Kd.freshB (g := gb303) (o := .cells #[.bool a1_0, .slice A1_1 l1_1.length c1_1] 32 (0, 0)) bk_ k_ hn_)), Or.elim hk_ (fun hs_ => ((Kd.R_types (Kd.R_types (Kd.R_types (Kd.R_types (HO_306001.out) BK302.out (by decide)) BK303.out (by decide)) BK304.out (by decide)) BK305.out (by decide)).1 k_ hs_.symm).1.2) (fun hn_ => (Kd.freshB (g := gb304) (o := .cells #[.bool false, .slice none 0 0] 32 (0, 0)) bk_ k_ hn_)), Or.elim hk_ (fun hs_ => ((Kd.R_types (Kd.R_types (Kd.R_types (Kd.R_types (HO_306001.out) BK302.out (by decide)) BK303.out (by decide)) BK304.out (by decide)) BK305.out (by decide)).1 k_ hs_.symm).2) (fun hn_ => (Kd.freshB (g := gb305) (o := .cells #[.bool true, .slice Ao74 x306001_1.length co74] 32 (0, 0)) bk_ k_ hn_))⟩)) (bz_ bw_)); have n2_ := A_ (kb_ BK302 hb); have n3_ := A_ (kb_ BK303 hb); have n4_ := A_ (kb_ BK304 hb); have n5_ := A_ (kb_ BK305 hb); have n6_ := A_ (bs_ bw_ hb); clear HO_306001; clear BK302; clear BK303; clear BK304; clear BK305; clear HB; have HO_306001 := n0_; have HO224 := n1_; have BK302 := n2_; have BK303 := n3_; have BK304 := n4_; have BK305 := n5_; have HB := n6_; clear n0_ n1_ n2_ n3_ n4_ n5_ n6_; (try clear hb); (try clear hb2); (try clear hk); (try clear hi); (try clear ho0); have hnb76 := NB304_303.out; have hnc76 := NB303_304.out; have hcz77_0 : w75.cell? ⟨gb304, 0, none⟩ = some (.bool false) := (bc_ BK304.out 0).trans rfl; have hcz77_1 : w75.cell? ⟨gb304, 1, none⟩ = some (.slice none 0 0) := (bc_ BK304.out 1).trans rfl; have hfz77_0 := bf_ BK304.out 0; have hfz77_1 := bf_ BK304.out 1; obtain ⟨Ao78, co78, eo78⟩ := Kd.V_slice HO224.out; subst eo78))
       refine bodyPost_ret (results_cell_row rfl _ _ gb304 32 #[.bool t221, .slice Ao78 t222.length co78] (0, 0) _ rfl (by (with_reducible repeat (first | refine bn_ ?_ _ | refine bd_ ?_ | refine ba_ ?_ _)); refine bp_ (cs := #[.bool t221, .slice none 0 0]) ?_ 1 _ rfl; (with_reducible repeat (first | refine bn_ ?_ _ | refine bd_ ?_ | refine ba_ ?_ _)); refine bp_ (cs := #[.bool false, .slice none 0 0]) ?_ 0 _ rfl; (with_reducible repeat (first | refine bn_ ?_ _ | refine bd_ ?_ | refine ba_ ?_ _)); exact BK304.out) Try.underlying32 rfl (by kernel_rfl)) rfl ?_
       exact ⟨_, by first | rfl | (simp [errW_none, errW_some] <;> rfl) | (simp only [← hji3]; first | rfl | (simp [errW_none, errW_some] <;> rfl)) | (simp [*, errW_none, errW_some] <;> rfl), by (with_reducible repeat (first | apply va_ | apply vn_ | apply vd_)); exact vm_ (Kd.V_far (p := ⟨gb304, 1, none⟩) (Kd.V_far (p := ⟨gb304, 0, none⟩) (vm_ HO224.out (fun k_ hk => (⟨hk, hk.2.2.2.1⟩ : _ ∧ k_ ≠ gb304))) (fun _ hk => hk.2) (.bool t221)) (fun _ hk => hk.2) (.slice Ao78 t222.length co78)) (fun _ hk => hk.1.1), bw_⟩
   ·
    rw [if_neg c6] at H
    have c6b0 : (a0_0 != a1_0) = false := by simpa using c6
    (try (have c6b1 : decide (a0_0 = a1_0) = true := by simpa using c6))
    (try (have c6b2 : (a0_0 == a1_0) = true := by simpa using c6))
    clear c6
    have H' := A_ H
    clear H
    go_enter Try.func26, Try.ntmps26
    try go_wp2_with (first | ((with_reducible refine gate_dst (N := 2) rfl ?_); refine box_event ?hg (N := 2) ?hd (cs := #[.bool a0_0, .slice A0_1 l0_1.length c0_1]) (t := 32) ?hr ?_; (case hd => rfl); (case hg => rfl); (case hr => first | (go_simp; done) | (go_simp; rfl)); intro gb302 hg w79 hbox hb; have n0_ := A_ (bs_ bw_ hb); have n1_ := A_ (hbox); have n2_ := A_ ((by rw [hg]; exact (bz_ bw_) : w.heap.size ≤ gb302)); have n3_ := A_ ((by rw [hg]; exact (bz_ bw_) : w.heap.size ≤ gb302)); clear HB; have HB := n0_; have BK302 := n1_; have GW302 := n2_; have GE302 := n3_; clear n0_ n1_ n2_ n3_; clear hb hbox hg) | ((with_reducible refine gate_dst (N := 3) rfl ?_); refine box_event ?hg (N := 3) ?hd (cs := #[.bool a1_0, .slice A1_1 l1_1.length c1_1]) (t := 32) ?hr ?_; (case hd => rfl); (case hg => rfl); (case hr => first | (go_simp; done) | (go_simp; rfl)); intro gb303 hg w80 hbox hb; have n0_ := A_ (kb_ BK302 hb); have n1_ := A_ (bs_ bw_ hb); have n2_ := A_ (hbox); have n3_ := A_ ((by rw [hg]; exact (bz_ bw_) : w.heap.size ≤ gb303)); have n4_ := A_ ((by rw [hg]; exact (bz_ bw_) : w.heap.size ≤ gb303)); have n5_ := A_ ((by rw [hg]; exact nl_ (lt_ BK302) : gb302 ≠ gb303)); have n6_ := A_ ((by rw [hg]; exact ng_ (lt_ BK302) : gb303 ≠ gb302)); clear BK302; clear HB; have BK302 := n0_; have HB := n1_; have BK303 := n2_; have GW303 := n3_; have GE303 := n4_; have NB302_303 := n5_; have NB303_302 := n6_; clear n0_ n1_ n2_ n3_ n4_ n5_ n6_; clear hb hbox hg) | ((with_reducible refine gate_dst (N := 4) rfl ?_); refine box_event ?hg (N := 4) ?hd (cs := #[.bool false, .slice none 0 0]) (t := 32) ?hr ?_; (case hd => rfl); (case hg => rfl); (case hr => first | (go_simp; done) | (go_simp; rfl)); intro gb304 hg w81 hbox hb; have n0_ := A_ (kb_ BK302 hb); have n1_ := A_ (kb_ BK303 hb); have n2_ := A_ (bs_ bw_ hb); have n3_ := A_ (hbox); have n4_ := A_ ((by rw [hg]; exact (bz_ bw_) : w.heap.size ≤ gb304)); have n5_ := A_ ((by rw [hg]; exact (bz_ bw_) : w.heap.size ≤ gb304)); have n6_ := A_ ((by rw [hg]; exact nl_ (lt_ BK302) : gb302 ≠ gb304)); have n7_ := A_ ((by rw [hg]; exact ng_ (lt_ BK302) : gb304 ≠ gb302)); have n8_ := A_ ((by rw [hg]; exact nl_ (lt_ BK303) : gb303 ≠ gb304)); have n9_ := A_ ((by rw [hg]; exact ng_ (lt_ BK303) : gb304 ≠ gb303)); clear BK302; clear BK303; clear HB; have BK302 := n0_; have BK303 := n1_; have HB := n2_; have BK304 := n3_; have GW304 := n4_; have GE304 := n5_; have NB302_304 := n6_; have NB304_302 := n7_; have NB303_304 := n8_; have NB304_303 := n9_; clear n0_ n1_ n2_ n3_ n4_ n5_ n6_ n7_ n8_ n9_; clear hb hbox hg))
    have n0_ := A_ (bd_ BK302.out)
    have n1_ := A_ (bd_ BK303.out)
    have n2_ := A_ (bd_ BK304.out)
    have n3_ := A_ (b1_ HB.out)
    clear BK302
    clear BK303
    clear BK304
    clear HB
    have BK302 := n0_
    have BK303 := n1_
    have BK304 := n2_
    have HB := n3_
    clear n0_ n1_ n2_ n3_
    refine start_ (n := 17) (S := fun w' => w'.cell? ⟨gb302, 0, none⟩ = some (.bool a0_0) ∧ w'.cell? ⟨gb302, 1, none⟩ = some (.slice A0_1 l0_1.length c0_1) ∧ w'.cell? ⟨gb303, 0, none⟩ = some (.bool a1_0) ∧ w'.cell? ⟨gb303, 1, none⟩ = some (.slice A1_1 l1_1.length c1_1)) (ds := []) #[false, false, false, false, false, false, false, false, false, false, false, false, false, false, false, false, false] (by kernel_rfl) rfl rfl ⟨(bc_ BK302.out 0).trans rfl, (bc_ BK302.out 1).trans rfl, (bc_ BK303.out 0).trans rfl, (bc_ BK303.out 1).trans rfl⟩ (fun hHeld => ?_); refine with_tabW clevisref01_Mul.tab1 clevisref01_Mul.bits1 (fun HT_ HW_ => ?_)
    generalize w81.drew = w82 at BK302 BK303 BK304 HB hHeld ⊢
    refine pure_ (i := 0) (N := some 10) (v := ?_) (a' := ?_) #[true, false, false, false, false, false, false, false, false, false, false, false, false, false, false, false, false] rfl rfl (any_of HT_.out (by kernel_rfl)) (fun _ _ _ h => h) (Or.inl ⟨by rfl, ?_⟩) ?_ ?_
    rotate_left
    ·
     intro w'
     go_simp
     with_reducible rfl
    rotate_left
    ·
     simp only [Act.put, sA_, sZ_, sS_, i64_w, i32_w]
     rfl
    refine pure_ (i := 2) (N := some 12) (v := ?_) (a' := ?_) #[true, false, true, false, false, false, false, false, false, false, false, false, false, false, false, false, false] rfl rfl (any_of HT_.out (by kernel_rfl)) (fun _ _ _ h => h) (Or.inl ⟨by rfl, ?_⟩) ?_ ?_
    rotate_left
    ·
     intro w'
     go_simp
     with_reducible rfl
    rotate_left
    ·
     simp only [Act.put, sA_, sZ_, sS_, i64_w, i32_w]
     rfl
    refine pure_ (i := 5) (N := some 15) (v := ?_) (a' := ?_) #[true, false, true, false, false, true, false, false, false, false, false, false, false, false, false, false, false] rfl rfl (any_of HT_.out (by kernel_rfl)) (fun _ _ _ h => h) (Or.inl ⟨by rfl, ?_⟩) ?_ ?_
    rotate_left
    ·
     intro w'
     go_simp
     with_reducible rfl
    rotate_left
    ·
     simp only [Act.put, sA_, sZ_, sS_, i64_w, i32_w]
     rfl
    refine pure_ (i := 8) (N := some 18) (v := ?_) (a' := ?_) #[true, false, true, false, false, true, false, false, true, false, false, false, false, false, false, false, false] rfl rfl (any_of HT_.out (by kernel_rfl)) (fun _ _ _ h => h) (Or.inl ⟨by rfl, ?_⟩) ?_ ?_
    rotate_left
    ·
     intro w'
     go_simp
     with_reducible rfl
    rotate_left
    ·
     simp only [Act.put, sA_, sZ_, sS_, i64_w, i32_w]
     rfl
    refine take_ (i := 1) (N := some 11) (v := ?_) (a' := ?_) #[true, true, true, false, false, true, false, false, true, false, false, false, false, false, false, false, false] rfl rfl (take_ofW HT_.out HW_.out (by kernel_rfl)) (fun _ _ _ h => h) (Or.inl ⟨by rfl, ?_⟩) hHeld ?_ ?_
    rotate_left
    ·
     rintro w' ⟨s0, s1, s2, s3⟩
     go_simp
     with_reducible rfl
    rotate_left
    ·
     simp only [Act.put, sA_, sZ_, sS_, i64_w, i32_w]
     rfl
    refine take_ (i := 3) (N := some 13) (v := ?_) (a' := ?_) #[true, true, true, true, false, true, false, false, true, false, false, false, false, false, false, false, false] rfl rfl (take_ofW HT_.out HW_.out (by kernel_rfl)) (fun _ _ _ h => h) (Or.inl ⟨by rfl, ?_⟩) hHeld ?_ ?_
    rotate_left
    ·
     rintro w' ⟨s0, s1, s2, s3⟩
     go_simp
     with_reducible rfl
    rotate_left
    ·
     simp only [Act.put, sA_, sZ_, sS_, i64_w, i32_w]
     rfl
    refine pure_ (i := 4) (N := some 14) (v := ?_) (a' := ?_) #[true, true, true, true, true, true, false, false, true, false, false, false, false, false, false, false, false] rfl rfl (any_of HT_.out (by kernel_rfl)) (fun _ _ _ h => h) (Or.inl ⟨by rfl, ?_⟩) ?_ ?_
    rotate_left
    ·
     intro w'
     go_simp
     with_reducible rfl
    rotate_left
    ·
     simp only [Act.put, sA_, sZ_, sS_, i64_w, i32_w]
     rfl
    refine take_ (i := 6) (N := some 16) (v := ?_) (a' := ?_) #[true, true, true, true, true, true, true, false, true, false, false, false, false, false, false, false, false] rfl rfl (take_ofW HT_.out HW_.out (by kernel_rfl)) (fun _ _ _ h => h) (Or.inl ⟨by rfl, ?_⟩) hHeld ?_ ?_
    rotate_left
    ·
     rintro w' ⟨s0, s1, s2, s3⟩
     go_simp
     with_reducible rfl
    rotate_left
    ·
     simp only [Act.put, sA_, sZ_, sS_, i64_w, i32_w]
     rfl
    refine pure_ (i := 7) (N := some 17) (v := ?_) (a' := ?_) #[true, true, true, true, true, true, true, true, true, false, false, false, false, false, false, false, false] rfl rfl (any_of HT_.out (by kernel_rfl)) (fun _ _ _ h => h) (Or.inl ⟨by rfl, ?_⟩) ?_ ?_
    rotate_left
    ·
     intro w'
     go_simp
     with_reducible rfl
    rotate_left
    ·
     simp only [Act.put, sA_, sZ_, sS_, i64_w, i32_w]
     rfl
    refine take_ (i := 9) (N := some 19) (v := ?_) (a' := ?_) #[true, true, true, true, true, true, true, true, true, true, false, false, false, false, false, false, false] rfl rfl (take_ofW HT_.out HW_.out (by kernel_rfl)) (fun _ _ _ h => h) (Or.inl ⟨by rfl, ?_⟩) hHeld ?_ ?_
    rotate_left
    ·
     rintro w' ⟨s0, s1, s2, s3⟩
     go_simp
     with_reducible rfl
    rotate_left
    ·
     simp only [Act.put, sA_, sZ_, sS_, i64_w, i32_w]
     rfl
    refine pure_ (i := 10) (N := some 20) (v := ?_) (a' := ?_) #[true, true, true, true, true, true, true, true, true, true, true, false, false, false, false, false, false] rfl rfl (any_of HT_.out (by kernel_rfl)) (fun _ _ _ h => h) (Or.inl ⟨by rfl, ?_⟩) ?_ ?_
    rotate_left
    ·
     intro w'
     go_simp
     with_reducible rfl
    rotate_left
    ·
     simp only [Act.put, sA_, sZ_, sS_, i64_w, i32_w]
     rfl
    refine pure_ (i := 11) (N := some 21) (v := ?_) (a' := ?_) #[true, true, true, true, true, true, true, true, true, true, true, true, false, false, false, false, false] rfl rfl (any_of HT_.out (by kernel_rfl)) (fun _ _ _ h => h) (Or.inl ⟨by rfl, ?_⟩) ?_ ?_
    rotate_left
    ·
     intro w'
     go_simp
     with_reducible rfl
    rotate_left
    ·
     simp only [Act.put, sA_, sZ_, sS_, i64_w, i32_w]
     rfl
    refine pure_ (i := 12) (N := some 22) (v := ?_) (a' := ?_) #[true, true, true, true, true, true, true, true, true, true, true, true, true, false, false, false, false] rfl rfl (any_of HT_.out (by kernel_rfl)) (fun _ _ _ h => h) (Or.inl ⟨by rfl, ?_⟩) ?_ ?_
    rotate_left
    ·
     intro w'
     go_simp
     with_reducible rfl
    rotate_left
    ·
     simp only [Act.put, sA_, sZ_, sS_, i64_w, i32_w]
     rfl
    refine join_ (σ := Value × Nat) 1 #[true, true, true, true, true, true, true, true, true, true, true, true, true, true, true, true, false] (fun s_ => [(23, s_.1), (5, .pointer (some ⟨s_.2, 0, none⟩)), (24, .agg #[.bool false, s_.1])]) (fun s_ w' => (w'.cell? ⟨gb302, 0, none⟩ = some (.bool a0_0) ∧ w'.cell? ⟨gb302, 1, none⟩ = some (.slice A0_1 l0_1.length c0_1) ∧ w'.cell? ⟨gb303, 0, none⟩ = some (.bool a1_0) ∧ w'.cell? ⟨gb303, 1, none⟩ = some (.slice A1_1 l1_1.length c1_1)) ∧ (Kd.R (Kd.int .i64) 3 w' w.heap.size (fun k_ => (w.heap.size ≤ k_)) s_.1 y218) ∧ (w'.heap[gb302]? = some (.cells #[.bool a0_0, .slice A0_1 l0_1.length c0_1] 32 (0, 0))) ∧ (w'.heap[gb303]? = some (.cells #[.bool a1_0, .slice A1_1 l1_1.length c1_1] 32 (0, 0))) ∧ (w'.heap[gb304]? = some (.cells #[.bool false, .slice none 0 0] 32 (0, 0))) ∧ (w'.heap[s_.2]? = some (.cells #[.bool false, .slice none 0 0] 32 (0, 0))) ∧ (w.heap.size ≤ s_.2) ∧ (w.heap.size ≤ s_.2) ∧ (gb302 ≠ s_.2) ∧ (s_.2 ≠ gb302) ∧ (gb303 ≠ s_.2) ∧ (s_.2 ≠ gb303) ∧ (gb304 ≠ s_.2) ∧ (s_.2 ≠ gb304) ∧ (Below w.heap.size w w')) ?_ ?_
    rotate_left
    ·
     intro hCont
     refine two_ (i := 13) (j := 15) (Ni := some 23) (Nj := some 5) #[true, true, true, true, true, true, true, true, true, true, true, true, true, true, false, false, false] #[true, true, true, true, true, true, true, true, true, true, true, true, true, false, false, true, false] rfl rfl rfl rfl (two_of HT_.out (by kernel_rfl)) (by decide) (by decide) (fun K hK => ?_) (fun K hK => ?_)
     ·
      skip
      refine Kd.R_make_step (Kd.int .i64) _ 3 (by rfl) (N := 23) rfl 30 _ _ rfl ji3 rfl rfl Try.underlying30 (.int .i64 0) 8 info3 rfl (by decide) (by omega) 0 (ok := fun _ => True) (okp := fun _ => True) rfl (fun _ hk => hk) trivial (od_ (by first | (with_reducible assumption) | assumption)) (Nat.le_trans (Nat.mul_le_mul_right _ (od_ (by first | (with_reducible assumption) | assumption) : ji3.toNat ≤ 35184372088832)) (by omega)) (Below.refl _ _) (Nat.le_refl _) ?_
      intro v219 w83 ho84 hb hg_ hnew_
      clear hg_ hnew_
      (first | rw [← Ny218.out] at ho84 | (simp only [Int.reduceToNat] at ho84; rw [← Ny218.out] at ho84))
      have n0_ := A_ (Kd.R_lower (Kd.R_newM (M := fun k_ => (w.heap.size ≤ k_)) ho84 (bz_ bw_) (fun k_ h_ => h_)) (bz_ bw_))
      have n1_ := A_ (kb_ BK302 hb)
      have n2_ := A_ (kb_ BK303 hb)
      have n3_ := A_ (kb_ BK304 hb)
      have n4_ := A_ (bs_ bw_ hb)
      clear BK302
      clear BK303
      clear BK304
      clear HB
      have HO220 := n0_
      have BK302 := n1_
      have BK303 := n2_
      have BK304 := n3_
      have HB := n4_
      clear n0_ n1_ n2_ n3_ n4_
      clear hb ho84
      obtain ⟨Ao85, co85, eo85⟩ := Kd.R_slice HO220.out
      (first | subst eo85 | (injection eo85 with f1_ f2_ f3_; have f4_ := f1_.symm; have f5_ := f3_.symm; clear f1_ f2_ f3_; subst f4_; subst f5_))
      refine hK.out _ _ ⟨(bc_ BK302.out 0).trans rfl, (bc_ BK302.out 1).trans rfl, (bc_ BK303.out 0).trans rfl, (bc_ BK303.out 1).trans rfl⟩ (fun hHeld => ?_)
      clear hK K
      refine norm_ (a' := ?_) ?_ ?_
      rotate_left
      ·
       show Act.put _ (some 23) _ = _
       simp only [Act.put, sA_, sZ_, sS_, i64_w, i32_w]
       rfl
      refine pure_ (i := 14) (N := some 24) (v := ?_) (a' := ?_) #[true, true, true, true, true, true, true, true, true, true, true, true, true, true, true, false, false] rfl rfl (any_of HT_.out (by kernel_rfl)) (fun _ _ _ h => h) (Or.inl ⟨by rfl, ?_⟩) ?_ ?_
      rotate_left
      ·
       intro w'
       go_simp
       with_reducible rfl
      rotate_left
      ·
       simp only [Act.put, sA_, sZ_, sS_, i64_w, i32_w]
       rfl
      refine one_ (i := 15) (N := some 5) #[true, true, true, true, true, true, true, true, true, true, true, true, true, true, true, true, false] rfl rfl (one_of HT_.out (by kernel_rfl)) (by decide) (fun K hK => ?_)
      refine box_step ?hg (N := 5) ?hd (cs := #[.bool false, .slice none 0 0]) (t := 32) ?hr ?_; (case hd => rfl); (case hg => rfl); (case hr => first | (go_simp; done) | (go_simp; rfl))
      intro gb305 hg w86 hbox hb
      have n0_ := A_ (Kd.R_below (by (with_reducible repeat (first | apply Kd.R_alloc | apply Kd.R_drewN | apply Kd.R_drew)); exact HO220.out) hb)
      have n1_ := A_ (kb_ BK302 hb)
      have n2_ := A_ (kb_ BK303 hb)
      have n3_ := A_ (kb_ BK304 hb)
      have n4_ := A_ (bs_ bw_ hb)
      have n5_ := A_ (hbox)
      have n6_ := A_ ((by rw [hg]; exact (bz_ bw_) : w.heap.size ≤ gb305))
      have n7_ := A_ ((by rw [hg]; exact (bz_ bw_) : w.heap.size ≤ gb305))
      have n8_ := A_ ((by rw [hg]; exact nl_ (lt_ BK302) : gb302 ≠ gb305))
      have n9_ := A_ ((by rw [hg]; exact ng_ (lt_ BK302) : gb305 ≠ gb302))
      have n10_ := A_ ((by rw [hg]; exact nl_ (lt_ BK303) : gb303 ≠ gb305))
      have n11_ := A_ ((by rw [hg]; exact ng_ (lt_ BK303) : gb305 ≠ gb303))
      have n12_ := A_ ((by rw [hg]; exact nl_ (lt_ BK304) : gb304 ≠ gb305))
      have n13_ := A_ ((by rw [hg]; exact ng_ (lt_ BK304) : gb305 ≠ gb304))
      clear HO220
      clear BK302
      clear BK303
      clear BK304
      clear HB
      have HO220 := n0_
      have BK302 := n1_
      have BK303 := n2_
      have BK304 := n3_
      have HB := n4_
      have BK305 := n5_
      have GW305 := n6_
      have GE305 := n7_
      have NB302_305 := n8_
      have NB305_302 := n9_
      have NB303_305 := n10_
      have NB305_303 := n11_
      have NB304_305 := n12_
      have NB305_304 := n13_
      clear n0_ n1_ n2_ n3_ n4_ n5_ n6_ n7_ n8_ n9_ n10_ n11_ n12_ n13_
      clear hb hbox hg
      refine hK.out _ _ ⟨(bc_ BK302.out 0).trans rfl, (bc_ BK302.out 1).trans rfl, (bc_ BK303.out 0).trans rfl, (bc_ BK303.out 1).trans rfl⟩ (fun hHeld => ?_)
      clear hK K
      refine norm_ (a' := ?_) ?_ ?_
      rotate_left
      ·
       show Act.put _ (some 5) _ = _
       simp only [Act.put, sA_, sZ_, sS_, i64_w, i32_w]
       rfl
      exact norm_ (by simp only [putAll, Act.put, sA_, sZ_, sS_]) (hCont (.slice Ao85 y218.length co85, gb305) _ ⟨hHeld, (by (with_reducible repeat (first | apply Kd.R_alloc | apply Kd.R_drewN | apply Kd.R_drew)); exact Kd.R_mono HO220.out (fun _ hk => hk.1)), bk_, bk_, bk_, bk_, GW305.out, GE305.out, NB302_305.out, NB305_302.out, NB303_305.out, NB305_303.out, NB304_305.out, NB305_304.out, bw_⟩)
     ·
      skip
      refine box_step ?hg (N := 5) ?hd (cs := #[.bool false, .slice none 0 0]) (t := 32) ?hr ?_; (case hd => rfl); (case hg => rfl); (case hr => first | (go_simp; done) | (go_simp; rfl))
      intro gb305 hg w83 hbox hb
      have n0_ := A_ (kb_ BK302 hb)
      have n1_ := A_ (kb_ BK303 hb)
      have n2_ := A_ (kb_ BK304 hb)
      have n3_ := A_ (bs_ bw_ hb)
      have n4_ := A_ (hbox)
      have n5_ := A_ ((by rw [hg]; exact (bz_ bw_) : w.heap.size ≤ gb305))
      have n6_ := A_ ((by rw [hg]; exact (bz_ bw_) : w.heap.size ≤ gb305))
      have n7_ := A_ ((by rw [hg]; exact nl_ (lt_ BK302) : gb302 ≠ gb305))
      have n8_ := A_ ((by rw [hg]; exact ng_ (lt_ BK302) : gb305 ≠ gb302))
      have n9_ := A_ ((by rw [hg]; exact nl_ (lt_ BK303) : gb303 ≠ gb305))
      have n10_ := A_ ((by rw [hg]; exact ng_ (lt_ BK303) : gb305 ≠ gb303))
      have n11_ := A_ ((by rw [hg]; exact nl_ (lt_ BK304) : gb304 ≠ gb305))
      have n12_ := A_ ((by rw [hg]; exact ng_ (lt_ BK304) : gb305 ≠ gb304))
      clear BK302
      clear BK303
      clear BK304
      clear HB
      have BK302 := n0_
      have BK303 := n1_
      have BK304 := n2_
      have HB := n3_
      have BK305 := n4_
      have GW305 := n5_
      have GE305 := n6_
      have NB302_305 := n7_
      have NB305_302 := n8_
      have NB303_305 := n9_
      have NB305_303 := n10_
      have NB304_305 := n11_
      have NB305_304 := n12_
      clear n0_ n1_ n2_ n3_ n4_ n5_ n6_ n7_ n8_ n9_ n10_ n11_ n12_
      clear hb hbox hg
      refine hK.out _ _ ⟨(bc_ BK302.out 0).trans rfl, (bc_ BK302.out 1).trans rfl, (bc_ BK303.out 0).trans rfl, (bc_ BK303.out 1).trans rfl⟩ (fun hHeld => ?_)
      clear hK K
      refine norm_ (a' := ?_) ?_ ?_
      rotate_left
      ·
       show Act.put _ (some 5) _ = _
       simp only [Act.put, sA_, sZ_, sS_, i64_w, i32_w]
       rfl
      refine one_ (i := 13) (N := some 23) #[true, true, true, true, true, true, true, true, true, true, true, true, true, true, false, true, false] rfl rfl (one_of HT_.out (by kernel_rfl)) (by decide) (fun K hK => ?_)
      refine Kd.R_make_step (Kd.int .i64) _ 3 (by rfl) (N := 23) rfl 30 _ _ rfl ji3 rfl rfl Try.underlying30 (.int .i64 0) 8 info3 rfl (by decide) (by omega) 0 (ok := fun _ => True) (okp := fun _ => True) rfl (fun _ hk => hk) trivial (od_ (by first | (with_reducible assumption) | assumption)) (Nat.le_trans (Nat.mul_le_mul_right _ (od_ (by first | (with_reducible assumption) | assumption) : ji3.toNat ≤ 35184372088832)) (by omega)) (Below.refl _ _) (Nat.le_refl _) ?_
      intro v219 w84 ho85 hb hg_ hnew_
      clear hg_ hnew_
      (first | rw [← Ny218.out] at ho85 | (simp only [Int.reduceToNat] at ho85; rw [← Ny218.out] at ho85))
      have n0_ := A_ (Kd.R_lower (Kd.R_newM (M := fun k_ => (w.heap.size ≤ k_)) ho85 (bz_ bw_) (fun k_ h_ => h_)) (bz_ bw_))
      have n1_ := A_ (kb_ BK302 hb)
      have n2_ := A_ (kb_ BK303 hb)
      have n3_ := A_ (kb_ BK304 hb)
      have n4_ := A_ (kb_ BK305 hb)
      have n5_ := A_ (bs_ bw_ hb)
      clear BK302
      clear BK303
      clear BK304
      clear BK305
      clear HB
      have HO220 := n0_
      have BK302 := n1_
      have BK303 := n2_
      have BK304 := n3_
      have BK305 := n4_
      have HB := n5_
      clear n0_ n1_ n2_ n3_ n4_ n5_
      clear hb ho85
      obtain ⟨Ao86, co86, eo86⟩ := Kd.R_slice HO220.out
      (first | subst eo86 | (injection eo86 with f1_ f2_ f3_; have f4_ := f1_.symm; have f5_ := f3_.symm; clear f1_ f2_ f3_; subst f4_; subst f5_))
      refine hK.out _ _ ⟨(bc_ BK302.out 0).trans rfl, (bc_ BK302.out 1).trans rfl, (bc_ BK303.out 0).trans rfl, (bc_ BK303.out 1).trans rfl⟩ (fun hHeld => ?_)
      clear hK K
      refine norm_ (a' := ?_) ?_ ?_
      rotate_left
      ·
       show Act.put _ (some 23) _ = _
       simp only [Act.put, sA_, sZ_, sS_, i64_w, i32_w]
       rfl
      refine pure_ (i := 14) (N := some 24) (v := ?_) (a' := ?_) #[true, true, true, true, true, true, true, true, true, true, true, true, true, true, true, true, false] rfl rfl (any_of HT_.out (by kernel_rfl)) (fun _ _ _ h => h) (Or.inl ⟨by rfl, ?_⟩) ?_ ?_
      rotate_left
      ·
       intro w'
       go_simp
       with_reducible rfl
      rotate_left
      ·
       simp only [Act.put, sA_, sZ_, sS_, i64_w, i32_w]
       rfl
      exact norm_ (by simp only [putAll, Act.put, sA_, sZ_, sS_]) (hCont (.slice Ao86 y218.length co86, gb305) _ ⟨hHeld, (by (with_reducible repeat (first | apply Kd.R_alloc | apply Kd.R_drewN | apply Kd.R_drew)); exact Kd.R_mono HO220.out (fun _ hk => hk.1)), bk_, bk_, bk_, bk_, GW305.out, GE305.out, NB302_305.out, NB305_302.out, NB303_305.out, NB305_303.out, NB304_305.out, NB305_304.out, bw_⟩)
    rintro ⟨v219, gb305⟩ w87 ⟨hS_, h0_, h1_, h2_, h3_, h4_, h5_, h6_, h7_, h8_, h9_, h10_, h11_, h12_, h13_⟩
    have n0_ : Aside0 (Kd.R (Kd.int .i64) 3 w87 w.heap.size (fun k_ => (w.heap.size ≤ k_)) v219 y218) := ⟨h0_⟩
    have n1_ : Aside0 (w87.heap[gb302]? = some (.cells #[.bool a0_0, .slice A0_1 l0_1.length c0_1] 32 (0, 0))) := ⟨h1_⟩
    have n2_ : Aside0 (w87.heap[gb303]? = some (.cells #[.bool a1_0, .slice A1_1 l1_1.length c1_1] 32 (0, 0))) := ⟨h2_⟩
    have n3_ : Aside0 (w87.heap[gb304]? = some (.cells #[.bool false, .slice none 0 0] 32 (0, 0))) := ⟨h3_⟩
    have n4_ : Aside0 (w87.heap[gb305]? = some (.cells #[.bool false, .slice none 0 0] 32 (0, 0))) := ⟨h4_⟩
    have n5_ : Aside0 (w.heap.size ≤ gb305) := ⟨h5_⟩
    have n6_ : Aside0 (w.heap.size ≤ gb305) := ⟨h6_⟩
    have n7_ : Aside0 (gb302 ≠ gb305) := ⟨h7_⟩
    have n8_ : Aside0 (gb305 ≠ gb302) := ⟨h8_⟩
    have n9_ : Aside0 (gb303 ≠ gb305) := ⟨h9_⟩
    have n10_ : Aside0 (gb305 ≠ gb303) := ⟨h10_⟩
    have n11_ : Aside0 (gb304 ≠ gb305) := ⟨h11_⟩
    have n12_ : Aside0 (gb305 ≠ gb304) := ⟨h12_⟩
    have n13_ : Aside0 (Below w.heap.size w w87) := ⟨h13_⟩
    clear BK302
    clear BK303
    clear BK304
    clear HB
    clear h0_ h1_ h2_ h3_ h4_ h5_ h6_ h7_ h8_ h9_ h10_ h11_ h12_ h13_
    have HO220 := n0_
    have BK302 := n1_
    have BK303 := n2_
    have BK304 := n3_
    have BK305 := n4_
    have GW305 := n5_
    have GE305 := n6_
    have NB302_305 := n7_
    have NB305_302 := n8_
    have NB303_305 := n9_
    have NB305_303 := n10_
    have NB304_305 := n11_
    have NB305_304 := n12_
    have HB := n13_
    clear n0_ n1_ n2_ n3_ n4_ n5_ n6_ n7_ n8_ n9_ n10_ n11_ n12_ n13_
    have hHeld : w87.cell? ⟨gb302, 0, none⟩ = some (.bool a0_0) ∧ w87.cell? ⟨gb302, 1, none⟩ = some (.slice A0_1 l0_1.length c0_1) ∧ w87.cell? ⟨gb303, 0, none⟩ = some (.bool a1_0) ∧ w87.cell? ⟨gb303, 1, none⟩ = some (.slice A1_1 l1_1.length c1_1) := hS_
    obtain ⟨Ao88, co88, eo88⟩ := Kd.R_slice HO220.out
    (first | subst eo88 | (injection eo88 with f1_ f2_ f3_; have f4_ := f1_.symm; have f5_ := f3_.symm; clear f1_ f2_ f3_; subst f4_; subst f5_))
    refine norm_ (a' := ?_) ?_ ?_
    rotate_left
    ·
     simp only [putAll, Act.put, sA_, sZ_, sS_]
     rfl
    refine one_ (i := 16) (N := none) #[true, true, true, true, true, true, true, true, true, true, true, true, true, true, true, true, true] rfl rfl (one_of HT_.out (by kernel_rfl)) (by decide) (fun K hK => ?_)
    have hs89 : w87.cell? ⟨gb305, 0, none⟩ = some (.bool false) := (bc_ BK305.out 0).trans rfl
    have hfs89 := bf_ BK305.out 0
    have hns89_0 := NB302_305.out
    have hns89_1 := NB303_305.out
    have hns89_2 := NB304_305.out
    have hms89_0 := NB305_302.out
    have hms89_1 := NB305_303.out
    have hms89_2 := NB305_304.out
    have hs90 : w87.cell? ⟨gb305, 1, none⟩ = some (.slice none 0 0) := (bc_ BK305.out 1).trans rfl
    have hfs90 := bf_ BK305.out 1
    have hns90_0 := NB302_305.out
    have hns90_1 := NB303_305.out
    have hns90_2 := NB304_305.out
    have hms90_0 := NB305_302.out
    have hms90_1 := NB305_303.out
    have hms90_2 := NB305_304.out
    refine skip_ (w1 := ?_) (by rfl) rfl ?_ ?_
    rotate_left
    ·
     go_simp
     rfl
    refine hK.out _ _ ⟨((cell_far (p := ⟨gb305, _, none⟩) NB302_305.out _).trans (((cell_far (p := ⟨gb305, _, none⟩) NB302_305.out _).trans (hHeld.1)))), ((cell_far (p := ⟨gb305, _, none⟩) NB302_305.out _).trans (((cell_far (p := ⟨gb305, _, none⟩) NB302_305.out _).trans (hHeld.2.1)))), ((cell_far (p := ⟨gb305, _, none⟩) NB303_305.out _).trans (((cell_far (p := ⟨gb305, _, none⟩) NB303_305.out _).trans (hHeld.2.2.1)))), ((cell_far (p := ⟨gb305, _, none⟩) NB303_305.out _).trans (((cell_far (p := ⟨gb305, _, none⟩) NB303_305.out _).trans (hHeld.2.2.2))))⟩ (fun hHeld => ?_)
    clear hK K
    refine done_ (done_of HT_.out (by kernel_rfl)) ?_
    try go_wp2
    (try simp only [Act.put, sA_, sZ_, sS_])
    go_loopg [6] k (fun kq v6 w' => ∃ (x6_1 : Int) (x306001_1 : List Int) (u306001 : Value), v6 = .int .i64 x6_1 ∧ Aside0 (clevisref01_Mul.l0 kq x6_1 a0_0 l0_1 a1_0 l1_1 false x306001_1 = some (r1, r2)) ∧ Aside0 (kq ≤ k) ∧ Aside0 (Kd.R (Kd.int .i64) 3 w' w.heap.size (fun k_ => (w.heap.size ≤ k_)) u306001 x306001_1) ∧ Aside0 (w'.heap[gb302]? = some (.cells #[.bool a0_0, (.slice A0_1 l0_1.length c0_1)] 32 (0, 0))) ∧ Aside0 (w'.heap[gb303]? = some (.cells #[.bool a1_0, (.slice A1_1 l1_1.length c1_1)] 32 (0, 0))) ∧ Aside0 (w'.heap[gb304]? = some (.cells #[.bool false, (.slice none 0 0)] 32 (0, 0))) ∧ Aside0 (w'.heap[gb305]? = some (.cells #[.bool false, u306001] 32 (0, 0))) ∧ Aside0 (Below w.heap.size w w'))
    case atStart => exact ⟨(0), (y218), (.slice Ao88 y218.length co88), (by first | rfl | (simp; done) | (simp [*]; done)), H', ⟨Nat.le_refl _⟩, ⟨by (with_reducible repeat (first | apply Kd.R_alloc | apply Kd.R_drewN | apply Kd.R_drew)); exact Kd.R_mono (Kd.R_far (p := ⟨gb305, 1, none⟩) (Kd.R_far (p := ⟨gb305, 0, none⟩) (Kd.R_types HO220.out BK305.out (by decide)) (fun _ hk => hk.2) (.bool false)) (fun _ hk => hk.2) (.slice Ao88 y218.length co88)) (fun _ hk => hk.1)⟩, ⟨bk_⟩, ⟨bk_⟩, ⟨bk_⟩, ⟨by (with_reducible repeat (first | refine bn_ ?_ _ | refine bd_ ?_ | refine ba_ ?_ _)); refine bp_ (cs := #[.bool false, .slice none 0 0]) ?_ 1 _ rfl; (with_reducible repeat (first | refine bn_ ?_ _ | refine bd_ ?_ | refine ba_ ?_ _)); refine bp_ (cs := #[.bool false, .slice none 0 0]) ?_ 0 _ rfl; (with_reducible repeat (first | refine bn_ ?_ _ | refine bd_ ?_ | refine ba_ ?_ _)); exact BK305.out⟩, ⟨bw_⟩⟩
    case round =>
     clear H'
     try clear c1
     try clear c2
     try clear p2
     try clear hx2
     try clear c4
     try clear c5
     try clear p5
     try clear q5
     try clear hx5
     try clear hf5
     try clear c6
     try clear c6b0
     try clear c6b1
     try clear c6b2
     try clear p6
     try clear c7
     try clear c19
     try clear c19b0
     try clear hx22
     try clear c26
     try clear c43
     try clear c43b0
     try clear c45
     try clear c46
     try clear c47
     try clear c48
     try clear p50
     try clear q50
     try clear hx50
     try clear hf50
     try clear c54
     try clear c57
     try clear c58
     try clear c62
     try clear c63
     try clear c64
     try clear p64
     try clear c67
     try clear c68
     try clear c69
     try clear c71
     try clear c72
     try clear c76
     try clear hcz59_0
     try clear hcz59_1
     try clear hcz65_0
     try clear hcz65_1
     try clear hcz70_0
     try clear hcz70_1
     try clear hcz73_0
     try clear hcz73_1
     try clear hcz77_0
     try clear hcz77_1
     try clear hfz59_0
     try clear hfz59_1
     try clear hfz65_0
     try clear hfz65_1
     try clear hfz70_0
     try clear hfz70_1
     try clear hfz73_0
     try clear hfz73_1
     try clear hfz77_0
     try clear hfz77_1
     try clear hx229_0
     try clear hx50_0
     try clear p50
     try clear q50
     obtain ⟨x6_1, x306001_1, u306001, rfl, HA, HK1, HO_306001, BK302, BK303, BK304, BK305, HB⟩ := hrel
     cases gk with
     | zero => exact absurd HA.out (by simp [clevisref01_Mul.l0])
     | succ k1 =>
      have H := HA.out
      clear HA
      simp only [clevisref01_Mul.l0] at H
      by_cases c91 : x6_1 < (l0_1.length : Int)
      ·
       rw [if_pos c91] at H
       have c91b0 : decide (x6_1 < (l0_1.length : Int)) = true := decide_eq_true c91
       clear c91
       have H' := A_ H
       clear H
       have hnb92 := NB302_303.out
       have hnc92 := NB303_302.out
       have hnb93 := NB302_304.out
       have hnc93 := NB304_302.out
       have hnb94 := NB302_305.out
       have hnc94 := NB305_302.out
       have hcz95_0 : wr.cell? ⟨gb302, 0, none⟩ = some (.bool a0_0) := (bc_ BK302.out 0).trans rfl
       have hcz95_1 : wr.cell? ⟨gb302, 1, none⟩ = some (.slice A0_1 l0_1.length c0_1) := (bc_ BK302.out 1).trans rfl
       have hfz95_0 := bf_ BK302.out 0
       have hfz95_1 := bf_ BK302.out 1
       go_wp2
       (try simp only [Act.put, sA_, sZ_, sS_])
       go_loopg [7, 8] k1 (fun kq v7 v8 w' => ∃ (x7_2 : Int) (x8_2 : Int) (x306001_2 : List Int) (u306001 : Value), v7 = .int .i64 x7_2 ∧ v8 = .int .i64 x8_2 ∧ Aside0 (clevisref01_Mul.l1 kq x6_1 x7_2 x8_2 a0_0 l0_1 a1_0 l1_1 false x306001_2 = some (r1, r2)) ∧ Aside0 (kq ≤ k1) ∧ Aside0 (Kd.R (Kd.int .i64) 3 w' w.heap.size (fun k_ => (w.heap.size ≤ k_)) u306001 x306001_2) ∧ Aside0 (w'.heap[gb302]? = some (.cells #[.bool a0_0, (.slice A0_1 l0_1.length c0_1)] 32 (0, 0))) ∧ Aside0 (w'.heap[gb303]? = some (.cells #[.bool a1_0, (.slice A1_1 l1_1.length c1_1)] 32 (0, 0))) ∧ Aside0 (w'.heap[gb304]? = some (.cells #[.bool false, (.slice none 0 0)] 32 (0, 0))) ∧ Aside0 (w'.heap[gb305]? = some (.cells #[.bool false, u306001] 32 (0, 0))) ∧ Aside0 (Below w.heap.size w w'))
       case atStart => exact ⟨(0), (0), (x306001_1), (u306001), (by first | rfl | (simp; done) | (simp [*]; done)), (by first | rfl | (simp; done) | (simp [*]; done)), H', ⟨Nat.le_refl _⟩, ⟨by (with_reducible repeat (first | apply Kd.R_alloc | apply Kd.R_drewN | apply Kd.R_drew)); exact HO_306001.out⟩, ⟨bk_⟩, ⟨bk_⟩, ⟨bk_⟩, ⟨bk_⟩, ⟨bw_⟩⟩
       case round =>
        clear H'
        try clear c1
        try clear c2
        try clear p2
        try clear hx2
        try clear c4
        try clear c5
        try clear p5
        try clear q5
        try clear hx5
        try clear hf5
        try clear c6
        try clear c6b0
        try clear c6b1
        try clear c6b2
        try clear p6
        try clear c7
        try clear c9
        try clear c19
        try clear c19b0
        try clear hx22
        try clear c26
        try clear c43
        try clear c43b0
        try clear c45
        try clear c46
        try clear c47
        try clear c48
        try clear p50
        try clear q50
        try clear hx50
        try clear hf50
        try clear c54
        try clear c57
        try clear c58
        try clear c62
        try clear c63
        try clear c64
        try clear p64
        try clear c67
        try clear c68
        try clear c69
        try clear c71
        try clear c72
        try clear c76
        try clear c91
        try clear c91b0
        try clear c92
        try clear c93
        try clear c94
        try clear hcz59_0
        try clear hcz59_1
        try clear hcz65_0
        try clear hcz65_1
        try clear hcz70_0
        try clear hcz70_1
        try clear hcz73_0
        try clear hcz73_1
        try clear hcz77_0
        try clear hcz77_1
        try clear hcz95_0
        try clear hcz95_1
        try clear hfz59_0
        try clear hfz59_1
        try clear hfz65_0
        try clear hfz65_1
        try clear hfz70_0
        try clear hfz70_1
        try clear hfz73_0
        try clear hfz73_1
        try clear hfz77_0
        try clear hfz77_1
        try clear hfz95_0
        try clear hfz95_1
        try clear hx229_0
        try clear hx50_0
        try clear p2
        try clear p5
        try clear p50
        try clear p6
        try clear p64
        try clear q5
        try clear q50
        obtain ⟨x7_2, x8_2, x306001_2, u306001, rfl, rfl, HA, HK2, HO_306001, BK302, BK303, BK304, BK305, HB⟩ := hrel
        cases gk with
        | zero => exact absurd HA.out (by simp [clevisref01_Mul.l1])
        | succ k2 =>
         have H := HA.out
         clear HA
         simp only [clevisref01_Mul.l1] at H
         by_cases c96 : x8_2 < (l1_1.length : Int)
         ·
          rw [if_pos c96] at H
          have c96b0 : decide (x8_2 < (l1_1.length : Int)) = true := decide_eq_true c96
          clear c96
          obtain ⟨ji97, hji97⟩ : ∃ j_ : Int, (wrap64 (x6_1 + x8_2)) = j_ := ⟨_, rfl⟩
          replace H : (if 0 ≤ (ji97) then (if (ji97) < (x306001_2.length : Int) then (if 0 ≤ x6_1 then (if x6_1 < (l0_1.length : Int) then ((clevisref01_at.f l1_1 x8_2).bind fun t227 => (clevisref01_Mul.l1 k2 x6_1 (wrap64 (Int.tdiv (wrap64 ((wrap64 ((rd x306001_2 (ji97)) + (wrap64 ((rd l0_1 x6_1) * t227)))) + x7_2)) 65536)) (wrap64 (x8_2 + 1)) a0_0 l0_1 a1_0 l1_1 false (x306001_2.set ((ji97) : Int).toNat (Int.tmod (wrap64 ((wrap64 ((rd x306001_2 (ji97)) + (wrap64 ((rd l0_1 x6_1) * t227)))) + x7_2)) 65536)))) else (none)) else (none)) else (none)) else (none)) = some (r1, r2) := by first | (rw [hji97] at H; exact H) | (simp only [hji97] at H ⊢; exact H)
          have hji97w : (IntKind.i64.wrap (x6_1 + x8_2)) = ji97 := (i64_w _).trans hji97
          by_cases c98 : 0 ≤ (ji97)
          ·
           rw [if_pos c98] at H
           have c98b0 : decide (0 ≤ (ji97)) = true := decide_eq_true c98
           clear c98
           by_cases c99 : (ji97) < (x306001_2.length : Int)
           ·
            rw [if_pos c99] at H
            have c99b0 : decide ((ji97) < (x306001_2.length : Int)) = true := decide_eq_true c99
            clear c99
            by_cases c100 : 0 ≤ x6_1
            ·
             rw [if_pos c100] at H
             have c100b0 : decide (0 ≤ x6_1) = true := decide_eq_true c100
             clear c100
             by_cases c101 : x6_1 < (l0_1.length : Int)
             ·
              rw [if_pos c101] at H
              have c101b0 : decide (x6_1 < (l0_1.length : Int)) = true := decide_eq_true c101
              clear c101
              replace H := os_ H
              obtain ⟨t227, A1020, H⟩ := H
              replace H : (clevisref01_Mul.l1 k2 x6_1 (wrap64 (Int.tdiv (wrap64 ((wrap64 ((rd x306001_2 (ji97)) + (wrap64 ((rd l0_1 x6_1) * t227)))) + x7_2)) 65536)) (wrap64 (x8_2 + 1)) a0_0 l0_1 a1_0 l1_1 false (x306001_2.set ((ji97) : Int).toNat (Int.tmod (wrap64 ((wrap64 ((rd x306001_2 (ji97)) + (wrap64 ((rd l0_1 x6_1) * t227)))) + x7_2)) 65536))) = some (r1, r2) := H
              have A102 := A_ A1020
              clear A1020
              obtain ⟨y228, hy228⟩ : ∃ y_ : List Int, y_ = (x306001_2.set ((ji97) : Int).toNat (Int.tmod (wrap64 ((wrap64 ((rd x306001_2 (ji97)) + (wrap64 ((rd l0_1 x6_1) * t227)))) + x7_2)) 65536)) := ⟨_, rfl⟩
              replace H : (clevisref01_Mul.l1 k2 x6_1 (wrap64 (Int.tdiv (wrap64 ((wrap64 ((rd x306001_2 (ji97)) + (wrap64 ((rd l0_1 x6_1) * t227)))) + x7_2)) 65536)) (wrap64 (x8_2 + 1)) a0_0 l0_1 a1_0 l1_1 false y228) = some (r1, r2) := by first | (rw [hy228]; with_reducible exact H) | (have H2_ := (Option.bind_some _ _).symm.trans H; rw [hy228]; with_reducible exact H2_) | (have H2_ := (Option.bind_some _ _).symm.trans H; with_reducible exact H2_) | with_reducible exact H | (rw [hy228]; exact H) | exact H
              have Ny228 := A_ hy228
              clear hy228
              have H' := A_ H
              clear H
              have hnb104 := NB303_302.out
              have hnc104 := NB302_303.out
              have hnb105 := NB303_304.out
              have hnc105 := NB304_303.out
              have hnb106 := NB303_305.out
              have hnc106 := NB305_303.out
              have hcz107_0 : wr.cell? ⟨gb303, 0, none⟩ = some (.bool a1_0) := (bc_ BK303.out 0).trans rfl
              have hcz107_1 : wr.cell? ⟨gb303, 1, none⟩ = some (.slice A1_1 l1_1.length c1_1) := (bc_ BK303.out 1).trans rfl
              have hfz107_0 := bf_ BK303.out 0
              have hfz107_1 := bf_ BK303.out 1
              try go_wp2
              have n0_ := A_ (Kd.R_drew HO_306001.out)
              have n1_ := A_ (bd_ BK302.out)
              have n2_ := A_ (bd_ BK303.out)
              have n3_ := A_ (bd_ BK304.out)
              have n4_ := A_ (bd_ BK305.out)
              have n5_ := A_ (b1_ HB.out)
              clear HO_306001
              clear BK302
              clear BK303
              clear BK304
              clear BK305
              clear HB
              have HO_306001 := n0_
              have BK302 := n1_
              have BK303 := n2_
              have BK304 := n3_
              have BK305 := n4_
              have HB := n5_
              clear n0_ n1_ n2_ n3_ n4_ n5_
              obtain ⟨Ao109, co109, eo109⟩ := Kd.R_slice HO_306001.out
              (first | subst eo109 | (injection eo109 with f1_ f2_ f3_; have f4_ := f1_.symm; have f5_ := f3_.symm; clear f1_ f2_ f3_; subst f4_; subst f5_))
              have p225 : 0 ≤ ((ji97) : Int) := od_ (by first | (with_reducible assumption) | assumption)
              have q225 : (ji97) < (x306001_2.length : Int) := od_ (by first | (with_reducible assumption) | assumption)
              obtain ⟨ad225, e225, hx225_0⟩ := Kd.at_int (Kd.R_reads' HO_306001.out).2.2 (ji97) p225 q225
              cases e225
              replace p225 := eq_true p225
              replace q225 := eq_true q225
              have p226 : 0 ≤ (x6_1 : Int) := od_ (by first | (with_reducible assumption) | assumption)
              have q226 : x6_1 < (l0_1.length : Int) := od_ (by first | (with_reducible assumption) | assumption)
              obtain ⟨ad226, e226, hx226_0⟩ := Kd.at_int HR0_1.out x6_1 p226 q226
              have hw226_0 := hx226_0
              cases e226
              replace hx226_0 := (HB.out.cell (World.block_lt_of_cell? w _ hx226_0)).trans hx226_0
              replace p226 := eq_true p226
              replace q226 := eq_true q226
              refine start_ (n := 21) (S := fun w' => w'.cell? ⟨gb305, 0, none⟩ = some (.bool false) ∧ w'.cell? ⟨gb305, 1, none⟩ = some (.slice (some ad225) x306001_2.length co109) ∧ w'.cell? ⟨gb302, 0, none⟩ = some (.bool a0_0) ∧ w'.cell? ⟨gb302, 1, none⟩ = some (.slice (some ad226) l0_1.length c0_1) ∧ w'.cell? ⟨gb303, 0, none⟩ = some (.bool a1_0) ∧ w'.cell? ⟨gb303, 1, none⟩ = some (.slice A1_1 l1_1.length c1_1) ∧ w'.cell? (ad225.add ((ji97)).toNat) = some (.int .i64 (rd x306001_2 (ji97))) ∧ w'.cell? (ad226.add (x6_1).toNat) = some (.int .i64 (rd l0_1 x6_1))) (ds := []) #[false, false, false, false, false, false, false, false, false, false, false, false, false, false, false, false, false, false, false, false, false] (by kernel_rfl) rfl rfl ⟨(bc_ BK305.out 0).trans rfl, (bc_ BK305.out 1).trans rfl, (bc_ BK302.out 0).trans rfl, (bc_ BK302.out 1).trans rfl, (bc_ BK303.out 0).trans rfl, (bc_ BK303.out 1).trans rfl, hx225_0, ((HB.out.cell (World.block_lt_of_cell? w _ hw226_0)).trans hw226_0)⟩ (fun hHeld => ?_); refine with_tabW clevisref01_Mul.tab9 clevisref01_Mul.bits9 (fun HT_ HW_ => ?_)
              generalize wr.drew = w108 at HO_306001 BK302 BK303 BK304 BK305 HB hx225_0 hx226_0 hHeld ⊢
              refine pure_ (i := 0) (N := some 43) (v := ?_) (a' := ?_) #[true, false, false, false, false, false, false, false, false, false, false, false, false, false, false, false, false, false, false, false, false] rfl rfl (any_of HT_.out (by kernel_rfl)) (fun _ _ _ h => h) (Or.inl ⟨by rfl, ?_⟩) ?_ ?_
              rotate_left
              ·
               intro w'
               go_simp
               with_reducible rfl
              rotate_left
              ·
               simp only [Act.put, sA_, sZ_, sS_, i64_w, i32_w]
               rfl
              refine pure_ (i := 2) (N := some 45) (v := ?_) (a' := ?_) #[true, false, true, false, false, false, false, false, false, false, false, false, false, false, false, false, false, false, false, false, false] rfl rfl (any_of HT_.out (by kernel_rfl)) (fun _ _ _ h => h) (Or.inl ⟨by rfl, ?_⟩) ?_ ?_
              rotate_left
              ·
               intro w'
               go_simp
               with_reducible rfl
              rotate_left
              ·
               simp only [Act.put, sA_, sZ_, sS_, i64_w, i32_w]
               rfl
              refine pure_ (i := 3) (N := some 46) (v := ?_) (a' := ?_) #[true, false, true, true, false, false, false, false, false, false, false, false, false, false, false, false, false, false, false, false, false] rfl rfl (any_of HT_.out (by kernel_rfl)) (fun _ _ _ h => h) (Or.inl ⟨by rfl, ?_⟩) ?_ ?_
              rotate_left
              ·
               intro w'
               go_simp
               with_reducible rfl
              rotate_left
              ·
               simp only [Act.put, sA_, sZ_, sS_, i64_w, i32_w]
               rfl
              refine pure_ (i := 4) (N := some 47) (v := ?_) (a' := ?_) #[true, false, true, true, true, false, false, false, false, false, false, false, false, false, false, false, false, false, false, false, false] rfl rfl (any_of HT_.out (by kernel_rfl)) (fun _ _ _ h => h) (Or.inl ⟨by rfl, ?_⟩) ?_ ?_
              rotate_left
              ·
               intro w'
               go_simp
               with_reducible rfl
              rotate_left
              ·
               simp only [Act.put, sA_, sZ_, sS_, i64_w, i32_w]
               rfl
              refine pure_ (i := 7) (N := some 50) (v := ?_) (a' := ?_) #[true, false, true, true, true, false, false, true, false, false, false, false, false, false, false, false, false, false, false, false, false] rfl rfl (any_of HT_.out (by kernel_rfl)) (fun _ _ _ h => h) (Or.inl ⟨by rfl, ?_⟩) ?_ ?_
              rotate_left
              ·
               intro w'
               go_simp
               with_reducible rfl
              rotate_left
              ·
               simp only [Act.put, sA_, sZ_, sS_, i64_w, i32_w]
               rfl
              refine pure_ (i := 9) (N := some 52) (v := ?_) (a' := ?_) #[true, false, true, true, true, false, false, true, false, true, false, false, false, false, false, false, false, false, false, false, false] rfl rfl (any_of HT_.out (by kernel_rfl)) (fun _ _ _ h => h) (Or.inl ⟨by rfl, ?_⟩) ?_ ?_
              rotate_left
              ·
               intro w'
               go_simp
               with_reducible rfl
              rotate_left
              ·
               simp only [Act.put, sA_, sZ_, sS_, i64_w, i32_w]
               rfl
              refine pure_ (i := 12) (N := some 55) (v := ?_) (a' := ?_) #[true, false, true, true, true, false, false, true, false, true, false, false, true, false, false, false, false, false, false, false, false] rfl rfl (any_of HT_.out (by kernel_rfl)) (fun _ _ _ h => h) (Or.inl ⟨by rfl, ?_⟩) ?_ ?_
              rotate_left
              ·
               intro w'
               go_simp
               with_reducible rfl
              rotate_left
              ·
               simp only [Act.put, sA_, sZ_, sS_, i64_w, i32_w]
               rfl
              refine pure_ (i := 14) (N := some 57) (v := ?_) (a' := ?_) #[true, false, true, true, true, false, false, true, false, true, false, false, true, false, true, false, false, false, false, false, false] rfl rfl (any_of HT_.out (by kernel_rfl)) (fun _ _ _ h => h) (Or.inl ⟨by rfl, ?_⟩) ?_ ?_
              rotate_left
              ·
               intro w'
               go_simp
               with_reducible rfl
              rotate_left
              ·
               simp only [Act.put, sA_, sZ_, sS_, i64_w, i32_w]
               rfl
              refine pure_ (i := 18) (N := some 61) (v := ?_) (a' := ?_) #[true, false, true, true, true, false, false, true, false, true, false, false, true, false, true, false, false, false, true, false, false] rfl rfl (any_of HT_.out (by kernel_rfl)) (fun _ _ _ h => h) (Or.inl ⟨by rfl, ?_⟩) ?_ ?_
              rotate_left
              ·
               intro w'
               go_simp
               with_reducible rfl
              rotate_left
              ·
               simp only [Act.put, sA_, sZ_, sS_, i64_w, i32_w]
               rfl
              refine take_ (i := 1) (N := some 44) (v := ?_) (a' := ?_) #[true, true, true, true, true, false, false, true, false, true, false, false, true, false, true, false, false, false, true, false, false] rfl rfl (take_ofW HT_.out HW_.out (by kernel_rfl)) (fun _ _ _ h => h) (Or.inl ⟨by rfl, ?_⟩) hHeld ?_ ?_
              rotate_left
              ·
               rintro w' ⟨s0, s1, s2, s3, s4, s5, s6, s7⟩
               go_simp
               with_reducible rfl
              rotate_left
              ·
               simp only [Act.put, sA_, sZ_, sS_, i64_w, i32_w]
               rfl
              refine pure_ (i := 5) (N := some 48) (v := ?_) (a' := ?_) #[true, true, true, true, true, true, false, true, false, true, false, false, true, false, true, false, false, false, true, false, false] rfl rfl (any_of HT_.out (by kernel_rfl)) (fun _ _ _ h => h) (Or.inl ⟨by rfl, ?_⟩) ?_ ?_
              rotate_left
              ·
               intro w'
               go_simp
               with_reducible rfl
              rotate_left
              ·
               simp only [Act.put, sA_, sZ_, sS_, i64_w, i32_w]
               rfl
              refine take_ (i := 6) (N := some 49) (v := ?_) (a' := ?_) #[true, true, true, true, true, true, true, true, false, true, false, false, true, false, true, false, false, false, true, false, false] rfl rfl (take_ofW HT_.out HW_.out (by kernel_rfl)) (fun _ _ _ h => h) (Or.inl ⟨by rfl, ?_⟩) hHeld ?_ ?_
              rotate_left
              ·
               rintro w' ⟨s0, s1, s2, s3, s4, s5, s6, s7⟩
               go_simp
               with_reducible rfl
              rotate_left
              ·
               simp only [Act.put, sA_, sZ_, sS_, i64_w, i32_w]
               rfl
              refine take_ (i := 8) (N := some 51) (v := ?_) (a' := ?_) #[true, true, true, true, true, true, true, true, true, true, false, false, true, false, true, false, false, false, true, false, false] rfl rfl (take_ofW HT_.out HW_.out (by kernel_rfl)) (fun _ _ _ h => h) (Or.inl ⟨by rfl, ?_⟩) hHeld ?_ ?_
              rotate_left
              ·
               rintro w' ⟨s0, s1, s2, s3, s4, s5, s6, s7⟩
               go_simp
               with_reducible rfl
              rotate_left
              ·
               simp only [Act.put, sA_, sZ_, sS_, i64_w, i32_w]
               rfl
              refine pure_ (i := 10) (N := some 53) (v := ?_) (a' := ?_) #[true, true, true, true, true, true, true, true, true, true, true, false, true, false, true, false, false, false, true, false, false] rfl rfl (any_of HT_.out (by kernel_rfl)) (fun _ _ _ h => h) (Or.inl ⟨by rfl, ?_⟩) ?_ ?_
              rotate_left
              ·
               intro w'
               go_simp
               with_reducible rfl
              rotate_left
              ·
               simp only [Act.put, sA_, sZ_, sS_, i64_w, i32_w]
               rfl
              refine take_ (i := 11) (N := some 54) (v := ?_) (a' := ?_) #[true, true, true, true, true, true, true, true, true, true, true, true, true, false, true, false, false, false, true, false, false] rfl rfl (take_ofW HT_.out HW_.out (by kernel_rfl)) (fun _ _ _ h => h) (Or.inl ⟨by rfl, ?_⟩) hHeld ?_ ?_
              rotate_left
              ·
               rintro w' ⟨s0, s1, s2, s3, s4, s5, s6, s7⟩
               go_simp
               with_reducible rfl
              rotate_left
              ·
               simp only [Act.put, sA_, sZ_, sS_, i64_w, i32_w]
               rfl
              refine take_ (i := 13) (N := some 56) (v := ?_) (a' := ?_) #[true, true, true, true, true, true, true, true, true, true, true, true, true, true, true, false, false, false, true, false, false] rfl rfl (take_ofW HT_.out HW_.out (by kernel_rfl)) (fun _ _ _ h => h) (Or.inl ⟨by rfl, ?_⟩) hHeld ?_ ?_
              rotate_left
              ·
               rintro w' ⟨s0, s1, s2, s3, s4, s5, s6, s7⟩
               go_simp
               with_reducible rfl
              rotate_left
              ·
               simp only [Act.put, sA_, sZ_, sS_, i64_w, i32_w]
               rfl
              refine one_ (i := 15) (N := some 58) #[true, true, true, true, true, true, true, true, true, true, true, true, true, true, true, true, false, false, true, false, false] rfl rfl (one_of HT_.out (by kernel_rfl)) (by decide) (fun K hK => ?_)
              refine goes_ Try.func54 (by kernel_rfl) rfl #[.slice A1_1 l1_1.length c1_1, .int .i64 x8_2] (by rfl) rfl rfl (by (try simp only [List.map_toArray, List.map_cons, List.map_nil]); first | done | rfl | (simp only [List.length_drop, List.length_take]; rfl)) ?_
              with_reducible refine (clevisref01_at.calls _ _ l1_1 x8_2 t227 _ ?side1 ?side2 A102.out).mono ?_
              (case side1 => repeat (first | exact (cb_ HR1_1.out HB.out) | (with_reducible refine ca_ ?_ _) | (with_reducible refine cn_ ?_ _) | (with_reducible refine cd_ ?_)))
              (case side2 => exact HC1_1.out)
              rintro e w' ⟨rfl, ⟨nd, rfl⟩⟩
              refine ⟨_, rfl, ?_⟩
              refine hK.out _ _ ⟨(bc_ BK305.out 0).trans rfl, (bc_ BK305.out 1).trans rfl, (bc_ BK302.out 0).trans rfl, (bc_ BK302.out 1).trans rfl, (bc_ BK303.out 0).trans rfl, (bc_ BK303.out 1).trans rfl, hHeld.2.2.2.2.2.2.1, ((HB.out.cell (World.block_lt_of_cell? w _ hw226_0)).trans hw226_0)⟩ (fun hHeld => ?_)
              clear hK K
              refine norm_ (a' := ?_) ?_ ?_
              rotate_left
              ·
               show Act.put _ (some 58) _ = _
               simp only [Act.put, sA_, sZ_, sS_, i64_w, i32_w]
               rfl
              refine pure_ (i := 16) (N := some 59) (v := ?_) (a' := ?_) #[true, true, true, true, true, true, true, true, true, true, true, true, true, true, true, true, true, false, true, false, false] rfl rfl (any_of HT_.out (by kernel_rfl)) (fun _ _ _ h => h) (Or.inl ⟨by rfl, ?_⟩) ?_ ?_
              rotate_left
              ·
               intro w'
               go_simp
               with_reducible rfl
              rotate_left
              ·
               simp only [Act.put, sA_, sZ_, sS_, i64_w, i32_w]
               rfl
              refine pure_ (i := 17) (N := some 60) (v := ?_) (a' := ?_) #[true, true, true, true, true, true, true, true, true, true, true, true, true, true, true, true, true, true, true, false, false] rfl rfl (any_of HT_.out (by kernel_rfl)) (fun _ _ _ h => h) (Or.inl ⟨by rfl, ?_⟩) ?_ ?_
              rotate_left
              ·
               intro w'
               go_simp
               with_reducible rfl
              rotate_left
              ·
               simp only [Act.put, sA_, sZ_, sS_, i64_w, i32_w]
               rfl
              refine pure_ (i := 19) (N := some 62) (v := ?_) (a' := ?_) #[true, true, true, true, true, true, true, true, true, true, true, true, true, true, true, true, true, true, true, true, false] rfl rfl (any_of HT_.out (by kernel_rfl)) (fun _ _ _ h => h) (Or.inl ⟨by rfl, ?_⟩) ?_ ?_
              rotate_left
              ·
               intro w'
               go_simp
               with_reducible rfl
              rotate_left
              ·
               simp only [Act.put, sA_, sZ_, sS_, i64_w, i32_w]
               rfl
              refine pure_ (i := 20) (N := some 9) (v := ?_) (a' := ?_) #[true, true, true, true, true, true, true, true, true, true, true, true, true, true, true, true, true, true, true, true, true] rfl rfl (any_of HT_.out (by kernel_rfl)) (fun _ _ _ h => h) (Or.inl ⟨by rfl, ?_⟩) ?_ ?_
              rotate_left
              ·
               intro w'
               go_simp
               with_reducible rfl
              rotate_left
              ·
               simp only [Act.put, sA_, sZ_, sS_, i64_w, i32_w]
               rfl
              refine done_ (done_of HT_.out (by kernel_rfl)) ?_
              have hnb110 := NB305_302.out
              have hnc110 := NB302_305.out
              have hnb111 := NB305_304.out
              have hnc111 := NB304_305.out
              have hcz112_0 : w108.cell? ⟨gb305, 0, none⟩ = some (.bool false) := (bc_ BK305.out 0).trans rfl
              have hcz112_1 : w108.cell? ⟨gb305, 1, none⟩ = some (.slice (some ad225) x306001_2.length co109) := (bc_ BK305.out 1).trans rfl
              have hfz112_0 := bf_ BK305.out 0
              have hfz112_1 := bf_ BK305.out 1
              have p103 : 0 ≤ ((ji97) : Int) := od_ (by first | (with_reducible assumption) | assumption)
              have q103 : ((ji97) : Int) < ((x306001_2.length : Int) : Int) := od_ (by first | (with_reducible assumption) | assumption)
              obtain ⟨go103, co103, eo103, gb103, gl103, cl103, HG103⟩ := Kd.R_form HO_306001.out (by omega)
              (first | cases eo103 | (injection eo103 with ea_ en_ ec_; (first | subst ea_ | (injection ea_ with ea_; subst ea_)); subst ec_; clear en_))
              have GB103 := A_ gb103
              have GG103 := A_ HG103
              clear gb103 gl103 HG103
              (first | simp only [add_plain] at hx225_0 | skip)
              obtain ⟨hx103_0, hf103_0⟩ := Kd.R_celln 0 HO_306001.out ((ji97) : Int) p103 q103
              replace p103 := eq_true p103
              replace q103 := eq_true q103
              obtain ⟨hy113_, hz113_⟩ := Kd.R_celln 0 HO_306001.out ((ji97) : Int) (od_ (by first | (with_reducible assumption) | assumption)) (od_ (by first | (with_reducible assumption) | assumption))
              have HP113 := Kd.R_putg HO_306001.out ((ji97) : Int) (Int.tmod (wrap64 ((wrap64 ((rd x306001_2 (ji97)) + (wrap64 ((rd l0_1 x6_1) * t227)))) + x7_2)) 65536)
              try go_wp2_with (((with_reducible refine gate_store (t := 3) (p := 70) rfl ?_); (first | (refine store_event (t := 3) (p := 70) (v := ?vo_w114) (w1 := (w108.setCell ⟨go103, ((ji97) : Int).toNat, none⟩ (.int .i64 (Int.tmod (wrap64 ((wrap64 ((rd x306001_2 (ji97)) + (wrap64 ((rd l0_1 x6_1) * t227)))) + x7_2)) 65536)))) ?hg ?ho ?hn ?hr ?_; (case ho => rfl); (case hg => rfl); (case hn => rfl); (case hr => first | (go_simp; done) | (go_simp; rfl)); intro w114 hw) | (refine store_event (t := 3) (p := 70) (v := ?vo_w114) (w1 := ((w108.drewN ?ndq_w114).setCell ⟨go103, ((ji97) : Int).toNat, none⟩ (.int .i64 (Int.tmod (wrap64 ((wrap64 ((rd x306001_2 (ji97)) + (wrap64 ((rd l0_1 x6_1) * t227)))) + x7_2)) 65536)))) ?hg ?ho ?hn ?hr ?_; (case ho => rfl); (case hg => rfl); (case hn => rfl); (case hr => first | (go_simp; done) | (go_simp; rfl)); intro w114 hw; rw [sd_eq] at hw)); have hg : w108.grownBy w114 (some go103) := (by rw [hw]; first | (with_reducible exact HP113.2) | (exact grown_dn (HP113.2) _) | (exact pn_ (HP113.2) _) | (exact Kd.R_drewN (HP113.2) _) | exact HP113.2); have hp_ : Kd.R (Kd.int .i64) 3 w114 w.heap.size (fun k_ => (w.heap.size ≤ k_)) (.slice (some ⟨go103, 0, none⟩) x306001_2.length co109) y228 := (by rw [hw, Ny228.out]; first | (with_reducible exact HP113.1) | (exact grown_dn (HP113.1) _) | (exact pn_ (HP113.1) _) | (exact Kd.R_drewN (HP113.1) _) | exact HP113.1); clear HP113; have n0_ := A_ (hp_); have n1_ := A_ (blk_grown (g := gb302) (o := .cells #[.bool a0_0, .slice (some ad226) l0_1.length c0_1] 32 (0, 0)) bk_ hg (Kd.R_ne HO_306001.out BK302.out (by decide))); have n2_ := A_ (blk_grown (g := gb303) (o := .cells #[.bool a1_0, .slice A1_1 l1_1.length c1_1] 32 (0, 0)) bk_ hg (Kd.R_ne HO_306001.out BK303.out (by decide))); have n3_ := A_ (blk_grown (g := gb304) (o := .cells #[.bool false, .slice none 0 0] 32 (0, 0)) bk_ hg (Kd.R_ne HO_306001.out BK304.out (by decide))); have n4_ := A_ (blk_grown (g := gb305) (o := .cells #[.bool false, .slice (some ⟨go103, 0, none⟩) x306001_2.length co109] 32 (0, 0)) bk_ hg (Kd.R_ne HO_306001.out BK305.out (by decide))); have n5_ := A_ ((by rw [hw]; first | (with_reducible exact bt_ (HB.out) GB103.out) | (exact grown_dn (bt_ (HB.out) GB103.out) _) | (exact pn_ (bt_ (HB.out) GB103.out) _) | (exact Kd.R_drewN (bt_ (HB.out) GB103.out) _) | exact bt_ (HB.out) GB103.out : Below w.heap.size w w114)); clear HO_306001; clear BK302; clear BK303; clear BK304; clear BK305; clear HB; have HO_306001 := n0_; have BK302 := n1_; have BK303 := n2_; have BK304 := n3_; have BK305 := n4_; have HB := n5_; clear n0_ n1_ n2_ n3_ n4_ n5_; clear hg hw hp_))
              go_roundg k2
              case measure => have := HK1.out; have := HK2.out; omega
              case rel => exact ⟨(wrap64 (Int.tdiv (wrap64 ((wrap64 ((rd x306001_2 (ji97)) + (wrap64 ((rd l0_1 x6_1) * t227)))) + x7_2)) 65536)), (wrap64 (x8_2 + 1)), (y228), (.slice (some ⟨go103, 0, none⟩) x306001_2.length co109), (by first | rfl | (simp; done) | (simp only [← hji97] <;> (first | rfl | simp)) | (simp [*]; done)), (by first | rfl | (simp; done) | (simp [*]; done)), H', ⟨by have := HK1.out; have := HK2.out; omega⟩, ⟨by (with_reducible repeat (first | apply Kd.R_alloc | apply Kd.R_drewN | apply Kd.R_drew)); exact HO_306001.out⟩, ⟨bk_⟩, ⟨bk_⟩, ⟨bk_⟩, ⟨bk_⟩, ⟨bw_⟩⟩
             ·
              rw [if_neg c101] at H
              exact absurd H (by simp)
            ·
             rw [if_neg c100] at H
             exact absurd H (by simp)
           ·
            rw [if_neg c99] at H
            exact absurd H (by simp)
          ·
           rw [if_neg c98] at H
           exact absurd H (by simp)
         ·
          rw [if_neg c96] at H
          have c96b0 : decide (x8_2 < (l1_1.length : Int)) = false := decide_eq_false c96
          clear c96
          by_cases c115 : x7_2 > 0
          ·
           rw [if_pos c115] at H
           have c115b0 : decide (0 < x7_2) = true := decide_eq_true c115
           clear c115
           obtain ⟨ji116, hji116⟩ : ∃ j_ : Int, (wrap64 (x6_1 + x8_2)) = j_ := ⟨_, rfl⟩
           replace H : (if 0 ≤ (ji116) then (if (ji116) < (x306001_2.length : Int) then (if 0 ≤ x6_1 then (if x6_1 < (l0_1.length : Int) then ((clevisref01_at.f l1_1 x8_2).bind fun t231 => (clevisref01_Mul.l1 k2 x6_1 (wrap64 (Int.tdiv (wrap64 ((wrap64 ((rd x306001_2 (ji116)) + (wrap64 ((rd l0_1 x6_1) * t231)))) + x7_2)) 65536)) (wrap64 (x8_2 + 1)) a0_0 l0_1 a1_0 l1_1 false (x306001_2.set ((ji116) : Int).toNat (Int.tmod (wrap64 ((wrap64 ((rd x306001_2 (ji116)) + (wrap64 ((rd l0_1 x6_1) * t231)))) + x7_2)) 65536)))) else (none)) else (none)) else (none)) else (none)) = some (r1, r2) := by first | (rw [hji116] at H; exact H) | (simp only [hji116] at H ⊢; exact H)
           have hji116w : (IntKind.i64.wrap (x6_1 + x8_2)) = ji116 := (i64_w _).trans hji116
           by_cases c117 : 0 ≤ (ji116)
           ·
            rw [if_pos c117] at H
            have c117b0 : decide (0 ≤ (ji116)) = true := decide_eq_true c117
            clear c117
            by_cases c118 : (ji116) < (x306001_2.length : Int)
            ·
             rw [if_pos c118] at H
             have c118b0 : decide ((ji116) < (x306001_2.length : Int)) = true := decide_eq_true c118
             clear c118
             by_cases c119 : 0 ≤ x6_1
             ·
              rw [if_pos c119] at H
              have c119b0 : decide (0 ≤ x6_1) = true := decide_eq_true c119
              clear c119
              by_cases c120 : x6_1 < (l0_1.length : Int)
              ·
               rw [if_pos c120] at H
               have c120b0 : decide (x6_1 < (l0_1.length : Int)) = true := decide_eq_true c120
               clear c120
               replace H := os_ H
               obtain ⟨t231, A1210, H⟩ := H
               replace H : (clevisref01_Mul.l1 k2 x6_1 (wrap64 (Int.tdiv (wrap64 ((wrap64 ((rd x306001_2 (ji116)) + (wrap64 ((rd l0_1 x6_1) * t231)))) + x7_2)) 65536)) (wrap64 (x8_2 + 1)) a0_0 l0_1 a1_0 l1_1 false (x306001_2.set ((ji116) : Int).toNat (Int.tmod (wrap64 ((wrap64 ((rd x306001_2 (ji116)) + (wrap64 ((rd l0_1 x6_1) * t231)))) + x7_2)) 65536))) = some (r1, r2) := H
               have A121 := A_ A1210
               clear A1210
               obtain ⟨y232, hy232⟩ : ∃ y_ : List Int, y_ = (x306001_2.set ((ji116) : Int).toNat (Int.tmod (wrap64 ((wrap64 ((rd x306001_2 (ji116)) + (wrap64 ((rd l0_1 x6_1) * t231)))) + x7_2)) 65536)) := ⟨_, rfl⟩
               replace H : (clevisref01_Mul.l1 k2 x6_1 (wrap64 (Int.tdiv (wrap64 ((wrap64 ((rd x306001_2 (ji116)) + (wrap64 ((rd l0_1 x6_1) * t231)))) + x7_2)) 65536)) (wrap64 (x8_2 + 1)) a0_0 l0_1 a1_0 l1_1 false y232) = some (r1, r2) := by first | (rw [hy232]; with_reducible exact H) | (have H2_ := (Option.bind_some _ _).symm.trans H; rw [hy232]; with_reducible exact H2_) | (have H2_ := (Option.bind_some _ _).symm.trans H; with_reducible exact H2_) | with_reducible exact H | (rw [hy232]; exact H) | exact H
               have Ny232 := A_ hy232
               clear hy232
               have H' := A_ H
               clear H
               have hnb123 := NB303_302.out
               have hnc123 := NB302_303.out
               have hnb124 := NB303_304.out
               have hnc124 := NB304_303.out
               have hnb125 := NB303_305.out
               have hnc125 := NB305_303.out
               have hcz126_0 : wr.cell? ⟨gb303, 0, none⟩ = some (.bool a1_0) := (bc_ BK303.out 0).trans rfl
               have hcz126_1 : wr.cell? ⟨gb303, 1, none⟩ = some (.slice A1_1 l1_1.length c1_1) := (bc_ BK303.out 1).trans rfl
               have hfz126_0 := bf_ BK303.out 0
               have hfz126_1 := bf_ BK303.out 1
               try go_wp2
               have n0_ := A_ (Kd.R_drew HO_306001.out)
               have n1_ := A_ (bd_ BK302.out)
               have n2_ := A_ (bd_ BK303.out)
               have n3_ := A_ (bd_ BK304.out)
               have n4_ := A_ (bd_ BK305.out)
               have n5_ := A_ (b1_ HB.out)
               clear HO_306001
               clear BK302
               clear BK303
               clear BK304
               clear BK305
               clear HB
               have HO_306001 := n0_
               have BK302 := n1_
               have BK303 := n2_
               have BK304 := n3_
               have BK305 := n4_
               have HB := n5_
               clear n0_ n1_ n2_ n3_ n4_ n5_
               obtain ⟨Ao128, co128, eo128⟩ := Kd.R_slice HO_306001.out
               (first | subst eo128 | (injection eo128 with f1_ f2_ f3_; have f4_ := f1_.symm; have f5_ := f3_.symm; clear f1_ f2_ f3_; subst f4_; subst f5_))
               have p229 : 0 ≤ ((ji116) : Int) := od_ (by first | (with_reducible assumption) | assumption)
               have q229 : (ji116) < (x306001_2.length : Int) := od_ (by first | (with_reducible assumption) | assumption)
               obtain ⟨ad229, e229, hx229_0⟩ := Kd.at_int (Kd.R_reads' HO_306001.out).2.2 (ji116) p229 q229
               cases e229
               replace p229 := eq_true p229
               replace q229 := eq_true q229
               have p230 : 0 ≤ (x6_1 : Int) := od_ (by first | (with_reducible assumption) | assumption)
               have q230 : x6_1 < (l0_1.length : Int) := od_ (by first | (with_reducible assumption) | assumption)
               obtain ⟨ad230, e230, hx230_0⟩ := Kd.at_int HR0_1.out x6_1 p230 q230
               have hw230_0 := hx230_0
               cases e230
               replace hx230_0 := (HB.out.cell (World.block_lt_of_cell? w _ hx230_0)).trans hx230_0
               replace p230 := eq_true p230
               replace q230 := eq_true q230
               refine start_ (n := 21) (S := fun w' => w'.cell? ⟨gb305, 0, none⟩ = some (.bool false) ∧ w'.cell? ⟨gb305, 1, none⟩ = some (.slice (some ad229) x306001_2.length co128) ∧ w'.cell? ⟨gb302, 0, none⟩ = some (.bool a0_0) ∧ w'.cell? ⟨gb302, 1, none⟩ = some (.slice (some ad230) l0_1.length c0_1) ∧ w'.cell? ⟨gb303, 0, none⟩ = some (.bool a1_0) ∧ w'.cell? ⟨gb303, 1, none⟩ = some (.slice A1_1 l1_1.length c1_1) ∧ w'.cell? (ad229.add ((ji116)).toNat) = some (.int .i64 (rd x306001_2 (ji116))) ∧ w'.cell? (ad230.add (x6_1).toNat) = some (.int .i64 (rd l0_1 x6_1))) (ds := []) #[false, false, false, false, false, false, false, false, false, false, false, false, false, false, false, false, false, false, false, false, false] (by kernel_rfl) rfl rfl ⟨(bc_ BK305.out 0).trans rfl, (bc_ BK305.out 1).trans rfl, (bc_ BK302.out 0).trans rfl, (bc_ BK302.out 1).trans rfl, (bc_ BK303.out 0).trans rfl, (bc_ BK303.out 1).trans rfl, hx229_0, ((HB.out.cell (World.block_lt_of_cell? w _ hw230_0)).trans hw230_0)⟩ (fun hHeld => ?_); refine with_tabW clevisref01_Mul.tab9 clevisref01_Mul.bits9 (fun HT_ HW_ => ?_)
               generalize wr.drew = w127 at HO_306001 BK302 BK303 BK304 BK305 HB hx229_0 hx230_0 hHeld ⊢
               refine pure_ (i := 0) (N := some 43) (v := ?_) (a' := ?_) #[true, false, false, false, false, false, false, false, false, false, false, false, false, false, false, false, false, false, false, false, false] rfl rfl (any_of HT_.out (by kernel_rfl)) (fun _ _ _ h => h) (Or.inl ⟨by rfl, ?_⟩) ?_ ?_
               rotate_left
               ·
                intro w'
                go_simp
                with_reducible rfl
               rotate_left
               ·
                simp only [Act.put, sA_, sZ_, sS_, i64_w, i32_w]
                rfl
               refine pure_ (i := 2) (N := some 45) (v := ?_) (a' := ?_) #[true, false, true, false, false, false, false, false, false, false, false, false, false, false, false, false, false, false, false, false, false] rfl rfl (any_of HT_.out (by kernel_rfl)) (fun _ _ _ h => h) (Or.inl ⟨by rfl, ?_⟩) ?_ ?_
               rotate_left
               ·
                intro w'
                go_simp
                with_reducible rfl
               rotate_left
               ·
                simp only [Act.put, sA_, sZ_, sS_, i64_w, i32_w]
                rfl
               refine pure_ (i := 3) (N := some 46) (v := ?_) (a' := ?_) #[true, false, true, true, false, false, false, false, false, false, false, false, false, false, false, false, false, false, false, false, false] rfl rfl (any_of HT_.out (by kernel_rfl)) (fun _ _ _ h => h) (Or.inl ⟨by rfl, ?_⟩) ?_ ?_
               rotate_left
               ·
                intro w'
                go_simp
                with_reducible rfl
               rotate_left
               ·
                simp only [Act.put, sA_, sZ_, sS_, i64_w, i32_w]
                rfl
               refine pure_ (i := 4) (N := some 47) (v := ?_) (a' := ?_) #[true, false, true, true, true, false, false, false, false, false, false, false, false, false, false, false, false, false, false, false, false] rfl rfl (any_of HT_.out (by kernel_rfl)) (fun _ _ _ h => h) (Or.inl ⟨by rfl, ?_⟩) ?_ ?_
               rotate_left
               ·
                intro w'
                go_simp
                with_reducible rfl
               rotate_left
               ·
                simp only [Act.put, sA_, sZ_, sS_, i64_w, i32_w]
                rfl
               refine pure_ (i := 7) (N := some 50) (v := ?_) (a' := ?_) #[true, false, true, true, true, false, false, true, false, false, false, false, false, false, false, false, false, false, false, false, false] rfl rfl (any_of HT_.out (by kernel_rfl)) (fun _ _ _ h => h) (Or.inl ⟨by rfl, ?_⟩) ?_ ?_
               rotate_left
               ·
                intro w'
                go_simp
                with_reducible rfl
               rotate_left
               ·
                simp only [Act.put, sA_, sZ_, sS_, i64_w, i32_w]
                rfl
               refine pure_ (i := 9) (N := some 52) (v := ?_) (a' := ?_) #[true, false, true, true, true, false, false, true, false, true, false, false, false, false, false, false, false, false, false, false, false] rfl rfl (any_of HT_.out (by kernel_rfl)) (fun _ _ _ h => h) (Or.inl ⟨by rfl, ?_⟩) ?_ ?_
               rotate_left
               ·
                intro w'
                go_simp
                with_reducible rfl
               rotate_left
               ·
                simp only [Act.put, sA_, sZ_, sS_, i64_w, i32_w]
                rfl
               refine pure_ (i := 12) (N := some 55) (v := ?_) (a' := ?_) #[true, false, true, true, true, false, false, true, false, true, false, false, true, false, false, false, false, false, false, false, false] rfl rfl (any_of HT_.out (by kernel_rfl)) (fun _ _ _ h => h) (Or.inl ⟨by rfl, ?_⟩) ?_ ?_
               rotate_left
               ·
                intro w'
                go_simp
                with_reducible rfl
               rotate_left
               ·
                simp only [Act.put, sA_, sZ_, sS_, i64_w, i32_w]
                rfl
               refine pure_ (i := 14) (N := some 57) (v := ?_) (a' := ?_) #[true, false, true, true, true, false, false, true, false, true, false, false, true, false, true, false, false, false, false, false, false] rfl rfl (any_of HT_.out (by kernel_rfl)) (fun _ _ _ h => h) (Or.inl ⟨by rfl, ?_⟩) ?_ ?_
               rotate_left
               ·
                intro w'
                go_simp
                with_reducible rfl
               rotate_left
               ·
                simp only [Act.put, sA_, sZ_, sS_, i64_w, i32_w]
                rfl
               refine pure_ (i := 18) (N := some 61) (v := ?_) (a' := ?_) #[true, false, true, true, true, false, false, true, false, true, false, false, true, false, true, false, false, false, true, false, false] rfl rfl (any_of HT_.out (by kernel_rfl)) (fun _ _ _ h => h) (Or.inl ⟨by rfl, ?_⟩) ?_ ?_
               rotate_left
               ·
                intro w'
                go_simp
                with_reducible rfl
               rotate_left
               ·
                simp only [Act.put, sA_, sZ_, sS_, i64_w, i32_w]
                rfl
               refine take_ (i := 1) (N := some 44) (v := ?_) (a' := ?_) #[true, true, true, true, true, false, false, true, false, true, false, false, true, false, true, false, false, false, true, false, false] rfl rfl (take_ofW HT_.out HW_.out (by kernel_rfl)) (fun _ _ _ h => h) (Or.inl ⟨by rfl, ?_⟩) hHeld ?_ ?_
               rotate_left
               ·
                rintro w' ⟨s0, s1, s2, s3, s4, s5, s6, s7⟩
                go_simp
                with_reducible rfl
               rotate_left
               ·
                simp only [Act.put, sA_, sZ_, sS_, i64_w, i32_w]
                rfl
               refine pure_ (i := 5) (N := some 48) (v := ?_) (a' := ?_) #[true, true, true, true, true, true, false, true, false, true, false, false, true, false, true, false, false, false, true, false, false] rfl rfl (any_of HT_.out (by kernel_rfl)) (fun _ _ _ h => h) (Or.inl ⟨by rfl, ?_⟩) ?_ ?_
               rotate_left
               ·
                intro w'
                go_simp
                with_reducible rfl
               rotate_left
               ·
                simp only [Act.put, sA_, sZ_, sS_, i64_w, i32_w]
                rfl
               refine take_ (i := 6) (N := some 49) (v := ?_) (a' := ?_) #[true, true, true, true, true, true, true, true, false, true, false, false, true, false, true, false, false, false, true, false, false] rfl rfl (take_ofW HT_.out HW_.out (by kernel_rfl)) (fun _ _ _ h => h) (Or.inl ⟨by rfl, ?_⟩) hHeld ?_ ?_
               rotate_left
               ·
                rintro w' ⟨s0, s1, s2, s3, s4, s5, s6, s7⟩
                go_simp
                with_reducible rfl
               rotate_left
               ·
                simp only [Act.put, sA_, sZ_, sS_, i64_w, i32_w]
                rfl
               refine take_ (i := 8) (N := some 51) (v := ?_) (a' := ?_) #[true, true, true, true, true, true, true, true, true, true, false, false, true, false, true, false, false, false, true, false, false] rfl rfl (take_ofW HT_.out HW_.out (by kernel_rfl)) (fun _ _ _ h => h) (Or.inl ⟨by rfl, ?_⟩) hHeld ?_ ?_
               rotate_left
               ·
                rintro w' ⟨s0, s1, s2, s3, s4, s5, s6, s7⟩
                go_simp
                with_reducible rfl
               rotate_left
               ·
                simp only [Act.put, sA_, sZ_, sS_, i64_w, i32_w]
                rfl
               refine pure_ (i := 10) (N := some 53) (v := ?_) (a' := ?_) #[true, true, true, true, true, true, true, true, true, true, true, false, true, false, true, false, false, false, true, false, false] rfl rfl (any_of HT_.out (by kernel_rfl)) (fun _ _ _ h => h) (Or.inl ⟨by rfl, ?_⟩) ?_ ?_
               rotate_left
               ·
                intro w'
                go_simp
                with_reducible rfl
               rotate_left
               ·
                simp only [Act.put, sA_, sZ_, sS_, i64_w, i32_w]
                rfl
               refine take_ (i := 11) (N := some 54) (v := ?_) (a' := ?_) #[true, true, true, true, true, true, true, true, true, true, true, true, true, false, true, false, false, false, true, false, false] rfl rfl (take_ofW HT_.out HW_.out (by kernel_rfl)) (fun _ _ _ h => h) (Or.inl ⟨by rfl, ?_⟩) hHeld ?_ ?_
               rotate_left
               ·
                rintro w' ⟨s0, s1, s2, s3, s4, s5, s6, s7⟩
                go_simp
                with_reducible rfl
               rotate_left
               ·
                simp only [Act.put, sA_, sZ_, sS_, i64_w, i32_w]
                rfl
               refine take_ (i := 13) (N := some 56) (v := ?_) (a' := ?_) #[true, true, true, true, true, true, true, true, true, true, true, true, true, true, true, false, false, false, true, false, false] rfl rfl (take_ofW HT_.out HW_.out (by kernel_rfl)) (fun _ _ _ h => h) (Or.inl ⟨by rfl, ?_⟩) hHeld ?_ ?_
               rotate_left
               ·
                rintro w' ⟨s0, s1, s2, s3, s4, s5, s6, s7⟩
                go_simp
                with_reducible rfl
               rotate_left
               ·
                simp only [Act.put, sA_, sZ_, sS_, i64_w, i32_w]
                rfl
               refine one_ (i := 15) (N := some 58) #[true, true, true, true, true, true, true, true, true, true, true, true, true, true, true, true, false, false, true, false, false] rfl rfl (one_of HT_.out (by kernel_rfl)) (by decide) (fun K hK => ?_)
               refine goes_ Try.func54 (by kernel_rfl) rfl #[.slice A1_1 l1_1.length c1_1, .int .i64 x8_2] (by rfl) rfl rfl (by (try simp only [List.map_toArray, List.map_cons, List.map_nil]); first | done | rfl | (simp only [List.length_drop, List.length_take]; rfl)) ?_
               with_reducible refine (clevisref01_at.calls _ _ l1_1 x8_2 t231 _ ?side1 ?side2 A121.out).mono ?_
               (case side1 => repeat (first | exact (cb_ HR1_1.out HB.out) | (with_reducible refine ca_ ?_ _) | (with_reducible refine cn_ ?_ _) | (with_reducible refine cd_ ?_)))
               (case side2 => exact HC1_1.out)
               rintro e w' ⟨rfl, ⟨nd, rfl⟩⟩
               refine ⟨_, rfl, ?_⟩
               refine hK.out _ _ ⟨(bc_ BK305.out 0).trans rfl, (bc_ BK305.out 1).trans rfl, (bc_ BK302.out 0).trans rfl, (bc_ BK302.out 1).trans rfl, (bc_ BK303.out 0).trans rfl, (bc_ BK303.out 1).trans rfl, hHeld.2.2.2.2.2.2.1, ((HB.out.cell (World.block_lt_of_cell? w _ hw230_0)).trans hw230_0)⟩ (fun hHeld => ?_)
               clear hK K
               refine norm_ (a' := ?_) ?_ ?_
               rotate_left
               ·
                show Act.put _ (some 58) _ = _
                simp only [Act.put, sA_, sZ_, sS_, i64_w, i32_w]
                rfl
               refine pure_ (i := 16) (N := some 59) (v := ?_) (a' := ?_) #[true, true, true, true, true, true, true, true, true, true, true, true, true, true, true, true, true, false, true, false, false] rfl rfl (any_of HT_.out (by kernel_rfl)) (fun _ _ _ h => h) (Or.inl ⟨by rfl, ?_⟩) ?_ ?_
               rotate_left
               ·
                intro w'
                go_simp
                with_reducible rfl
               rotate_left
               ·
                simp only [Act.put, sA_, sZ_, sS_, i64_w, i32_w]
                rfl
               refine pure_ (i := 17) (N := some 60) (v := ?_) (a' := ?_) #[true, true, true, true, true, true, true, true, true, true, true, true, true, true, true, true, true, true, true, false, false] rfl rfl (any_of HT_.out (by kernel_rfl)) (fun _ _ _ h => h) (Or.inl ⟨by rfl, ?_⟩) ?_ ?_
               rotate_left
               ·
                intro w'
                go_simp
                with_reducible rfl
               rotate_left
               ·
                simp only [Act.put, sA_, sZ_, sS_, i64_w, i32_w]
                rfl
               refine pure_ (i := 19) (N := some 62) (v := ?_) (a' := ?_) #[true, true, true, true, true, true, true, true, true, true, true, true, true, true, true, true, true, true, true, true, false] rfl rfl (any_of HT_.out (by kernel_rfl)) (fun _ _ _ h => h) (Or.inl ⟨by rfl, ?_⟩) ?_ ?_
               rotate_left
               ·
                intro w'
                go_simp
                with_reducible rfl
               rotate_left
               ·
                simp only [Act.put, sA_, sZ_, sS_, i64_w, i32_w]
                rfl
               refine pure_ (i := 20) (N := some 9) (v := ?_) (a' := ?_) #[true, true, true, true, true, true, true, true, true, true, true, true, true, true, true, true, true, true, true, true, true] rfl rfl (any_of HT_.out (by kernel_rfl)) (fun _ _ _ h => h) (Or.inl ⟨by rfl, ?_⟩) ?_ ?_
               rotate_left
               ·
                intro w'
                go_simp
                with_reducible rfl
               rotate_left
               ·
                simp only [Act.put, sA_, sZ_, sS_, i64_w, i32_w]
                rfl
               refine done_ (done_of HT_.out (by kernel_rfl)) ?_
               have hnb129 := NB305_302.out
               have hnc129 := NB302_305.out
               have hnb130 := NB305_304.out
               have hnc130 := NB304_305.out
               have hcz131_0 : w127.cell? ⟨gb305, 0, none⟩ = some (.bool false) := (bc_ BK305.out 0).trans rfl
               have hcz131_1 : w127.cell? ⟨gb305, 1, none⟩ = some (.slice (some ad229) x306001_2.length co128) := (bc_ BK305.out 1).trans rfl
               have hfz131_0 := bf_ BK305.out 0
               have hfz131_1 := bf_ BK305.out 1
               have p122 : 0 ≤ ((ji116) : Int) := od_ (by first | (with_reducible assumption) | assumption)
               have q122 : ((ji116) : Int) < ((x306001_2.length : Int) : Int) := od_ (by first | (with_reducible assumption) | assumption)
               obtain ⟨go122, co122, eo122, gb122, gl122, cl122, HG122⟩ := Kd.R_form HO_306001.out (by omega)
               (first | cases eo122 | (injection eo122 with ea_ en_ ec_; (first | subst ea_ | (injection ea_ with ea_; subst ea_)); subst ec_; clear en_))
               have GB122 := A_ gb122
               have GG122 := A_ HG122
               clear gb122 gl122 HG122
               (first | simp only [add_plain] at hx229_0 | skip)
               obtain ⟨hx122_0, hf122_0⟩ := Kd.R_celln 0 HO_306001.out ((ji116) : Int) p122 q122
               replace p122 := eq_true p122
               replace q122 := eq_true q122
               obtain ⟨hy132_, hz132_⟩ := Kd.R_celln 0 HO_306001.out ((ji116) : Int) (od_ (by first | (with_reducible assumption) | assumption)) (od_ (by first | (with_reducible assumption) | assumption))
               have HP132 := Kd.R_putg HO_306001.out ((ji116) : Int) (Int.tmod (wrap64 ((wrap64 ((rd x306001_2 (ji116)) + (wrap64 ((rd l0_1 x6_1) * t231)))) + x7_2)) 65536)
               try go_wp2_with (((with_reducible refine gate_store (t := 3) (p := 70) rfl ?_); (first | (refine store_event (t := 3) (p := 70) (v := ?vo_w133) (w1 := (w127.setCell ⟨go122, ((ji116) : Int).toNat, none⟩ (.int .i64 (Int.tmod (wrap64 ((wrap64 ((rd x306001_2 (ji116)) + (wrap64 ((rd l0_1 x6_1) * t231)))) + x7_2)) 65536)))) ?hg ?ho ?hn ?hr ?_; (case ho => rfl); (case hg => rfl); (case hn => rfl); (case hr => first | (go_simp; done) | (go_simp; rfl)); intro w133 hw) | (refine store_event (t := 3) (p := 70) (v := ?vo_w133) (w1 := ((w127.drewN ?ndq_w133).setCell ⟨go122, ((ji116) : Int).toNat, none⟩ (.int .i64 (Int.tmod (wrap64 ((wrap64 ((rd x306001_2 (ji116)) + (wrap64 ((rd l0_1 x6_1) * t231)))) + x7_2)) 65536)))) ?hg ?ho ?hn ?hr ?_; (case ho => rfl); (case hg => rfl); (case hn => rfl); (case hr => first | (go_simp; done) | (go_simp; rfl)); intro w133 hw; rw [sd_eq] at hw)); have hg : w127.grownBy w133 (some go122) := (by rw [hw]; first | (with_reducible exact HP132.2) | (exact grown_dn (HP132.2) _) | (exact pn_ (HP132.2) _) | (exact Kd.R_drewN (HP132.2) _) | exact HP132.2); have hp_ : Kd.R (Kd.int .i64) 3 w133 w.heap.size (fun k_ => (w.heap.size ≤ k_)) (.slice (some ⟨go122, 0, none⟩) x306001_2.length co128) y232 := (by rw [hw, Ny232.out]; first | (with_reducible exact HP132.1) | (exact grown_dn (HP132.1) _) | (exact pn_ (HP132.1) _) | (exact Kd.R_drewN (HP132.1) _) | exact HP132.1); clear HP132; have n0_ := A_ (hp_); have n1_ := A_ (blk_grown (g := gb302) (o := .cells #[.bool a0_0, .slice (some ad230) l0_1.length c0_1] 32 (0, 0)) bk_ hg (Kd.R_ne HO_306001.out BK302.out (by decide))); have n2_ := A_ (blk_grown (g := gb303) (o := .cells #[.bool a1_0, .slice A1_1 l1_1.length c1_1] 32 (0, 0)) bk_ hg (Kd.R_ne HO_306001.out BK303.out (by decide))); have n3_ := A_ (blk_grown (g := gb304) (o := .cells #[.bool false, .slice none 0 0] 32 (0, 0)) bk_ hg (Kd.R_ne HO_306001.out BK304.out (by decide))); have n4_ := A_ (blk_grown (g := gb305) (o := .cells #[.bool false, .slice (some ⟨go122, 0, none⟩) x306001_2.length co128] 32 (0, 0)) bk_ hg (Kd.R_ne HO_306001.out BK305.out (by decide))); have n5_ := A_ ((by rw [hw]; first | (with_reducible exact bt_ (HB.out) GB122.out) | (exact grown_dn (bt_ (HB.out) GB122.out) _) | (exact pn_ (bt_ (HB.out) GB122.out) _) | (exact Kd.R_drewN (bt_ (HB.out) GB122.out) _) | exact bt_ (HB.out) GB122.out : Below w.heap.size w w133)); clear HO_306001; clear BK302; clear BK303; clear BK304; clear BK305; clear HB; have HO_306001 := n0_; have BK302 := n1_; have BK303 := n2_; have BK304 := n3_; have BK305 := n4_; have HB := n5_; clear n0_ n1_ n2_ n3_ n4_ n5_; clear hg hw hp_))
               go_roundg k2
               case measure => have := HK1.out; have := HK2.out; omega
               case rel => exact ⟨(wrap64 (Int.tdiv (wrap64 ((wrap64 ((rd x306001_2 (ji116)) + (wrap64 ((rd l0_1 x6_1) * t231)))) + x7_2)) 65536)), (wrap64 (x8_2 + 1)), (y232), (.slice (some ⟨go122, 0, none⟩) x306001_2.length co128), (by first | rfl | (simp; done) | (simp only [← hji116] <;> (first | rfl | simp)) | (simp [*]; done)), (by first | rfl | (simp; done) | (simp [*]; done)), H', ⟨by have := HK1.out; have := HK2.out; omega⟩, ⟨by (with_reducible repeat (first | apply Kd.R_alloc | apply Kd.R_drewN | apply Kd.R_drew)); exact HO_306001.out⟩, ⟨bk_⟩, ⟨bk_⟩, ⟨bk_⟩, ⟨bk_⟩, ⟨bw_⟩⟩
              ·
               rw [if_neg c120] at H
               exact absurd H (by simp)
             ·
              rw [if_neg c119] at H
              exact absurd H (by simp)
            ·
             rw [if_neg c118] at H
             exact absurd H (by simp)
           ·
            rw [if_neg c117] at H
            exact absurd H (by simp)
          ·
           rw [if_neg c115] at H
           have c115b0 : decide (0 < x7_2) = false := decide_eq_false c115
           clear c115
           have H' := A_ H
           clear H
           have hnb134 := NB303_302.out
           have hnc134 := NB302_303.out
           have hnb135 := NB303_304.out
           have hnc135 := NB304_303.out
           have hnb136 := NB303_305.out
           have hnc136 := NB305_303.out
           have hcz137_0 : wr.cell? ⟨gb303, 0, none⟩ = some (.bool a1_0) := (bc_ BK303.out 0).trans rfl
           have hcz137_1 : wr.cell? ⟨gb303, 1, none⟩ = some (.slice A1_1 l1_1.length c1_1) := (bc_ BK303.out 1).trans rfl
           have hfz137_0 := bf_ BK303.out 0
           have hfz137_1 := bf_ BK303.out 1
           go_wp2
           go_roundg k2
           case measure => have := HK1.out; have := HK2.out; omega
           case rel => exact ⟨(wrap64 (x6_1 + 1)), (x306001_2), (u306001), (by first | rfl | (simp; done) | (simp [*]; done)), H', ⟨by have := HK1.out; have := HK2.out; omega⟩, ⟨by (with_reducible repeat (first | apply Kd.R_alloc | apply Kd.R_drewN | apply Kd.R_drew)); exact HO_306001.out⟩, ⟨bk_⟩, ⟨bk_⟩, ⟨bk_⟩, ⟨bk_⟩, ⟨bw_⟩⟩
      ·
       rw [if_neg c91] at H
       have c91b0 : decide (x6_1 < (l0_1.length : Int)) = false := decide_eq_false c91
       clear c91
       replace H := os_ H
       obtain ⟨⟨t221, t222⟩, A1380, H⟩ := H
       replace H : (some (t221, t222)) = some (r1, r2) := H
       have A138 := A_ A1380
       clear A1380
       simp only [Option.some.injEq, Prod.mk.injEq] at H
       obtain ⟨rfl, rfl⟩ := H
       have hnb139 := NB302_303.out
       have hnc139 := NB303_302.out
       have hnb140 := NB302_304.out
       have hnc140 := NB304_302.out
       have hnb141 := NB302_305.out
       have hnc141 := NB305_302.out
       have hcz142_0 : wr.cell? ⟨gb302, 0, none⟩ = some (.bool a0_0) := (bc_ BK302.out 0).trans rfl
       have hcz142_1 : wr.cell? ⟨gb302, 1, none⟩ = some (.slice A0_1 l0_1.length c0_1) := (bc_ BK302.out 1).trans rfl
       have hfz142_0 := bf_ BK302.out 0
       have hfz142_1 := bf_ BK302.out 1
       have hnb143 := NB305_303.out
       have hnc143 := NB303_305.out
       have hnb144 := NB305_304.out
       have hnc144 := NB304_305.out
       have hcz145_0 : wr.cell? ⟨gb305, 0, none⟩ = some (.bool false) := (bc_ BK305.out 0).trans rfl
       have hcz145_1 : wr.cell? ⟨gb305, 1, none⟩ = some (u306001) := (bc_ BK305.out 1).trans rfl
       have hfz145_0 := bf_ BK305.out 0
       have hfz145_1 := bf_ BK305.out 1
       obtain ⟨Ao146, co146, eo146⟩ := Kd.R_slice HO_306001.out
       subst eo146
       go_wp2_with (((with_reducible refine gate_callee (f := 47) rfl ?_); refine goesL_ (some 74) rfl rfl Try.func47 (by kernel_rfl) rfl #[.agg #[.bool false, .slice Ao146 x306001_1.length co146]] rfl (by (try simp only [List.map_toArray, List.map_cons, List.map_nil]); first | done | rfl | (simp only [List.length_drop, List.length_take]; rfl)) ?_; (with_reducible refine (clevisref01_clean.calls k1 false (fun k_ => some k_ = (.slice Ao146 x306001_1.length co146 : Value).ownBlock) _ _ x306001_1 t221 t222 _ ?side1 A138.out).mono ?_); (case side1 => exact Kd.R_V (Kd.R_tight rfl (Kd.R_types (Kd.R_types (Kd.R_types (Kd.R_types (HO_306001.out) BK302.out (by decide)) BK303.out (by decide)) BK304.out (by decide)) BK305.out (by decide)))); rintro e w147 ⟨v223, rfl, ho0, hb⟩; refine ⟨_, rfl, ?_⟩; have n0_ := A_ (Kd.R_below (by (with_reducible repeat (first | apply Kd.R_alloc | apply Kd.R_drewN | apply Kd.R_drew)); exact HO_306001.out) hb); have n1_ := A_ (Kd.V_lower (vm_ (ok' := fun k_ => (w.heap.size ≤ k_) ∧ k_ ≠ gb302 ∧ k_ ≠ gb303 ∧ k_ ≠ gb304 ∧ k_ ≠ gb305) ho0 (fun k_ hk_ => ⟨Or.elim hk_ (fun hs_ => ((Kd.R_types (Kd.R_types (Kd.R_types (Kd.R_types (HO_306001.out) BK302.out (by decide)) BK303.out (by decide)) BK304.out (by decide)) BK305.out (by decide)).1 k_ hs_.symm).1.1.1.1) (fun hn_ => (Nat.le_trans (bz_ bw_) hn_)), Or.elim hk_ (fun hs_ => ((Kd.R_types (Kd.R_types (Kd.R_types (Kd.R_types (HO_306001.out) BK302.out (by decide)) BK303.out (by decide)) BK304.out (by decide)) BK305.out (by decide)).1 k_ hs_.symm).1.1.1.2) (fun hn_ => (Kd.freshB (g := gb302) (o := .cells #[.bool a0_0, .slice A0_1 l0_1.length c0_1] 32 (0, 0)) bk_ k_ hn_)), Or.elim hk_ (fun hs_ => ((Kd.R_types (Kd.R_types (Kd.R_types (Kd.R_types (HO_306001.out) BK302.out (by decide)) BK303.out (by decide)) BK304.out (by decide)) BK305.out (by decide)).1 k_ hs_.symm).1.1.2) (fun hn_ => (Kd.freshB (g := gb303) (o := .cells #[.bool a1_0, .slice A1_1 l1_1.length c1_1] 32 (0, 0)) bk_ k_ hn_)), Or.elim hk_ (fun hs_ => ((Kd.R_types (Kd.R_types (Kd.R_types (Kd.R_types (HO_306001.out) BK302.out (by decide)) BK303.out (by decide)) BK304.out (by decide)) BK305.out (by decide)).1 k_ hs_.symm).1.2) (fun hn_ => (Kd.freshB (g := gb304) (o := .cells #[.bool false, .slice none 0 0] 32 (0, 0)) bk_ k_ hn_)), Or.elim hk_ (fun hs_ => ((Kd.R_types (Kd.R_types (Kd.R_types (Kd.R_types (HO_306001.out) BK302.out (by decide)) BK303.out (by decide)) BK304.out (by decide)) BK305.out (by decide)).1 k_ hs_.symm).2) (fun hn_ => (Kd.freshB (g := gb305) (o := .cells #[.bool false, .slice Ao146 x306001_1.length co146] 32 (0, 0)) bk_ k_ hn_))⟩)) (bz_ bw_)); have n2_ := A_ (kb_ BK302 hb); have n3_ := A_ (kb_ BK303 hb); have n4_ := A_ (kb_ BK304 hb); have n5_ := A_ (kb_ BK305 hb); have n6_ := A_ (bs_ bw_ hb); clear HO_306001; clear BK302; clear BK303; clear BK304; clear BK305; clear HB; have HO_306001 := n0_; have HO224 := n1_; have BK302 := n2_; have BK303 := n3_; have BK304 := n4_; have BK305 := n5_; have HB := n6_; clear n0_ n1_ n2_ n3_ n4_ n5_ n6_; (try clear hb); (try clear hb2); (try clear hk); (try clear hi); (try clear ho0); have hnb148 := NB304_303.out; have hnc148 := NB303_304.out; have hcz149_0 : w147.cell? ⟨gb304, 0, none⟩ = some (.bool false) := (bc_ BK304.out 0).trans rfl; have hcz149_1 : w147.cell? ⟨gb304, 1, none⟩ = some (.slice none 0 0) := (bc_ BK304.out 1).trans rfl; have hfz149_0 := bf_ BK304.out 0; have hfz149_1 := bf_ BK304.out 1; obtain ⟨Ao150, co150, eo150⟩ := Kd.V_slice HO224.out; subst eo150))
       refine bodyPost_ret (results_cell_row rfl _ _ gb304 32 #[.bool t221, .slice Ao150 t222.length co150] (0, 0) _ rfl (by (with_reducible repeat (first | refine bn_ ?_ _ | refine bd_ ?_ | refine ba_ ?_ _)); refine bp_ (cs := #[.bool t221, .slice none 0 0]) ?_ 1 _ rfl; (with_reducible repeat (first | refine bn_ ?_ _ | refine bd_ ?_ | refine ba_ ?_ _)); refine bp_ (cs := #[.bool false, .slice none 0 0]) ?_ 0 _ rfl; (with_reducible repeat (first | refine bn_ ?_ _ | refine bd_ ?_ | refine ba_ ?_ _)); exact BK304.out) Try.underlying32 rfl (by kernel_rfl)) rfl ?_
       exact ⟨_, by first | rfl | (simp [errW_none, errW_some] <;> rfl) | (simp only [← hji3]; first | rfl | (simp [errW_none, errW_some] <;> rfl)) | (simp [*, errW_none, errW_some] <;> rfl), by (with_reducible repeat (first | apply va_ | apply vn_ | apply vd_)); exact vm_ (Kd.V_far (p := ⟨gb304, 1, none⟩) (Kd.V_far (p := ⟨gb304, 0, none⟩) (vm_ HO224.out (fun k_ hk => (⟨hk, hk.2.2.2.1⟩ : _ ∧ k_ ≠ gb304))) (fun _ hk => hk.2) (.bool t221)) (fun _ hk => hk.2) (.slice Ao150 t222.length co150)) (fun _ hk => hk.1.1), bw_⟩
  ·
   rw [if_neg c5] at H
   exact absurd H (by simp)
 ·
  rw [if_neg c4] at H
  exact absurd H (by simp)
end Go.Proofs.Ytjbcigiffihjaaa.Fx
end
section
namespace Go.Proofs.Ytjbcigiffihjaaa.Fc
set_option linter.unusedSimpArgs false
set_option linter.unusedVariables false
open Go Go.RowKit Go.Proofs.Ytjbcigiffihjaaa.Fx Go.Proofs.YtjbcigiffihjaaaW.PrintWords Go.Proofs.Ytjbcigiffihjaaa.Fv
theorem at_f (d : List Int) (i : Nat) : clevisref01_at.f d (i : Int) = some (d.getD i 0) := by
  unfold clevisref01_at.f
  by_cases h : i < d.length
  · rw [if_pos (by omega), if_pos (by omega), rd_at]
  · rw [if_neg (by omega), List.getD_eq_getElem?_getD, List.getElem?_eq_none (by omega)]
    rfl
end Go.Proofs.Ytjbcigiffihjaaa.Fc
end
section
namespace Go.Proofs.Ytjbcigiffihjaaa.Fc
set_option linter.unusedSimpArgs false
set_option linter.unusedVariables false
open Go Go.RowKit Go.Proofs.Ytjbcigiffihjaaa.Fx Go.Proofs.YtjbcigiffihjaaaW.PrintWords Go.Proofs.Ytjbcigiffihjaaa.Fv
theorem sub_l102 (a b : List Int) (ha : Ds a) (hb : Ds b) (hla : a.length ≤ 900000) (hlb : b.length ≤ a.length) (hle : V b ≤ V a) (na nb no : Bool) : ∀ (n i : Nat) (less : Int) (out : List Int), i + n = a.length → 0 ≤ less → less ≤ 1 → out.length = i → Ds out → V out - B i * less = V (a.take i) - V (b.take i) →
    ∃ K n' d', (∀ e, clevisref01_Add.l102 (K + e) less (i : Int) na a nb b no out = some (n', d')) ∧ Nm (if no = true then -(V a - V b) else V a - V b) n' d' ∧ d'.length ≤ a.length
  | 0, i, less, out, hi, h0, h1, ho, hd, hv => by
    have e1 : a.take i = a := List.take_of_length_le (by omega)
    have e2 : b.take i = b := List.take_of_length_le (by omega)
    rw [e1, e2] at hv
    have hlt := V_lt hd
    rw [ho] at hlt
    have hz : less = 0 := by
      rcases (show less = 0 ∨ less = 1 by omega) with q | q
      · exact q
      · rw [q] at hv; omega
    subst hz
    have hvo : V out = V a - V b := by omega
    obtain ⟨K, n', d', k1, k2, k3⟩ := clean_good no out hd (by omega) _ rfl
    refine ⟨K + 1, n', d', fun e => ?_, ?_, by omega⟩
    · rw [show K + 1 + e = (K + e) + 1 by omega, clevisref01_Add.l102, if_neg (by omega), k1 e]
      rfl
    · unfold val at k2
      rw [hvo] at k2
      exact k2
  | n + 1, i, less, out, hi, h0, h1, ho, hd, hv => by
    have pa := ha.at i
    have pb := hb.at i
    unfold Dg at pa pb
    have va := V_take_succ a i
    have vb := V_take_succ b i
    have hw : wrap64 ((i : Int) + 1) = ((i + 1 : Nat) : Int) := by unfold wrap64; omega
    have hBs := B_succ i
    generalize hp : a.getD i 0 = p at *
    generalize hq : b.getD i 0 = q at *
    have step : ∀ (dig less' : Int), dig - 65536 * less' = p - q - less → B i * dig - B (i + 1) * less' = B i * p - B i * q - B i * less := by
      intro dig less' h
      have h2 : B i * (dig - 65536 * less') = B i * (p - q - less) := by rw [h]
      rw [Int.mul_sub, Int.mul_sub, Int.mul_sub, ← Int.mul_assoc] at h2
      rw [hBs, Int.mul_comm 65536 (B i)]
      exact h2
    by_cases hs : p - q - less < 0
    · have k := sub_l102 a b ha hb hla hlb hle na nb no n (i + 1) 1 (out ++ [p - q - less + 65536]) (by omega) (by omega) (by omega) (by simp [ho]) (hd.snoc ⟨by omega, by omega⟩) (by
        have h3 := step (p - q - less + 65536) 1 (by omega)
        rw [V_snoc, ho]
        omega)
      obtain ⟨K, n', d', k1, k2, k3⟩ := k
      clear va vb hBs hv step
      refine ⟨K + 1, n', d', fun e => ?_, k2, k3⟩
      rw [show K + 1 + e = (K + e) + 1 by omega, clevisref01_Add.l102, if_pos (by omega), at_f, at_f, Option.bind_some, Option.bind_some, hp, hq, w64 (n := p - q) (by omega) (by omega), w64 (n := p - q - less) (by omega) (by omega), if_pos hs, if_pos (by omega), w64 (n := p - q - less + 65536) (by omega) (by omega), hw]
      exact k1 e
    · have k := sub_l102 a b ha hb hla hlb hle na nb no n (i + 1) 0 (out ++ [p - q - less]) (by omega) (by omega) (by omega) (by simp [ho]) (hd.snoc ⟨by omega, by omega⟩) (by
        have h3 := step (p - q - less) 0 (by omega)
        rw [V_snoc, ho]
        omega)
      obtain ⟨K, n', d', k1, k2, k3⟩ := k
      clear va vb hBs hv step
      refine ⟨K + 1, n', d', fun e => ?_, k2, k3⟩
      rw [show K + 1 + e = (K + e) + 1 by omega, clevisref01_Add.l102, if_pos (by omega), at_f, at_f, Option.bind_some, Option.bind_some, hp, hq, w64 (n := p - q) (by omega) (by omega), w64 (n := p - q - less) (by omega) (by omega), if_neg hs, if_pos (by omega), hw]
      exact k1 e
end Go.Proofs.Ytjbcigiffihjaaa.Fc
end
section
namespace Go.Proofs.Ytjbcigiffihjaaa.Fc
set_option linter.unusedSimpArgs false
set_option linter.unusedVariables false
open Go Go.RowKit Go.Proofs.Ytjbcigiffihjaaa.Fx Go.Proofs.YtjbcigiffihjaaaW.PrintWords Go.Proofs.Ytjbcigiffihjaaa.Fv
theorem sub_l1 (a b : List Int) (ha : Ds a) (hb : Ds b) (hla : a.length ≤ 900000) (hlb : b.length ≤ a.length) (hle : V b ≤ V a) (na nb no : Bool) : ∀ (n i : Nat) (less : Int) (out : List Int), i + n = a.length → 0 ≤ less → less ≤ 1 → out.length = i → Ds out → V out - B i * less = V (a.take i) - V (b.take i) →
    ∃ K n' d', (∀ e, clevisref01_Add.l1 (K + e) less (i : Int) na a nb b no out = some (n', d')) ∧ Nm (if no = true then -(V a - V b) else V a - V b) n' d' ∧ d'.length ≤ a.length
  | 0, i, less, out, hi, h0, h1, ho, hd, hv => by
    have e1 : a.take i = a := List.take_of_length_le (by omega)
    have e2 : b.take i = b := List.take_of_length_le (by omega)
    rw [e1, e2] at hv
    have hlt := V_lt hd
    rw [ho] at hlt
    have hz : less = 0 := by
      rcases (show less = 0 ∨ less = 1 by omega) with q | q
      · exact q
      · rw [q] at hv; omega
    subst hz
    have hvo : V out = V a - V b := by omega
    obtain ⟨K, n', d', k1, k2, k3⟩ := clean_good no out hd (by omega) _ rfl
    refine ⟨K + 1, n', d', fun e => ?_, ?_, by omega⟩
    · rw [show K + 1 + e = (K + e) + 1 by omega, clevisref01_Add.l1, if_neg (by omega), k1 e]
      rfl
    · unfold val at k2
      rw [hvo] at k2
      exact k2
  | n + 1, i, less, out, hi, h0, h1, ho, hd, hv => by
    have pa := ha.at i
    have pb := hb.at i
    unfold Dg at pa pb
    have va := V_take_succ a i
    have vb := V_take_succ b i
    have hw : wrap64 ((i : Int) + 1) = ((i + 1 : Nat) : Int) := by unfold wrap64; omega
    have hBs := B_succ i
    generalize hp : a.getD i 0 = p at *
    generalize hq : b.getD i 0 = q at *
    have step : ∀ (dig less' : Int), dig - 65536 * less' = p - q - less → B i * dig - B (i + 1) * less' = B i * p - B i * q - B i * less := by
      intro dig less' h
      have h2 : B i * (dig - 65536 * less') = B i * (p - q - less) := by rw [h]
      rw [Int.mul_sub, Int.mul_sub, Int.mul_sub, ← Int.mul_assoc] at h2
      rw [hBs, Int.mul_comm 65536 (B i)]
      exact h2
    by_cases hs : p - q - less < 0
    · have k := sub_l1 a b ha hb hla hlb hle na nb no n (i + 1) 1 (out ++ [p - q - less + 65536]) (by omega) (by omega) (by omega) (by simp [ho]) (hd.snoc ⟨by omega, by omega⟩) (by
        have h3 := step (p - q - less + 65536) 1 (by omega)
        rw [V_snoc, ho]
        omega)
      obtain ⟨K, n', d', k1, k2, k3⟩ := k
      clear va vb hBs hv step
      refine ⟨K + 1, n', d', fun e => ?_, k2, k3⟩
      rw [show K + 1 + e = (K + e) + 1 by omega, clevisref01_Add.l1, if_pos (by omega), at_f, at_f, Option.bind_some, Option.bind_some, hp, hq, w64 (n := p - q) (by omega) (by omega), w64 (n := p - q - less) (by omega) (by omega), if_pos hs, if_pos (by omega), w64 (n := p - q - less + 65536) (by omega) (by omega), hw]
      exact k1 e
    · have k := sub_l1 a b ha hb hla hlb hle na nb no n (i + 1) 0 (out ++ [p - q - less]) (by omega) (by omega) (by omega) (by simp [ho]) (hd.snoc ⟨by omega, by omega⟩) (by
        have h3 := step (p - q - less) 0 (by omega)
        rw [V_snoc, ho]
        omega)
      obtain ⟨K, n', d', k1, k2, k3⟩ := k
      clear va vb hBs hv step
      refine ⟨K + 1, n', d', fun e => ?_, k2, k3⟩
      rw [show K + 1 + e = (K + e) + 1 by omega, clevisref01_Add.l1, if_pos (by omega), at_f, at_f, Option.bind_some, Option.bind_some, hp, hq, w64 (n := p - q) (by omega) (by omega), w64 (n := p - q - less) (by omega) (by omega), if_neg hs, if_pos (by omega), hw]
      exact k1 e
end Go.Proofs.Ytjbcigiffihjaaa.Fc
end
section
namespace Go.Proofs.Ytjbcigiffihjaaa.Fc
set_option linter.unusedSimpArgs false
set_option linter.unusedVariables false
open Go Go.RowKit Go.Proofs.Ytjbcigiffihjaaa.Fx Go.Proofs.YtjbcigiffihjaaaW.PrintWords Go.Proofs.Ytjbcigiffihjaaa.Fv
theorem add_l0 (a b : List Int) (ha : Ds a) (hb : Ds b) (hla : a.length ≤ 900000) (hlb : b.length ≤ 900000) (na nb no : Bool) : ∀ (n i : Nat) (more : Int) (out : List Int), i + n = max a.length b.length → 0 ≤ more → more ≤ 1 → out.length = i → Ds out → V out + B i * more = V (a.take i) + V (b.take i) →
    ∃ K n' d', (∀ e, clevisref01_Add.l0 (K + e) more (i : Int) na a nb b no out = some (n', d')) ∧ Nm (if no = true then -(V a + V b) else V a + V b) n' d' ∧ d'.length ≤ max a.length b.length + 1
  | 0, i, more, out, hi, h0, h1, ho, hd, hv => by
    have e1 : a.take i = a := List.take_of_length_le (by omega)
    have e2 : b.take i = b := List.take_of_length_le (by omega)
    rw [e1, e2] at hv
    have hvo : V (out ++ [more]) = V a + V b := by rw [V_snoc, ho]; exact hv
    have hlo : (out ++ [more]).length = i + 1 := by simp [ho]
    obtain ⟨K, n', d', k1, k2, k3⟩ := clean_good no (out ++ [more]) (hd.snoc ⟨h0, by omega⟩) (by omega) _ rfl
    refine ⟨K + 2, n', d', fun e => ?_, ?_, by omega⟩
    · rw [show K + 2 + e = (K + e + 1) + 1 by omega, clevisref01_Add.l0, if_neg (by omega), decide_eq_false (by omega), clevisref01_Add.j1, if_neg (by simp), if_pos (by omega), k1 e]
      rfl
    · unfold val at k2
      rw [hvo] at k2
      exact k2
  | n + 1, i, more, out, hi, h0, h1, ho, hd, hv => by
    have pa := ha.at i
    have pb := hb.at i
    unfold Dg at pa pb
    have va := V_take_succ a i
    have vb := V_take_succ b i
    have hw : wrap64 ((i : Int) + 1) = ((i + 1 : Nat) : Int) := by unfold wrap64; omega
    have hBs := B_succ i
    generalize hp : a.getD i 0 = p at *
    generalize hq : b.getD i 0 = q at *
    have step : ∀ (dig more' : Int), dig + 65536 * more' = p + q + more → B i * dig + B (i + 1) * more' = B i * p + B i * q + B i * more := by
      intro dig more' h
      have h2 : B i * (dig + 65536 * more') = B i * (p + q + more) := by rw [h]
      rw [Int.mul_add, Int.mul_add, Int.mul_add, ← Int.mul_assoc] at h2
      rw [hBs, Int.mul_comm 65536 (B i)]
      exact h2
    have hs : 0 ≤ p + q + more := by omega
    have k := add_l0 a b ha hb hla hlb na nb no n (i + 1) ((p + q + more) / 65536) (out ++ [(p + q + more) % 65536]) (by omega) (by omega) (by omega) (by simp [ho]) (hd.snoc ⟨by omega, by omega⟩) (by
      have h3 := step ((p + q + more) % 65536) ((p + q + more) / 65536) (by omega)
      rw [V_snoc, ho]
      omega)
    obtain ⟨K, n', d', k1, k2, k3⟩ := k
    clear va vb hBs hv step
    refine ⟨K + 2, n', d', fun e => ?_, k2, k3⟩
    have hj : clevisref01_Add.j1 (K + e + 1) more (i : Int) true na a nb b no out = some (n', d') := by
      rw [clevisref01_Add.j1, if_pos rfl, at_f, at_f, Option.bind_some, Option.bind_some, hp, hq, w64 (n := p + q) (by omega) (by omega), w64 (n := p + q + more) (by omega) (by omega), if_pos (by omega), Int.tdiv_eq_ediv_of_nonneg hs, Int.tmod_eq_emod_of_nonneg hs, w64 (n := (p + q + more) / 65536) (by omega) (by omega), hw]
      exact k1 e
    rw [show K + 2 + e = (K + e + 1) + 1 by omega, clevisref01_Add.l0]
    by_cases h : (i : Int) < (a.length : Int)
    · rw [if_pos h, hj]
    · rw [if_neg h, decide_eq_true (by omega), hj]
end Go.Proofs.Ytjbcigiffihjaaa.Fc
end
section
namespace Go.Proofs.Ytjbcigiffihjaaa.Fc
set_option linter.unusedSimpArgs false
set_option linter.unusedVariables false
open Go Go.RowKit Go.Proofs.Ytjbcigiffihjaaa.Fx Go.Proofs.YtjbcigiffihjaaaW.PrintWords Go.Proofs.Ytjbcigiffihjaaa.Fv
theorem Add_f {x y : Int} {na nb : Bool} {a b : List Int} (ha : Nm x na a) (hb : Nm y nb b) (hla : a.length ≤ 900000) (hlb : b.length ≤ 900000) : ∃ K n d, (∀ e, clevisref01_Add.f (K + e) na a nb b = some (n, d)) ∧ Nm (x + y) n d ∧ d.length ≤ max a.length b.length + 1 := by
  have vx := ha.val
  have vy := hb.val
  unfold val at vx vy
  have hba := V_nonneg ha.ds
  have hbb := V_nonneg hb.ds
  by_cases hs : na = nb
  · subst hs
    obtain ⟨K, n, d, k1, k2, k3⟩ := add_l0 a b ha.ds hb.ds hla hlb na na na (max a.length b.length) 0 0 [] (by omega) (by omega) (by omega) rfl Ds.nil (by simp [V])
    refine ⟨K, n, d, fun e => ?_, ?_, k3⟩
    · unfold clevisref01_Add.f
      rw [if_pos (by simp)]
      exact k1 e
    · have : (if na = true then -(V a + V b) else V a + V b) = x + y := by
        cases na <;> simp at vx vy ⊢ <;> omega
      rw [this] at k2
      exact k2
  · have hne : ¬ (na == nb) = true := by simpa using hs
    obtain ⟨K0, hK0⟩ := size_f a b ha.ds hb.ds ha.top hb.top (by omega) (by omega)
    by_cases hlt : V a < V b
    · have hll : a.length ≤ b.length := len_le ha.ds ha.top hb.ds (by omega)
      obtain ⟨K, n, d, k1, k2, k3⟩ := sub_l1 b a hb.ds ha.ds hlb hll (by omega) nb na nb b.length 0 0 [] (by omega) (by omega) (by omega) rfl Ds.nil (by simp [V])
      refine ⟨K0 + K, n, d, fun e => ?_, ?_, by omega⟩
      · unfold clevisref01_Add.f
        rw [if_neg hne, show K0 + K + e = K0 + (K + e) by omega, hK0, Option.bind_some, if_pos (by unfold sgn; rw [if_pos hlt]; decide), show K0 + (K + e) = K + (K0 + e) by omega]
        exact k1 (K0 + e)
      · have : (if nb = true then -(V b - V a) else V b - V a) = x + y := by
          cases na <;> cases nb <;> simp at vx vy hs ⊢ <;> omega
        rw [this] at k2
        exact k2
    · have hll : b.length ≤ a.length := len_le hb.ds hb.top ha.ds (by omega)
      obtain ⟨K, n, d, k1, k2, k3⟩ := sub_l102 a b ha.ds hb.ds hla hll (by omega) na nb na a.length 0 0 [] (by omega) (by omega) (by omega) rfl Ds.nil (by simp [V])
      refine ⟨K0 + K, n, d, fun e => ?_, ?_, by omega⟩
      · unfold clevisref01_Add.f
        rw [if_neg hne, show K0 + K + e = K0 + (K + e) by omega, hK0, Option.bind_some, if_neg (by unfold sgn; rw [if_neg hlt]; split <;> decide), show K0 + (K + e) = K + (K0 + e) by omega]
        exact k1 (K0 + e)
      · have : (if na = true then -(V a - V b) else V a - V b) = x + y := by
          cases na <;> cases nb <;> simp at vx vy hs ⊢ <;> omega
        rw [this] at k2
        exact k2
end Go.Proofs.Ytjbcigiffihjaaa.Fc
end
section
namespace Go.Proofs.Ytjbcigiffihjaaa.Fc
set_option linter.unusedSimpArgs false
set_option linter.unusedVariables false
open Go Go.RowKit Go.Proofs.Ytjbcigiffihjaaa.Fx Go.Proofs.YtjbcigiffihjaaaW.PrintWords Go.Proofs.Ytjbcigiffihjaaa.Fv
theorem mul_step (Bik Bi Bk ai bk o more s Vo X Vk : Int) (hs : o + ai * bk + more = s) (hBa : Bik = Bi * Bk) (hv : Vo + Bik * more = X + Bi * ai * Vk) : Vo + Bik * (s % 65536 - o) + 65536 * Bik * (s / 65536) = X + Bi * ai * (Vk + Bk * bk) := by
  have h2 : s % 65536 - o + 65536 * (s / 65536) = ai * bk + more := by
    generalize ai * bk = z at hs
    omega
  have h3 : Bik * (s % 65536 - o) + 65536 * Bik * (s / 65536) = Bik * (ai * bk) + Bik * more := by
    rw [← Int.mul_add, ← h2, Int.mul_add, Int.mul_comm 65536 Bik, Int.mul_assoc]
  have h4 : Bi * ai * (Vk + Bk * bk) = Bi * ai * Vk + Bik * (ai * bk) := by
    rw [Int.mul_add, hBa]
    congr 1
    rw [Int.mul_assoc, Int.mul_assoc, ← Int.mul_assoc ai, Int.mul_comm ai Bk, Int.mul_assoc]
  rw [h4, Int.add_assoc, h3]
  generalize Bik * (ai * bk) = z1
  generalize Bik * more = z2 at *
  generalize Bi * ai * Vk = z3 at *
  omega
theorem V_set (d : List Int) (i : Nat) (x : Int) (h : i < d.length) : V (d.set i x) = V d + B i * (x - d.getD i 0) := by
  have h1 : d = d.take i ++ d.getD i 0 :: d.drop (i + 1) := by
    rw [List.getD_eq_getElem?_getD, List.getElem?_eq_getElem h, Option.getD_some, ← List.drop_eq_getElem_cons h, List.take_append_drop]
  have h2 : d.set i x = d.take i ++ x :: d.drop (i + 1) := by rw [List.set_eq_take_append_cons_drop, if_pos h]
  have h3 : V d = V (d.take i ++ d.getD i 0 :: d.drop (i + 1)) := by rw [← h1]
  rw [h2, h3, V_append, V_append, List.length_take, Nat.min_eq_left (by omega)]
  simp only [V]
  rw [Int.mul_add, Int.mul_add, Int.mul_sub]
  omega
theorem Ds.set {d : List Int} (h : Ds d) (i : Nat) {x : Int} (hx : Dg x) : Ds (d.set i x) := fun y hy => by
  rcases List.mem_or_eq_of_mem_set hy with q | q
  · exact h y q
  · rw [q]; exact hx
section
variable (a b : List Int) (ha : Ds a) (hb : Ds b) (hla : a.length ≤ 400000) (hlb : b.length ≤ 400000) (na nb no : Bool) (P : Bool × List Int → Prop)
include ha hb hla hlb
theorem mul_l1 (i : Nat) (hi : i < a.length) (T : Int) (hT : T < B (a.length + b.length + 1)) (hcont : ∀ out', Ds out' → out'.length = a.length + b.length + 1 → V out' = T → ∃ K r, (∀ e, clevisref01_Mul.l0 (K + e) ((i + 1 : Nat) : Int) na a nb b no out' = some r) ∧ P r) (X : Int) (hX : T = X + B i * (a.getD i 0) * V b) :
    ∀ (n k : Nat) (more : Int) (out : List Int), i + k + n = a.length + b.length + 1 → 0 ≤ more → more < 65536 → Ds out → out.length = a.length + b.length + 1 → V out + B (i + k) * more = X + B i * (a.getD i 0) * V (b.take k) →
      ∃ K r, (∀ e, clevisref01_Mul.l1 (K + e) (i : Int) more (k : Int) na a nb b no out = some r) ∧ P r := by
  have hwi : wrap64 ((i : Int) + 1) = ((i + 1 : Nat) : Int) := by unfold wrap64; omega
  have pa := ha.at i
  unfold Dg at pa
  have exit : ∀ (k : Nat) (out : List Int), b.length ≤ k → Ds out → out.length = a.length + b.length + 1 → V out = X + B i * (a.getD i 0) * V (b.take k) → ∃ K r, (∀ e, clevisref01_Mul.l1 (K + e) (i : Int) 0 (k : Int) na a nb b no out = some r) ∧ P r := by
    intro k out hk hd hl hv
    rw [List.take_of_length_le hk, ← hX] at hv
    obtain ⟨K, r, k1, k2⟩ := hcont out hd hl hv
    refine ⟨K + 1, r, fun e => ?_, k2⟩
    rw [show K + 1 + e = (K + e) + 1 by omega, clevisref01_Mul.l1, if_neg (by omega), if_neg (by omega), hwi]
    exact k1 e
  intro n
  induction n with
  | zero =>
    intro k more out hn h0 h1 hd hl hv
    have hk : b.length ≤ k := by omega
    have hnn := V_nonneg hd
    have hm : more = 0 := by
      rw [List.take_of_length_le hk, ← hX, show i + k = a.length + b.length + 1 by omega] at hv
      rcases (show more = 0 ∨ 1 ≤ more by omega) with q | q
      · exact q
      · have h2 := B_pos (a.length + b.length + 1)
        have h3 : B (a.length + b.length + 1) * 1 ≤ B (a.length + b.length + 1) * more := Int.mul_le_mul_of_nonneg_left q (by omega)
        omega
    subst hm
    rw [Int.mul_zero, Int.add_zero] at hv
    exact exit k out hk hd hl hv
  | succ n ih =>
    intro k more out hn h0 h1 hd hl hv
    have hwk : wrap64 ((k : Int) + 1) = ((k + 1 : Nat) : Int) := by clear hv hX hT; unfold wrap64; omega
    have pb := hb.at k
    have po := hd.at (i + k)
    unfold Dg at pb po
    have hpr : 0 ≤ a.getD i 0 * b.getD k 0 ∧ a.getD i 0 * b.getD k 0 ≤ 65535 * 65535 := by
      refine ⟨Int.mul_nonneg pa.1 pb.1, ?_⟩
      exact Int.mul_le_mul (by omega) (by omega) pb.1 (by omega)
    have f1 : i + k < out.length := by clear hv hX hT; omega
    have f2 : i + (k + 1) + n = a.length + b.length + 1 := by clear hv hX hT; omega
    have f3 : wrap64 ((i : Int) + (k : Int)) = ((i + k : Nat) : Int) := by clear hv hX hT; unfold wrap64; omega
    by_cases hgo : k < b.length ∨ 0 < more
    · obtain ⟨z, hz⟩ : ∃ z, a.getD i 0 * b.getD k 0 = z := ⟨_, rfl⟩
      obtain ⟨s, hs⟩ : ∃ s, out.getD (i + k) 0 + a.getD i 0 * b.getD k 0 + more = s := ⟨_, rfl⟩
      have hs2 : out.getD (i + k) 0 + z + more = s := by rw [← hz]; exact hs
      rw [hz] at hpr
      have hs0 : 0 ≤ s ∧ s < 4294967296 := by clear hv hX hT hs hz; omega
      have hdg : Dg (s % 65536) := ⟨by clear hv hX hT hs hz; omega, by clear hv hX hT hs hz; omega⟩
      have hm0 : 0 ≤ s / 65536 := by clear hv hX hT hs hz; omega
      have hm1 : s / 65536 < 65536 := by clear hv hX hT hs hz; omega
      have hst := mul_step (B (i + k)) (B i) (B k) (a.getD i 0) (b.getD k 0) (out.getD (i + k) 0) more s (V out) X (V (b.take k)) hs (B_add i k) hv
      obtain ⟨K, r, k1, k2⟩ := ih (k + 1) (s / 65536) (out.set (i + k) (s % 65536)) f2 hm0 hm1 (Ds.set hd _ hdg) (by rw [List.length_set]; exact hl) (by
        rw [V_set out (i + k) _ f1, V_take_succ b k, show i + (k + 1) = (i + k) + 1 from rfl, B_succ (i + k)]
        exact hst)
      refine ⟨K + 1, r, fun e => ?_, k2⟩
      clear ih hcont exit hv hX hT hst hs
      rw [show K + 1 + e = (K + e) + 1 by omega, clevisref01_Mul.l1]
      simp only [f3, hwk, rd_at, at_f, Option.bind_some]
      rw [hz]
      clear hz f3 hwk hwi
      rw [w64 (n := z) (by omega) (by omega), w64 (n := out.getD (i + k) 0 + z) (by omega) (by omega), hs2, w64 (n := s) (by omega) (by omega), Int.tdiv_eq_ediv_of_nonneg hs0.1, Int.tmod_eq_emod_of_nonneg hs0.1, w64 (n := s / 65536) (by omega) (by omega), Int.toNat_natCast, if_pos (show (0 : Int) ≤ ((i + k : Nat) : Int) by omega), if_pos (show ((i + k : Nat) : Int) < (out.length : Int) by omega), if_pos (show (0 : Int) ≤ (i : Int) by omega), if_pos (show (i : Int) < (a.length : Int) by omega)]
      by_cases hkb : (k : Int) < (b.length : Int)
      · rw [if_pos hkb]
        exact k1 e
      · rw [if_neg hkb, if_pos (by omega)]
        exact k1 e
    · have hm : more = 0 := by clear hv hX hT; omega
      have hkb : b.length ≤ k := by clear hv hX hT; omega
      subst hm
      rw [Int.mul_zero, Int.add_zero] at hv
      exact exit k out hkb hd hl hv
end
end Go.Proofs.Ytjbcigiffihjaaa.Fc
end
section
namespace Go.Proofs.Ytjbcigiffihjaaa.Fc
set_option linter.unusedSimpArgs false
set_option linter.unusedVariables false
open Go Go.RowKit Go.Proofs.Ytjbcigiffihjaaa.Fx Go.Proofs.YtjbcigiffihjaaaW.PrintWords Go.Proofs.Ytjbcigiffihjaaa.Fv
theorem V_mul_lt {a b : List Int} (ha : Ds a) (hb : Ds b) (i : Nat) : V (a.take i) * V b < B (i + b.length + 1) := by
  have h1 := take_lt ha i
  have h2 := V_lt hb
  have h3 := V_nonneg (ha.take i)
  have h4 := V_nonneg hb
  have h5 : V (a.take i) * V b ≤ B i * B b.length := Int.mul_le_mul (by omega) (by omega) h4 (by have := B_pos i; omega)
  rw [← B_add] at h5
  have h6 := B_succ (i + b.length)
  have h7 := B_pos (i + b.length)
  omega
theorem V_zeros : ∀ n, V (List.replicate n 0) = 0
  | 0 => rfl
  | n + 1 => by rw [List.replicate_succ]; simp only [V]; rw [V_zeros n]; omega
theorem mul_l0 (a b : List Int) (ha : Ds a) (hb : Ds b) (hla : a.length ≤ 400000) (hlb : b.length ≤ 400000) (na nb no : Bool) : ∀ (n i : Nat) (out : List Int), i + n = a.length → Ds out → out.length = a.length + b.length + 1 → V out = V (a.take i) * V b →
    ∃ K r, (∀ e, clevisref01_Mul.l0 (K + e) (i : Int) na a nb b no out = some r) ∧ (Nm (if no = true then -(V a * V b) else V a * V b) r.1 r.2 ∧ r.2.length ≤ a.length + b.length + 1)
  | 0, i, out, hi, hd, hl, hv => by
    rw [List.take_of_length_le (by omega)] at hv
    obtain ⟨K, n', d', k1, k2, k3⟩ := clean_good no out hd (by omega) _ rfl
    refine ⟨K + 1, (n', d'), fun e => ?_, ?_, by show d'.length ≤ _; omega⟩
    · rw [show K + 1 + e = (K + e) + 1 by omega, clevisref01_Mul.l0, if_neg (by omega), k1 e]
      rfl
    · unfold val at k2
      rw [hv] at k2
      exact k2
  | n + 1, i, out, hi, hd, hl, hv => by
    have va := V_take_succ a i
    have hTv : V (a.take (i + 1)) * V b = V (a.take i) * V b + B i * a.getD i 0 * V b := by rw [va, Int.add_mul]
    have hT : V (a.take (i + 1)) * V b < B (a.length + b.length + 1) := Int.lt_of_lt_of_le (V_mul_lt ha hb (i + 1)) (B_mono (by omega))
    obtain ⟨K, r, k1, k2⟩ := mul_l1 a b ha hb hla hlb na nb no (fun r => Nm (if no = true then -(V a * V b) else V a * V b) r.1 r.2 ∧ r.2.length ≤ a.length + b.length + 1) i (by omega) (V (a.take (i + 1)) * V b) hT (fun out' h1 h2 h3 => mul_l0 a b ha hb hla hlb na nb no n (i + 1) out' (by omega) h1 h2 h3) (V (a.take i) * V b) hTv (a.length + b.length + 1 - i) 0 0 out (by omega) (by omega) (by omega) hd hl (by simp [V, hv])
    refine ⟨K + 1, r, fun e => ?_, k2⟩
    rw [show K + 1 + e = (K + e) + 1 by omega, clevisref01_Mul.l0, if_pos (by omega)]
    exact k1 e
theorem Mul_f {x y : Int} {na nb : Bool} {a b : List Int} (ha : Nm x na a) (hb : Nm y nb b) (hla : a.length ≤ 400000) (hlb : b.length ≤ 400000) : ∃ K n d, (∀ e, clevisref01_Mul.f (K + e) na a nb b = some (n, d)) ∧ Nm (x * y) n d ∧ d.length ≤ a.length + b.length + 1 := by
  have vx := ha.val
  have vy := hb.val
  unfold val at vx vy
  obtain ⟨K, r, k1, k2, k3⟩ := mul_l0 a b ha.ds hb.ds hla hlb na nb (na != nb) a.length 0 (List.replicate (a.length + b.length + 1) 0) (by omega) (fun z hz => by rw [(List.mem_replicate.1 hz).2]; exact ⟨by omega, by omega⟩) (by simp) (by rw [V_zeros]; simp [V])
  refine ⟨K, r.1, r.2, fun e => ?_, ?_, k3⟩
  · have hw : wrap64 (wrap64 ((a.length : Int) + (b.length : Int)) + 1) = ((a.length + b.length + 1 : Nat) : Int) := by
      rw [w64 (n := (a.length : Int) + (b.length : Int)) (by omega) (by omega)]
      unfold wrap64
      omega
    unfold clevisref01_Mul.f
    rw [hw, Int.toNat_natCast, if_pos (by omega), if_pos (by omega), Option.bind_some]
    have k4 := k1 e
    cases hne : (na != nb)
    · rw [if_neg (by simp)]
      rw [hne] at k4
      exact k4
    · rw [if_pos rfl]
      rw [hne] at k4
      exact k4
  · have : (if (na != nb) = true then -(V a * V b) else V a * V b) = x * y := by
      rw [← vx, ← vy]
      cases na <;> cases nb <;> simp [Int.mul_neg, Int.neg_mul]
    rw [this] at k2
    exact k2
end Go.Proofs.Ytjbcigiffihjaaa.Fc
end
section
namespace Go.Proofs.Ytjbcigiffihjaaa.Fx
open Go.RowKit Go.Proofs.YtjbcigiffihjaaaW.PrintWords Go.Proofs.YtjbcigiffihjaaaW.PrintLast Go.Proofs.YtjbcigiffihjaaaW.PrintMore
attribute [local go_sem] max2_int min2_int max_two min_two max_three min_three max_four min_four   -- for this text's walks alone
set_option linter.unusedVariables false
set_option linter.unusedSimpArgs false
attribute [local go_sem] run_add64_any
def clevisref01_Narrow.f (k : Nat) (a0 : Int) : Option (Bool × List Int) := (clevisref01_words.f k (IntKind.u64.wrap (a0)) 4).bind fun t352 => ((clevisref01_Bits.f k t352).bind fun bt355 => (some (bt355.1, bt355.2)))
set_option maxHeartbeats 8000000 in
set_option maxRecDepth 100000 in
theorem clevisref01_Narrow.calls (k : Nat) (a0 : Int) (r1 : Bool) (r2 : List Int) (w : World) (h : clevisref01_Narrow.f k a0 = some (r1, r2)) :
  Calls Try.prog 12 #[.int .i64 a0] w fun e w' => ∃ v1_ : Value, e = .returned (.agg #[.bool r1, v1_]) ∧ Kd.V (Kd.int .i64) 3 w' w.heap.size (fun k_ => (w.heap.size ≤ k_)) v1_ r2 ∧ Below w.heap.size w w' := by
 have hu32 := Try.underlying32
 have HB := A_ (Below.refl w.heap.size w)
 have H : ((clevisref01_words.f k (IntKind.u64.wrap (a0)) 4).bind fun t352 => ((clevisref01_Bits.f k t352).bind fun bt355 => (some (bt355.1, bt355.2)))) = some (r1, r2) := h
 clear h
 replace H := os_ H
 obtain ⟨t352, A20, H⟩ := H
 replace H : ((clevisref01_Bits.f k t352).bind fun bt355 => (some (bt355.1, bt355.2))) = some (r1, r2) := H
 have A2 := A_ A20
 clear A20
 replace H := os_ H
 obtain ⟨⟨t355, t356⟩, A30, H⟩ := H
 replace H : (some (t355, t356)) = some (r1, r2) := H
 have A3 := A_ A30
 clear A30
 simp only [Option.some.injEq, Prod.mk.injEq] at H
 obtain ⟨rfl, rfl⟩ := H
 go_enter Try.func12, Try.ntmps12
 go_wp2_with (first | ((with_reducible refine gate_dst (N := 2) rfl ?_); refine box_event ?hg (N := 2) ?hd (cs := #[.bool false, .slice none 0 0]) (t := 32) ?hr ?_; (case hd => rfl); (case hg => rfl); (case hr => first | (go_simp; done) | (go_simp; rfl)); intro gb302 hg w4 hbox hb; have n0_ := A_ (bs_ bw_ hb); have n1_ := A_ (hbox); have n2_ := A_ ((by rw [hg]; exact (bz_ bw_) : w.heap.size ≤ gb302)); have n3_ := A_ ((by rw [hg]; exact (bz_ bw_) : w.heap.size ≤ gb302)); clear HB; have HB := n0_; have BK302 := n1_; have GW302 := n2_; have GE302 := n3_; clear n0_ n1_ n2_ n3_; clear hb hbox hg) | ((with_reducible refine gate_callee (f := 46) rfl ?_); refine goesL_ (some 5) rfl rfl Try.func46 (by kernel_rfl) rfl #[.int .u64 (IntKind.u64.wrap (a0)), .int .i64 4] rfl (by (try simp only [List.map_toArray, List.map_cons, List.map_nil]); first | done | rfl | (simp only [List.length_drop, List.length_take]; rfl)) ?_; (with_reducible refine (clevisref01_words.calls k (IntKind.u64.wrap (a0)) 4 t352 _ A2.out).mono ?_); rintro e w5 ⟨v353, rfl, ho0, hb⟩; refine ⟨_, rfl, ?_⟩; have n0_ := A_ (Kd.R_lower (Kd.R_newM (M := fun k_ => (w.heap.size ≤ k_)) ho0 (bz_ bw_) (fun k_ h_ => h_)) (bz_ bw_)); have n1_ := A_ (kb_ BK302 hb); have n2_ := A_ (bs_ bw_ hb); clear BK302; clear HB; have HO354 := n0_; have BK302 := n1_; have HB := n2_; clear n0_ n1_ n2_; (try clear hb); (try clear hb2); (try clear hk); (try clear hi); (try clear ho0); obtain ⟨Ao6, co6, eo6⟩ := Kd.R_slice HO354.out; subst eo6) | ((with_reducible refine gate_callee (f := 45) rfl ?_); refine goesL_ (some 6) rfl rfl Try.func45 (by kernel_rfl) rfl #[.slice Ao6 t352.length co6] rfl (by (try simp only [List.map_toArray, List.map_cons, List.map_nil]); first | done | rfl | (simp only [List.length_drop, List.length_take]; rfl)) ?_; (with_reducible refine (clevisref01_Bits.calls k _ _ t352 t355 t356 _ ?side1 ?side2 A3.out).mono ?_); (case side1 => repeat (first | exact (Kd.R_reads' HO354.out).2.2 | (with_reducible refine ca_ ?_ _) | (with_reducible refine cn_ ?_ _) | (with_reducible refine cd_ ?_))); (case side2 => exact (Kd.R_reads' HO354.out).2.1); rintro e w7 ⟨v357, rfl, ho0, hb⟩; refine ⟨_, rfl, ?_⟩; have n0_ := A_ (Kd.R_below (by (with_reducible repeat (first | apply Kd.R_alloc | apply Kd.R_drewN | apply Kd.R_drew)); exact HO354.out) hb); have n1_ := A_ (Kd.V_lower (vm_ (ok' := fun k_ => (w.heap.size ≤ k_) ∧ some k_ ≠ (.slice Ao6 t352.length co6 : Value).ownBlock ∧ k_ ≠ gb302) ho0 (fun k_ hk_ => ⟨(Nat.le_trans (bz_ bw_) hk_), (Kd.fresh' (Kd.R_lt (by (with_reducible repeat (first | apply Kd.R_alloc | apply Kd.R_drewN | apply Kd.R_drew)); exact HO354.out)) k_ hk_), (Kd.freshB (g := gb302) (o := .cells #[.bool false, .slice none 0 0] 32 (0, 0)) bk_ k_ hk_)⟩)) (bz_ bw_)); have n2_ := A_ (kb_ BK302 hb); have n3_ := A_ (bs_ bw_ hb); clear HO354; clear BK302; clear HB; have HO354 := n0_; have HO358 := n1_; have BK302 := n2_; have HB := n3_; clear n0_ n1_ n2_ n3_; (try clear hb); (try clear hb2); (try clear hk); (try clear hi); (try clear ho0); have hcz8_0 : w7.cell? ⟨gb302, 0, none⟩ = some (.bool false) := (bc_ BK302.out 0).trans rfl; have hcz8_1 : w7.cell? ⟨gb302, 1, none⟩ = some (.slice none 0 0) := (bc_ BK302.out 1).trans rfl; have hfz8_0 := bf_ BK302.out 0; have hfz8_1 := bf_ BK302.out 1; obtain ⟨Ao9, co9, eo9⟩ := Kd.V_slice HO358.out; subst eo9))
 refine bodyPost_ret (results_cell_row rfl _ _ gb302 32 #[.bool t355, .slice Ao9 t356.length co9] (0, 0) _ rfl (by (with_reducible repeat (first | refine bn_ ?_ _ | refine bd_ ?_ | refine ba_ ?_ _)); refine bp_ (cs := #[.bool t355, .slice none 0 0]) ?_ 1 _ rfl; (with_reducible repeat (first | refine bn_ ?_ _ | refine bd_ ?_ | refine ba_ ?_ _)); refine bp_ (cs := #[.bool false, .slice none 0 0]) ?_ 0 _ rfl; (with_reducible repeat (first | refine bn_ ?_ _ | refine bd_ ?_ | refine ba_ ?_ _)); exact BK302.out) Try.underlying32 rfl (by kernel_rfl)) rfl ?_
 exact ⟨_, by first | rfl | (simp [errW_none, errW_some] <;> rfl) | (simp [*, errW_none, errW_some] <;> rfl), by (with_reducible repeat (first | apply va_ | apply vn_ | apply vd_)); exact vm_ (Kd.V_far (p := ⟨gb302, 1, none⟩) (Kd.V_far (p := ⟨gb302, 0, none⟩) (vm_ HO358.out (fun k_ hk => (⟨hk, hk.2.2⟩ : _ ∧ k_ ≠ gb302))) (fun _ hk => hk.2) (.bool t355)) (fun _ hk => hk.2) (.slice Ao9 t356.length co9)) (fun _ hk => hk.1.1), bw_⟩
end Go.Proofs.Ytjbcigiffihjaaa.Fx
end
section
namespace Go.Proofs.Ytjbcigiffihjaaa.Fc
set_option linter.unusedSimpArgs false
set_option linter.unusedVariables false
open Go Go.RowKit Go.Proofs.Ytjbcigiffihjaaa.Fx Go.Proofs.YtjbcigiffihjaaaW.PrintWords Go.Proofs.Ytjbcigiffihjaaa.Fv
theorem wn (n : Nat) (h : n ≤ 1000000000) : wrap64 ((n : Int) + 1) = ((n + 1 : Nat) : Int) := by unfold wrap64; omega
theorem w64' (m : Nat) (h : m ≤ 1000000000) : wrap64 (((m + 1 : Nat) : Int) - 1) = (m : Int) := by unfold wrap64; omega
theorem B4 : B 4 = 18446744073709551616 := by rw [B_succ, B_succ, B_succ, B_succ, B_zero]; rfl
theorem B8 : B 8 = 340282366920938463463374607431768211456 := by rw [B_add 4 4, B4]; rfl
theorem B3 : B 3 = 281474976710656 := by rw [B_succ, B_succ, B_succ, B_zero]; rfl
theorem B7 : B 7 = 5192296858534827628530496329220096 := by rw [B_add 4 3, B4, B3]; rfl
theorem words_l0 (a0 : Int) : ∀ (n i : Nat) (a : Int) (l : List Int), i + n = 4 → 0 ≤ a → a < 18446744073709551616 → Ds l → l.length = i → V l + B i * a = a0 → ∃ K l', (∀ e, clevisref01_words.l0 (K + e) a 4 l (i : Int) = some l') ∧ Ds l' ∧ l'.length = 4 ∧ ∃ r, V l' + B 4 * r = a0 ∧ 0 ≤ r
  | 0, i, a, l, hi, h0, h1, hd, hl, hv => by
    have e1 : i = 4 := by omega
    subst e1
    refine ⟨1, l, fun e => ?_, hd, hl, a, hv, h0⟩
    rw [show 1 + e = e + 1 by omega, clevisref01_words.l0, if_neg (by omega)]
  | n + 1, i, a, l, hi, h0, h1, hd, hl, hv => by
    have hs : V (l ++ [a % 65536]) + B (i + 1) * (a / 65536) = a0 := by
      rw [V_snoc, hl, B_succ]
      have h2 : a % 65536 + 65536 * (a / 65536) = a := by omega
      have h3 : B i * (a % 65536) + 65536 * B i * (a / 65536) = B i * a := by
        rw [Int.mul_comm 65536 (B i), Int.mul_assoc, ← Int.mul_add, h2]
      rw [Int.add_assoc, h3]
      exact hv
    clear hv
    have hq0 : 0 ≤ a / 65536 := by omega
    have hq1 : a / 65536 < 18446744073709551616 := by omega
    obtain ⟨K, l', k1, k2⟩ := words_l0 a0 n (i + 1) (a / 65536) (l ++ [a % 65536]) (by omega) hq0 hq1 (hd.snoc ⟨by omega, by omega⟩) (by simp [hl]) hs
    clear hs
    refine ⟨K + 1, l', fun e => ?_, k2⟩
    have ha : IntKind.u64.wrap (Int.tdiv a 65536) = a / 65536 := by rw [Int.tdiv_eq_ediv_of_nonneg h0, IntKind.wrap_u64]; omega
    have hb : wrap64 (Int.tmod a 65536) = a % 65536 := by rw [Int.tmod_eq_emod_of_nonneg h0]; exact w64 (by omega) (by omega)
    rw [show K + 1 + e = (K + e) + 1 by omega, clevisref01_words.l0, if_pos (by omega), if_pos (by omega), ha, hb, wn i (by omega)]
    exact k1 e
theorem words_f (a : Int) (h0 : 0 ≤ a) (h1 : a < 18446744073709551616) : ∃ K l, (∀ e, clevisref01_words.f (K + e) a 4 = some l) ∧ Ds l ∧ l.length = 4 ∧ V l = a := by
  obtain ⟨K, l, k1, k2, k3, r, k4, k5⟩ := words_l0 a 4 0 a [] rfl h0 h1 Ds.nil rfl (by rw [B_zero]; simp [V])
  refine ⟨K, l, k1, k2, k3, ?_⟩
  have h2 := V_lt k2
  have h3 := V_nonneg k2
  rw [k3, B4] at h2
  rw [B4] at k4
  omega
theorem bits_neg (w : List Int) (hw : Ds w) (hl : w.length ≤ 1000) : ∀ (n i : Nat) (more : Int) (out : List Int), i + n = w.length → 0 ≤ more → more ≤ 1 → Ds out → out.length = i → V out + B i * more = B i - V (w.take i) →
    ∃ K n' d', (∀ e, clevisref01_Bits.l0 (K + e) w more (i : Int) true out = some (n', d')) ∧ Nm (V w - B w.length) n' d' ∧ d'.length ≤ w.length + 1
  | 0, i, more, out, hi, h0, h1, hd, ho, hv => by
    have e1 : i = w.length := by omega
    subst e1
    rw [List.take_length] at hv
    by_cases hm : more = 0
    · subst hm
      rw [Int.mul_zero, Int.add_zero] at hv
      obtain ⟨K, n', d', k1, k2, k3⟩ := clean_good true out hd (by omega) _ rfl
      refine ⟨K + 1, n', d', fun e => ?_, ?_, by omega⟩
      · rw [show K + 1 + e = (K + e) + 1 by omega, clevisref01_Bits.l0, if_neg (by omega), if_pos rfl, if_neg (by omega), k1 e]
        rfl
      · unfold val at k2
        rw [if_pos rfl, hv] at k2
        rw [show V w - B w.length = -(B w.length - V w) by omega]
        exact k2
    · have hm1 : more = 1 := by clear hv; omega
      subst hm1
      have hvo : V (out ++ [1]) = B w.length - V w := by rw [V_snoc, ho]; exact hv
      clear hv
      obtain ⟨K, n', d', k1, k2, k3⟩ := clean_good true (out ++ [1]) (hd.snoc ⟨by omega, by omega⟩) (by simp; omega) _ rfl
      refine ⟨K + 1, n', d', fun e => ?_, ?_, by simp at k3; omega⟩
      · rw [show K + 1 + e = (K + e) + 1 by omega, clevisref01_Bits.l0, if_neg (by omega), if_pos rfl, if_pos (by omega), if_pos (by omega), k1 e]
        rfl
      · unfold val at k2
        rw [if_pos rfl, hvo] at k2
        rw [show V w - B w.length = -(B w.length - V w) by omega]
        exact k2
  | n + 1, i, more, out, hi, h0, h1, hd, ho, hv => by
    have pw := hw.at i
    unfold Dg at pw
    have vw := V_take_succ w i
    generalize hp : w.getD i 0 = p at *
    have hs : V (out ++ [(65535 - p + more) % 65536]) + B (i + 1) * ((65535 - p + more) / 65536) = B (i + 1) - V (w.take (i + 1)) := by
      rw [V_snoc, ho, B_succ, vw]
      have h2 : (65535 - p + more) % 65536 + 65536 * ((65535 - p + more) / 65536) = 65536 * 1 - p + (more - 1) := by omega
      have h3 : B i * ((65535 - p + more) % 65536) + 65536 * B i * ((65535 - p + more) / 65536) = 65536 * B i - B i * p + (B i * more - B i) := by
        rw [Int.mul_comm 65536 (B i), Int.mul_assoc, ← Int.mul_add, h2, Int.mul_add, Int.mul_sub, Int.mul_sub, Int.mul_one, Int.mul_one]
      generalize B i * ((65535 - p + more) % 65536) = z1 at *
      generalize 65536 * B i * ((65535 - p + more) / 65536) = z2 at *
      generalize B i * p = z3 at *
      generalize B i * more = z4 at *
      generalize B i = z5 at *
      omega
    clear hv vw
    obtain ⟨K, n', d', k1, k2, k3⟩ := bits_neg w hw hl n (i + 1) ((65535 - p + more) / 65536) (out ++ [(65535 - p + more) % 65536]) (by omega) (by omega) (by omega) (hd.snoc ⟨by omega, by omega⟩) (by simp [ho]) hs
    clear hs
    refine ⟨K + 1, n', d', fun e => ?_, k2, k3⟩
    have hnn : 0 ≤ 65535 - p + more := by omega
    rw [show K + 1 + e = (K + e) + 1 by omega, clevisref01_Bits.l0, if_pos (by omega), if_pos (by omega), if_pos rfl, if_pos (by omega), rd_at, hp, w64 (n := 65535 - p) (by omega) (by omega), w64 (n := 65535 - p + more) (by omega) (by omega), Int.tdiv_eq_ediv_of_nonneg hnn, Int.tmod_eq_emod_of_nonneg hnn, w64 (n := (65535 - p + more) / 65536) (by omega) (by omega), wn i (by omega)]
    exact k1 e
theorem bits_pos (w : List Int) (hw : Ds w) (hl : w.length ≤ 1000) : ∀ (n i : Nat) (out : List Int), i + n = w.length → out = w.take i →
    ∃ K n' d', (∀ e, clevisref01_Bits.l0 (K + e) w 1 (i : Int) false out = some (n', d')) ∧ Nm (V w) n' d' ∧ d'.length ≤ w.length + 1
  | 0, i, out, hi, ho => by
    rw [List.take_of_length_le (by omega)] at ho
    subst ho
    obtain ⟨K, n', d', k1, k2, k3⟩ := clean_good false out hw (by omega) _ rfl
    refine ⟨K + 1, n', d', fun e => ?_, k2, by omega⟩
    rw [show K + 1 + e = (K + e) + 1 by omega, clevisref01_Bits.l0, if_neg (by omega), if_neg (by simp), k1 e]
    rfl
  | n + 1, i, out, hi, ho => by
    have hil : i < w.length := by omega
    have hs : out ++ [w.getD i 0] = w.take (i + 1) := by
      rw [ho, List.take_add_one, List.getElem?_eq_getElem hil, List.getD_eq_getElem?_getD, List.getElem?_eq_getElem hil]
      rfl
    obtain ⟨K, n', d', k1, k2, k3⟩ := bits_pos w hw hl n (i + 1) _ (by omega) hs
    have hol : out.length = i := by rw [ho, List.length_take]; omega
    refine ⟨K + 1, n', d', fun e => ?_, k2, k3⟩
    rw [show K + 1 + e = (K + e) + 1 by omega, clevisref01_Bits.l0, if_pos (by omega), if_pos (by omega), if_neg (by simp), if_pos (by omega), rd_at, wn i (by omega)]
    exact k1 e
theorem Bits_f (w : List Int) (hw : Ds w) (m : Nat) (hm : w.length = m + 1) (hl : w.length ≤ 1000) : ∃ K n d, (∀ e, clevisref01_Bits.f (K + e) w = some (n, d)) ∧ Nm (if B m * 32768 ≤ V w then V w - B w.length else V w) n d ∧ d.length ≤ w.length + 1 := by
  have vw := V_take_succ w m
  rw [List.take_of_length_le (by omega)] at vw
  have hlt := take_lt hw m
  have hnn := V_nonneg (hw.take m)
  have hB := B_pos m
  have hwx : wrap64 ((w.length : Int) - 1) = ((m : Nat) : Int) := by rw [hm]; exact w64' m (by omega)
  by_cases h : w.getD m 0 ≥ 32768
  · obtain ⟨K, n, d, k1, k2, k3⟩ := bits_neg w hw hl w.length 0 1 [] (by omega) (by omega) (by omega) Ds.nil rfl (by simp [V, B_zero])
    refine ⟨K, n, d, fun e => ?_, ?_, k3⟩
    · unfold clevisref01_Bits.f
      rw [hwx, rd_at, if_pos (by omega), if_pos (by omega), if_pos h]
      exact k1 e
    · have h2 : B m * 32768 ≤ B m * w.getD m 0 := Int.mul_le_mul_of_nonneg_left h (by omega)
      rw [if_pos (by generalize B m * w.getD m 0 = z at *; omega)]
      exact k2
  · obtain ⟨K, n, d, k1, k2, k3⟩ := bits_pos w hw hl w.length 0 [] (by omega) (by simp)
    refine ⟨K, n, d, fun e => ?_, ?_, k3⟩
    · unfold clevisref01_Bits.f
      rw [hwx, rd_at, if_pos (by omega), if_pos (by omega), if_neg h]
      exact k1 e
    · have h2 : B m * (w.getD m 0 + 1) ≤ B m * 32768 := Int.mul_le_mul_of_nonneg_left (by omega) (by omega)
      rw [Int.mul_add, Int.mul_one] at h2
      rw [if_neg (by generalize B m * w.getD m 0 = z at *; omega)]
      exact k2
end Go.Proofs.Ytjbcigiffihjaaa.Fc
end
section
namespace Go.Proofs.Ytjbcigiffihjaaa.Fc
set_option linter.unusedSimpArgs false
set_option linter.unusedVariables false
open Go Go.RowKit Go.Proofs.Ytjbcigiffihjaaa.Fx Go.Proofs.YtjbcigiffihjaaaW.PrintWords Go.Proofs.Ytjbcigiffihjaaa.Fv
def Tells (f : Nat → Option (Bool × List Int)) (v : Int) (m : Nat) : Prop := ∃ K n d, (∀ e, f (K + e) = some (n, d)) ∧ Nm v n d ∧ d.length ≤ m
theorem Narrow_f (a : Int) (h0 : -9223372036854775808 ≤ a) (h1 : a ≤ 9223372036854775807) : Tells (fun k => clevisref01_Narrow.f k a) a 5 := by
  have hu : 0 ≤ IntKind.u64.wrap a ∧ IntKind.u64.wrap a < 18446744073709551616 := by rw [IntKind.wrap_u64]; omega
  have hue : IntKind.u64.wrap a = if a < 0 then a + 18446744073709551616 else a := by rw [IntKind.wrap_u64]; split <;> omega
  obtain ⟨K1, l, k1, k2, k3, k4⟩ := words_f _ hu.1 hu.2
  obtain ⟨K2, n, d, j1, j2, j3⟩ := Bits_f l k2 3 k3 (by omega)
  refine ⟨K1 + K2, n, d, fun e => ?_, ?_, by omega⟩
  · show clevisref01_Narrow.f (K1 + K2 + e) a = _
    unfold clevisref01_Narrow.f
    rw [show K1 + K2 + e = K1 + (K2 + e) by omega, k1, Option.bind_some, show K1 + (K2 + e) = K2 + (K1 + e) by omega, j1]
    rfl
  · have : (if B 3 * 32768 ≤ V l then V l - B l.length else V l) = a := by
      rw [k3, B3, B4, k4, hue]
      split <;> split <;> omega
    rw [this] at j2
    exact j2
def W (hi lo : Int) : Int := hi * 18446744073709551616 + lo
theorem Num_f (hi lo : Int) (h0 : -9223372036854775808 ≤ hi) (h1 : hi ≤ 9223372036854775807) (l0 : 0 ≤ lo) (l1 : lo < 18446744073709551616) : Tells (fun k => clevislaw01_Num.f k hi lo) (W hi lo) 9 := by
  have hu : 0 ≤ IntKind.u64.wrap hi ∧ IntKind.u64.wrap hi < 18446744073709551616 := by rw [IntKind.wrap_u64]; omega
  have hue : IntKind.u64.wrap hi = if hi < 0 then hi + 18446744073709551616 else hi := by rw [IntKind.wrap_u64]; split <;> omega
  obtain ⟨K1, x, k1, k2, k3, k4⟩ := words_f lo l0 l1
  obtain ⟨K2, y, m1, m2, m3, m4⟩ := words_f _ hu.1 hu.2
  obtain ⟨K3, n, d, j1, j2, j3⟩ := Bits_f (x ++ y) (k2.append m2) 7 (by simp [k3, m3]) (by simp [k3, m3])
  have hl8 : (x ++ y).length = 8 := by simp [k3, m3]
  refine ⟨K1 + K2 + K3, n, d, fun e => ?_, ?_, by omega⟩
  · show clevislaw01_Num.f (K1 + K2 + K3 + e) hi lo = _
    unfold clevislaw01_Num.f clevisref01_Wide.f
    rw [show K1 + K2 + K3 + e = K1 + (K2 + K3 + e) by omega, k1, Option.bind_some, show K1 + (K2 + K3 + e) = K2 + (K1 + K3 + e) by omega, m1, Option.bind_some, if_pos (by omega), show K2 + (K1 + K3 + e) = K3 + (K1 + K2 + e) by omega, j1]
    rfl
  · have : (if B 7 * 32768 ≤ V (x ++ y) then V (x ++ y) - B (x ++ y).length else V (x ++ y)) = W hi lo := by
      rw [hl8, V_append, k3, B7, B8, B4, k4, m4, hue]
      unfold W
      split <;> split <;> omega
    rw [this] at j2
    exact j2
theorem Small_f (a : Int) (h0 : -1000000000 ≤ a) (h1 : a ≤ 1000000000) : Tells (fun k => clevisref01_Small.f k a) a 3 := by
  have key : ∀ (neg : Bool) (x : Int), 0 ≤ x → x ≤ 1000000000 → Tells (fun k => (clevisref01_clean.f k neg (([Int.tmod x 65536, Int.tmod (wrap64 (Int.tdiv x 65536)) 65536, wrap64 (Int.tdiv (wrap64 (Int.tdiv x 65536)) 65536)] : List Int))).bind fun bt => (some (bt.1, bt.2))) (if neg = true then -x else x) 3 := by
    intro neg x x0 x1
    have hq : 0 ≤ x / 65536 := by omega
    have e1 : Int.tmod x 65536 = x % 65536 := Int.tmod_eq_emod_of_nonneg x0
    have e2 : wrap64 (Int.tdiv x 65536) = x / 65536 := by rw [Int.tdiv_eq_ediv_of_nonneg x0]; exact w64 (by omega) (by omega)
    have e3 : Int.tmod (x / 65536) 65536 = x / 65536 % 65536 := Int.tmod_eq_emod_of_nonneg hq
    have e4 : wrap64 (Int.tdiv (x / 65536) 65536) = x / 65536 / 65536 := by rw [Int.tdiv_eq_ediv_of_nonneg hq]; exact w64 (by omega) (by omega)
    rw [e1, e2, e3, e4]
    have hd : Ds [x % 65536, x / 65536 % 65536, x / 65536 / 65536] := fun y hy => by
      simp at hy
      unfold Dg
      omega
    obtain ⟨K, n, d, k1, k2, k3⟩ := clean_good neg _ hd (by simp) _ rfl
    refine ⟨K, n, d, fun e => ?_, ?_, k3⟩
    · show (clevisref01_clean.f (K + e) neg _).bind _ = _
      rw [k1 e]
      rfl
    · have hv : V [x % 65536, x / 65536 % 65536, x / 65536 / 65536] = x := by simp only [V]; omega
      unfold val at k2
      rw [hv] at k2
      exact k2
  by_cases hneg : a < 0
  · obtain ⟨K, n, d, k1, k2, k3⟩ := key true (-a) (by omega) (by omega)
    refine ⟨K, n, d, fun e => ?_, ?_, k3⟩
    · show clevisref01_Small.f (K + e) a = _
      unfold clevisref01_Small.f
      rw [if_pos hneg, w64 (n := -a) (by omega) (by omega)]
      exact k1 e
    · rw [if_pos rfl, Int.neg_neg] at k2
      exact k2
  · obtain ⟨K, n, d, k1, k2, k3⟩ := key false a (by omega) (by omega)
    refine ⟨K, n, d, fun e => ?_, ?_, k3⟩
    · show clevisref01_Small.f (K + e) a = _
      unfold clevisref01_Small.f
      rw [if_neg hneg]
      exact k1 e
    · rw [if_neg (by simp)] at k2
      exact k2
end Go.Proofs.Ytjbcigiffihjaaa.Fc
end
section
namespace Go.Proofs.Ytjbcigiffihjaaa.Fx
open Go.RowKit Go.Proofs.YtjbcigiffihjaaaW.PrintWords Go.Proofs.YtjbcigiffihjaaaW.PrintLast Go.Proofs.YtjbcigiffihjaaaW.PrintMore
attribute [local go_sem] max2_int min2_int max_two min_two max_three min_three max_four min_four   -- for this text's walks alone
set_option linter.unusedVariables false
set_option linter.unusedSimpArgs false
attribute [local go_sem] run_add64_any
mutual
def fixed_form.j0 : Nat → ByteArray → Bool → Option (Bool)
 | 0, _, _ => none
 | k + 1, x0, x11 => if x11 = true then (if 1 ≤ (x0.size : Int) then (if (x0.extract 1 x0.size).toList = ([48] : List UInt8) then (some false) else (fixed_form.j1 k (x0.extract 1 x0.size))) else (none)) else (fixed_form.j1 k x0)
def fixed_form.j1 : Nat → ByteArray → Option (Bool)
 | 0, _ => none
 | k + 1, x0 => if x0.toList = ([] : List UInt8) then (fixed_form.j2 k x0 true) else (if 0 < (x0.size : Int) then (if (bt x0 0) = 48 then (fixed_form.j2 k x0 (decide ((x0.size : Int) > 1))) else (fixed_form.j2 k x0 false)) else (none))
def fixed_form.j2 : Nat → ByteArray → Bool → Option (Bool)
 | 0, _, _ => none
 | k + 1, x0, x27 => if x27 = true then (some false) else (if x0.size ≤ 9223372036854775807 then ((some (bytesOf x0 : List Int)).bind fun y145 => (fixed_form.l0 k y145 (y145.length : Int) 0)) else (none))
def fixed_form.l0 : Nat → List Int → Int → Int → Option (Bool)
 | 0, _, _, _ => none
 | k + 1, x29, x30, x31 => if x31 < x30 then (if 0 ≤ x31 then (if x31 < (x29.length : Int) then (if (rd x29 x31) < 48 then (some false) else (if (rd x29 x31) > 57 then (some false) else (fixed_form.l0 k x29 x30 (wrap64 (x31 + 1))))) else (none)) else (none)) else (some true)
end
def fixed_form.f (k : Nat) (a0 : ByteArray) : Option (Bool) := if a0.toList = ([] : List UInt8) then (fixed_form.j0 k a0 false) else (if 0 < (a0.size : Int) then (fixed_form.j0 k a0 ((bt a0 0) == 45)) else (none))
set_option maxHeartbeats 8000000 in
set_option maxRecDepth 100000 in
theorem fixed_form.calls (k : Nat) (a0 : ByteArray) (r : Bool) (w : World) (h : fixed_form.f k a0 = some r) :
  Calls Try.prog 48 #[.string a0] w fun e w' => e = .returned (.bool r) ∧ Below w.heap.size w w' := by
 have HB := A_ (Below.refl w.heap.size w)
 have H : (if a0.toList = ([] : List UInt8) then (fixed_form.j0 k a0 false) else (if 0 < (a0.size : Int) then (fixed_form.j0 k a0 ((bt a0 0) == 45)) else (none))) = some r := h
 clear h
 have HC2 := A_ H
 clear H
 go_enter Try.func48, Try.ntmps48
 go_upto_region 1 with (fail)
 go_cut [11] (fun v11 wc => ∃ (kq : Nat) (x11_1 : Bool), v11 = .bool x11_1 ∧ Aside0 (fixed_form.j0 kq a0 x11_1 = some r) ∧ Aside0 (kq ≤ k) ∧ Aside0 (Below w.heap.size w wc))
 case first =>
  have H := HC2.out
  clear HC2
  by_cases c3 : a0.toList = ([] : List UInt8)
  ·
   rw [if_pos c3] at H
   have c3b0 : (a0.toList == ([] : List UInt8)) = true := q1_ c3
   have c3b1 : (a0.toList != ([] : List UInt8)) = false := q3_ c3
   clear c3
   (first | rw [c3b0] | (simp only [i64_w, i32_w]; rw [c3b0]) | skip)
   have H' := A_ H
   clear H
   go_wp2
   go_meet
   case rel => exact ⟨_, (false), (by first | rfl | (simp; done) | (simp [*]; done)), H', ⟨by first | omega | exact Nat.le_refl _⟩, ⟨bw_⟩⟩
  ·
   rw [if_neg c3] at H
   have c3b0 : (a0.toList == ([] : List UInt8)) = false := q4_ c3
   have c3b1 : (a0.toList != ([] : List UInt8)) = true := q2_ c3
   (first | rw [c3b0] | (simp only [i64_w, i32_w]; rw [c3b0]) | skip)
   by_cases c4 : 0 < (a0.size : Int)
   ·
    rw [if_pos c4] at H
    have c4b0 : decide (0 < (a0.size : Int)) = true := decide_eq_true c4
    have c4b1 : decide (0 < a0.size) = true := decide_eq_true (by omega)
    clear c4
    have H' := A_ H
    clear H
    have p5 : 0 ≤ (0 : Int) := (by omega)
    have q5 : 0 < a0.size := (by have : (0 : Int) < (a0.size : Int) := od_ (by first | (with_reducible assumption) | assumption); omega)
    have hx5 : ∀ h : 0 < a0.size, ((a0[0]'h).toNat : Int) = bt a0 0 := bt_at a0 0
    clear p5
    have qi5 : (0 < (a0.size : Int)) = True := eq_true (od_ (by first | (with_reducible assumption) | assumption))
    replace q5 := eq_true q5
    go_wp2
    go_meet
    case rel => exact ⟨_, (((bt a0 0) == 45)), (by first | rfl | (simp; done) | (simp [*]; done)), H', ⟨by first | omega | exact Nat.le_refl _⟩, ⟨bw_⟩⟩
   ·
    rw [if_neg c4] at H
    exact absurd H (by simp)
 case rest =>
  clear HC2
  try clear p2
  try clear c3
  try clear c3b0
  try clear c3b1
  try clear c4
  try clear c4b0
  try clear c4b1
  try clear p5
  try clear q5
  try clear hx5
  try clear qi5
  try clear p5
  try clear q5
  obtain ⟨kq, x11_1, rfl, HA, HJ1, HB⟩ := hcut
  cases kq with
  | zero => exact absurd HA.out (by simp [fixed_form.j0])
  | succ kj1 =>
   have H := HA.out
   clear HA
   simp only [fixed_form.j0] at H
   have HC6 := A_ H
   clear H
   go_upto_if 11 with (fail)
   go_cut [0] (fun v0 wc => ∃ (kq : Nat) (x0_5 : ByteArray), v0 = .string x0_5 ∧ Aside0 (fixed_form.j1 kq x0_5 = some r) ∧ Aside0 (kq ≤ kj1) ∧ Aside0 (Below w.heap.size w wc))
   case first =>
    have H := HC6.out
    clear HC6
    by_cases c7 : x11_1 = true
    ·
     subst c7
     have H1 : (if 1 ≤ (a0.size : Int) then (if (a0.extract 1 a0.size).toList = ([48] : List UInt8) then (some false) else (fixed_form.j1 kj1 (a0.extract 1 a0.size))) else (none)) = some r := by rw [if_pos rfl] at H; exact H
     clear H
     have H := H1
     clear H1
     by_cases c8 : 1 ≤ (a0.size : Int)
     ·
      rw [if_pos c8] at H
      have c8b0 := eq_true c8
      have c8b1 : decide (1 ≤ (a0.size : Int)) = true := decide_eq_true c8
      clear c8
      by_cases c9 : (a0.extract 1 a0.size).toList = ([48] : List UInt8)
      ·
       rw [if_pos c9] at H
       have c9b0 : ((a0.extract 1 a0.size).toList == ([48] : List UInt8)) = true := q1_ c9
       have c9b1 : ((a0.extract 1 a0.size).toList != ([48] : List UInt8)) = false := q3_ c9
       clear c9
       (first | rw [c9b0] | (simp only [i64_w, i32_w]; rw [c9b0]) | skip)
       obtain rfl := Option.some.inj H
       go_wp2
       go_ret
       exact ⟨by first | rfl | (simp [errW_none, errW_some] <;> rfl) | (simp [*, errW_none, errW_some] <;> rfl), bw_⟩
      ·
       rw [if_neg c9] at H
       have c9b0 : ((a0.extract 1 a0.size).toList == ([48] : List UInt8)) = false := q4_ c9
       have c9b1 : ((a0.extract 1 a0.size).toList != ([48] : List UInt8)) = true := q2_ c9
       (first | rw [c9b0] | (simp only [i64_w, i32_w]; rw [c9b0]) | skip)
       have H' := A_ H
       clear H
       go_wp2
       go_meet
       case rel => exact ⟨_, (a0.extract 1 a0.size), (by first | rfl | (simp; done) | (simp [*]; done)), H', ⟨by have := HJ1.out; first | omega | exact Nat.le_refl _⟩, ⟨bw_⟩⟩
     ·
      rw [if_neg c8] at H
      exact absurd H (by simp)
    ·
     replace c7 := Bool.eq_false_iff.mpr c7
     subst c7
     have H1 : (fixed_form.j1 kj1 a0) = some r := by rw [if_neg (show ¬ (false = true) by decide)] at H; exact H
     clear H
     have H := H1
     clear H1
     have H' := A_ H
     clear H
     go_wp2
     go_meet
     case rel => exact ⟨_, (a0), (by first | rfl | (simp; done) | (simp [*]; done)), H', ⟨by have := HJ1.out; first | omega | exact Nat.le_refl _⟩, ⟨bw_⟩⟩
   case rest =>
    clear HC6
    try clear p2
    try clear c3
    try clear c3b0
    try clear c3b1
    try clear c4
    try clear c4b0
    try clear c4b1
    try clear p5
    try clear q5
    try clear hx5
    try clear qi5
    try clear c7
    try clear c8
    try clear c8b0
    try clear c8b1
    try clear c9
    try clear c9b0
    try clear c9b1
    try clear p2
    try clear p5
    try clear q5
    obtain ⟨kq, x0_5, rfl, HA, HJ5, HB⟩ := hcut
    cases kq with
    | zero => exact absurd HA.out (by simp [fixed_form.j1])
    | succ kj5 =>
     have H := HA.out
     clear HA
     simp only [fixed_form.j1] at H
     have HC10 := A_ H
     clear H
     go_upto_region 5 with (fail)
     go_cut [27] (fun v27 wc => ∃ (kq : Nat) (x27_9 : Bool), v27 = .bool x27_9 ∧ Aside0 (fixed_form.j2 kq x0_5 x27_9 = some r) ∧ Aside0 (kq ≤ kj5) ∧ Aside0 (Below w.heap.size w wc))
     case first =>
      have H := HC10.out
      clear HC10
      by_cases c11 : x0_5.toList = ([] : List UInt8)
      ·
       rw [if_pos c11] at H
       have c11b0 : (x0_5.toList == ([] : List UInt8)) = true := q1_ c11
       have c11b1 : (x0_5.toList != ([] : List UInt8)) = false := q3_ c11
       clear c11
       (first | rw [c11b0] | (simp only [i64_w, i32_w]; rw [c11b0]) | skip)
       have H' := A_ H
       clear H
       go_wp2
       go_meet
       case rel => exact ⟨_, (true), (by first | rfl | (simp; done) | (simp [*]; done)), H', ⟨by have := HJ1.out; have := HJ5.out; first | omega | exact Nat.le_refl _⟩, ⟨bw_⟩⟩
      ·
       rw [if_neg c11] at H
       have c11b0 : (x0_5.toList == ([] : List UInt8)) = false := q4_ c11
       have c11b1 : (x0_5.toList != ([] : List UInt8)) = true := q2_ c11
       (first | rw [c11b0] | (simp only [i64_w, i32_w]; rw [c11b0]) | skip)
       by_cases c12 : 0 < (x0_5.size : Int)
       ·
        rw [if_pos c12] at H
        have c12b0 : decide (0 < (x0_5.size : Int)) = true := decide_eq_true c12
        have c12b1 : decide (0 < x0_5.size) = true := decide_eq_true (by omega)
        clear c12
        by_cases c14 : (bt x0_5 0) = 48
        ·
         rw [if_pos c14] at H
         have c14b0 : ((bt x0_5 0) == 48) = true := q1_ c14
         have c14b1 : ((bt x0_5 0) != 48) = false := q3_ c14
         clear c14
         have H' := A_ H
         clear H
         have p13 : 0 ≤ (0 : Int) := (by omega)
         have q13 : 0 < x0_5.size := (by have : (0 : Int) < (x0_5.size : Int) := od_ (by first | (with_reducible assumption) | assumption); omega)
         have hx13 : ∀ h : 0 < x0_5.size, ((x0_5[0]'h).toNat : Int) = bt x0_5 0 := bt_at x0_5 0
         clear p13
         have qi13 : (0 < (x0_5.size : Int)) = True := eq_true (od_ (by first | (with_reducible assumption) | assumption))
         replace q13 := eq_true q13
         go_wp2
         go_meet
         case rel => exact ⟨_, (decide ((x0_5.size : Int) > 1)), (by first | rfl | (simp; done) | (simp [*]; done)), H', ⟨by have := HJ1.out; have := HJ5.out; first | omega | exact Nat.le_refl _⟩, ⟨bw_⟩⟩
        ·
         rw [if_neg c14] at H
         have c14b0 : ((bt x0_5 0) == 48) = false := q4_ c14
         have c14b1 : ((bt x0_5 0) != 48) = true := q2_ c14
         have H' := A_ H
         clear H
         have p13 : 0 ≤ (0 : Int) := (by omega)
         have q13 : 0 < x0_5.size := (by have : (0 : Int) < (x0_5.size : Int) := od_ (by first | (with_reducible assumption) | assumption); omega)
         have hx13 : ∀ h : 0 < x0_5.size, ((x0_5[0]'h).toNat : Int) = bt x0_5 0 := bt_at x0_5 0
         clear p13
         have qi13 : (0 < (x0_5.size : Int)) = True := eq_true (od_ (by first | (with_reducible assumption) | assumption))
         replace q13 := eq_true q13
         go_wp2
         go_meet
         case rel => exact ⟨_, (false), (by first | rfl | (simp; done) | (simp [*]; done)), H', ⟨by have := HJ1.out; have := HJ5.out; first | omega | exact Nat.le_refl _⟩, ⟨bw_⟩⟩
       ·
        rw [if_neg c12] at H
        exact absurd H (by simp)
     case rest =>
      clear HC10
      try clear c1
      try clear p1
      try clear q1
      try clear hx1
      try clear qi1
      try clear p2
      try clear c3
      try clear c3b0
      try clear c3b1
      try clear c4
      try clear c4b0
      try clear c4b1
      try clear p5
      try clear q5
      try clear hx5
      try clear qi5
      try clear c7
      try clear c8
      try clear c8b0
      try clear c8b1
      try clear c9
      try clear c9b0
      try clear c9b1
      try clear c11
      try clear c11b0
      try clear c11b1
      try clear c12
      try clear c12b0
      try clear c12b1
      try clear p13
      try clear q13
      try clear hx13
      try clear qi13
      try clear c14
      try clear c14b0
      try clear c14b1
      try clear p13
      try clear p2
      try clear p5
      try clear q13
      try clear q5
      obtain ⟨kq, x27_9, rfl, HA, HJ9, HB⟩ := hcut
      cases kq with
      | zero => exact absurd HA.out (by simp [fixed_form.j2])
      | succ kj9 =>
       have H := HA.out
       clear HA
       simp only [fixed_form.j2] at H
       by_cases c15 : x27_9 = true
       ·
        subst c15
        have H1 : (some false) = some r := by rw [if_pos rfl] at H; exact H
        clear H
        have H := H1
        clear H1
        obtain rfl := Option.some.inj H
        go_wp2
        go_ret
        exact ⟨by first | rfl | (simp [errW_none, errW_some] <;> rfl) | (simp [*, errW_none, errW_some] <;> rfl), bw_⟩
       ·
        replace c15 := Bool.eq_false_iff.mpr c15
        subst c15
        have H1 : (if x0_5.size ≤ 9223372036854775807 then ((some (bytesOf x0_5 : List Int)).bind fun y145 => (fixed_form.l0 kj9 y145 (y145.length : Int) 0)) else (none)) = some r := by rw [if_neg (show ¬ (false = true) by decide)] at H; exact H
        clear H
        have H := H1
        clear H1
        by_cases c16 : x0_5.size ≤ 9223372036854775807
        ·
         rw [if_pos c16] at H
         have c16b0 := eq_true c16
         have c16b1 : decide (x0_5.size ≤ 9223372036854775807) = true := decide_eq_true c16
         try have c16b2 : (9223372036854775807 < x0_5.size) = False := eq_false (Nat.not_lt.2 c16)
         clear c16
         obtain ⟨y145, hy145⟩ : ∃ y_ : List Int, y_ = (bytesOf x0_5) := ⟨_, rfl⟩
         replace H : (fixed_form.l0 kj9 y145 (y145.length : Int) 0) = some r := by first | (rw [hy145]; with_reducible exact H) | (have H2_ := (Option.bind_some _ _).symm.trans H; rw [hy145]; with_reducible exact H2_) | (have H2_ := (Option.bind_some _ _).symm.trans H; with_reducible exact H2_) | with_reducible exact H | (rw [hy145]; exact H) | exact H
         have Ny145 := A_ hy145
         clear hy145
         have H' := A_ H
         clear H
         go_wp2_with (((with_reducible refine gate_dst (N := 29) rfl ?_); (try (refine gate_guard (by rfl) ?_; dsimp only)); refine conv_event _ 5 ?hg (N := 29) ?hd x0_5 (od_ (by first | (with_reducible assumption) | assumption)) ?hr (Below.refl _ _) (Nat.le_refl _) ?_; (case hd => rfl); (case hg => rfl); (case hr => have kb_ := fun W_ => print_bytes (P := Try.prog) 9 77 5 Try.underlying9 Try.underlying77 Try.underlying5 x0_5 W_; first | (go_simp; done) | (go_simp; rfl)); intro v146 w17 ho18 hb hg_ hnew_; clear hg_ hnew_; (first | rw [← Ny145.out] at ho18 | (simp only [Int.reduceToNat] at ho18; rw [← Ny145.out] at ho18)); have n0_ := A_ (Kd.V_lower (vm_ (ok' := fun k_ => True) ho18 (fun k_ hk_ => trivial)) (bz_ bw_)); have n1_ := A_ (bs_ bw_ hb); clear HB; have HO147 := n0_; have HB := n1_; clear n0_ n1_; clear hb ho18; obtain ⟨Ao19, co19, eo19⟩ := Kd.V_slice HO147.out; subst eo19))
         (try simp only [Act.put, sA_, sZ_, sS_])
         go_loopg [31] kj9 (fun kq v31 w' => ∃ (x31_4 : Int), v31 = .int .i64 x31_4 ∧ Aside0 (fixed_form.l0 kq y145 (y145.length : Int) x31_4 = some r) ∧ Aside0 (kq ≤ kj9) ∧ Aside0 (Kd.V (Kd.int .u8) 5 w' w.heap.size (fun _ => True) (.slice Ao19 y145.length co19) y145) ∧ Aside0 (Below w.heap.size w w'))
         case atStart => exact ⟨(0), (by first | rfl | (simp; done) | (simp [*]; done)), H', ⟨Nat.le_refl _⟩, ⟨by (with_reducible repeat (first | apply va_ | apply vn_ | apply vd_)); exact HO147.out⟩, ⟨bw_⟩⟩
         case round =>
          clear H'
          try clear c1
          try clear p1
          try clear q1
          try clear hx1
          try clear qi1
          try clear p2
          try clear c3
          try clear c3b0
          try clear c3b1
          try clear c4
          try clear c4b0
          try clear c4b1
          try clear p5
          try clear q5
          try clear hx5
          try clear qi5
          try clear c7
          try clear c8
          try clear c8b0
          try clear c8b1
          try clear c9
          try clear c9b0
          try clear c9b1
          try clear c11
          try clear c11b0
          try clear c11b1
          try clear c12
          try clear c12b0
          try clear c12b1
          try clear p13
          try clear q13
          try clear hx13
          try clear qi13
          try clear c14
          try clear c14b0
          try clear c14b1
          try clear c15
          try clear c16
          try clear c16b0
          try clear c16b1
          try clear c16b2
          try clear p1
          try clear p13
          try clear p2
          try clear p5
          try clear q1
          try clear q13
          try clear q5
          obtain ⟨x31_4, rfl, HA, HK4, HO_29, HB⟩ := hrel
          cases gk with
          | zero => exact absurd HA.out (by simp [fixed_form.l0])
          | succ k4 =>
           have H := HA.out
           clear HA
           simp only [fixed_form.l0] at H
           by_cases c20 : x31_4 < (y145.length : Int)
           ·
            rw [if_pos c20] at H
            have c20b0 : decide (x31_4 < (y145.length : Int)) = true := decide_eq_true c20
            clear c20
            by_cases c21 : 0 ≤ x31_4
            ·
             rw [if_pos c21] at H
             have c21b0 : decide (0 ≤ x31_4) = true := decide_eq_true c21
             clear c21
             by_cases c22 : x31_4 < (y145.length : Int)
             ·
              rw [if_pos c22] at H
              have c22b0 : decide (x31_4 < (y145.length : Int)) = true := decide_eq_true c22
              clear c22
              by_cases c23 : (rd y145 x31_4) < 48
              ·
               rw [if_pos c23] at H
               have c23b0 : decide ((rd y145 x31_4) < 48) = true := decide_eq_true c23
               clear c23
               obtain rfl := Option.some.inj H
               have p148 : 0 ≤ (x31_4 : Int) := od_ (by first | (with_reducible assumption) | assumption)
               have q148 : x31_4 < (y145.length : Int) := od_ (by first | (with_reducible assumption) | assumption)
               obtain ⟨ad148, e148, hx148_0⟩ := Kd.at_int (Kd.V_reads' HO_29.out).2.2 x31_4 p148 q148
               cases e148
               replace p148 := eq_true p148
               replace q148 := eq_true q148
               go_wp2
               go_ret
               exact ⟨by first | rfl | (simp [errW_none, errW_some] <;> rfl) | (simp [*, errW_none, errW_some] <;> rfl), bw_⟩
              ·
               rw [if_neg c23] at H
               have c23b0 : decide ((rd y145 x31_4) < 48) = false := decide_eq_false c23
               clear c23
               by_cases c24 : (rd y145 x31_4) > 57
               ·
                rw [if_pos c24] at H
                have c24b0 : decide (57 < (rd y145 x31_4)) = true := decide_eq_true c24
                clear c24
                obtain rfl := Option.some.inj H
                have p148 : 0 ≤ (x31_4 : Int) := od_ (by first | (with_reducible assumption) | assumption)
                have q148 : x31_4 < (y145.length : Int) := od_ (by first | (with_reducible assumption) | assumption)
                obtain ⟨ad148, e148, hx148_0⟩ := Kd.at_int (Kd.V_reads' HO_29.out).2.2 x31_4 p148 q148
                cases e148
                replace p148 := eq_true p148
                replace q148 := eq_true q148
                go_wp2
                go_ret
                exact ⟨by first | rfl | (simp [errW_none, errW_some] <;> rfl) | (simp [*, errW_none, errW_some] <;> rfl), bw_⟩
               ·
                rw [if_neg c24] at H
                have c24b0 : decide (57 < (rd y145 x31_4)) = false := decide_eq_false c24
                clear c24
                have H' := A_ H
                clear H
                have p148 : 0 ≤ (x31_4 : Int) := od_ (by first | (with_reducible assumption) | assumption)
                have q148 : x31_4 < (y145.length : Int) := od_ (by first | (with_reducible assumption) | assumption)
                obtain ⟨ad148, e148, hx148_0⟩ := Kd.at_int (Kd.V_reads' HO_29.out).2.2 x31_4 p148 q148
                cases e148
                replace p148 := eq_true p148
                replace q148 := eq_true q148
                go_wp2
                go_roundg k4
                case measure => have := HJ1.out; have := HJ5.out; have := HJ9.out; have := HK4.out; omega
                case rel => exact ⟨(wrap64 (x31_4 + 1)), (by first | rfl | (simp; done) | (simp [*]; done)), H', ⟨by have := HJ1.out; have := HJ5.out; have := HJ9.out; have := HK4.out; omega⟩, ⟨by (with_reducible repeat (first | apply va_ | apply vn_ | apply vd_)); exact HO_29.out⟩, ⟨bw_⟩⟩
             ·
              rw [if_neg c22] at H
              exact absurd H (by simp)
            ·
             rw [if_neg c21] at H
             exact absurd H (by simp)
           ·
            rw [if_neg c20] at H
            have c20b0 : decide (x31_4 < (y145.length : Int)) = false := decide_eq_false c20
            clear c20
            obtain rfl := Option.some.inj H
            go_wp2
            go_ret
            exact ⟨by first | rfl | (simp [errW_none, errW_some] <;> rfl) | (simp [*, errW_none, errW_some] <;> rfl), bw_⟩
        ·
         rw [if_neg c16] at H
         exact absurd H (by simp)
end Go.Proofs.Ytjbcigiffihjaaa.Fx
end
section
namespace Go.Proofs.Ytjbcigiffihjaaa.Fx
open Go.RowKit Go.Proofs.YtjbcigiffihjaaaW.PrintWords Go.Proofs.YtjbcigiffihjaaaW.PrintLast Go.Proofs.YtjbcigiffihjaaaW.PrintMore
attribute [local go_sem] max2_int min2_int max_two min_two max_three min_three max_four min_four   -- for this text's walks alone
set_option linter.unusedVariables false
set_option linter.unusedSimpArgs false
attribute [local go_sem] run_add64_any
def bits_Mul64.f (a0 : Int) (a1 : Int) : Option (Int × Int) := some (IntKind.u64.wrap ((IntKind.u64.wrap ((IntKind.u64.wrap ((a0 / 4294967296) * (a1 / 4294967296))) + ((IntKind.u64.wrap ((IntKind.u64.wrap ((a0 / 4294967296) * (Go.bits .and .u64 a1 4294967295))) + ((IntKind.u64.wrap ((Go.bits .and .u64 a0 4294967295) * (Go.bits .and .u64 a1 4294967295))) / 4294967296))) / 4294967296))) + ((IntKind.u64.wrap ((Go.bits .and .u64 (IntKind.u64.wrap ((IntKind.u64.wrap ((a0 / 4294967296) * (Go.bits .and .u64 a1 4294967295))) + ((IntKind.u64.wrap ((Go.bits .and .u64 a0 4294967295) * (Go.bits .and .u64 a1 4294967295))) / 4294967296))) 4294967295) + (IntKind.u64.wrap ((Go.bits .and .u64 a0 4294967295) * (a1 / 4294967296))))) / 4294967296)), IntKind.u64.wrap (a0 * a1))
set_option maxHeartbeats 8000000 in
set_option maxRecDepth 100000 in
theorem bits_Mul64.calls (a0 : Int) (a1 : Int) (r1 : Int) (r2 : Int) (w : World) (h : bits_Mul64.f a0 a1 = some (r1, r2)) :
  Calls Try.prog 49 #[.int .u64 a0, .int .u64 a1] w fun e w' => e = .returned (.tuple #[.int .u64 r1, .int .u64 r2]) ∧ Drawn0 w w' := by
 have H : (some (IntKind.u64.wrap ((IntKind.u64.wrap ((IntKind.u64.wrap ((a0 / 4294967296) * (a1 / 4294967296))) + ((IntKind.u64.wrap ((IntKind.u64.wrap ((a0 / 4294967296) * (Go.bits .and .u64 a1 4294967295))) + ((IntKind.u64.wrap ((Go.bits .and .u64 a0 4294967295) * (Go.bits .and .u64 a1 4294967295))) / 4294967296))) / 4294967296))) + ((IntKind.u64.wrap ((Go.bits .and .u64 (IntKind.u64.wrap ((IntKind.u64.wrap ((a0 / 4294967296) * (Go.bits .and .u64 a1 4294967295))) + ((IntKind.u64.wrap ((Go.bits .and .u64 a0 4294967295) * (Go.bits .and .u64 a1 4294967295))) / 4294967296))) 4294967295) + (IntKind.u64.wrap ((Go.bits .and .u64 a0 4294967295) * (a1 / 4294967296))))) / 4294967296)), IntKind.u64.wrap (a0 * a1))) = some (r1, r2) := h
 clear h
 simp only [Option.some.injEq, Prod.mk.injEq] at H
 obtain ⟨rfl, rfl⟩ := H
 go_enter Try.func49, Try.ntmps49
 go_wp2
 go_ret2
 exact ⟨by first | rfl | (simp; done) | (simp [*]; done), by repeat (first | exact Drawn0.refl _ | apply Drawn0.step)⟩
end Go.Proofs.Ytjbcigiffihjaaa.Fx
end
section
namespace Go.Proofs.Ytjbcigiffihjaaa.Fx
open Go.RowKit Go.Proofs.YtjbcigiffihjaaaW.PrintWords Go.Proofs.YtjbcigiffihjaaaW.PrintLast Go.Proofs.YtjbcigiffihjaaaW.PrintMore
attribute [local go_sem] max2_int min2_int max_two min_two max_three min_three max_four min_four   -- for this text's walks alone
set_option linter.unusedVariables false
set_option linter.unusedSimpArgs false
attribute [local go_sem] run_add64_any
attribute [local go_sem high] eqA24
end Go.Proofs.Ytjbcigiffihjaaa.Fx
end
section
namespace Go.Proofs.Ytjbcigiffihjaaa.Fx
open Go.RowKit Go.Proofs.YtjbcigiffihjaaaW.PrintWords Go.Proofs.YtjbcigiffihjaaaW.PrintLast Go.Proofs.YtjbcigiffihjaaaW.PrintMore
attribute [local go_sem] max2_int min2_int max_two min_two max_three min_three max_four min_four   -- for this text's walks alone
set_option linter.unusedVariables false
set_option linter.unusedSimpArgs false
attribute [local go_sem] run_add64_any
def IsS82 (w0 W : World) (g : Nat) (f0 : Int) (f1 : Int) (f2 : Int) : Prop := W.heap[g]? = some (.cells #[.int .i64 f0, .int .u64 f1, .int .u64 f2] 82 (0, 0)) ∧ w0.heap.size ≤ g
theorem IsS82.grown {w0 W : World} {g : Nat} {f0 : Int} {f1 : Int} {f2 : Int} {W1 : World} {row : Option Nat} (h : IsS82 w0 W g f0 f1 f2) (hw : W.grownBy W1 row) (hne : some g ≠ row) : IsS82 w0 W1 g f0 f1 f2 := by
 obtain ⟨hb, hg⟩ := h
 exact ⟨blk_grown hb hw hne, hg⟩
theorem IsS82.kept {w0 W : World} {g : Nat} {f0 : Int} {f1 : Int} {f2 : Int} {W1 : World} {S : Nat → Prop} (h : IsS82 w0 W g f0 f1 f2) (hk : Kept W W1 S) (hne : ¬ S g) : IsS82 w0 W1 g f0 f1 f2 := by
 obtain ⟨hb, hg⟩ := h
 exact ⟨blk_kept hb hk hne, hg⟩
theorem IsS82.below {w0 W : World} {g : Nat} {f0 : Int} {f1 : Int} {f2 : Int} {W1 : World} (h : IsS82 w0 W g f0 f1 f2) (hw : Below W.heap.size W W1) : IsS82 w0 W1 g f0 f1 f2 := h.grown (grown_of_below hw none) (by simp)
theorem IsS82.alloc {w0 W : World} {g : Nat} {f0 : Int} {f1 : Int} {f2 : Int} (h : IsS82 w0 W g f0 f1 f2) (o : Obj) : IsS82 w0 (W.alloc o) g f0 f1 f2 := h.below (bl_ (Below.refl _ _) o)
theorem IsS82.drewN {w0 W : World} {g : Nat} {f0 : Int} {f1 : Int} {f2 : Int} (h : IsS82 w0 W g f0 f1 f2) (m : Nat) : IsS82 w0 (W.drewN m) g f0 f1 f2 := h
theorem IsS82.drew {w0 W : World} {g : Nat} {f0 : Int} {f1 : Int} {f2 : Int} (h : IsS82 w0 W g f0 f1 f2) : IsS82 w0 W.drew g f0 f1 f2 := h
theorem IsS82.at_ {w0 W : World} {g : Nat} {f0 : Int} {f1 : Int} {f2 : Int} {w' : World} {m : Nat} (hq : W.drewN m = w') (h : IsS82 w0 W g f0 f1 f2) : IsS82 w0 w' g f0 f1 f2 := by subst hq; exact IsS82.drewN h m
theorem IsS82.apart {w0 W : World} {g : Nat} {f0 : Int} {f1 : Int} {f2 : Int} {α : Type} {d : Kd α} {e : Nat} {base : Nat} {ok : Nat → Prop} {v : Value} {xs : List α} (h : IsS82 w0 W g f0 f1 f2) (ho : d.R e W base ok v xs) (ht : ∀ q, q ∈ e :: d.E → q ≠ 82) : d.R e W base (fun k => ok k ∧ k ≠ g) v xs := by
 obtain ⟨hb, hg⟩ := h
 exact Kd.R_types ho hb ht
theorem IsS82.own_ne {w0 W : World} {g : Nat} {f0 : Int} {f1 : Int} {f2 : Int} {α : Type} {d : Kd α} {e : Nat} {base : Nat} {ok : Nat → Prop} {v : Value} {xs : List α} (h : IsS82 w0 W g f0 f1 f2) (ho : d.R e W base ok v xs) (ht : e ≠ 82) : some g ≠ v.ownBlock := by
 obtain ⟨hb, hg⟩ := h
 exact Kd.R_ne ho hb ht
section
attribute [local go_sem] run_add64_any
end
end Go.Proofs.Ytjbcigiffihjaaa.Fx
end
section
namespace Go.Proofs.Ytjbcigiffihjaaa.Fx
open Go.RowKit Go.Proofs.YtjbcigiffihjaaaW.PrintWords Go.Proofs.YtjbcigiffihjaaaW.PrintLast Go.Proofs.YtjbcigiffihjaaaW.PrintMore
attribute [local go_sem] max2_int min2_int max_two min_two max_three min_three max_four min_four   -- for this text's walks alone
set_option linter.unusedVariables false
set_option linter.unusedSimpArgs false
attribute [local go_sem] run_add64_any
end Go.Proofs.Ytjbcigiffihjaaa.Fx
end
section
namespace Go.Proofs.Ytjbcigiffihjaaa.Fx
open Go.RowKit Go.Proofs.YtjbcigiffihjaaaW.PrintWords Go.Proofs.YtjbcigiffihjaaaW.PrintLast Go.Proofs.YtjbcigiffihjaaaW.PrintMore
attribute [local go_sem] max2_int min2_int max_two min_two max_three min_three max_four min_four   -- for this text's walks alone
set_option linter.unusedVariables false
set_option linter.unusedSimpArgs false
attribute [local go_sem] run_add64_any
end Go.Proofs.Ytjbcigiffihjaaa.Fx
end
section
namespace Go.Proofs.Ytjbcigiffihjaaa.Fx
open Go.RowKit Go.Proofs.YtjbcigiffihjaaaW.PrintWords Go.Proofs.YtjbcigiffihjaaaW.PrintLast Go.Proofs.YtjbcigiffihjaaaW.PrintMore
attribute [local go_sem] max2_int min2_int max_two min_two max_three min_three max_four min_four   -- for this text's walks alone
set_option linter.unusedVariables false
set_option linter.unusedSimpArgs false
attribute [local go_sem] run_add64_any
end Go.Proofs.Ytjbcigiffihjaaa.Fx
end
section
namespace Go.Proofs.Ytjbcigiffihjaaa.Fx
open Go.RowKit Go.Proofs.YtjbcigiffihjaaaW.PrintWords Go.Proofs.YtjbcigiffihjaaaW.PrintLast Go.Proofs.YtjbcigiffihjaaaW.PrintMore
attribute [local go_sem] max2_int min2_int max_two min_two max_three min_three max_four min_four   -- for this text's walks alone
set_option linter.unusedVariables false
set_option linter.unusedSimpArgs false
attribute [local go_sem] run_add64_any
end Go.Proofs.Ytjbcigiffihjaaa.Fx
end
section
namespace Go.Proofs.Ytjbcigiffihjaaa.Fx
open Go.RowKit Go.Proofs.YtjbcigiffihjaaaW.PrintWords Go.Proofs.YtjbcigiffihjaaaW.PrintLast Go.Proofs.YtjbcigiffihjaaaW.PrintMore
attribute [local go_sem] max2_int min2_int max_two min_two max_three min_three max_four min_four   -- for this text's walks alone
set_option linter.unusedVariables false
set_option linter.unusedSimpArgs false
attribute [local go_sem] run_add64_any
end Go.Proofs.Ytjbcigiffihjaaa.Fx
end
section
namespace Go.Proofs.Ytjbcigiffihjaaa.Fx
open Go.RowKit Go.Proofs.YtjbcigiffihjaaaW.PrintWords Go.Proofs.YtjbcigiffihjaaaW.PrintLast Go.Proofs.YtjbcigiffihjaaaW.PrintMore
attribute [local go_sem] max2_int min2_int max_two min_two max_three min_three max_four min_four   -- for this text's walks alone
set_option linter.unusedVariables false
set_option linter.unusedSimpArgs false
attribute [local go_sem] run_add64_any
def fixed_turned.f (a0_0 : Int) (a0_1 : Int) : Option (Int × Int) := some (wrap64 (IntKind.u64.wrap ((Go.bits .xor .u64 18446744073709551615 (IntKind.u64.wrap (a0_0))) + (addHi (Go.bits .xor .u64 18446744073709551615 a0_1) 1 0))), addLo (Go.bits .xor .u64 18446744073709551615 a0_1) 1 0)
set_option maxHeartbeats 8000000 in
set_option maxRecDepth 100000 in
theorem fixed_turned.calls (a0_0 : Int) (a0_1 : Int) (r1 : Int) (r2 : Int) (w : World) (h : fixed_turned.f a0_0 a0_1 = some (r1, r2)) :
  Calls Try.prog 55 #[.agg #[.int .i64 a0_0, .int .u64 a0_1]] w fun e w' => e = .returned (.agg #[.int .i64 r1, .int .u64 r2]) ∧ Below w.heap.size w w' := by
 have hu24 := Try.underlying24
 have HB := A_ (Below.refl w.heap.size w)
 have H : (some (wrap64 (IntKind.u64.wrap ((Go.bits .xor .u64 18446744073709551615 (IntKind.u64.wrap (a0_0))) + (addHi (Go.bits .xor .u64 18446744073709551615 a0_1) 1 0))), addLo (Go.bits .xor .u64 18446744073709551615 a0_1) 1 0)) = some (r1, r2) := h
 clear h
 simp only [Option.some.injEq, Prod.mk.injEq] at H
 obtain ⟨rfl, rfl⟩ := H
 go_enter Try.func55, Try.ntmps55
 go_wp2_with (first | ((with_reducible refine gate_dst (N := 1) rfl ?_); refine box_event ?hg (N := 1) ?hd (cs := #[.int .i64 a0_0, .int .u64 a0_1]) (t := 24) ?hr ?_; (case hd => rfl); (case hg => rfl); (case hr => first | (go_simp; done) | (go_simp; rfl)); intro gb301 hg w2 hbox hb; have n0_ := A_ (bs_ bw_ hb); have n1_ := A_ (hbox); have n2_ := A_ ((by rw [hg]; exact (bz_ bw_) : w.heap.size ≤ gb301)); have n3_ := A_ ((by rw [hg]; exact (bz_ bw_) : w.heap.size ≤ gb301)); clear HB; have HB := n0_; have BK301 := n1_; have GW301 := n2_; have GE301 := n3_; clear n0_ n1_ n2_ n3_; clear hb hbox hg) | ((with_reducible refine gate_dst (N := 2) rfl ?_); refine box_event ?hg (N := 2) ?hd (cs := #[.int .i64 0, .int .u64 0]) (t := 24) ?hr ?_; (case hd => rfl); (case hg => rfl); (case hr => first | (go_simp; done) | (go_simp; rfl)); intro gb302 hg w3 hbox hb; have n0_ := A_ (kb_ BK301 hb); have n1_ := A_ (bs_ bw_ hb); have n2_ := A_ (hbox); have n3_ := A_ ((by rw [hg]; exact (bz_ bw_) : w.heap.size ≤ gb302)); have n4_ := A_ ((by rw [hg]; exact (bz_ bw_) : w.heap.size ≤ gb302)); have n5_ := A_ ((by rw [hg]; exact nl_ (lt_ BK301) : gb301 ≠ gb302)); have n6_ := A_ ((by rw [hg]; exact ng_ (lt_ BK301) : gb302 ≠ gb301)); clear BK301; clear HB; have BK301 := n0_; have HB := n1_; have BK302 := n2_; have GW302 := n3_; have GE302 := n4_; have NB301_302 := n5_; have NB302_301 := n6_; clear n0_ n1_ n2_ n3_ n4_ n5_ n6_; clear hb hbox hg; have hnb4 := NB301_302.out; have hnc4 := NB302_301.out; have hcz5_0 : w3.cell? ⟨gb301, 0, none⟩ = some (.int .i64 a0_0) := (bc_ BK301.out 0).trans rfl; have hcz5_1 : w3.cell? ⟨gb301, 1, none⟩ = some (.int .u64 a0_1) := (bc_ BK301.out 1).trans rfl; have hfz5_0 := bf_ BK301.out 0; have hfz5_1 := bf_ BK301.out 1; have hcz6_0 : w3.cell? ⟨gb302, 0, none⟩ = some (.int .i64 0) := (bc_ BK302.out 0).trans rfl; have hcz6_1 : w3.cell? ⟨gb302, 1, none⟩ = some (.int .u64 0) := (bc_ BK302.out 1).trans rfl; have hfz6_0 := bf_ BK302.out 0; have hfz6_1 := bf_ BK302.out 1))
 refine bodyPost_ret (results_cell_row rfl _ _ gb302 24 #[.int .i64 (wrap64 (IntKind.u64.wrap ((Go.bits .xor .u64 18446744073709551615 (IntKind.u64.wrap (a0_0))) + (addHi (Go.bits .xor .u64 18446744073709551615 a0_1) 1 0)))), .int .u64 (addLo (Go.bits .xor .u64 18446744073709551615 a0_1) 1 0)] (0, 0) _ rfl (by (with_reducible repeat (first | refine bn_ ?_ _ | refine bd_ ?_ | refine ba_ ?_ _)); refine bp_ (cs := #[.int .i64 (wrap64 (IntKind.u64.wrap ((Go.bits .xor .u64 18446744073709551615 (IntKind.u64.wrap (a0_0))) + (addHi (Go.bits .xor .u64 18446744073709551615 a0_1) 1 0)))), .int .u64 0]) ?_ 1 _ rfl; (with_reducible repeat (first | refine bn_ ?_ _ | refine bd_ ?_ | refine ba_ ?_ _)); refine bp_ (cs := #[.int .i64 0, .int .u64 0]) ?_ 0 _ rfl; (with_reducible repeat (first | refine bn_ ?_ _ | refine bd_ ?_ | refine ba_ ?_ _)); exact BK302.out) Try.underlying24 rfl (by kernel_rfl)) rfl ?_
 exact ⟨by first | rfl | (simp [errW_none, errW_some] <;> rfl) | (simp [*, errW_none, errW_some] <;> rfl), bw_⟩
end Go.Proofs.Ytjbcigiffihjaaa.Fx
end
section
namespace Go.Proofs.Ytjbcigiffihjaaa.Fx
open Go.RowKit Go.Proofs.YtjbcigiffihjaaaW.PrintWords Go.Proofs.YtjbcigiffihjaaaW.PrintLast Go.Proofs.YtjbcigiffihjaaaW.PrintMore
attribute [local go_sem] max2_int min2_int max_two min_two max_three min_three max_four min_four   -- for this text's walks alone
set_option linter.unusedVariables false
set_option linter.unusedSimpArgs false
attribute [local go_sem] run_add64_any
def fixed_size.f (a0 : Int) : Option (Int) := if a0 < 0 then (some (IntKind.u64.wrap (-(IntKind.u64.wrap (a0))))) else (some (IntKind.u64.wrap (a0)))
set_option maxHeartbeats 8000000 in
set_option maxRecDepth 100000 in
theorem fixed_size.calls (a0 : Int) (r : Int) (w : World) (h : fixed_size.f a0 = some r) :
  Calls Try.prog 35 #[.int .i64 a0] w fun e w' => e = .returned (.int .u64 r) ∧ Drawn0 w w' := by
 have H : (if a0 < 0 then (some (IntKind.u64.wrap (-(IntKind.u64.wrap (a0))))) else (some (IntKind.u64.wrap (a0)))) = some r := h
 clear h
 by_cases c2 : a0 < 0
 ·
  rw [if_pos c2] at H
  have c2b0 : decide (a0 < 0) = true := decide_eq_true c2
  clear c2
  obtain rfl := Option.some.inj H
  go_enter Try.func35, Try.ntmps35
  go_wp2
  go_ret
  exact ⟨by first | rfl | (simp; done) | (simp [*]; done), by repeat (first | exact Drawn0.refl _ | apply Drawn0.step)⟩
 ·
  rw [if_neg c2] at H
  have c2b0 : decide (a0 < 0) = false := decide_eq_false c2
  clear c2
  obtain rfl := Option.some.inj H
  go_enter Try.func35, Try.ntmps35
  go_wp2
  go_ret
  exact ⟨by first | rfl | (simp; done) | (simp [*]; done), by repeat (first | exact Drawn0.refl _ | apply Drawn0.step)⟩
end Go.Proofs.Ytjbcigiffihjaaa.Fx
end
section
namespace Go.Proofs.Ytjbcigiffihjaaa.Fx
open Go.RowKit Go.Proofs.YtjbcigiffihjaaaW.PrintWords Go.Proofs.YtjbcigiffihjaaaW.PrintLast Go.Proofs.YtjbcigiffihjaaaW.PrintMore
attribute [local go_sem] max2_int min2_int max_two min_two max_three min_three max_four min_four   -- for this text's walks alone
set_option linter.unusedVariables false
set_option linter.unusedSimpArgs false
attribute [local go_sem] run_add64_any
end Go.Proofs.Ytjbcigiffihjaaa.Fx
end
section
namespace Go.Proofs.Ytjbcigiffihjaaa.Fx
open Go.RowKit Go.Proofs.YtjbcigiffihjaaaW.PrintWords Go.Proofs.YtjbcigiffihjaaaW.PrintLast Go.Proofs.YtjbcigiffihjaaaW.PrintMore
attribute [local go_sem] max2_int min2_int max_two min_two max_three min_three max_four min_four   -- for this text's walks alone
set_option linter.unusedVariables false
set_option linter.unusedSimpArgs false
attribute [local go_sem] run_add64_any
end Go.Proofs.Ytjbcigiffihjaaa.Fx
end
section
namespace Go.Proofs.Ytjbcigiffihjaaa.Fx
open Go.RowKit Go.Proofs.YtjbcigiffihjaaaW.PrintWords Go.Proofs.YtjbcigiffihjaaaW.PrintLast Go.Proofs.YtjbcigiffihjaaaW.PrintMore
attribute [local go_sem] max2_int min2_int max_two min_two max_three min_three max_four min_four   -- for this text's walks alone
set_option linter.unusedVariables false
set_option linter.unusedSimpArgs false
attribute [local go_sem] run_add64_any
end Go.Proofs.Ytjbcigiffihjaaa.Fx
end
section
namespace Go.Proofs.Ytjbcigiffihjaaa.Fx
open Go.RowKit Go.Proofs.YtjbcigiffihjaaaW.PrintWords Go.Proofs.YtjbcigiffihjaaaW.PrintLast Go.Proofs.YtjbcigiffihjaaaW.PrintMore
attribute [local go_sem] max2_int min2_int max_two min_two max_three min_three max_four min_four   -- for this text's walks alone
set_option linter.unusedVariables false
set_option linter.unusedSimpArgs false
attribute [local go_sem] run_add64_any
end Go.Proofs.Ytjbcigiffihjaaa.Fx
end
section
namespace Go.Proofs.Ytjbcigiffihjaaa.Fx
open Go.RowKit Go.Proofs.YtjbcigiffihjaaaW.PrintWords Go.Proofs.YtjbcigiffihjaaaW.PrintLast Go.Proofs.YtjbcigiffihjaaaW.PrintMore
attribute [local go_sem] max2_int min2_int max_two min_two max_three min_three max_four min_four   -- for this text's walks alone
set_option linter.unusedVariables false
set_option linter.unusedSimpArgs false
attribute [local go_sem] run_add64_any
end Go.Proofs.Ytjbcigiffihjaaa.Fx
end
section
namespace Go.Proofs.Ytjbcigiffihjaaa.Fx
open Go.RowKit Go.Proofs.YtjbcigiffihjaaaW.PrintWords Go.Proofs.YtjbcigiffihjaaaW.PrintLast Go.Proofs.YtjbcigiffihjaaaW.PrintMore
attribute [local go_sem] max2_int min2_int max_two min_two max_three min_three max_four min_four   -- for this text's walks alone
set_option linter.unusedVariables false
set_option linter.unusedSimpArgs false
attribute [local go_sem] run_add64_any
end Go.Proofs.Ytjbcigiffihjaaa.Fx
end
section
namespace Go.Proofs.Ytjbcigiffihjaaa.Fx
open Go.RowKit Go.Proofs.YtjbcigiffihjaaaW.PrintWords Go.Proofs.YtjbcigiffihjaaaW.PrintLast Go.Proofs.YtjbcigiffihjaaaW.PrintMore
attribute [local go_sem] max2_int min2_int max_two min_two max_three min_three max_four min_four   -- for this text's walks alone
set_option linter.unusedVariables false
set_option linter.unusedSimpArgs false
attribute [local go_sem] run_add64_any
end Go.Proofs.Ytjbcigiffihjaaa.Fx
end
section
namespace Go.Proofs.Ytjbcigiffihjaaa.Fx
open Go.RowKit Go.Proofs.YtjbcigiffihjaaaW.PrintWords Go.Proofs.YtjbcigiffihjaaaW.PrintLast Go.Proofs.YtjbcigiffihjaaaW.PrintMore
attribute [local go_sem] max2_int min2_int max_two min_two max_three min_three max_four min_four   -- for this text's walks alone
set_option linter.unusedVariables false
set_option linter.unusedSimpArgs false
attribute [local go_sem] run_add64_any
end Go.Proofs.Ytjbcigiffihjaaa.Fx
end
section
namespace Go.Proofs.Ytjbcigiffihjaaa.Fx
open Go.RowKit Go.Proofs.YtjbcigiffihjaaaW.PrintWords Go.Proofs.YtjbcigiffihjaaaW.PrintLast Go.Proofs.YtjbcigiffihjaaaW.PrintMore
attribute [local go_sem] max2_int min2_int max_two min_two max_three min_three max_four min_four   -- for this text's walks alone
set_option linter.unusedVariables false
set_option linter.unusedSimpArgs false
attribute [local go_sem] run_add64_any
end Go.Proofs.Ytjbcigiffihjaaa.Fx
end
section
namespace Go.Proofs.Ytjbcigiffihjaaa.Fx
open Go.RowKit Go.Proofs.YtjbcigiffihjaaaW.PrintWords Go.Proofs.YtjbcigiffihjaaaW.PrintLast Go.Proofs.YtjbcigiffihjaaaW.PrintMore
attribute [local go_sem] max2_int min2_int max_two min_two max_three min_three max_four min_four   -- for this text's walks alone
set_option linter.unusedVariables false
set_option linter.unusedSimpArgs false
attribute [local go_sem] run_add64_any
def fixed_Of.f (a0 : Int) : Option (Int × Int) := some (a0 / 9223372036854775808, IntKind.u64.wrap (a0))
set_option maxHeartbeats 8000000 in
set_option maxRecDepth 100000 in
theorem fixed_Of.calls (a0 : Int) (r1 : Int) (r2 : Int) (w : World) (h : fixed_Of.f a0 = some (r1, r2)) :
  Calls Try.prog 24 #[.int .i64 a0] w fun e w' => e = .returned (.agg #[.int .i64 r1, .int .u64 r2]) ∧ Below w.heap.size w w' := by
 have hu24 := Try.underlying24
 have HB := A_ (Below.refl w.heap.size w)
 have H : (some (a0 / 9223372036854775808, IntKind.u64.wrap (a0))) = some (r1, r2) := h
 clear h
 simp only [Option.some.injEq, Prod.mk.injEq] at H
 obtain ⟨rfl, rfl⟩ := H
 go_enter Try.func24, Try.ntmps24
 go_wp2_with (((with_reducible refine gate_dst (N := 2) rfl ?_); refine box_event ?hg (N := 2) ?hd (cs := #[.int .i64 0, .int .u64 0]) (t := 24) ?hr ?_; (case hd => rfl); (case hg => rfl); (case hr => first | (go_simp; done) | (go_simp; rfl)); intro gb302 hg w2 hbox hb; have n0_ := A_ (bs_ bw_ hb); have n1_ := A_ (hbox); have n2_ := A_ ((by rw [hg]; exact (bz_ bw_) : w.heap.size ≤ gb302)); have n3_ := A_ ((by rw [hg]; exact (bz_ bw_) : w.heap.size ≤ gb302)); clear HB; have HB := n0_; have BK302 := n1_; have GW302 := n2_; have GE302 := n3_; clear n0_ n1_ n2_ n3_; clear hb hbox hg; have hcz3_0 : w2.cell? ⟨gb302, 0, none⟩ = some (.int .i64 0) := (bc_ BK302.out 0).trans rfl; have hcz3_1 : w2.cell? ⟨gb302, 1, none⟩ = some (.int .u64 0) := (bc_ BK302.out 1).trans rfl; have hfz3_0 := bf_ BK302.out 0; have hfz3_1 := bf_ BK302.out 1))
 refine bodyPost_ret (results_cell_row rfl _ _ gb302 24 #[.int .i64 (a0 / 9223372036854775808), .int .u64 (IntKind.u64.wrap (a0))] (0, 0) _ rfl (by (with_reducible repeat (first | refine bn_ ?_ _ | refine bd_ ?_ | refine ba_ ?_ _)); refine bp_ (cs := #[.int .i64 (a0 / 9223372036854775808), .int .u64 0]) ?_ 1 _ rfl; (with_reducible repeat (first | refine bn_ ?_ _ | refine bd_ ?_ | refine ba_ ?_ _)); refine bp_ (cs := #[.int .i64 0, .int .u64 0]) ?_ 0 _ rfl; (with_reducible repeat (first | refine bn_ ?_ _ | refine bd_ ?_ | refine ba_ ?_ _)); exact BK302.out) Try.underlying24 rfl (by kernel_rfl)) rfl ?_
 exact ⟨by first | rfl | (simp [errW_none, errW_some] <;> rfl) | (simp [*, errW_none, errW_some] <;> rfl), bw_⟩
end Go.Proofs.Ytjbcigiffihjaaa.Fx
end
section
namespace Go.Proofs.Ytjbcigiffihjaaa.Fx
open Go.RowKit Go.Proofs.YtjbcigiffihjaaaW.PrintWords Go.Proofs.YtjbcigiffihjaaaW.PrintLast Go.Proofs.YtjbcigiffihjaaaW.PrintMore
attribute [local go_sem] max2_int min2_int max_two min_two max_three min_three max_four min_four   -- for this text's walks alone
set_option linter.unusedVariables false
set_option linter.unusedSimpArgs false
attribute [local go_sem] run_add64_any
def fixed_Int.f (a0_0 : Int) (a0_1 : Int) : Option (Int × Int) := if a0_0 = ((wrap64 (a0_1)) / 9223372036854775808) then (some (wrap64 (a0_1), 0)) else (some (0, 4))
set_option maxHeartbeats 8000000 in
set_option maxRecDepth 100000 in
theorem fixed_Int.calls (a0_0 : Int) (a0_1 : Int) (r1 : Int) (r2 : Int) (w : World) (h : fixed_Int.f a0_0 a0_1 = some (r1, r2)) :
  Calls Try.prog 23 #[.agg #[.int .i64 a0_0, .int .u64 a0_1]] w fun e w' => e = .returned (.tuple #[.int .i64 r1, .int .i64 r2]) ∧ Below w.heap.size w w' := by
 have hu24 := Try.underlying24
 have HB := A_ (Below.refl w.heap.size w)
 have H : (if a0_0 = ((wrap64 (a0_1)) / 9223372036854775808) then (some (wrap64 (a0_1), 0)) else (some (0, 4))) = some (r1, r2) := h
 clear h
 by_cases c2 : a0_0 = ((wrap64 (a0_1)) / 9223372036854775808)
 ·
  rw [if_pos c2] at H
  have c2b0 : (a0_0 == ((wrap64 (a0_1)) / 9223372036854775808)) = true := q1_ c2
  have c2b1 : (a0_0 != ((wrap64 (a0_1)) / 9223372036854775808)) = false := q3_ c2
  clear c2
  simp only [Option.some.injEq, Prod.mk.injEq] at H
  obtain ⟨rfl, rfl⟩ := H
  go_enter Try.func23, Try.ntmps23
  go_wp2_with (((with_reducible refine gate_dst (N := 1) rfl ?_); refine box_event ?hg (N := 1) ?hd (cs := #[.int .i64 a0_0, .int .u64 a0_1]) (t := 24) ?hr ?_; (case hd => rfl); (case hg => rfl); (case hr => first | (go_simp; done) | (go_simp; rfl)); intro gb301 hg w3 hbox hb; have n0_ := A_ (bs_ bw_ hb); have n1_ := A_ (hbox); have n2_ := A_ ((by rw [hg]; exact (bz_ bw_) : w.heap.size ≤ gb301)); have n3_ := A_ ((by rw [hg]; exact (bz_ bw_) : w.heap.size ≤ gb301)); clear HB; have HB := n0_; have BK301 := n1_; have GW301 := n2_; have GE301 := n3_; clear n0_ n1_ n2_ n3_; clear hb hbox hg; have hcz4_0 : w3.cell? ⟨gb301, 0, none⟩ = some (.int .i64 a0_0) := (bc_ BK301.out 0).trans rfl; have hcz4_1 : w3.cell? ⟨gb301, 1, none⟩ = some (.int .u64 a0_1) := (bc_ BK301.out 1).trans rfl; have hfz4_0 := bf_ BK301.out 0; have hfz4_1 := bf_ BK301.out 1))
  go_ret2
  exact ⟨by first | rfl | (simp [errW_none, errW_some] <;> rfl) | (simp [*, errW_none, errW_some] <;> rfl), bw_⟩
 ·
  rw [if_neg c2] at H
  have c2b0 : (a0_0 == ((wrap64 (a0_1)) / 9223372036854775808)) = false := q4_ c2
  have c2b1 : (a0_0 != ((wrap64 (a0_1)) / 9223372036854775808)) = true := q2_ c2
  simp only [Option.some.injEq, Prod.mk.injEq] at H
  obtain ⟨rfl, rfl⟩ := H
  go_enter Try.func23, Try.ntmps23
  go_wp2_with (((with_reducible refine gate_dst (N := 1) rfl ?_); refine box_event ?hg (N := 1) ?hd (cs := #[.int .i64 a0_0, .int .u64 a0_1]) (t := 24) ?hr ?_; (case hd => rfl); (case hg => rfl); (case hr => first | (go_simp; done) | (go_simp; rfl)); intro gb301 hg w5 hbox hb; have n0_ := A_ (bs_ bw_ hb); have n1_ := A_ (hbox); have n2_ := A_ ((by rw [hg]; exact (bz_ bw_) : w.heap.size ≤ gb301)); have n3_ := A_ ((by rw [hg]; exact (bz_ bw_) : w.heap.size ≤ gb301)); clear HB; have HB := n0_; have BK301 := n1_; have GW301 := n2_; have GE301 := n3_; clear n0_ n1_ n2_ n3_; clear hb hbox hg; have hcz6_0 : w5.cell? ⟨gb301, 0, none⟩ = some (.int .i64 a0_0) := (bc_ BK301.out 0).trans rfl; have hcz6_1 : w5.cell? ⟨gb301, 1, none⟩ = some (.int .u64 a0_1) := (bc_ BK301.out 1).trans rfl; have hfz6_0 := bf_ BK301.out 0; have hfz6_1 := bf_ BK301.out 1))
  go_ret2
  exact ⟨by first | rfl | (simp [errW_none, errW_some] <;> rfl) | (simp [*, errW_none, errW_some] <;> rfl), bw_⟩
end Go.Proofs.Ytjbcigiffihjaaa.Fx
end
section
namespace Go.Proofs.Ytjbcigiffihjaaa.Fx
open Go.RowKit Go.Proofs.YtjbcigiffihjaaaW.PrintWords Go.Proofs.YtjbcigiffihjaaaW.PrintLast Go.Proofs.YtjbcigiffihjaaaW.PrintMore
attribute [local go_sem] max2_int min2_int max_two min_two max_three min_three max_four min_four   -- for this text's walks alone
set_option linter.unusedVariables false
set_option linter.unusedSimpArgs false
attribute [local go_sem] run_add64_any
end Go.Proofs.Ytjbcigiffihjaaa.Fx
end
section
namespace Go.Proofs.Ytjbcigiffihjaaa.Fx
open Go.RowKit Go.Proofs.YtjbcigiffihjaaaW.PrintWords Go.Proofs.YtjbcigiffihjaaaW.PrintLast Go.Proofs.YtjbcigiffihjaaaW.PrintMore
attribute [local go_sem] max2_int min2_int max_two min_two max_three min_three max_four min_four   -- for this text's walks alone
set_option linter.unusedVariables false
set_option linter.unusedSimpArgs false
attribute [local go_sem] run_add64_any
end Go.Proofs.Ytjbcigiffihjaaa.Fx
end
section
namespace Go.Proofs.Ytjbcigiffihjaaa.Fx
open Go.RowKit Go.Proofs.YtjbcigiffihjaaaW.PrintWords Go.Proofs.YtjbcigiffihjaaaW.PrintLast Go.Proofs.YtjbcigiffihjaaaW.PrintMore
attribute [local go_sem] max2_int min2_int max_two min_two max_three min_three max_four min_four   -- for this text's walks alone
set_option linter.unusedVariables false
set_option linter.unusedSimpArgs false
attribute [local go_sem] run_add64_any
end Go.Proofs.Ytjbcigiffihjaaa.Fx
end
section
namespace Go.Proofs.Ytjbcigiffihjaaa.Fx
open Go.RowKit Go.Proofs.YtjbcigiffihjaaaW.PrintWords Go.Proofs.YtjbcigiffihjaaaW.PrintLast Go.Proofs.YtjbcigiffihjaaaW.PrintMore
attribute [local go_sem] max2_int min2_int max_two min_two max_three min_three max_four min_four   -- for this text's walks alone
set_option linter.unusedVariables false
set_option linter.unusedSimpArgs false
attribute [local go_sem] run_add64_any
end Go.Proofs.Ytjbcigiffihjaaa.Fx
end
section
namespace Go.Proofs.Ytjbcigiffihjaaa.Fx
open Go.RowKit Go.Proofs.YtjbcigiffihjaaaW.PrintWords Go.Proofs.YtjbcigiffihjaaaW.PrintLast Go.Proofs.YtjbcigiffihjaaaW.PrintMore
attribute [local go_sem] max2_int min2_int max_two min_two max_three min_three max_four min_four   -- for this text's walks alone
set_option linter.unusedVariables false
set_option linter.unusedSimpArgs false
attribute [local go_sem] run_add64_any
end Go.Proofs.Ytjbcigiffihjaaa.Fx
end
section
namespace Go.Proofs.Ytjbcigiffihjaaa.Fx
open Go.RowKit Go.Proofs.YtjbcigiffihjaaaW.PrintWords Go.Proofs.YtjbcigiffihjaaaW.PrintLast Go.Proofs.YtjbcigiffihjaaaW.PrintMore
attribute [local go_sem] max2_int min2_int max_two min_two max_three min_three max_four min_four   -- for this text's walks alone
set_option linter.unusedVariables false
set_option linter.unusedSimpArgs false
attribute [local go_sem] run_add64_any
def fixed_away.f (a0_0 : Int) (a0_1 : Int) : Option (Int × Int × Bool) := if a0_0 < 0 then ((fixed_turned.f a0_0 a0_1).bind fun bt101 => (some (IntKind.u64.wrap (bt101.1), bt101.2, true))) else (some (IntKind.u64.wrap (a0_0), a0_1, false))
set_option maxHeartbeats 8000000 in
set_option maxRecDepth 100000 in
theorem fixed_away.calls (a0_0 : Int) (a0_1 : Int) (r1 : Int) (r2 : Int) (r3 : Bool) (w : World) (h : fixed_away.f a0_0 a0_1 = some (r1, r2, r3)) :
  Calls Try.prog 34 #[.agg #[.int .i64 a0_0, .int .u64 a0_1]] w fun e w' => e = .returned (.tuple #[.int .u64 r1, .int .u64 r2, .bool r3]) ∧ Below w.heap.size w w' := by
 have hu24 := Try.underlying24
 have HB := A_ (Below.refl w.heap.size w)
 have H : (if a0_0 < 0 then ((fixed_turned.f a0_0 a0_1).bind fun bt101 => (some (IntKind.u64.wrap (bt101.1), bt101.2, true))) else (some (IntKind.u64.wrap (a0_0), a0_1, false))) = some (r1, r2, r3) := h
 clear h
 by_cases c2 : a0_0 < 0
 ·
  rw [if_pos c2] at H
  have c2b0 : decide (a0_0 < 0) = true := decide_eq_true c2
  clear c2
  replace H := os_ H
  obtain ⟨⟨t101, t102⟩, A30, H⟩ := H
  replace H : (some (IntKind.u64.wrap (t101), t102, true)) = some (r1, r2, r3) := H
  have A3 := A_ A30
  clear A30
  simp only [Option.some.injEq, Prod.mk.injEq] at H
  obtain ⟨rfl, rfl, rfl⟩ := H
  go_enter Try.func34, Try.ntmps34
  go_wp2_with (first | ((with_reducible refine gate_dst (N := 1) rfl ?_); refine box_event ?hg (N := 1) ?hd (cs := #[.int .i64 a0_0, .int .u64 a0_1]) (t := 24) ?hr ?_; (case hd => rfl); (case hg => rfl); (case hr => first | (go_simp; done) | (go_simp; rfl)); intro gb301 hg w4 hbox hb; have n0_ := A_ (bs_ bw_ hb); have n1_ := A_ (hbox); have n2_ := A_ ((by rw [hg]; exact (bz_ bw_) : w.heap.size ≤ gb301)); have n3_ := A_ ((by rw [hg]; exact (bz_ bw_) : w.heap.size ≤ gb301)); clear HB; have HB := n0_; have BK301 := n1_; have GW301 := n2_; have GE301 := n3_; clear n0_ n1_ n2_ n3_; clear hb hbox hg; have hcz5_0 : w4.cell? ⟨gb301, 0, none⟩ = some (.int .i64 a0_0) := (bc_ BK301.out 0).trans rfl; have hcz5_1 : w4.cell? ⟨gb301, 1, none⟩ = some (.int .u64 a0_1) := (bc_ BK301.out 1).trans rfl; have hfz5_0 := bf_ BK301.out 0; have hfz5_1 := bf_ BK301.out 1) | (go_at_call 55; (with_reducible refine (fixed_turned.calls a0_0 a0_1 t101 t102 _ A3.out).mono ?_); rintro e w6 ⟨rfl, hb⟩; have n0_ := A_ (kb_ BK301 hb); have n1_ := A_ (bs_ bw_ hb); clear BK301; clear HB; have BK301 := n0_; have HB := n1_; clear n0_ n1_; (try clear hb); (try clear hb2); (try clear hk); (try clear hi); have hcz7_0 : w6.cell? ⟨gb301, 0, none⟩ = some (.int .i64 a0_0) := (bc_ BK301.out 0).trans rfl; have hcz7_1 : w6.cell? ⟨gb301, 1, none⟩ = some (.int .u64 a0_1) := (bc_ BK301.out 1).trans rfl; have hfz7_0 := bf_ BK301.out 0; have hfz7_1 := bf_ BK301.out 1))
  repeat (go_quiet (fail); try go_wp2_with (fail))
  go_ret3
  exact ⟨by first | rfl | (simp [errW_none, errW_some] <;> rfl) | (simp [*, errW_none, errW_some] <;> rfl), bw_⟩
 ·
  rw [if_neg c2] at H
  have c2b0 : decide (a0_0 < 0) = false := decide_eq_false c2
  clear c2
  simp only [Option.some.injEq, Prod.mk.injEq] at H
  obtain ⟨rfl, rfl, rfl⟩ := H
  go_enter Try.func34, Try.ntmps34
  go_wp2_with (((with_reducible refine gate_dst (N := 1) rfl ?_); refine box_event ?hg (N := 1) ?hd (cs := #[.int .i64 a0_0, .int .u64 a0_1]) (t := 24) ?hr ?_; (case hd => rfl); (case hg => rfl); (case hr => first | (go_simp; done) | (go_simp; rfl)); intro gb301 hg w8 hbox hb; have n0_ := A_ (bs_ bw_ hb); have n1_ := A_ (hbox); have n2_ := A_ ((by rw [hg]; exact (bz_ bw_) : w.heap.size ≤ gb301)); have n3_ := A_ ((by rw [hg]; exact (bz_ bw_) : w.heap.size ≤ gb301)); clear HB; have HB := n0_; have BK301 := n1_; have GW301 := n2_; have GE301 := n3_; clear n0_ n1_ n2_ n3_; clear hb hbox hg; have hcz9_0 : w8.cell? ⟨gb301, 0, none⟩ = some (.int .i64 a0_0) := (bc_ BK301.out 0).trans rfl; have hcz9_1 : w8.cell? ⟨gb301, 1, none⟩ = some (.int .u64 a0_1) := (bc_ BK301.out 1).trans rfl; have hfz9_0 := bf_ BK301.out 0; have hfz9_1 := bf_ BK301.out 1))
  repeat (go_quiet (fail); try go_wp2_with (fail))
  go_ret3
  exact ⟨by first | rfl | (simp [errW_none, errW_some] <;> rfl) | (simp [*, errW_none, errW_some] <;> rfl), bw_⟩
end Go.Proofs.Ytjbcigiffihjaaa.Fx
end
section
namespace Go.Proofs.Ytjbcigiffihjaaa.Fx
open Go.RowKit Go.Proofs.YtjbcigiffihjaaaW.PrintWords Go.Proofs.YtjbcigiffihjaaaW.PrintLast Go.Proofs.YtjbcigiffihjaaaW.PrintMore
attribute [local go_sem] max2_int min2_int max_two min_two max_three min_three max_four min_four   -- for this text's walks alone
set_option linter.unusedVariables false
set_option linter.unusedSimpArgs false
attribute [local go_sem] run_add64_any
end Go.Proofs.Ytjbcigiffihjaaa.Fx
end
