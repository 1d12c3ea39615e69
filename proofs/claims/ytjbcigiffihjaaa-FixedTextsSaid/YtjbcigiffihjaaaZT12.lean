/- Texts of this seat, put together (ZT12). -/
import Derived.Test.YtjbcigiffihjaaaZT3
import Derived.Test.YtjbcigiffihjaaaZT5
import Derived.Test.YtjbcigiffihjaaaZT7
section
namespace Go.Proofs.Ytjbcigiffihjaaa.Fx
open Go.RowKit Go.Proofs.YtjbcigiffihjaaaW.PrintWords Go.Proofs.YtjbcigiffihjaaaW.PrintLast Go.Proofs.YtjbcigiffihjaaaW.PrintMore
attribute [local go_sem] max2_int min2_int max_two min_two max_three min_three max_four min_four   -- for this text's walks alone
set_option linter.unusedVariables false
set_option linter.unusedSimpArgs false
attribute [local go_sem] run_add64_any
mutual
def fixed_Divide.j0 : Nat → Int → Int → Bool → Int → Int → Option (Int × Int × Int)
 | 0, _, _, _, _, _ => none
 | k + 1, x1, x2, x25, x304000, x304001 => if x25 = true then (some (0, 0, 1)) else ((fixed_away.f x304000 x304001).bind fun bt107 => (if x1 < 0 then (fixed_Divide.j1 k x1 x2 bt107.1 bt107.2.1 (!bt107.2.2)) else (fixed_Divide.j1 k x1 x2 bt107.1 bt107.2.1 bt107.2.2)))
def fixed_Divide.j1 : Nat → Int → Int → Int → Int → Bool → Option (Int × Int × Int)
 | 0, _, _, _, _, _ => none
 | k + 1, x1, x2, x8, x9, x10 => (fixed_size.f x1).bind fun t110 => (if t110 = 0 then (none) else ((bits_Div64.f k (Int.tmod x8 t110) x9 t110).bind fun bt111 => ((fixed_up.f x2 x10 ((Go.bits .and .u64 bt111.1 1) == 1) bt111.2 t110).bind fun t113 => (if t113 = true then ((fixed_signed.f k (IntKind.u64.wrap ((IntKind.u64.wrap (Int.tdiv x8 t110)) + (addHi bt111.1 1 0))) (addLo bt111.1 1 0) x10).bind fun bt114 => (some (bt114.1, bt114.2.1, bt114.2.2))) else ((fixed_signed.f k (IntKind.u64.wrap (Int.tdiv x8 t110)) bt111.1 x10).bind fun bt117 => (some (bt117.1, bt117.2.1, bt117.2.2)))))))
end
def fixed_Divide.f (k : Nat) (a0_0 : Int) (a0_1 : Int) (a1 : Int) (a2 : Int) : Option (Int × Int × Int) := if a1 = 0 then (fixed_Divide.j0 k a1 a2 true a0_0 a0_1) else (if a2 < 0 then (fixed_Divide.j0 k a1 a2 true a0_0 a0_1) else (fixed_Divide.j0 k a1 a2 (decide (a2 > 3)) a0_0 a0_1))
set_option maxHeartbeats 8000000 in
set_option maxRecDepth 100000 in
theorem fixed_Divide.calls (k : Nat) (a0_0 : Int) (a0_1 : Int) (a1 : Int) (a2 : Int) (r1 : Int) (r2 : Int) (r3 : Int) (w : World) (h : fixed_Divide.f k a0_0 a0_1 a1 a2 = some (r1, r2, r3)) :
  Calls Try.prog 8 #[.agg #[.int .i64 a0_0, .int .u64 a0_1], .int .i64 a1, .int .i64 a2] w fun e w' => e = .returned (.tuple #[.agg #[.int .i64 r1, .int .u64 r2], .int .i64 r3]) ∧ Below w.heap.size w w' := by
 have hu24 := Try.underlying24
 have HB := Aside0.mk (Below.refl w.heap.size w)
 have H : (if a1 = 0 then (fixed_Divide.j0 k a1 a2 true a0_0 a0_1) else (if a2 < 0 then (fixed_Divide.j0 k a1 a2 true a0_0 a0_1) else (fixed_Divide.j0 k a1 a2 (decide (a2 > 3)) a0_0 a0_1))) = some (r1, r2, r3) := h
 clear h
 have HC4 := Aside0.mk H
 clear H
 go_enter Try.func8, Try.ntmps8
 go_upto_region 1 with (first | ((with_reducible refine gate_dst (N := 3) rfl ?_); refine box_event ?hg (N := 3) ?hd (cs := #[.int .i64 a0_0, .int .u64 a0_1]) (t := 24) ?hr ?_; (case hd => rfl); (case hg => rfl); (case hr => first | (go_simp; done) | (go_simp; rfl)); intro gb303 hg w5 hbox hb; have n0_ := Aside0.mk (below_step bw_ hb); have n1_ := Aside0.mk (hbox); have n2_ := Aside0.mk ((by rw [hg]; exact (below_size bw_) : w.heap.size ≤ gb303)); have n3_ := Aside0.mk ((by rw [hg]; exact (below_size bw_) : w.heap.size ≤ gb303)); clear HB; have HB := n0_; have BK303 := n1_; have GW303 := n2_; have GE303 := n3_; clear n0_ n1_ n2_ n3_; clear hb hbox hg) | ((with_reducible refine gate_dst (N := 6) rfl ?_); refine box_event ?hg (N := 6) ?hd (cs := #[.int .i64 0, .int .u64 0]) (t := 24) ?hr ?_; (case hd => rfl); (case hg => rfl); (case hr => first | (go_simp; done) | (go_simp; rfl)); intro gb306 hg w6 hbox hb; have n0_ := Aside0.mk (kb_ BK303 hb); have n1_ := Aside0.mk (below_step bw_ hb); have n2_ := Aside0.mk (hbox); have n3_ := Aside0.mk ((by rw [hg]; exact (below_size bw_) : w.heap.size ≤ gb306)); have n4_ := Aside0.mk ((by rw [hg]; exact (below_size bw_) : w.heap.size ≤ gb306)); have n5_ := Aside0.mk ((by rw [hg]; exact Nat.ne_of_lt (lt_ BK303) : gb303 ≠ gb306)); have n6_ := Aside0.mk ((by rw [hg]; exact Nat.ne_of_gt (lt_ BK303) : gb306 ≠ gb303)); clear BK303; clear HB; have BK303 := n0_; have HB := n1_; have BK306 := n2_; have GW306 := n3_; have GE306 := n4_; have NB303_306 := n5_; have NB306_303 := n6_; clear n0_ n1_ n2_ n3_ n4_ n5_ n6_; clear hb hbox hg))
 repeat (go_quiet (first | ((with_reducible refine gate_dst (N := 3) rfl ?_); refine box_event ?hg (N := 3) ?hd (cs := #[.int .i64 a0_0, .int .u64 a0_1]) (t := 24) ?hr ?_; (case hd => rfl); (case hg => rfl); (case hr => first | (go_simp; done) | (go_simp; rfl)); intro gb303 hg w5 hbox hb; have n0_ := Aside0.mk (below_step bw_ hb); have n1_ := Aside0.mk (hbox); have n2_ := Aside0.mk ((by rw [hg]; exact (below_size bw_) : w.heap.size ≤ gb303)); have n3_ := Aside0.mk ((by rw [hg]; exact (below_size bw_) : w.heap.size ≤ gb303)); clear HB; have HB := n0_; have BK303 := n1_; have GW303 := n2_; have GE303 := n3_; clear n0_ n1_ n2_ n3_; clear hb hbox hg) | ((with_reducible refine gate_dst (N := 6) rfl ?_); refine box_event ?hg (N := 6) ?hd (cs := #[.int .i64 0, .int .u64 0]) (t := 24) ?hr ?_; (case hd => rfl); (case hg => rfl); (case hr => first | (go_simp; done) | (go_simp; rfl)); intro gb306 hg w6 hbox hb; have n0_ := Aside0.mk (kb_ BK303 hb); have n1_ := Aside0.mk (below_step bw_ hb); have n2_ := Aside0.mk (hbox); have n3_ := Aside0.mk ((by rw [hg]; exact (below_size bw_) : w.heap.size ≤ gb306)); have n4_ := Aside0.mk ((by rw [hg]; exact (below_size bw_) : w.heap.size ≤ gb306)); have n5_ := Aside0.mk ((by rw [hg]; exact Nat.ne_of_lt (lt_ BK303) : gb303 ≠ gb306)); have n6_ := Aside0.mk ((by rw [hg]; exact Nat.ne_of_gt (lt_ BK303) : gb306 ≠ gb303)); clear BK303; clear HB; have BK303 := n0_; have HB := n1_; have BK306 := n2_; have GW306 := n3_; have GE306 := n4_; have NB303_306 := n5_; have NB306_303 := n6_; clear n0_ n1_ n2_ n3_ n4_ n5_ n6_; clear hb hbox hg)); go_upto_region 1 with (first | ((with_reducible refine gate_dst (N := 3) rfl ?_); refine box_event ?hg (N := 3) ?hd (cs := #[.int .i64 a0_0, .int .u64 a0_1]) (t := 24) ?hr ?_; (case hd => rfl); (case hg => rfl); (case hr => first | (go_simp; done) | (go_simp; rfl)); intro gb303 hg w5 hbox hb; have n0_ := Aside0.mk (below_step bw_ hb); have n1_ := Aside0.mk (hbox); have n2_ := Aside0.mk ((by rw [hg]; exact (below_size bw_) : w.heap.size ≤ gb303)); have n3_ := Aside0.mk ((by rw [hg]; exact (below_size bw_) : w.heap.size ≤ gb303)); clear HB; have HB := n0_; have BK303 := n1_; have GW303 := n2_; have GE303 := n3_; clear n0_ n1_ n2_ n3_; clear hb hbox hg) | ((with_reducible refine gate_dst (N := 6) rfl ?_); refine box_event ?hg (N := 6) ?hd (cs := #[.int .i64 0, .int .u64 0]) (t := 24) ?hr ?_; (case hd => rfl); (case hg => rfl); (case hr => first | (go_simp; done) | (go_simp; rfl)); intro gb306 hg w6 hbox hb; have n0_ := Aside0.mk (kb_ BK303 hb); have n1_ := Aside0.mk (below_step bw_ hb); have n2_ := Aside0.mk (hbox); have n3_ := Aside0.mk ((by rw [hg]; exact (below_size bw_) : w.heap.size ≤ gb306)); have n4_ := Aside0.mk ((by rw [hg]; exact (below_size bw_) : w.heap.size ≤ gb306)); have n5_ := Aside0.mk ((by rw [hg]; exact Nat.ne_of_lt (lt_ BK303) : gb303 ≠ gb306)); have n6_ := Aside0.mk ((by rw [hg]; exact Nat.ne_of_gt (lt_ BK303) : gb306 ≠ gb303)); clear BK303; clear HB; have BK303 := n0_; have HB := n1_; have BK306 := n2_; have GW306 := n3_; have GE306 := n4_; have NB303_306 := n5_; have NB306_303 := n6_; clear n0_ n1_ n2_ n3_ n4_ n5_ n6_; clear hb hbox hg)))
 (try simp only [Act.put, List.setIfInBounds_toArray, List.set_cons_zero, List.set_cons_succ])
 go_cut [25] (fun v25 wc => ∃ (kq : Nat) (x25_3 : Bool), v25 = .bool x25_3 ∧ Aside0 (fixed_Divide.j0 kq a1 a2 x25_3 a0_0 a0_1 = some (r1, r2, r3)) ∧ Aside0 (kq ≤ k) ∧ Aside0 (wc.heap[gb303]? = some (.cells #[.int .i64 a0_0, .int .u64 a0_1] 24 (0, 0))) ∧ Aside0 (wc.heap[gb306]? = some (.cells #[.int .i64 0, .int .u64 0] 24 (0, 0))) ∧ Aside0 (Below w.heap.size w wc))
 case first =>
  have H := HC4.out
  clear HC4
  by_cases c7 : a1 = 0
  ·
   rw [if_pos c7] at H
   have c7b0 : (a1 == 0) = true := beq_iff_eq.mpr c7
   have c7b1 : (a1 != 0) = false := bne_eq_false_iff_eq.mpr c7
   clear c7
   (first | rw [c7b0] | (simp only [i64_w, i32_w]; rw [c7b0]) | skip)
   have H' := Aside0.mk H
   clear H
   go_wp2
   repeat (go_quiet (fail); try go_wp2)
   go_meet
   case rel => exact ⟨_, (true), (by first | rfl | (simp; done) | (simp [*]; done)), H', ⟨by first | omega | exact Nat.le_refl _⟩, ⟨bk_⟩, ⟨bk_⟩, ⟨bw_⟩⟩
  ·
   rw [if_neg c7] at H
   have c7b0 : (a1 == 0) = false := beq_eq_false_iff_ne.mpr c7
   have c7b1 : (a1 != 0) = true := bne_iff_ne.mpr c7
   (first | rw [c7b0] | (simp only [i64_w, i32_w]; rw [c7b0]) | skip)
   by_cases c8 : a2 < 0
   ·
    rw [if_pos c8] at H
    have c8b0 : decide (a2 < 0) = true := decide_eq_true c8
    clear c8
    have H' := Aside0.mk H
    clear H
    go_wp2
    repeat (go_quiet (fail); try go_wp2)
    go_meet
    case rel => exact ⟨_, (true), (by first | rfl | (simp; done) | (simp [*]; done)), H', ⟨by first | omega | exact Nat.le_refl _⟩, ⟨bk_⟩, ⟨bk_⟩, ⟨bw_⟩⟩
   ·
    rw [if_neg c8] at H
    have c8b0 : decide (a2 < 0) = false := decide_eq_false c8
    clear c8
    have H' := Aside0.mk H
    clear H
    go_wp2
    repeat (go_quiet (fail); try go_wp2)
    go_meet
    case rel => exact ⟨_, (decide (a2 > 3)), (by first | rfl | (simp; done) | (simp [*]; done)), H', ⟨by first | omega | exact Nat.le_refl _⟩, ⟨bk_⟩, ⟨bk_⟩, ⟨bw_⟩⟩
 case rest =>
  clear HC4
  try clear p2
  try clear c7
  try clear c7b0
  try clear c7b1
  try clear c8
  try clear c8b0
  obtain ⟨kq, x25_3, rfl, HA, HJ3, BK303, BK306, HB⟩ := hcut
  cases kq with
  | zero => exact absurd HA.out (by simp [fixed_Divide.j0])
  | succ kj3 =>
   have H := HA.out
   clear HA
   simp only [fixed_Divide.j0] at H
   by_cases c9 : x25_3 = true
   ·
    subst c9
    have H1 : (some (0, 0, 1)) = some (r1, r2, r3) := by rw [if_pos rfl] at H; exact H
    clear H
    have H := H1
    clear H1
    simp only [Option.some.injEq, Prod.mk.injEq] at H
    obtain ⟨rfl, rfl, rfl⟩ := H
    have hnb10 := NB306_303.out
    have hnc10 := NB303_306.out
    have hcz11_0 : wc.cell? ⟨gb306, 0, none⟩ = some (.int .i64 0) := (blk_cell BK306.out 0).trans rfl
    have hcz11_1 : wc.cell? ⟨gb306, 1, none⟩ = some (.int .u64 0) := (blk_cell BK306.out 1).trans rfl
    have hfz11_0 := blk_frozen BK306.out 0
    have hfz11_1 := blk_frozen BK306.out 1
    go_wp2
    repeat (go_quiet (fail); try go_wp2)
    refine bodyPost_ret (results_ct rfl _ _ gb306 24 #[.int .i64 0, .int .u64 0] (0, 0) _ rfl (by (with_reducible repeat (first | refine blk_drewN ?_ _ | refine blk_drew ?_ | refine blk_alloc ?_ _)); refine blk_put (cs := #[.int .i64 0, .int .u64 0]) ?_ 1 _ rfl; (with_reducible repeat (first | refine blk_drewN ?_ _ | refine blk_drew ?_ | refine blk_alloc ?_ _)); refine blk_put (cs := #[.int .i64 0, .int .u64 0]) ?_ 0 _ rfl; (with_reducible repeat (first | refine blk_drewN ?_ _ | refine blk_drew ?_ | refine blk_alloc ?_ _)); exact BK306.out) Try.underlying24 rfl (by kernel_rfl)) rfl ?_
    exact ⟨by first | rfl | (simp [errW_none, errW_some] <;> rfl) | (simp [*, errW_none, errW_some] <;> rfl), bw_⟩
   ·
    replace c9 := Bool.eq_false_iff.mpr c9
    subst c9
    have H1 : ((fixed_away.f a0_0 a0_1).bind fun bt107 => (if a1 < 0 then (fixed_Divide.j1 kj3 a1 a2 bt107.1 bt107.2.1 (!bt107.2.2)) else (fixed_Divide.j1 kj3 a1 a2 bt107.1 bt107.2.1 bt107.2.2))) = some (r1, r2, r3) := by rw [if_neg (show ¬ (false = true) by decide)] at H; exact H
    clear H
    have H := H1
    clear H1
    replace H := Option.bind_eq_some_iff.mp H
    obtain ⟨⟨t107, t108, t109⟩, A120, H⟩ := H
    replace H : (if a1 < 0 then (fixed_Divide.j1 kj3 a1 a2 t107 t108 (!t109)) else (fixed_Divide.j1 kj3 a1 a2 t107 t108 t109)) = some (r1, r2, r3) := H
    have A12 := Aside0.mk A120
    clear A120
    have HC13 := Aside0.mk H
    clear H
    have hnb14 := NB303_306.out
    have hnc14 := NB306_303.out
    have hcz15_0 : wc.cell? ⟨gb303, 0, none⟩ = some (.int .i64 a0_0) := (blk_cell BK303.out 0).trans rfl
    have hcz15_1 : wc.cell? ⟨gb303, 1, none⟩ = some (.int .u64 a0_1) := (blk_cell BK303.out 1).trans rfl
    have hfz15_0 := blk_frozen BK303.out 0
    have hfz15_1 := blk_frozen BK303.out 1
    go_upto_if 34 with (first | (go_at_call 34; (with_reducible refine (fixed_away.calls a0_0 a0_1 t107 t108 t109 _ A12.out).mono ?_); rintro e w16 ⟨rfl, hb⟩; have n0_ := Aside0.mk (kb_ BK303 hb); have n1_ := Aside0.mk (kb_ BK306 hb); have n2_ := Aside0.mk (below_step bw_ hb); clear BK303; clear BK306; clear HB; have BK303 := n0_; have BK306 := n1_; have HB := n2_; clear n0_ n1_ n2_; (try clear hb); (try clear hb2); (try clear hk); (try clear hi)))
    repeat (go_quiet (first | (go_at_call 34; (with_reducible refine (fixed_away.calls a0_0 a0_1 t107 t108 t109 _ A12.out).mono ?_); rintro e w16 ⟨rfl, hb⟩; have n0_ := Aside0.mk (kb_ BK303 hb); have n1_ := Aside0.mk (kb_ BK306 hb); have n2_ := Aside0.mk (below_step bw_ hb); clear BK303; clear BK306; clear HB; have BK303 := n0_; have BK306 := n1_; have HB := n2_; clear n0_ n1_ n2_; (try clear hb); (try clear hb2); (try clear hk); (try clear hi))); go_upto_if 34 with (first | (go_at_call 34; (with_reducible refine (fixed_away.calls a0_0 a0_1 t107 t108 t109 _ A12.out).mono ?_); rintro e w16 ⟨rfl, hb⟩; have n0_ := Aside0.mk (kb_ BK303 hb); have n1_ := Aside0.mk (kb_ BK306 hb); have n2_ := Aside0.mk (below_step bw_ hb); clear BK303; clear BK306; clear HB; have BK303 := n0_; have BK306 := n1_; have HB := n2_; clear n0_ n1_ n2_; (try clear hb); (try clear hb2); (try clear hk); (try clear hi))))
    (try simp only [Act.put, List.setIfInBounds_toArray, List.set_cons_zero, List.set_cons_succ])
    go_cut [10] (fun v10 wc => ∃ (kq : Nat) (x10_12 : Bool), v10 = .bool x10_12 ∧ Aside0 (fixed_Divide.j1 kq a1 a2 t107 t108 x10_12 = some (r1, r2, r3)) ∧ Aside0 (kq ≤ kj3) ∧ Aside0 (wc.heap[gb303]? = some (.cells #[.int .i64 a0_0, .int .u64 a0_1] 24 (0, 0))) ∧ Aside0 (wc.heap[gb306]? = some (.cells #[.int .i64 0, .int .u64 0] 24 (0, 0))) ∧ Aside0 (Below w.heap.size w wc))
    case first =>
     have H := HC13.out
     clear HC13
     by_cases c17 : a1 < 0
     ·
      rw [if_pos c17] at H
      have c17b0 : decide (a1 < 0) = true := decide_eq_true c17
      clear c17
      (first | rw [c17b0] | (simp only [i64_w, i32_w]; rw [c17b0]) | skip)
      have H' := Aside0.mk H
      clear H
      go_wp2
      repeat (go_quiet (fail); try go_wp2)
      go_meet
      case rel => exact ⟨_, (!t109), (by first | rfl | (simp; done) | (simp [*]; done)), H', ⟨by have := HJ3.out; first | omega | exact Nat.le_refl _⟩, ⟨bk_⟩, ⟨bk_⟩, ⟨bw_⟩⟩
     ·
      rw [if_neg c17] at H
      have c17b0 : decide (a1 < 0) = false := decide_eq_false c17
      clear c17
      (first | rw [c17b0] | (simp only [i64_w, i32_w]; rw [c17b0]) | skip)
      have H' := Aside0.mk H
      clear H
      go_wp2
      repeat (go_quiet (fail); try go_wp2)
      go_meet
      case rel => exact ⟨_, (t109), (by first | rfl | (simp; done) | (simp [*]; done)), H', ⟨by have := HJ3.out; first | omega | exact Nat.le_refl _⟩, ⟨bk_⟩, ⟨bk_⟩, ⟨bw_⟩⟩
    case rest =>
     clear HC13
     try clear c1
     try clear p2
     try clear c7
     try clear c7b0
     try clear c7b1
     try clear c8
     try clear c8b0
     try clear c9
     try clear c10
     try clear c14
     try clear c17
     try clear c17b0
     try clear hcz11_0
     try clear hcz11_1
     try clear hcz15_0
     try clear hcz15_1
     try clear hfz11_0
     try clear hfz11_1
     try clear hfz15_0
     try clear hfz15_1
     try clear p2
     obtain ⟨kq, x10_12, rfl, HA, HJ12, BK303, BK306, HB⟩ := hcut
     cases kq with
     | zero => exact absurd HA.out (by simp [fixed_Divide.j1])
     | succ kj12 =>
      have H := HA.out
      clear HA
      simp only [fixed_Divide.j1] at H
      replace H := Option.bind_eq_some_iff.mp H
      obtain ⟨t110, A180, H⟩ := H
      replace H : (if t110 = 0 then (none) else ((bits_Div64.f kj12 (Int.tmod t107 t110) t108 t110).bind fun bt111 => ((fixed_up.f a2 x10_12 ((Go.bits .and .u64 bt111.1 1) == 1) bt111.2 t110).bind fun t113 => (if t113 = true then ((fixed_signed.f kj12 (IntKind.u64.wrap ((IntKind.u64.wrap (Int.tdiv t107 t110)) + (addHi bt111.1 1 0))) (addLo bt111.1 1 0) x10_12).bind fun bt114 => (some (bt114.1, bt114.2.1, bt114.2.2))) else ((fixed_signed.f kj12 (IntKind.u64.wrap (Int.tdiv t107 t110)) bt111.1 x10_12).bind fun bt117 => (some (bt117.1, bt117.2.1, bt117.2.2))))))) = some (r1, r2, r3) := H
      have A18 := Aside0.mk A180
      clear A180
      by_cases c19 : t110 = 0
      ·
       rw [if_pos c19] at H
       exact absurd H (by simp)
      ·
       rw [if_neg c19] at H
       have c19b0 : (t110 == 0) = false := beq_eq_false_iff_ne.mpr c19
       have c19b1 : (t110 != 0) = true := bne_iff_ne.mpr c19
       replace H := Option.bind_eq_some_iff.mp H
       obtain ⟨⟨t111, t112⟩, A200, H⟩ := H
       replace H : ((fixed_up.f a2 x10_12 ((Go.bits .and .u64 t111 1) == 1) t112 t110).bind fun t113 => (if t113 = true then ((fixed_signed.f kj12 (IntKind.u64.wrap ((IntKind.u64.wrap (Int.tdiv t107 t110)) + (addHi t111 1 0))) (addLo t111 1 0) x10_12).bind fun bt114 => (some (bt114.1, bt114.2.1, bt114.2.2))) else ((fixed_signed.f kj12 (IntKind.u64.wrap (Int.tdiv t107 t110)) t111 x10_12).bind fun bt117 => (some (bt117.1, bt117.2.1, bt117.2.2))))) = some (r1, r2, r3) := H
       have A20 := Aside0.mk A200
       clear A200
       replace H := Option.bind_eq_some_iff.mp H
       obtain ⟨t113, A210, H⟩ := H
       replace H : (if t113 = true then ((fixed_signed.f kj12 (IntKind.u64.wrap ((IntKind.u64.wrap (Int.tdiv t107 t110)) + (addHi t111 1 0))) (addLo t111 1 0) x10_12).bind fun bt114 => (some (bt114.1, bt114.2.1, bt114.2.2))) else ((fixed_signed.f kj12 (IntKind.u64.wrap (Int.tdiv t107 t110)) t111 x10_12).bind fun bt117 => (some (bt117.1, bt117.2.1, bt117.2.2)))) = some (r1, r2, r3) := H
       have A21 := Aside0.mk A210
       clear A210
       by_cases c22 : t113 = true
       ·
        subst c22
        have H1 : ((fixed_signed.f kj12 (IntKind.u64.wrap ((IntKind.u64.wrap (Int.tdiv t107 t110)) + (addHi t111 1 0))) (addLo t111 1 0) x10_12).bind fun bt114 => (some (bt114.1, bt114.2.1, bt114.2.2))) = some (r1, r2, r3) := by rw [if_pos rfl] at H; exact H
        clear H
        have H := H1
        clear H1
        replace H := Option.bind_eq_some_iff.mp H
        obtain ⟨⟨t114, t115, t116⟩, A230, H⟩ := H
        replace H : (some (t114, t115, t116)) = some (r1, r2, r3) := H
        have A23 := Aside0.mk A230
        clear A230
        simp only [Option.some.injEq, Prod.mk.injEq] at H
        obtain ⟨rfl, rfl, rfl⟩ := H
        go_wp2_with (first | (go_at_call 35; (with_reducible refine (fixed_size.calls a1 t110 _ A18.out).mono ?_); rintro e w' ⟨rfl, ⟨nd, rfl⟩⟩; (try first | exact ⟨rfl, _, World.drewN_drewN _ _ _⟩ | exact ⟨rfl, _, Eq.trans (World.drewN_drewN _ _ _) (congrArg (World.drewN _) (Nat.add_assoc _ _ _))⟩)) | (go_at_call 36; (with_reducible refine (bits_Div64.calls kj12 (Int.tmod t107 t110) t108 t110 t111 t112 _ A20.out).mono ?_); rintro e w' ⟨rfl, ⟨nd, rfl⟩⟩; (try first | exact ⟨rfl, _, World.drewN_drewN _ _ _⟩ | exact ⟨rfl, _, Eq.trans (World.drewN_drewN _ _ _) (congrArg (World.drewN _) (Nat.add_assoc _ _ _))⟩)) | (go_at_call 37; (with_reducible refine (fixed_up.calls a2 x10_12 ((Go.bits .and .u64 t111 1) == 1) t112 t110 true _ A21.out).mono ?_); rintro e w' ⟨rfl, ⟨nd, rfl⟩⟩; (try first | exact ⟨rfl, _, World.drewN_drewN _ _ _⟩ | exact ⟨rfl, _, Eq.trans (World.drewN_drewN _ _ _) (congrArg (World.drewN _) (Nat.add_assoc _ _ _))⟩)) | (go_at_call 39; (with_reducible refine (fixed_signed.calls kj12 (IntKind.u64.wrap ((IntKind.u64.wrap (Int.tdiv t107 t110)) + (addHi t111 1 0))) (addLo t111 1 0) x10_12 t114 t115 t116 _ A23.out).mono ?_); rintro e w24 ⟨rfl, hb⟩; have n0_ := Aside0.mk (kb_ BK303 hb); have n1_ := Aside0.mk (kb_ BK306 hb); have n2_ := Aside0.mk (below_step bw_ hb); clear BK303; clear BK306; clear HB; have BK303 := n0_; have BK306 := n1_; have HB := n2_; clear n0_ n1_ n2_; (try clear hb); (try clear hb2); (try clear hk); (try clear hi); have hnb25 := NB306_303.out; have hnc25 := NB303_306.out; have hcz26_0 : w24.cell? ⟨gb306, 0, none⟩ = some (.int .i64 0) := (blk_cell BK306.out 0).trans rfl; have hcz26_1 : w24.cell? ⟨gb306, 1, none⟩ = some (.int .u64 0) := (blk_cell BK306.out 1).trans rfl; have hfz26_0 := blk_frozen BK306.out 0; have hfz26_1 := blk_frozen BK306.out 1))
        repeat (go_quiet (first | (go_at_call 35; (with_reducible refine (fixed_size.calls a1 t110 _ A18.out).mono ?_); rintro e w' ⟨rfl, ⟨nd, rfl⟩⟩; (try first | exact ⟨rfl, _, World.drewN_drewN _ _ _⟩ | exact ⟨rfl, _, Eq.trans (World.drewN_drewN _ _ _) (congrArg (World.drewN _) (Nat.add_assoc _ _ _))⟩)) | (go_at_call 36; (with_reducible refine (bits_Div64.calls kj12 (Int.tmod t107 t110) t108 t110 t111 t112 _ A20.out).mono ?_); rintro e w' ⟨rfl, ⟨nd, rfl⟩⟩; (try first | exact ⟨rfl, _, World.drewN_drewN _ _ _⟩ | exact ⟨rfl, _, Eq.trans (World.drewN_drewN _ _ _) (congrArg (World.drewN _) (Nat.add_assoc _ _ _))⟩)) | (go_at_call 37; (with_reducible refine (fixed_up.calls a2 x10_12 ((Go.bits .and .u64 t111 1) == 1) t112 t110 true _ A21.out).mono ?_); rintro e w' ⟨rfl, ⟨nd, rfl⟩⟩; (try first | exact ⟨rfl, _, World.drewN_drewN _ _ _⟩ | exact ⟨rfl, _, Eq.trans (World.drewN_drewN _ _ _) (congrArg (World.drewN _) (Nat.add_assoc _ _ _))⟩)) | (go_at_call 39; (with_reducible refine (fixed_signed.calls kj12 (IntKind.u64.wrap ((IntKind.u64.wrap (Int.tdiv t107 t110)) + (addHi t111 1 0))) (addLo t111 1 0) x10_12 t114 t115 t116 _ A23.out).mono ?_); rintro e w24 ⟨rfl, hb⟩; have n0_ := Aside0.mk (kb_ BK303 hb); have n1_ := Aside0.mk (kb_ BK306 hb); have n2_ := Aside0.mk (below_step bw_ hb); clear BK303; clear BK306; clear HB; have BK303 := n0_; have BK306 := n1_; have HB := n2_; clear n0_ n1_ n2_; (try clear hb); (try clear hb2); (try clear hk); (try clear hi); have hnb25 := NB306_303.out; have hnc25 := NB303_306.out; have hcz26_0 : w24.cell? ⟨gb306, 0, none⟩ = some (.int .i64 0) := (blk_cell BK306.out 0).trans rfl; have hcz26_1 : w24.cell? ⟨gb306, 1, none⟩ = some (.int .u64 0) := (blk_cell BK306.out 1).trans rfl; have hfz26_0 := blk_frozen BK306.out 0; have hfz26_1 := blk_frozen BK306.out 1)); try go_wp2_with (first | (go_at_call 35; (with_reducible refine (fixed_size.calls a1 t110 _ A18.out).mono ?_); rintro e w' ⟨rfl, ⟨nd, rfl⟩⟩; (try first | exact ⟨rfl, _, World.drewN_drewN _ _ _⟩ | exact ⟨rfl, _, Eq.trans (World.drewN_drewN _ _ _) (congrArg (World.drewN _) (Nat.add_assoc _ _ _))⟩)) | (go_at_call 36; (with_reducible refine (bits_Div64.calls kj12 (Int.tmod t107 t110) t108 t110 t111 t112 _ A20.out).mono ?_); rintro e w' ⟨rfl, ⟨nd, rfl⟩⟩; (try first | exact ⟨rfl, _, World.drewN_drewN _ _ _⟩ | exact ⟨rfl, _, Eq.trans (World.drewN_drewN _ _ _) (congrArg (World.drewN _) (Nat.add_assoc _ _ _))⟩)) | (go_at_call 37; (with_reducible refine (fixed_up.calls a2 x10_12 ((Go.bits .and .u64 t111 1) == 1) t112 t110 true _ A21.out).mono ?_); rintro e w' ⟨rfl, ⟨nd, rfl⟩⟩; (try first | exact ⟨rfl, _, World.drewN_drewN _ _ _⟩ | exact ⟨rfl, _, Eq.trans (World.drewN_drewN _ _ _) (congrArg (World.drewN _) (Nat.add_assoc _ _ _))⟩)) | (go_at_call 39; (with_reducible refine (fixed_signed.calls kj12 (IntKind.u64.wrap ((IntKind.u64.wrap (Int.tdiv t107 t110)) + (addHi t111 1 0))) (addLo t111 1 0) x10_12 t114 t115 t116 _ A23.out).mono ?_); rintro e w24 ⟨rfl, hb⟩; have n0_ := Aside0.mk (kb_ BK303 hb); have n1_ := Aside0.mk (kb_ BK306 hb); have n2_ := Aside0.mk (below_step bw_ hb); clear BK303; clear BK306; clear HB; have BK303 := n0_; have BK306 := n1_; have HB := n2_; clear n0_ n1_ n2_; (try clear hb); (try clear hb2); (try clear hk); (try clear hi); have hnb25 := NB306_303.out; have hnc25 := NB303_306.out; have hcz26_0 : w24.cell? ⟨gb306, 0, none⟩ = some (.int .i64 0) := (blk_cell BK306.out 0).trans rfl; have hcz26_1 : w24.cell? ⟨gb306, 1, none⟩ = some (.int .u64 0) := (blk_cell BK306.out 1).trans rfl; have hfz26_0 := blk_frozen BK306.out 0; have hfz26_1 := blk_frozen BK306.out 1)))
        refine bodyPost_ret (results_ct rfl _ _ gb306 24 #[.int .i64 t114, .int .u64 t115] (0, 0) _ rfl (by (with_reducible repeat (first | refine blk_drewN ?_ _ | refine blk_drew ?_ | refine blk_alloc ?_ _)); refine blk_put (cs := #[.int .i64 t114, .int .u64 0]) ?_ 1 _ rfl; (with_reducible repeat (first | refine blk_drewN ?_ _ | refine blk_drew ?_ | refine blk_alloc ?_ _)); refine blk_put (cs := #[.int .i64 0, .int .u64 0]) ?_ 0 _ rfl; (with_reducible repeat (first | refine blk_drewN ?_ _ | refine blk_drew ?_ | refine blk_alloc ?_ _)); exact BK306.out) Try.underlying24 rfl (by kernel_rfl)) rfl ?_
        exact ⟨by first | rfl | (simp [errW_none, errW_some] <;> rfl) | (simp [*, errW_none, errW_some] <;> rfl), bw_⟩
       ·
        replace c22 := Bool.eq_false_iff.mpr c22
        subst c22
        have H1 : ((fixed_signed.f kj12 (IntKind.u64.wrap (Int.tdiv t107 t110)) t111 x10_12).bind fun bt117 => (some (bt117.1, bt117.2.1, bt117.2.2))) = some (r1, r2, r3) := by rw [if_neg (show ¬ (false = true) by decide)] at H; exact H
        clear H
        have H := H1
        clear H1
        replace H := Option.bind_eq_some_iff.mp H
        obtain ⟨⟨t117, t118, t119⟩, A270, H⟩ := H
        replace H : (some (t117, t118, t119)) = some (r1, r2, r3) := H
        have A27 := Aside0.mk A270
        clear A270
        simp only [Option.some.injEq, Prod.mk.injEq] at H
        obtain ⟨rfl, rfl, rfl⟩ := H
        go_wp2_with (first | (go_at_call 35; (with_reducible refine (fixed_size.calls a1 t110 _ A18.out).mono ?_); rintro e w' ⟨rfl, ⟨nd, rfl⟩⟩; (try first | exact ⟨rfl, _, World.drewN_drewN _ _ _⟩ | exact ⟨rfl, _, Eq.trans (World.drewN_drewN _ _ _) (congrArg (World.drewN _) (Nat.add_assoc _ _ _))⟩)) | (go_at_call 36; (with_reducible refine (bits_Div64.calls kj12 (Int.tmod t107 t110) t108 t110 t111 t112 _ A20.out).mono ?_); rintro e w' ⟨rfl, ⟨nd, rfl⟩⟩; (try first | exact ⟨rfl, _, World.drewN_drewN _ _ _⟩ | exact ⟨rfl, _, Eq.trans (World.drewN_drewN _ _ _) (congrArg (World.drewN _) (Nat.add_assoc _ _ _))⟩)) | (go_at_call 37; (with_reducible refine (fixed_up.calls a2 x10_12 ((Go.bits .and .u64 t111 1) == 1) t112 t110 false _ A21.out).mono ?_); rintro e w' ⟨rfl, ⟨nd, rfl⟩⟩; (try first | exact ⟨rfl, _, World.drewN_drewN _ _ _⟩ | exact ⟨rfl, _, Eq.trans (World.drewN_drewN _ _ _) (congrArg (World.drewN _) (Nat.add_assoc _ _ _))⟩)) | (go_at_call 39; (with_reducible refine (fixed_signed.calls kj12 (IntKind.u64.wrap (Int.tdiv t107 t110)) t111 x10_12 t117 t118 t119 _ A27.out).mono ?_); rintro e w28 ⟨rfl, hb⟩; have n0_ := Aside0.mk (kb_ BK303 hb); have n1_ := Aside0.mk (kb_ BK306 hb); have n2_ := Aside0.mk (below_step bw_ hb); clear BK303; clear BK306; clear HB; have BK303 := n0_; have BK306 := n1_; have HB := n2_; clear n0_ n1_ n2_; (try clear hb); (try clear hb2); (try clear hk); (try clear hi); have hnb29 := NB306_303.out; have hnc29 := NB303_306.out; have hcz30_0 : w28.cell? ⟨gb306, 0, none⟩ = some (.int .i64 0) := (blk_cell BK306.out 0).trans rfl; have hcz30_1 : w28.cell? ⟨gb306, 1, none⟩ = some (.int .u64 0) := (blk_cell BK306.out 1).trans rfl; have hfz30_0 := blk_frozen BK306.out 0; have hfz30_1 := blk_frozen BK306.out 1))
        repeat (go_quiet (first | (go_at_call 35; (with_reducible refine (fixed_size.calls a1 t110 _ A18.out).mono ?_); rintro e w' ⟨rfl, ⟨nd, rfl⟩⟩; (try first | exact ⟨rfl, _, World.drewN_drewN _ _ _⟩ | exact ⟨rfl, _, Eq.trans (World.drewN_drewN _ _ _) (congrArg (World.drewN _) (Nat.add_assoc _ _ _))⟩)) | (go_at_call 36; (with_reducible refine (bits_Div64.calls kj12 (Int.tmod t107 t110) t108 t110 t111 t112 _ A20.out).mono ?_); rintro e w' ⟨rfl, ⟨nd, rfl⟩⟩; (try first | exact ⟨rfl, _, World.drewN_drewN _ _ _⟩ | exact ⟨rfl, _, Eq.trans (World.drewN_drewN _ _ _) (congrArg (World.drewN _) (Nat.add_assoc _ _ _))⟩)) | (go_at_call 37; (with_reducible refine (fixed_up.calls a2 x10_12 ((Go.bits .and .u64 t111 1) == 1) t112 t110 false _ A21.out).mono ?_); rintro e w' ⟨rfl, ⟨nd, rfl⟩⟩; (try first | exact ⟨rfl, _, World.drewN_drewN _ _ _⟩ | exact ⟨rfl, _, Eq.trans (World.drewN_drewN _ _ _) (congrArg (World.drewN _) (Nat.add_assoc _ _ _))⟩)) | (go_at_call 39; (with_reducible refine (fixed_signed.calls kj12 (IntKind.u64.wrap (Int.tdiv t107 t110)) t111 x10_12 t117 t118 t119 _ A27.out).mono ?_); rintro e w28 ⟨rfl, hb⟩; have n0_ := Aside0.mk (kb_ BK303 hb); have n1_ := Aside0.mk (kb_ BK306 hb); have n2_ := Aside0.mk (below_step bw_ hb); clear BK303; clear BK306; clear HB; have BK303 := n0_; have BK306 := n1_; have HB := n2_; clear n0_ n1_ n2_; (try clear hb); (try clear hb2); (try clear hk); (try clear hi); have hnb29 := NB306_303.out; have hnc29 := NB303_306.out; have hcz30_0 : w28.cell? ⟨gb306, 0, none⟩ = some (.int .i64 0) := (blk_cell BK306.out 0).trans rfl; have hcz30_1 : w28.cell? ⟨gb306, 1, none⟩ = some (.int .u64 0) := (blk_cell BK306.out 1).trans rfl; have hfz30_0 := blk_frozen BK306.out 0; have hfz30_1 := blk_frozen BK306.out 1)); try go_wp2_with (first | (go_at_call 35; (with_reducible refine (fixed_size.calls a1 t110 _ A18.out).mono ?_); rintro e w' ⟨rfl, ⟨nd, rfl⟩⟩; (try first | exact ⟨rfl, _, World.drewN_drewN _ _ _⟩ | exact ⟨rfl, _, Eq.trans (World.drewN_drewN _ _ _) (congrArg (World.drewN _) (Nat.add_assoc _ _ _))⟩)) | (go_at_call 36; (with_reducible refine (bits_Div64.calls kj12 (Int.tmod t107 t110) t108 t110 t111 t112 _ A20.out).mono ?_); rintro e w' ⟨rfl, ⟨nd, rfl⟩⟩; (try first | exact ⟨rfl, _, World.drewN_drewN _ _ _⟩ | exact ⟨rfl, _, Eq.trans (World.drewN_drewN _ _ _) (congrArg (World.drewN _) (Nat.add_assoc _ _ _))⟩)) | (go_at_call 37; (with_reducible refine (fixed_up.calls a2 x10_12 ((Go.bits .and .u64 t111 1) == 1) t112 t110 false _ A21.out).mono ?_); rintro e w' ⟨rfl, ⟨nd, rfl⟩⟩; (try first | exact ⟨rfl, _, World.drewN_drewN _ _ _⟩ | exact ⟨rfl, _, Eq.trans (World.drewN_drewN _ _ _) (congrArg (World.drewN _) (Nat.add_assoc _ _ _))⟩)) | (go_at_call 39; (with_reducible refine (fixed_signed.calls kj12 (IntKind.u64.wrap (Int.tdiv t107 t110)) t111 x10_12 t117 t118 t119 _ A27.out).mono ?_); rintro e w28 ⟨rfl, hb⟩; have n0_ := Aside0.mk (kb_ BK303 hb); have n1_ := Aside0.mk (kb_ BK306 hb); have n2_ := Aside0.mk (below_step bw_ hb); clear BK303; clear BK306; clear HB; have BK303 := n0_; have BK306 := n1_; have HB := n2_; clear n0_ n1_ n2_; (try clear hb); (try clear hb2); (try clear hk); (try clear hi); have hnb29 := NB306_303.out; have hnc29 := NB303_306.out; have hcz30_0 : w28.cell? ⟨gb306, 0, none⟩ = some (.int .i64 0) := (blk_cell BK306.out 0).trans rfl; have hcz30_1 : w28.cell? ⟨gb306, 1, none⟩ = some (.int .u64 0) := (blk_cell BK306.out 1).trans rfl; have hfz30_0 := blk_frozen BK306.out 0; have hfz30_1 := blk_frozen BK306.out 1)))
        refine bodyPost_ret (results_ct rfl _ _ gb306 24 #[.int .i64 t117, .int .u64 t118] (0, 0) _ rfl (by (with_reducible repeat (first | refine blk_drewN ?_ _ | refine blk_drew ?_ | refine blk_alloc ?_ _)); refine blk_put (cs := #[.int .i64 t117, .int .u64 0]) ?_ 1 _ rfl; (with_reducible repeat (first | refine blk_drewN ?_ _ | refine blk_drew ?_ | refine blk_alloc ?_ _)); refine blk_put (cs := #[.int .i64 0, .int .u64 0]) ?_ 0 _ rfl; (with_reducible repeat (first | refine blk_drewN ?_ _ | refine blk_drew ?_ | refine blk_alloc ?_ _)); exact BK306.out) Try.underlying24 rfl (by kernel_rfl)) rfl ?_
        exact ⟨by first | rfl | (simp [errW_none, errW_some] <;> rfl) | (simp [*, errW_none, errW_some] <;> rfl), bw_⟩
end Go.Proofs.Ytjbcigiffihjaaa.Fx
end
section
namespace Go.Proofs.Ytjbcigiffihjaaa.Fx
open Go.RowKit Go.Proofs.YtjbcigiffihjaaaW.PrintWords Go.Proofs.YtjbcigiffihjaaaW.PrintLast Go.Proofs.YtjbcigiffihjaaaW.PrintMore
attribute [local go_sem] max2_int min2_int max_two min_two max_three min_three max_four min_four   -- for this text's walks alone
set_option linter.unusedVariables false
set_option linter.unusedSimpArgs false
attribute [local go_sem] run_add64_any
def clevislaw01_known.f : Option Bool := some true
theorem clevislaw01_known.kd0 : fixed_Divide.f 100 (-1) 18446744073709551609 2 0 = some (-1, 18446744073709551612, 0) := by kernel_rfl
theorem clevislaw01_known.kd1 : fixed_Divide.f 100 (-1) 18446744073709551609 2 1 = some (-1, 18446744073709551613, 0) := by kernel_rfl
theorem clevislaw01_known.kd2 : fixed_Divide.f 100 (-1) 18446744073709551609 2 2 = some (-1, 18446744073709551613, 0) := by kernel_rfl
theorem clevislaw01_known.kd3 : fixed_Divide.f 100 (-1) 18446744073709551609 2 3 = some (-1, 18446744073709551612, 0) := by kernel_rfl
theorem clevislaw01_known.kp : fixed_Parse.f 100 ⟨#[45, 48]⟩ = some (0, 0, 3) := by kernel_rfl
theorem clevislaw01_known.kt : fixed_Text.f 100 (-1) 0 = some ⟨#[45, 49, 56, 52, 52, 54, 55, 52, 52, 48, 55, 51, 55, 48, 57, 53, 53, 49, 54, 49, 54]⟩ := by kernel_rfl
theorem clevislaw01_known.ko : fixed_Of.f (-7) = some (-1, 18446744073709551609) := by kernel_rfl
theorem clevislaw01_known.ki0 : fixed_Int.f (-1) 18446744073709551612 = some (-4, 0) := by kernel_rfl
theorem clevislaw01_known.ki1 : fixed_Int.f (-1) 18446744073709551613 = some (-3, 0) := by kernel_rfl
theorem clevislaw01_known.ki2 : fixed_Int.f (-1) 18446744073709551613 = some (-3, 0) := by kernel_rfl
theorem clevislaw01_known.ki3 : fixed_Int.f (-1) 18446744073709551612 = some (-4, 0) := by kernel_rfl
set_option maxHeartbeats 1000000 in
theorem clevislaw01_known.walk (w : World) : Calls Try.prog 9 #[] w fun e w' => e = .returned (.bool true) ∧ Below w.heap.size w w' := by
 go_enter Try.func9, Try.ntmps9
 go_wp2
 go_loopw [2] (fun v2 wr => ∃ (k : Nat), k ≤ 4 ∧ v2 = .int .i64 k ∧ Aside0 (wr.heap[w.heap.size]? = some (.cells #[.int .i64 (-4), .int .i64 (-3), .int .i64 (-3), .int .i64 (-4)] 69 (0, 0))) ∧ Aside0 (Below w.heap.size w wr)) (fun v2 _ => 4 - (intOf v2).toNat)
 case atStart => exact ⟨0, by omega, rfl, ⟨heap_alloc_new w _⟩, ⟨below_alloc (Below.refl _ _) _⟩⟩
 case round =>
  obtain ⟨k, hk, rfl, HX, HB⟩ := hrel
  have hcases : k = 0 ∨ k = 1 ∨ k = 2 ∨ k = 3 ∨ k = 4 := by omega
  clear hk
  rcases hcases with rfl | rfl | rfl | rfl | rfl
  ·
   -- round 0
   go_wp2_with fail
   refine (fixed_Of.calls _ _ _ _ clevislaw01_known.ko).mono ?_
   rintro e w1 ⟨rfl, hb1⟩
   have HB1 := Aside0.mk (below_weaken HB.out HB.out.size hb1)
   have HX1 := Aside0.mk ((hb1.block _ (blk_lt HX.out)).trans HX.out)
   clear hb1
   go_wp2_with fail
   refine (fixed_Divide.calls _ _ _ _ _ _ _ _ _ clevislaw01_known.kd0).mono ?_
   rintro e w2 ⟨rfl, hb2⟩
   have HB2 := Aside0.mk (below_weaken HB1.out HB1.out.size hb2)
   have HX2 := Aside0.mk ((hb2.block _ (blk_lt HX1.out)).trans HX1.out)
   clear hb2
   go_wp2_with fail
   refine (fixed_Int.calls _ _ _ _ _ clevislaw01_known.ki0).mono ?_
   rintro e w3 ⟨rfl, hb3⟩
   have HB3 := Aside0.mk (below_weaken (below_alloc HB2.out _) (by have := HB2.out.size; simp; omega) hb3)
   have HX3 := Aside0.mk ((hb3.block _ (by have := blk_lt HX2.out; simp; omega)).trans (blk_alloc HX2.out _))
   clear hb3
   have hc3 := (blk_cell HX3.out 0).trans (show _ = some (Value.int .i64 (-4)) from rfl)
   go_wp2
   go_roundw
   case rel => exact ⟨1, by omega, rfl, HX3, HB3⟩
   case measure => simp [intOf]
  ·
   -- round 1
   go_wp2_with fail
   refine (fixed_Of.calls _ _ _ _ clevislaw01_known.ko).mono ?_
   rintro e w1 ⟨rfl, hb1⟩
   have HB1 := Aside0.mk (below_weaken HB.out HB.out.size hb1)
   have HX1 := Aside0.mk ((hb1.block _ (blk_lt HX.out)).trans HX.out)
   clear hb1
   go_wp2_with fail
   refine (fixed_Divide.calls _ _ _ _ _ _ _ _ _ clevislaw01_known.kd1).mono ?_
   rintro e w2 ⟨rfl, hb2⟩
   have HB2 := Aside0.mk (below_weaken HB1.out HB1.out.size hb2)
   have HX2 := Aside0.mk ((hb2.block _ (blk_lt HX1.out)).trans HX1.out)
   clear hb2
   go_wp2_with fail
   refine (fixed_Int.calls _ _ _ _ _ clevislaw01_known.ki1).mono ?_
   rintro e w3 ⟨rfl, hb3⟩
   have HB3 := Aside0.mk (below_weaken (below_alloc HB2.out _) (by have := HB2.out.size; simp; omega) hb3)
   have HX3 := Aside0.mk ((hb3.block _ (by have := blk_lt HX2.out; simp; omega)).trans (blk_alloc HX2.out _))
   clear hb3
   have hc3 := (blk_cell HX3.out 1).trans (show _ = some (Value.int .i64 (-3)) from rfl)
   go_wp2
   go_roundw
   case rel => exact ⟨2, by omega, rfl, HX3, HB3⟩
   case measure => simp [intOf]
  ·
   -- round 2
   go_wp2_with fail
   refine (fixed_Of.calls _ _ _ _ clevislaw01_known.ko).mono ?_
   rintro e w1 ⟨rfl, hb1⟩
   have HB1 := Aside0.mk (below_weaken HB.out HB.out.size hb1)
   have HX1 := Aside0.mk ((hb1.block _ (blk_lt HX.out)).trans HX.out)
   clear hb1
   go_wp2_with fail
   refine (fixed_Divide.calls _ _ _ _ _ _ _ _ _ clevislaw01_known.kd2).mono ?_
   rintro e w2 ⟨rfl, hb2⟩
   have HB2 := Aside0.mk (below_weaken HB1.out HB1.out.size hb2)
   have HX2 := Aside0.mk ((hb2.block _ (blk_lt HX1.out)).trans HX1.out)
   clear hb2
   go_wp2_with fail
   refine (fixed_Int.calls _ _ _ _ _ clevislaw01_known.ki2).mono ?_
   rintro e w3 ⟨rfl, hb3⟩
   have HB3 := Aside0.mk (below_weaken (below_alloc HB2.out _) (by have := HB2.out.size; simp; omega) hb3)
   have HX3 := Aside0.mk ((hb3.block _ (by have := blk_lt HX2.out; simp; omega)).trans (blk_alloc HX2.out _))
   clear hb3
   have hc3 := (blk_cell HX3.out 2).trans (show _ = some (Value.int .i64 (-3)) from rfl)
   go_wp2
   go_roundw
   case rel => exact ⟨3, by omega, rfl, HX3, HB3⟩
   case measure => simp [intOf]
  ·
   -- round 3
   go_wp2_with fail
   refine (fixed_Of.calls _ _ _ _ clevislaw01_known.ko).mono ?_
   rintro e w1 ⟨rfl, hb1⟩
   have HB1 := Aside0.mk (below_weaken HB.out HB.out.size hb1)
   have HX1 := Aside0.mk ((hb1.block _ (blk_lt HX.out)).trans HX.out)
   clear hb1
   go_wp2_with fail
   refine (fixed_Divide.calls _ _ _ _ _ _ _ _ _ clevislaw01_known.kd3).mono ?_
   rintro e w2 ⟨rfl, hb2⟩
   have HB2 := Aside0.mk (below_weaken HB1.out HB1.out.size hb2)
   have HX2 := Aside0.mk ((hb2.block _ (blk_lt HX1.out)).trans HX1.out)
   clear hb2
   go_wp2_with fail
   refine (fixed_Int.calls _ _ _ _ _ clevislaw01_known.ki3).mono ?_
   rintro e w3 ⟨rfl, hb3⟩
   have HB3 := Aside0.mk (below_weaken (below_alloc HB2.out _) (by have := HB2.out.size; simp; omega) hb3)
   have HX3 := Aside0.mk ((hb3.block _ (by have := blk_lt HX2.out; simp; omega)).trans (blk_alloc HX2.out _))
   clear hb3
   have hc3 := (blk_cell HX3.out 3).trans (show _ = some (Value.int .i64 (-4)) from rfl)
   go_wp2
   go_roundw
   case rel => exact ⟨4, by omega, rfl, HX3, HB3⟩
   case measure => simp [intOf]
  ·
   go_wp2_with fail
   refine (fixed_Parse.calls _ _ _ _ _ _ clevislaw01_known.kp).mono ?_
   rintro e w1 ⟨rfl, hb1⟩
   have HB1 := Aside0.mk (below_weaken HB.out HB.out.size hb1)
   clear hb1
   go_wp2_with fail
   refine (fixed_Text.calls _ _ _ _ _ clevislaw01_known.kt).mono ?_
   rintro e w2 ⟨rfl, hb2⟩
   have HB2 := Aside0.mk (below_weaken (below_alloc HB1.out _) (by have := HB1.out.size; simp; omega) hb2)
   clear hb2
   go_wp2
   go_ret
   exact ⟨rfl, HB2.out⟩
theorem clevislaw01_known.calls (r : Bool) (w : World) (h : clevislaw01_known.f = some r) : Calls Try.prog 9 #[] w fun e w' => e = .returned (.bool r) ∧ Below w.heap.size w w' := by
 obtain rfl := Option.some.inj h
 exact clevislaw01_known.walk w
end Go.Proofs.Ytjbcigiffihjaaa.Fx
end
section
namespace Go.Proofs.Ytjbcigiffihjaaa.Fx
open Go.RowKit Go.Proofs.YtjbcigiffihjaaaW.PrintWords Go.Proofs.YtjbcigiffihjaaaW.PrintLast Go.Proofs.YtjbcigiffihjaaaW.PrintMore
attribute [local go_sem] max2_int min2_int max_two min_two max_three min_three max_four min_four   -- for this text's walks alone
set_option linter.unusedVariables false
set_option linter.unusedSimpArgs false
attribute [local go_sem] run_add64_any
attribute [local go_sem high] eqA24
def clevislaw01_FixedTexts.j0 : Nat → Int → Bool → Bool → Int → Int → Bool → List Int → Option (Bool)
 | 0, _, _, _, _, _, _, _ => none
 | k + 1, x11, x13, x62, x311000, x311001, x313000, x313001 => if x62 = true then (some false) else (if x13 = true then ((clevislaw01_wide.f k x311000 x311001 x11 x313000 x313001).bind fun t448 => (some t448)) else (if x11 = 3 then (some (x311000 == 0 && (x311001 == 0))) else (some false)))
def clevislaw01_FixedTexts.f (k : Nat) (a0_0 : Int) (a0_1 : Int) (a1 : ByteArray) : Option (Bool) := if 0 ≤ (mn (a1.size : Int) 200) then (if (mn (a1.size : Int) 200) ≤ (a1.size : Int) then ((fixed_Text.f k a0_0 a0_1).bind fun t425 => ((clevisref01_Digits.f k t425).bind fun bt426 => ((fixed_Parse.f k t425).bind fun bt431 => ((fixed_Parse.f k (a1.extract 0 ((mn (a1.size : Int) 200) : Int).toNat)).bind fun bt434 => ((clevisref01_Digits.f k (a1.extract 0 ((mn (a1.size : Int) 200) : Int).toNat)).bind fun bt437 => ((clevislaw01_known.f).bind fun t442 => (if t442 = true then (if bt426.2.2 = true then ((clevislaw01_Num.f k a0_0 a0_1).bind fun bt443 => ((clevisref01_Compare.f k bt426.1 bt426.2.1 bt443.1 bt443.2).bind fun t447 => (if t447 = 0 then (if bt431.2.2 = 0 then (clevislaw01_FixedTexts.j0 k bt434.2.2 bt437.2.2 (!(bt431.1 == a0_0) || (!(bt431.2.1 == a0_1))) bt434.1 bt434.2.1 bt437.1 bt437.2.1) else (clevislaw01_FixedTexts.j0 k bt434.2.2 bt437.2.2 true bt434.1 bt434.2.1 bt437.1 bt437.2.1)) else (clevislaw01_FixedTexts.j0 k bt434.2.2 bt437.2.2 true bt434.1 bt434.2.1 bt437.1 bt437.2.1)))) else (clevislaw01_FixedTexts.j0 k bt434.2.2 bt437.2.2 true bt434.1 bt434.2.1 bt437.1 bt437.2.1)) else (clevislaw01_FixedTexts.j0 k bt434.2.2 bt437.2.2 true bt434.1 bt434.2.1 bt437.1 bt437.2.1)))))))) else (none)) else (none)
def clevislaw01_FixedTexts.T7 : Bool × List (List Nat × List Nat) := (true, [([], []), ([0], [0]), ([1, 0], [1]), ([2], [2]), ([3, 2], [2, 3]), ([2, 4], [2, 4]), ([5, 2], [5]), ([6], [6]), ([6], [6]), ([8, 6, 6], [6, 8]), ([7, 9, 9, 6], [6, 7, 9]), ([10, 6], [6, 10]), ([6, 11], [6, 11]), ([12, 10], [12]), ([13], [13]), ([14, 13], [13, 14]), ([13, 15], [13, 15]), ([16, 13], [16]), ([17], [17]), ([17], [17]), ([18, 19, 17], [17, 18, 19]), ([17, 20], [17, 20])])
def clevislaw01_FixedTexts.B7 : List Nat := [0, 1, 3, 7, 15, 31, 63, 127, 127, 383, 1023, 2047, 4095, 8191, 16383, 32767, 65535, 131071, 262143, 262143, 1048575, 2097151]
theorem clevislaw01_FixedTexts.tab7 : rtab .any (opsOf Try.f4 7) = clevislaw01_FixedTexts.T7 := by kernel_rfl
theorem clevislaw01_FixedTexts.bits7 : waitsOk clevislaw01_FixedTexts.T7.2 clevislaw01_FixedTexts.B7 = true := by kernel_rfl
set_option maxHeartbeats 8000000 in
set_option maxRecDepth 100000 in
theorem clevislaw01_FixedTexts.calls (k : Nat) (a0_0 : Int) (a0_1 : Int) (a1 : ByteArray) (r : Bool) (w : World) (h : clevislaw01_FixedTexts.f k a0_0 a0_1 a1 = some r) :
  Calls Try.prog 4 #[.agg #[.int .i64 a0_0, .int .u64 a0_1], .string a1] w fun e w' => e = .returned (.bool r) ∧ Below w.heap.size w w' := by
 have hu24 := Try.underlying24
 have hu32 := Try.underlying32
 have HB := Aside0.mk (Below.refl w.heap.size w)
 have H : (if 0 ≤ (mn (a1.size : Int) 200) then (if (mn (a1.size : Int) 200) ≤ (a1.size : Int) then ((fixed_Text.f k a0_0 a0_1).bind fun t425 => ((clevisref01_Digits.f k t425).bind fun bt426 => ((fixed_Parse.f k t425).bind fun bt431 => ((fixed_Parse.f k (a1.extract 0 ((mn (a1.size : Int) 200) : Int).toNat)).bind fun bt434 => ((clevisref01_Digits.f k (a1.extract 0 ((mn (a1.size : Int) 200) : Int).toNat)).bind fun bt437 => ((clevislaw01_known.f).bind fun t442 => (if t442 = true then (if bt426.2.2 = true then ((clevislaw01_Num.f k a0_0 a0_1).bind fun bt443 => ((clevisref01_Compare.f k bt426.1 bt426.2.1 bt443.1 bt443.2).bind fun t447 => (if t447 = 0 then (if bt431.2.2 = 0 then (clevislaw01_FixedTexts.j0 k bt434.2.2 bt437.2.2 (!(bt431.1 == a0_0) || (!(bt431.2.1 == a0_1))) bt434.1 bt434.2.1 bt437.1 bt437.2.1) else (clevislaw01_FixedTexts.j0 k bt434.2.2 bt437.2.2 true bt434.1 bt434.2.1 bt437.1 bt437.2.1)) else (clevislaw01_FixedTexts.j0 k bt434.2.2 bt437.2.2 true bt434.1 bt434.2.1 bt437.1 bt437.2.1)))) else (clevislaw01_FixedTexts.j0 k bt434.2.2 bt437.2.2 true bt434.1 bt434.2.1 bt437.1 bt437.2.1)) else (clevislaw01_FixedTexts.j0 k bt434.2.2 bt437.2.2 true bt434.1 bt434.2.1 bt437.1 bt437.2.1)))))))) else (none)) else (none)) = some r := h
 clear h
 obtain ⟨ji3, hji3⟩ : ∃ j_ : Int, (mn (a1.size : Int) 200) = j_ := ⟨_, rfl⟩
 replace H : (if 0 ≤ (ji3) then (if (ji3) ≤ (a1.size : Int) then ((fixed_Text.f k a0_0 a0_1).bind fun t425 => ((clevisref01_Digits.f k t425).bind fun bt426 => ((fixed_Parse.f k t425).bind fun bt431 => ((fixed_Parse.f k (a1.extract 0 ((ji3) : Int).toNat)).bind fun bt434 => ((clevisref01_Digits.f k (a1.extract 0 ((ji3) : Int).toNat)).bind fun bt437 => ((clevislaw01_known.f).bind fun t442 => (if t442 = true then (if bt426.2.2 = true then ((clevislaw01_Num.f k a0_0 a0_1).bind fun bt443 => ((clevisref01_Compare.f k bt426.1 bt426.2.1 bt443.1 bt443.2).bind fun t447 => (if t447 = 0 then (if bt431.2.2 = 0 then (clevislaw01_FixedTexts.j0 k bt434.2.2 bt437.2.2 (!(bt431.1 == a0_0) || (!(bt431.2.1 == a0_1))) bt434.1 bt434.2.1 bt437.1 bt437.2.1) else (clevislaw01_FixedTexts.j0 k bt434.2.2 bt437.2.2 true bt434.1 bt434.2.1 bt437.1 bt437.2.1)) else (clevislaw01_FixedTexts.j0 k bt434.2.2 bt437.2.2 true bt434.1 bt434.2.1 bt437.1 bt437.2.1)))) else (clevislaw01_FixedTexts.j0 k bt434.2.2 bt437.2.2 true bt434.1 bt434.2.1 bt437.1 bt437.2.1)) else (clevislaw01_FixedTexts.j0 k bt434.2.2 bt437.2.2 true bt434.1 bt434.2.1 bt437.1 bt437.2.1)))))))) else (none)) else (none)) = some r := by first | (rw [hji3] at H; exact H) | (simp only [hji3] at H ⊢; exact H)
 (try (have hji3h : ji3 ≤ 200 := by (rw [← hji3]; unfold mn; (repeat' split) <;> omega)))
 (try (have hji3g : ji3 ≤ 64 := by omega))
 (try (have hji3l : 0 ≤ ji3 := by (rw [← hji3]; unfold mn; (repeat' split) <;> omega)))
 (try (have hji3m : 0 ≤ ji3 := by omega))
 have hji3_ : (if 200 < (a1.size : Int) then 200 else (a1.size : Int)) = ji3 := hji3
 by_cases c4 : 0 ≤ (ji3)
 ·
  rw [if_pos c4] at H
  have c4b0 := eq_true c4
  have c4b1 : decide (0 ≤ (ji3)) = true := decide_eq_true c4
  clear c4
  by_cases c5 : (ji3) ≤ (a1.size : Int)
  ·
   rw [if_pos c5] at H
   have c5b0 := eq_true c5
   have c5b1 : decide ((ji3) ≤ (a1.size : Int)) = true := decide_eq_true c5
   clear c5
   replace H := Option.bind_eq_some_iff.mp H
   obtain ⟨t425, A60, H⟩ := H
   replace H : ((clevisref01_Digits.f k t425).bind fun bt426 => ((fixed_Parse.f k t425).bind fun bt431 => ((fixed_Parse.f k (a1.extract 0 ((ji3) : Int).toNat)).bind fun bt434 => ((clevisref01_Digits.f k (a1.extract 0 ((ji3) : Int).toNat)).bind fun bt437 => ((clevislaw01_known.f).bind fun t442 => (if t442 = true then (if bt426.2.2 = true then ((clevislaw01_Num.f k a0_0 a0_1).bind fun bt443 => ((clevisref01_Compare.f k bt426.1 bt426.2.1 bt443.1 bt443.2).bind fun t447 => (if t447 = 0 then (if bt431.2.2 = 0 then (clevislaw01_FixedTexts.j0 k bt434.2.2 bt437.2.2 (!(bt431.1 == a0_0) || (!(bt431.2.1 == a0_1))) bt434.1 bt434.2.1 bt437.1 bt437.2.1) else (clevislaw01_FixedTexts.j0 k bt434.2.2 bt437.2.2 true bt434.1 bt434.2.1 bt437.1 bt437.2.1)) else (clevislaw01_FixedTexts.j0 k bt434.2.2 bt437.2.2 true bt434.1 bt434.2.1 bt437.1 bt437.2.1)))) else (clevislaw01_FixedTexts.j0 k bt434.2.2 bt437.2.2 true bt434.1 bt434.2.1 bt437.1 bt437.2.1)) else (clevislaw01_FixedTexts.j0 k bt434.2.2 bt437.2.2 true bt434.1 bt434.2.1 bt437.1 bt437.2.1))))))) = some r := H
   have A6 := Aside0.mk A60
   clear A60
   replace H := Option.bind_eq_some_iff.mp H
   obtain ⟨⟨t426, t427, t430⟩, A70, H⟩ := H
   replace H : ((fixed_Parse.f k t425).bind fun bt431 => ((fixed_Parse.f k (a1.extract 0 ((ji3) : Int).toNat)).bind fun bt434 => ((clevisref01_Digits.f k (a1.extract 0 ((ji3) : Int).toNat)).bind fun bt437 => ((clevislaw01_known.f).bind fun t442 => (if t442 = true then (if t430 = true then ((clevislaw01_Num.f k a0_0 a0_1).bind fun bt443 => ((clevisref01_Compare.f k t426 t427 bt443.1 bt443.2).bind fun t447 => (if t447 = 0 then (if bt431.2.2 = 0 then (clevislaw01_FixedTexts.j0 k bt434.2.2 bt437.2.2 (!(bt431.1 == a0_0) || (!(bt431.2.1 == a0_1))) bt434.1 bt434.2.1 bt437.1 bt437.2.1) else (clevislaw01_FixedTexts.j0 k bt434.2.2 bt437.2.2 true bt434.1 bt434.2.1 bt437.1 bt437.2.1)) else (clevislaw01_FixedTexts.j0 k bt434.2.2 bt437.2.2 true bt434.1 bt434.2.1 bt437.1 bt437.2.1)))) else (clevislaw01_FixedTexts.j0 k bt434.2.2 bt437.2.2 true bt434.1 bt434.2.1 bt437.1 bt437.2.1)) else (clevislaw01_FixedTexts.j0 k bt434.2.2 bt437.2.2 true bt434.1 bt434.2.1 bt437.1 bt437.2.1)))))) = some r := H
   have A7 := Aside0.mk A70
   clear A70
   replace H := Option.bind_eq_some_iff.mp H
   obtain ⟨⟨t431, t432, t433⟩, A80, H⟩ := H
   replace H : ((fixed_Parse.f k (a1.extract 0 ((ji3) : Int).toNat)).bind fun bt434 => ((clevisref01_Digits.f k (a1.extract 0 ((ji3) : Int).toNat)).bind fun bt437 => ((clevislaw01_known.f).bind fun t442 => (if t442 = true then (if t430 = true then ((clevislaw01_Num.f k a0_0 a0_1).bind fun bt443 => ((clevisref01_Compare.f k t426 t427 bt443.1 bt443.2).bind fun t447 => (if t447 = 0 then (if t433 = 0 then (clevislaw01_FixedTexts.j0 k bt434.2.2 bt437.2.2 (!(t431 == a0_0) || (!(t432 == a0_1))) bt434.1 bt434.2.1 bt437.1 bt437.2.1) else (clevislaw01_FixedTexts.j0 k bt434.2.2 bt437.2.2 true bt434.1 bt434.2.1 bt437.1 bt437.2.1)) else (clevislaw01_FixedTexts.j0 k bt434.2.2 bt437.2.2 true bt434.1 bt434.2.1 bt437.1 bt437.2.1)))) else (clevislaw01_FixedTexts.j0 k bt434.2.2 bt437.2.2 true bt434.1 bt434.2.1 bt437.1 bt437.2.1)) else (clevislaw01_FixedTexts.j0 k bt434.2.2 bt437.2.2 true bt434.1 bt434.2.1 bt437.1 bt437.2.1))))) = some r := H
   have A8 := Aside0.mk A80
   clear A80
   replace H := Option.bind_eq_some_iff.mp H
   obtain ⟨⟨t434, t435, t436⟩, A90, H⟩ := H
   replace H : ((clevisref01_Digits.f k (a1.extract 0 ((ji3) : Int).toNat)).bind fun bt437 => ((clevislaw01_known.f).bind fun t442 => (if t442 = true then (if t430 = true then ((clevislaw01_Num.f k a0_0 a0_1).bind fun bt443 => ((clevisref01_Compare.f k t426 t427 bt443.1 bt443.2).bind fun t447 => (if t447 = 0 then (if t433 = 0 then (clevislaw01_FixedTexts.j0 k t436 bt437.2.2 (!(t431 == a0_0) || (!(t432 == a0_1))) t434 t435 bt437.1 bt437.2.1) else (clevislaw01_FixedTexts.j0 k t436 bt437.2.2 true t434 t435 bt437.1 bt437.2.1)) else (clevislaw01_FixedTexts.j0 k t436 bt437.2.2 true t434 t435 bt437.1 bt437.2.1)))) else (clevislaw01_FixedTexts.j0 k t436 bt437.2.2 true t434 t435 bt437.1 bt437.2.1)) else (clevislaw01_FixedTexts.j0 k t436 bt437.2.2 true t434 t435 bt437.1 bt437.2.1)))) = some r := H
   have A9 := Aside0.mk A90
   clear A90
   replace H := Option.bind_eq_some_iff.mp H
   obtain ⟨⟨t437, t438, t441⟩, A100, H⟩ := H
   replace H : ((clevislaw01_known.f).bind fun t442 => (if t442 = true then (if t430 = true then ((clevislaw01_Num.f k a0_0 a0_1).bind fun bt443 => ((clevisref01_Compare.f k t426 t427 bt443.1 bt443.2).bind fun t447 => (if t447 = 0 then (if t433 = 0 then (clevislaw01_FixedTexts.j0 k t436 t441 (!(t431 == a0_0) || (!(t432 == a0_1))) t434 t435 t437 t438) else (clevislaw01_FixedTexts.j0 k t436 t441 true t434 t435 t437 t438)) else (clevislaw01_FixedTexts.j0 k t436 t441 true t434 t435 t437 t438)))) else (clevislaw01_FixedTexts.j0 k t436 t441 true t434 t435 t437 t438)) else (clevislaw01_FixedTexts.j0 k t436 t441 true t434 t435 t437 t438))) = some r := H
   have A10 := Aside0.mk A100
   clear A100
   have HC11 := Aside0.mk H
   clear H
   go_enter Try.func4, Try.ntmps4
   go_upto_region 7 with (first | ((with_reducible refine gate_dst (N := 2) rfl ?_); refine box_event ?hg (N := 2) ?hd (cs := #[.int .i64 a0_0, .int .u64 a0_1]) (t := 24) ?hr ?_; (case hd => rfl); (case hg => rfl); (case hr => first | (go_simp; done) | (go_simp; rfl)); intro gb302 hg w12 hbox hb; have n0_ := Aside0.mk (below_step bw_ hb); have n1_ := Aside0.mk (hbox); have n2_ := Aside0.mk ((by rw [hg]; exact (below_size bw_) : w.heap.size ≤ gb302)); have n3_ := Aside0.mk ((by rw [hg]; exact (below_size bw_) : w.heap.size ≤ gb302)); clear HB; have HB := n0_; have BK302 := n1_; have GW302 := n2_; have GE302 := n3_; clear n0_ n1_ n2_ n3_; clear hb hbox hg; have hcz13_0 : w12.cell? ⟨gb302, 0, none⟩ = some (.int .i64 a0_0) := (blk_cell BK302.out 0).trans rfl; have hcz13_1 : w12.cell? ⟨gb302, 1, none⟩ = some (.int .u64 a0_1) := (blk_cell BK302.out 1).trans rfl; have hfz13_0 := blk_frozen BK302.out 0; have hfz13_1 := blk_frozen BK302.out 1) | ((with_reducible refine gate_callee (f := 13) rfl ?_); refine goesL_ (some 20) rfl rfl Try.func13 (by kernel_rfl) rfl #[.agg #[.int .i64 a0_0, .int .u64 a0_1]] rfl (by (try simp only [List.map_toArray, List.map_cons, List.map_nil]); first | done | rfl | (simp only [List.length_drop, List.length_take]; rfl)) ?_; (with_reducible refine (fixed_Text.calls k a0_0 a0_1 t425 _ A6.out).mono ?_); rintro e w14 ⟨rfl, hb⟩; refine ⟨_, rfl, ?_⟩; have n0_ := Aside0.mk (kb_ BK302 hb); have n1_ := Aside0.mk (below_step bw_ hb); clear BK302; clear HB; have BK302 := n0_; have HB := n1_; clear n0_ n1_; (try clear hb); (try clear hb2); (try clear hk); (try clear hi)) | ((with_reducible refine gate_callee (f := 14) rfl ?_); refine goesL_ (some 23) rfl rfl Try.func14 (by kernel_rfl) rfl #[.string t425] rfl (by (try simp only [List.map_toArray, List.map_cons, List.map_nil]); first | done | rfl | (simp only [List.length_drop, List.length_take]; rfl)) ?_; (with_reducible refine (clevisref01_Digits.calls k t425 t426 t427 t430 _ A7.out).mono ?_); rintro e w15 ⟨v428, rfl, ho0, hb⟩; refine ⟨_, rfl, ?_⟩; have n0_ := Aside0.mk (Kd.V_lower (Kd.V_mono (ok' := fun k_ => k_ ≠ gb302) ho0 (fun k_ hk_ => (Kd.freshB (g := gb302) (o := .cells #[.int .i64 a0_0, .int .u64 a0_1] 24 (0, 0)) bk_ k_ hk_))) (below_size bw_)); have n1_ := Aside0.mk (kb_ BK302 hb); have n2_ := Aside0.mk (below_step bw_ hb); clear BK302; clear HB; have HO429 := n0_; have BK302 := n1_; have HB := n2_; clear n0_ n1_ n2_; (try clear hb); (try clear hb2); (try clear hk); (try clear hi); (try clear ho0)) | ((with_reducible refine gate_dst (N := 6) rfl ?_); refine box_event ?hg (N := 6) ?hd (cs := #[.bool false, .slice none 0 0]) (t := 32) ?hr ?_; (case hd => rfl); (case hg => rfl); (case hr => first | (go_simp; done) | (go_simp; rfl)); intro gb306 hg w16 hbox hb; have n0_ := Aside0.mk (Kd.V_below (Kd.V_elderB (by (with_reducible repeat (first | apply Kd.V_alloc | apply Kd.V_drewN | apply Kd.V_drew)); exact HO429.out) gb306 (Nat.le_of_eq hg.symm)) hb); have n1_ := Aside0.mk (kb_ BK302 hb); have n2_ := Aside0.mk (below_step bw_ hb); have n3_ := Aside0.mk (hbox); have n4_ := Aside0.mk ((by rw [hg]; exact (below_size bw_) : w.heap.size ≤ gb306)); have n5_ := Aside0.mk ((by rw [hg]; exact (below_size bw_) : w.heap.size ≤ gb306)); have n6_ := Aside0.mk ((by rw [hg]; exact Nat.ne_of_lt (lt_ BK302) : gb302 ≠ gb306)); have n7_ := Aside0.mk ((by rw [hg]; exact Nat.ne_of_gt (lt_ BK302) : gb306 ≠ gb302)); clear HO429; clear BK302; clear HB; have HO429 := n0_; have BK302 := n1_; have HB := n2_; have BK306 := n3_; have GW306 := n4_; have GE306 := n5_; have NB302_306 := n6_; have NB306_302 := n7_; clear n0_ n1_ n2_ n3_ n4_ n5_ n6_ n7_; clear hb hbox hg; have hnb17 := NB306_302.out; have hnc17 := NB302_306.out; have hcz18_0 : w16.cell? ⟨gb306, 0, none⟩ = some (.bool false) := (blk_cell BK306.out 0).trans rfl; have hcz18_1 : w16.cell? ⟨gb306, 1, none⟩ = some (.slice none 0 0) := (blk_cell BK306.out 1).trans rfl; have hfz18_0 := blk_frozen BK306.out 0; have hfz18_1 := blk_frozen BK306.out 1; obtain ⟨Ao19, co19, eo19⟩ := Kd.V_slice HO429.out; subst eo19) | ((with_reducible refine gate_callee (f := 15) rfl ?_); refine goesL_ (some 28) rfl rfl Try.func15 (by kernel_rfl) rfl #[.string t425] rfl (by (try simp only [List.map_toArray, List.map_cons, List.map_nil]); first | done | rfl | (simp only [List.length_drop, List.length_take]; rfl)) ?_; (with_reducible refine (fixed_Parse.calls k t425 t431 t432 t433 _ A8.out).mono ?_); rintro e w20 ⟨rfl, hb⟩; refine ⟨_, rfl, ?_⟩; have n0_ := Aside0.mk (Kd.V_below (by (with_reducible repeat (first | apply Kd.V_alloc | apply Kd.V_drewN | apply Kd.V_drew)); exact (Kd.V_mono (Kd.V_far (p := ⟨gb306, 1, none⟩) (Kd.V_far (p := ⟨gb306, 0, none⟩) (Kd.V_mono HO429.out (fun k_ hk => (⟨hk, hk.2⟩ : _ ∧ k_ ≠ gb306))) (fun _ hk => hk.2) (.bool t426)) (fun _ hk => hk.2) (.slice Ao19 t427.length co19)) (fun _ h_ => h_.1))) hb); have n1_ := Aside0.mk (kb_ BK302 hb); have n2_ := Aside0.mk (blk_below (g := gb306) (o := .cells #[.bool t426, .slice Ao19 t427.length co19] 32 (0, 0)) (by (with_reducible repeat (first | refine blk_drewN ?_ _ | refine blk_drew ?_ | refine blk_alloc ?_ _)); refine blk_put (cs := #[.bool t426, .slice none 0 0]) ?_ 1 _ rfl; (with_reducible repeat (first | refine blk_drewN ?_ _ | refine blk_drew ?_ | refine blk_alloc ?_ _)); refine blk_put (cs := #[.bool false, .slice none 0 0]) ?_ 0 _ rfl; (with_reducible repeat (first | refine blk_drewN ?_ _ | refine blk_drew ?_ | refine blk_alloc ?_ _)); exact BK306.out) hb); have n3_ := Aside0.mk (below_step bw_ hb); clear HO429; clear BK302; clear BK306; clear HB; have HO429 := n0_; have BK302 := n1_; have BK306 := n2_; have HB := n3_; clear n0_ n1_ n2_ n3_; (try clear hb); (try clear hb2); (try clear hk); (try clear hi)) | ((with_reducible refine gate_dst (N := 8) rfl ?_); refine box_event ?hg (N := 8) ?hd (cs := #[.int .i64 0, .int .u64 0]) (t := 24) ?hr ?_; (case hd => rfl); (case hg => rfl); (case hr => first | (go_simp; done) | (go_simp; rfl)); intro gb308 hg w21 hbox hb; have n0_ := Aside0.mk (Kd.V_below (Kd.V_elderB (by (with_reducible repeat (first | apply Kd.V_alloc | apply Kd.V_drewN | apply Kd.V_drew)); exact HO429.out) gb308 (Nat.le_of_eq hg.symm)) hb); have n1_ := Aside0.mk (kb_ BK302 hb); have n2_ := Aside0.mk (kb_ BK306 hb); have n3_ := Aside0.mk (below_step bw_ hb); have n4_ := Aside0.mk (hbox); have n5_ := Aside0.mk ((by rw [hg]; exact (below_size bw_) : w.heap.size ≤ gb308)); have n6_ := Aside0.mk ((by rw [hg]; exact (below_size bw_) : w.heap.size ≤ gb308)); have n7_ := Aside0.mk ((by rw [hg]; exact Nat.ne_of_lt (lt_ BK302) : gb302 ≠ gb308)); have n8_ := Aside0.mk ((by rw [hg]; exact Nat.ne_of_gt (lt_ BK302) : gb308 ≠ gb302)); have n9_ := Aside0.mk ((by rw [hg]; exact Nat.ne_of_lt (lt_ BK306) : gb306 ≠ gb308)); have n10_ := Aside0.mk ((by rw [hg]; exact Nat.ne_of_gt (lt_ BK306) : gb308 ≠ gb306)); clear HO429; clear BK302; clear BK306; clear HB; have HO429 := n0_; have BK302 := n1_; have BK306 := n2_; have HB := n3_; have BK308 := n4_; have GW308 := n5_; have GE308 := n6_; have NB302_308 := n7_; have NB308_302 := n8_; have NB306_308 := n9_; have NB308_306 := n10_; clear n0_ n1_ n2_ n3_ n4_ n5_ n6_ n7_ n8_ n9_ n10_; clear hb hbox hg; have hnb22 := NB308_302.out; have hnc22 := NB302_308.out; have hnb23 := NB308_306.out; have hnc23 := NB306_308.out; have hcz24_0 : w21.cell? ⟨gb308, 0, none⟩ = some (.int .i64 0) := (blk_cell BK308.out 0).trans rfl; have hcz24_1 : w21.cell? ⟨gb308, 1, none⟩ = some (.int .u64 0) := (blk_cell BK308.out 1).trans rfl; have hfz24_0 := blk_frozen BK308.out 0; have hfz24_1 := blk_frozen BK308.out 1) | ((with_reducible refine gate_callee (f := 15) rfl ?_); refine goesL_ (some 33) rfl rfl Try.func15 (by kernel_rfl) rfl #[.string (a1.extract 0 ((ji3) : Int).toNat)] rfl (by (try simp only [List.map_toArray, List.map_cons, List.map_nil]); first | done | (simp only [hji3]; rfl) | rfl | (simp only [List.length_drop, List.length_take]; rfl)) ?_; (with_reducible refine (fixed_Parse.calls k (a1.extract 0 ((ji3) : Int).toNat) t434 t435 t436 _ A9.out).mono ?_); rintro e w25 ⟨rfl, hb⟩; refine ⟨_, rfl, ?_⟩; have n0_ := Aside0.mk (Kd.V_below (by (with_reducible repeat (first | apply Kd.V_alloc | apply Kd.V_drewN | apply Kd.V_drew)); exact (Kd.V_mono (Kd.V_far (p := ⟨gb308, 1, none⟩) (Kd.V_far (p := ⟨gb308, 0, none⟩) (Kd.V_mono HO429.out (fun k_ hk => (⟨hk, hk.2⟩ : _ ∧ k_ ≠ gb308))) (fun _ hk => hk.2) (.int .i64 t431)) (fun _ hk => hk.2) (.int .u64 t432)) (fun _ h_ => h_.1))) hb); have n1_ := Aside0.mk (kb_ BK302 hb); have n2_ := Aside0.mk (kb_ BK306 hb); have n3_ := Aside0.mk (blk_below (g := gb308) (o := .cells #[.int .i64 t431, .int .u64 t432] 24 (0, 0)) (by (with_reducible repeat (first | refine blk_drewN ?_ _ | refine blk_drew ?_ | refine blk_alloc ?_ _)); refine blk_put (cs := #[.int .i64 t431, .int .u64 0]) ?_ 1 _ rfl; (with_reducible repeat (first | refine blk_drewN ?_ _ | refine blk_drew ?_ | refine blk_alloc ?_ _)); refine blk_put (cs := #[.int .i64 0, .int .u64 0]) ?_ 0 _ rfl; (with_reducible repeat (first | refine blk_drewN ?_ _ | refine blk_drew ?_ | refine blk_alloc ?_ _)); exact BK308.out) hb); have n4_ := Aside0.mk (below_step bw_ hb); clear HO429; clear BK302; clear BK306; clear BK308; clear HB; have HO429 := n0_; have BK302 := n1_; have BK306 := n2_; have BK308 := n3_; have HB := n4_; clear n0_ n1_ n2_ n3_ n4_; (try clear hb); (try clear hb2); (try clear hk); (try clear hi)) | ((with_reducible refine gate_dst (N := 10) rfl ?_); refine box_event ?hg (N := 10) ?hd (cs := #[.int .i64 0, .int .u64 0]) (t := 24) ?hr ?_; (case hd => rfl); (case hg => rfl); (case hr => first | (go_simp; done) | (go_simp; rfl)); intro gb310 hg w26 hbox hb; have n0_ := Aside0.mk (Kd.V_below (Kd.V_elderB (by (with_reducible repeat (first | apply Kd.V_alloc | apply Kd.V_drewN | apply Kd.V_drew)); exact HO429.out) gb310 (Nat.le_of_eq hg.symm)) hb); have n1_ := Aside0.mk (kb_ BK302 hb); have n2_ := Aside0.mk (kb_ BK306 hb); have n3_ := Aside0.mk (kb_ BK308 hb); have n4_ := Aside0.mk (below_step bw_ hb); have n5_ := Aside0.mk (hbox); have n6_ := Aside0.mk ((by rw [hg]; exact (below_size bw_) : w.heap.size ≤ gb310)); have n7_ := Aside0.mk ((by rw [hg]; exact (below_size bw_) : w.heap.size ≤ gb310)); have n8_ := Aside0.mk ((by rw [hg]; exact Nat.ne_of_lt (lt_ BK302) : gb302 ≠ gb310)); have n9_ := Aside0.mk ((by rw [hg]; exact Nat.ne_of_gt (lt_ BK302) : gb310 ≠ gb302)); have n10_ := Aside0.mk ((by rw [hg]; exact Nat.ne_of_lt (lt_ BK306) : gb306 ≠ gb310)); have n11_ := Aside0.mk ((by rw [hg]; exact Nat.ne_of_gt (lt_ BK306) : gb310 ≠ gb306)); have n12_ := Aside0.mk ((by rw [hg]; exact Nat.ne_of_lt (lt_ BK308) : gb308 ≠ gb310)); have n13_ := Aside0.mk ((by rw [hg]; exact Nat.ne_of_gt (lt_ BK308) : gb310 ≠ gb308)); clear HO429; clear BK302; clear BK306; clear BK308; clear HB; have HO429 := n0_; have BK302 := n1_; have BK306 := n2_; have BK308 := n3_; have HB := n4_; have BK310 := n5_; have GW310 := n6_; have GE310 := n7_; have NB302_310 := n8_; have NB310_302 := n9_; have NB306_310 := n10_; have NB310_306 := n11_; have NB308_310 := n12_; have NB310_308 := n13_; clear n0_ n1_ n2_ n3_ n4_ n5_ n6_ n7_ n8_ n9_ n10_ n11_ n12_ n13_; clear hb hbox hg; have hnb27 := NB310_302.out; have hnc27 := NB302_310.out; have hnb28 := NB310_306.out; have hnc28 := NB306_310.out; have hnb29 := NB310_308.out; have hnc29 := NB308_310.out; have hcz30_0 : w26.cell? ⟨gb310, 0, none⟩ = some (.int .i64 0) := (blk_cell BK310.out 0).trans rfl; have hcz30_1 : w26.cell? ⟨gb310, 1, none⟩ = some (.int .u64 0) := (blk_cell BK310.out 1).trans rfl; have hfz30_0 := blk_frozen BK310.out 0; have hfz30_1 := blk_frozen BK310.out 1) | ((with_reducible refine gate_callee (f := 14) rfl ?_); refine goesL_ (some 38) rfl rfl Try.func14 (by kernel_rfl) rfl #[.string (a1.extract 0 ((ji3) : Int).toNat)] rfl (by (try simp only [List.map_toArray, List.map_cons, List.map_nil]); first | done | (simp only [hji3]; rfl) | rfl | (simp only [List.length_drop, List.length_take]; rfl)) ?_; (with_reducible refine (clevisref01_Digits.calls k (a1.extract 0 ((ji3) : Int).toNat) t437 t438 t441 _ A10.out).mono ?_); rintro e w31 ⟨v439, rfl, ho0, hb⟩; refine ⟨_, rfl, ?_⟩; have n0_ := Aside0.mk (Kd.V_below (by (with_reducible repeat (first | apply Kd.V_alloc | apply Kd.V_drewN | apply Kd.V_drew)); exact (Kd.V_mono (Kd.V_far (p := ⟨gb310, 1, none⟩) (Kd.V_far (p := ⟨gb310, 0, none⟩) (Kd.V_mono HO429.out (fun k_ hk => (⟨hk, hk.2⟩ : _ ∧ k_ ≠ gb310))) (fun _ hk => hk.2) (.int .i64 t434)) (fun _ hk => hk.2) (.int .u64 t435)) (fun _ h_ => h_.1))) hb); have n1_ := Aside0.mk (Kd.V_lower (Kd.V_mono (ok' := fun k_ => k_ ≠ gb302 ∧ k_ ≠ gb306 ∧ k_ ≠ gb308 ∧ k_ ≠ gb310) ho0 (fun k_ hk_ => ⟨(Kd.freshB (g := gb302) (o := .cells #[.int .i64 a0_0, .int .u64 a0_1] 24 (0, 0)) bk_ k_ hk_), (Kd.freshB (g := gb306) (o := .cells #[.bool t426, .slice Ao19 t427.length co19] 32 (0, 0)) bk_ k_ hk_), (Kd.freshB (g := gb308) (o := .cells #[.int .i64 t431, .int .u64 t432] 24 (0, 0)) bk_ k_ hk_), (Kd.freshB (g := gb310) (o := .cells #[.int .i64 t434, .int .u64 t435] 24 (0, 0)) (by (with_reducible repeat (first | refine blk_drewN ?_ _ | refine blk_drew ?_ | refine blk_alloc ?_ _)); refine blk_put (cs := #[.int .i64 t434, .int .u64 0]) ?_ 1 _ rfl; (with_reducible repeat (first | refine blk_drewN ?_ _ | refine blk_drew ?_ | refine blk_alloc ?_ _)); refine blk_put (cs := #[.int .i64 0, .int .u64 0]) ?_ 0 _ rfl; (with_reducible repeat (first | refine blk_drewN ?_ _ | refine blk_drew ?_ | refine blk_alloc ?_ _)); exact BK310.out) k_ hk_)⟩)) (below_size bw_)); have n2_ := Aside0.mk (kb_ BK302 hb); have n3_ := Aside0.mk (kb_ BK306 hb); have n4_ := Aside0.mk (kb_ BK308 hb); have n5_ := Aside0.mk (blk_below (g := gb310) (o := .cells #[.int .i64 t434, .int .u64 t435] 24 (0, 0)) (by (with_reducible repeat (first | refine blk_drewN ?_ _ | refine blk_drew ?_ | refine blk_alloc ?_ _)); refine blk_put (cs := #[.int .i64 t434, .int .u64 0]) ?_ 1 _ rfl; (with_reducible repeat (first | refine blk_drewN ?_ _ | refine blk_drew ?_ | refine blk_alloc ?_ _)); refine blk_put (cs := #[.int .i64 0, .int .u64 0]) ?_ 0 _ rfl; (with_reducible repeat (first | refine blk_drewN ?_ _ | refine blk_drew ?_ | refine blk_alloc ?_ _)); exact BK310.out) hb); have n6_ := Aside0.mk (below_step bw_ hb); clear HO429; clear BK302; clear BK306; clear BK308; clear BK310; clear HB; have HO429 := n0_; have HO440 := n1_; have BK302 := n2_; have BK306 := n3_; have BK308 := n4_; have BK310 := n5_; have HB := n6_; clear n0_ n1_ n2_ n3_ n4_ n5_ n6_; (try clear hb); (try clear hb2); (try clear hk); (try clear hi); (try clear ho0)) | ((with_reducible refine gate_dst (N := 12) rfl ?_); refine box_event ?hg (N := 12) ?hd (cs := #[.bool false, .slice none 0 0]) (t := 32) ?hr ?_; (case hd => rfl); (case hg => rfl); (case hr => first | (go_simp; done) | (go_simp; rfl)); intro gb312 hg w32 hbox hb; have n0_ := Aside0.mk (Kd.V_below (Kd.V_elderB (by (with_reducible repeat (first | apply Kd.V_alloc | apply Kd.V_drewN | apply Kd.V_drew)); exact HO429.out) gb312 (Nat.le_of_eq hg.symm)) hb); have n1_ := Aside0.mk (Kd.V_below (Kd.V_elderB (by (with_reducible repeat (first | apply Kd.V_alloc | apply Kd.V_drewN | apply Kd.V_drew)); exact HO440.out) gb312 (Nat.le_of_eq hg.symm)) hb); have n2_ := Aside0.mk (kb_ BK302 hb); have n3_ := Aside0.mk (kb_ BK306 hb); have n4_ := Aside0.mk (kb_ BK308 hb); have n5_ := Aside0.mk (kb_ BK310 hb); have n6_ := Aside0.mk (below_step bw_ hb); have n7_ := Aside0.mk (hbox); have n8_ := Aside0.mk ((by rw [hg]; exact (below_size bw_) : w.heap.size ≤ gb312)); have n9_ := Aside0.mk ((by rw [hg]; exact (below_size bw_) : w.heap.size ≤ gb312)); have n10_ := Aside0.mk ((by rw [hg]; exact Nat.ne_of_lt (lt_ BK302) : gb302 ≠ gb312)); have n11_ := Aside0.mk ((by rw [hg]; exact Nat.ne_of_gt (lt_ BK302) : gb312 ≠ gb302)); have n12_ := Aside0.mk ((by rw [hg]; exact Nat.ne_of_lt (lt_ BK306) : gb306 ≠ gb312)); have n13_ := Aside0.mk ((by rw [hg]; exact Nat.ne_of_gt (lt_ BK306) : gb312 ≠ gb306)); have n14_ := Aside0.mk ((by rw [hg]; exact Nat.ne_of_lt (lt_ BK308) : gb308 ≠ gb312)); have n15_ := Aside0.mk ((by rw [hg]; exact Nat.ne_of_gt (lt_ BK308) : gb312 ≠ gb308)); have n16_ := Aside0.mk ((by rw [hg]; exact Nat.ne_of_lt (lt_ BK310) : gb310 ≠ gb312)); have n17_ := Aside0.mk ((by rw [hg]; exact Nat.ne_of_gt (lt_ BK310) : gb312 ≠ gb310)); clear HO429; clear HO440; clear BK302; clear BK306; clear BK308; clear BK310; clear HB; have HO429 := n0_; have HO440 := n1_; have BK302 := n2_; have BK306 := n3_; have BK308 := n4_; have BK310 := n5_; have HB := n6_; have BK312 := n7_; have GW312 := n8_; have GE312 := n9_; have NB302_312 := n10_; have NB312_302 := n11_; have NB306_312 := n12_; have NB312_306 := n13_; have NB308_312 := n14_; have NB312_308 := n15_; have NB310_312 := n16_; have NB312_310 := n17_; clear n0_ n1_ n2_ n3_ n4_ n5_ n6_ n7_ n8_ n9_ n10_ n11_ n12_ n13_ n14_ n15_ n16_ n17_; clear hb hbox hg; have hnb33 := NB312_302.out; have hnc33 := NB302_312.out; have hnb34 := NB312_306.out; have hnc34 := NB306_312.out; have hnb35 := NB312_308.out; have hnc35 := NB308_312.out; have hnb36 := NB312_310.out; have hnc36 := NB310_312.out; have hcz37_0 : w32.cell? ⟨gb312, 0, none⟩ = some (.bool false) := (blk_cell BK312.out 0).trans rfl; have hcz37_1 : w32.cell? ⟨gb312, 1, none⟩ = some (.slice none 0 0) := (blk_cell BK312.out 1).trans rfl; have hfz37_0 := blk_frozen BK312.out 0; have hfz37_1 := blk_frozen BK312.out 1; obtain ⟨Ao38, co38, eo38⟩ := Kd.V_slice HO440.out; subst eo38))
   (try simp only [Act.put, List.setIfInBounds_toArray, List.set_cons_zero, List.set_cons_succ])
   go_cut [62] (fun v62 wc => ∃ (kq : Nat) (x62_10 : Bool), v62 = .bool x62_10 ∧ Aside0 (clevislaw01_FixedTexts.j0 kq t436 t441 x62_10 t434 t435 t437 t438 = some r) ∧ Aside0 (kq ≤ k) ∧ Aside0 (Kd.V (Kd.int .i64) 3 wc w.heap.size (fun k_ => k_ ≠ gb302 ∧ k_ ≠ gb306 ∧ k_ ≠ gb308 ∧ k_ ≠ gb310 ∧ k_ ≠ gb312) (.slice Ao19 t427.length co19) t427) ∧ Aside0 (Kd.V (Kd.int .i64) 3 wc w.heap.size (fun k_ => k_ ≠ gb302 ∧ k_ ≠ gb306 ∧ k_ ≠ gb308 ∧ k_ ≠ gb310 ∧ k_ ≠ gb312) (.slice Ao38 t438.length co38) t438) ∧ Aside0 (wc.heap[gb302]? = some (.cells #[.int .i64 a0_0, .int .u64 a0_1] 24 (0, 0))) ∧ Aside0 (wc.heap[gb306]? = some (.cells #[.bool t426, (.slice Ao19 t427.length co19)] 32 (0, 0))) ∧ Aside0 (wc.heap[gb308]? = some (.cells #[.int .i64 t431, .int .u64 t432] 24 (0, 0))) ∧ Aside0 (wc.heap[gb310]? = some (.cells #[.int .i64 t434, .int .u64 t435] 24 (0, 0))) ∧ Aside0 (wc.heap[gb312]? = some (.cells #[.bool t437, (.slice Ao38 t438.length co38)] 32 (0, 0))) ∧ Aside0 (Below w.heap.size w wc))
   case first =>
    have H := HC11.out
    clear HC11
    replace H := Option.bind_eq_some_iff.mp H
    obtain ⟨t442, A390, H⟩ := H
    replace H : (if t442 = true then (if t430 = true then ((clevislaw01_Num.f k a0_0 a0_1).bind fun bt443 => ((clevisref01_Compare.f k t426 t427 bt443.1 bt443.2).bind fun t447 => (if t447 = 0 then (if t433 = 0 then (clevislaw01_FixedTexts.j0 k t436 t441 (!(t431 == a0_0) || (!(t432 == a0_1))) t434 t435 t437 t438) else (clevislaw01_FixedTexts.j0 k t436 t441 true t434 t435 t437 t438)) else (clevislaw01_FixedTexts.j0 k t436 t441 true t434 t435 t437 t438)))) else (clevislaw01_FixedTexts.j0 k t436 t441 true t434 t435 t437 t438)) else (clevislaw01_FixedTexts.j0 k t436 t441 true t434 t435 t437 t438)) = some r := H
    have A39 := Aside0.mk A390
    clear A390
    by_cases c40 : t442 = true
    ·
     subst c40
     have H1 : (if t430 = true then ((clevislaw01_Num.f k a0_0 a0_1).bind fun bt443 => ((clevisref01_Compare.f k t426 t427 bt443.1 bt443.2).bind fun t447 => (if t447 = 0 then (if t433 = 0 then (clevislaw01_FixedTexts.j0 k t436 t441 (!(t431 == a0_0) || (!(t432 == a0_1))) t434 t435 t437 t438) else (clevislaw01_FixedTexts.j0 k t436 t441 true t434 t435 t437 t438)) else (clevislaw01_FixedTexts.j0 k t436 t441 true t434 t435 t437 t438)))) else (clevislaw01_FixedTexts.j0 k t436 t441 true t434 t435 t437 t438)) = some r := by rw [if_pos rfl] at H; exact H
     clear H
     have H := H1
     clear H1
     by_cases c41 : t430 = true
     ·
      subst c41
      have H1 : ((clevislaw01_Num.f k a0_0 a0_1).bind fun bt443 => ((clevisref01_Compare.f k t426 t427 bt443.1 bt443.2).bind fun t447 => (if t447 = 0 then (if t433 = 0 then (clevislaw01_FixedTexts.j0 k t436 t441 (!(t431 == a0_0) || (!(t432 == a0_1))) t434 t435 t437 t438) else (clevislaw01_FixedTexts.j0 k t436 t441 true t434 t435 t437 t438)) else (clevislaw01_FixedTexts.j0 k t436 t441 true t434 t435 t437 t438)))) = some r := by rw [if_pos rfl] at H; exact H
      clear H
      have H := H1
      clear H1
      replace H := Option.bind_eq_some_iff.mp H
      obtain ⟨⟨t443, t444⟩, A420, H⟩ := H
      replace H : ((clevisref01_Compare.f k t426 t427 t443 t444).bind fun t447 => (if t447 = 0 then (if t433 = 0 then (clevislaw01_FixedTexts.j0 k t436 t441 (!(t431 == a0_0) || (!(t432 == a0_1))) t434 t435 t437 t438) else (clevislaw01_FixedTexts.j0 k t436 t441 true t434 t435 t437 t438)) else (clevislaw01_FixedTexts.j0 k t436 t441 true t434 t435 t437 t438))) = some r := H
      have A42 := Aside0.mk A420
      clear A420
      replace H := Option.bind_eq_some_iff.mp H
      obtain ⟨t447, A430, H⟩ := H
      replace H : (if t447 = 0 then (if t433 = 0 then (clevislaw01_FixedTexts.j0 k t436 t441 (!(t431 == a0_0) || (!(t432 == a0_1))) t434 t435 t437 t438) else (clevislaw01_FixedTexts.j0 k t436 t441 true t434 t435 t437 t438)) else (clevislaw01_FixedTexts.j0 k t436 t441 true t434 t435 t437 t438)) = some r := H
      have A43 := Aside0.mk A430
      clear A430
      by_cases c44 : t447 = 0
      ·
       rw [if_pos c44] at H
       have c44b0 : (t447 == 0) = true := beq_iff_eq.mpr c44
       have c44b1 : (t447 != 0) = false := bne_eq_false_iff_eq.mpr c44
       clear c44
       (first | rw [c44b0] | (simp only [i64_w, i32_w]; rw [c44b0]) | skip)
       by_cases c45 : t433 = 0
       ·
        rw [if_pos c45] at H
        have c45b0 : (t433 == 0) = true := beq_iff_eq.mpr c45
        have c45b1 : (t433 != 0) = false := bne_eq_false_iff_eq.mpr c45
        clear c45
        have H' := Aside0.mk H
        clear H
        try go_wp2
        have n0_ : Aside0 (Kd.V (Kd.int .i64) 3 ((w32.setCell ⟨gb312, 0, none⟩ (.bool t437)).setCell ⟨gb312, 1, none⟩ (.slice Ao38 t438.length co38)) w.heap.size (fun k_ => k_ ≠ gb302 ∧ k_ ≠ gb306 ∧ k_ ≠ gb308 ∧ k_ ≠ gb310 ∧ k_ ≠ gb312) (.slice Ao19 t427.length co19) t427) := ⟨by (with_reducible repeat (first | apply Kd.V_alloc | apply Kd.V_drewN | apply Kd.V_drew)); exact Kd.V_mono (Kd.V_far (p := ⟨gb312, 1, none⟩) (Kd.V_far (p := ⟨gb312, 0, none⟩) (Kd.V_mono HO429.out (fun k_ hk => (⟨hk, hk.2⟩ : _ ∧ k_ ≠ gb312))) (fun _ hk => hk.2) (.bool t437)) (fun _ hk => hk.2) (.slice Ao38 t438.length co38)) (fun _ hk => ⟨hk.1.1.1.1.1, ⟨hk.1.1.1.1.2, ⟨hk.1.1.1.2, ⟨hk.1.1.2, hk.1.2⟩⟩⟩⟩)⟩
        have n1_ : Aside0 (Kd.V (Kd.int .i64) 3 ((w32.setCell ⟨gb312, 0, none⟩ (.bool t437)).setCell ⟨gb312, 1, none⟩ (.slice Ao38 t438.length co38)) w.heap.size (fun k_ => k_ ≠ gb302 ∧ k_ ≠ gb306 ∧ k_ ≠ gb308 ∧ k_ ≠ gb310 ∧ k_ ≠ gb312) (.slice Ao38 t438.length co38) t438) := ⟨by (with_reducible repeat (first | apply Kd.V_alloc | apply Kd.V_drewN | apply Kd.V_drew)); exact Kd.V_mono (Kd.V_far (p := ⟨gb312, 1, none⟩) (Kd.V_far (p := ⟨gb312, 0, none⟩) (Kd.V_mono HO440.out (fun k_ hk => (⟨hk, hk.2⟩ : _ ∧ k_ ≠ gb312))) (fun _ hk => hk.2) (.bool t437)) (fun _ hk => hk.2) (.slice Ao38 t438.length co38)) (fun _ hk => ⟨hk.1.1.1, ⟨hk.1.1.2.1, ⟨hk.1.1.2.2.1, ⟨hk.1.1.2.2.2, hk.1.2⟩⟩⟩⟩)⟩
        have n2_ : Aside0 (((w32.setCell ⟨gb312, 0, none⟩ (.bool t437)).setCell ⟨gb312, 1, none⟩ (.slice Ao38 t438.length co38)).heap[gb302]? = some (.cells #[.int .i64 a0_0, .int .u64 a0_1] 24 (0, 0))) := ⟨bk_⟩
        have n3_ : Aside0 (((w32.setCell ⟨gb312, 0, none⟩ (.bool t437)).setCell ⟨gb312, 1, none⟩ (.slice Ao38 t438.length co38)).heap[gb306]? = some (.cells #[.bool t426, .slice Ao19 t427.length co19] 32 (0, 0))) := ⟨bk_⟩
        have n4_ : Aside0 (((w32.setCell ⟨gb312, 0, none⟩ (.bool t437)).setCell ⟨gb312, 1, none⟩ (.slice Ao38 t438.length co38)).heap[gb308]? = some (.cells #[.int .i64 t431, .int .u64 t432] 24 (0, 0))) := ⟨bk_⟩
        have n5_ : Aside0 (((w32.setCell ⟨gb312, 0, none⟩ (.bool t437)).setCell ⟨gb312, 1, none⟩ (.slice Ao38 t438.length co38)).heap[gb310]? = some (.cells #[.int .i64 t434, .int .u64 t435] 24 (0, 0))) := ⟨bk_⟩
        have n6_ : Aside0 (((w32.setCell ⟨gb312, 0, none⟩ (.bool t437)).setCell ⟨gb312, 1, none⟩ (.slice Ao38 t438.length co38)).heap[gb312]? = some (.cells #[.bool t437, .slice Ao38 t438.length co38] 32 (0, 0))) := ⟨by (with_reducible repeat (first | refine blk_drewN ?_ _ | refine blk_drew ?_ | refine blk_alloc ?_ _)); refine blk_put (cs := #[.bool t437, .slice none 0 0]) ?_ 1 _ rfl; (with_reducible repeat (first | refine blk_drewN ?_ _ | refine blk_drew ?_ | refine blk_alloc ?_ _)); refine blk_put (cs := #[.bool false, .slice none 0 0]) ?_ 0 _ rfl; (with_reducible repeat (first | refine blk_drewN ?_ _ | refine blk_drew ?_ | refine blk_alloc ?_ _)); exact BK312.out⟩
        have n7_ : Aside0 (Below w.heap.size w ((w32.setCell ⟨gb312, 0, none⟩ (.bool t437)).setCell ⟨gb312, 1, none⟩ (.slice Ao38 t438.length co38))) := ⟨bw_⟩
        (try clear HO429)
        (try clear HO440)
        (try clear BK302)
        (try clear BK306)
        (try clear BK308)
        (try clear BK310)
        (try clear BK312)
        (try clear HB)
        generalize ((w32.setCell ⟨gb312, 0, none⟩ (.bool t437)).setCell ⟨gb312, 1, none⟩ (.slice Ao38 t438.length co38)) = w46 at n0_ n1_ n2_ n3_ n4_ n5_ n6_ n7_ ⊢
        have HO429 := n0_
        have HO440 := n1_
        have BK302 := n2_
        have BK306 := n3_
        have BK308 := n4_
        have BK310 := n5_
        have BK312 := n6_
        have HB := n7_
        clear n0_ n1_ n2_ n3_ n4_ n5_ n6_ n7_
        have n0_ := Aside0.mk (Kd.V_drew HO429.out)
        have n1_ := Aside0.mk (Kd.V_drew HO440.out)
        have n2_ := Aside0.mk (blk_drew BK302.out)
        have n3_ := Aside0.mk (blk_drew BK306.out)
        have n4_ := Aside0.mk (blk_drew BK308.out)
        have n5_ := Aside0.mk (blk_drew BK310.out)
        have n6_ := Aside0.mk (blk_drew BK312.out)
        have n7_ := Aside0.mk (below_drew1 HB.out)
        clear HO429
        clear HO440
        clear BK302
        clear BK306
        clear BK308
        clear BK310
        clear BK312
        clear HB
        have HO429 := n0_
        have HO440 := n1_
        have BK302 := n2_
        have BK306 := n3_
        have BK308 := n4_
        have BK310 := n5_
        have BK312 := n6_
        have HB := n7_
        clear n0_ n1_ n2_ n3_ n4_ n5_ n6_ n7_
        refine start_ (n := 22) (S := fun w' => w'.cell? ⟨gb306, 0, none⟩ = some (.bool t426) ∧ w'.cell? ⟨gb306, 1, none⟩ = some (.slice Ao19 t427.length co19) ∧ w'.cell? ⟨gb302, 0, none⟩ = some (.int .i64 a0_0) ∧ w'.cell? ⟨gb302, 1, none⟩ = some (.int .u64 a0_1) ∧ w'.cell? ⟨gb308, 0, none⟩ = some (.int .i64 t431) ∧ w'.cell? ⟨gb308, 1, none⟩ = some (.int .u64 t432)) (ds := []) #[false, false, false, false, false, false, false, false, false, false, false, false, false, false, false, false, false, false, false, false, false, false] (by kernel_rfl) rfl rfl ⟨(blk_cell BK306.out 0).trans rfl, (blk_cell BK306.out 1).trans rfl, (blk_cell BK302.out 0).trans rfl, (blk_cell BK302.out 1).trans rfl, (blk_cell BK308.out 0).trans rfl, (blk_cell BK308.out 1).trans rfl⟩ (fun hHeld => ?_); refine with_tabW clevislaw01_FixedTexts.tab7 clevislaw01_FixedTexts.bits7 (fun HT_ HW_ => ?_)
        generalize w46.drew = w47 at HO429 HO440 BK302 BK306 BK308 BK310 BK312 HB hHeld ⊢
        refine one_ (i := 0) (N := some 41) #[true, false, false, false, false, false, false, false, false, false, false, false, false, false, false, false, false, false, false, false, false, false] rfl rfl (one_of HT_.out (by kernel_rfl)) (by decide) (fun K hK => ?_)
        refine goes_ Try.func9 (by kernel_rfl) rfl #[] (by rfl) rfl rfl (by (try simp only [List.map_toArray, List.map_cons, List.map_nil]); first | done | rfl | (simp only [List.length_drop, List.length_take]; rfl)) ?_
        with_reducible refine (clevislaw01_known.calls  true _ A39.out).mono ?_
        rintro e w48 ⟨rfl, hb⟩
        refine ⟨_, rfl, ?_⟩
        have n0_ := Aside0.mk (Kd.V_below (by (with_reducible repeat (first | apply Kd.V_alloc | apply Kd.V_drewN | apply Kd.V_drew)); exact HO429.out) hb)
        have n1_ := Aside0.mk (Kd.V_below (by (with_reducible repeat (first | apply Kd.V_alloc | apply Kd.V_drewN | apply Kd.V_drew)); exact HO440.out) hb)
        have n2_ := Aside0.mk (kb_ BK302 hb)
        have n3_ := Aside0.mk (kb_ BK306 hb)
        have n4_ := Aside0.mk (kb_ BK308 hb)
        have n5_ := Aside0.mk (kb_ BK310 hb)
        have n6_ := Aside0.mk (kb_ BK312 hb)
        have n7_ := Aside0.mk (below_step bw_ hb)
        clear HO429
        clear HO440
        clear BK302
        clear BK306
        clear BK308
        clear BK310
        clear BK312
        clear HB
        have HO429 := n0_
        have HO440 := n1_
        have BK302 := n2_
        have BK306 := n3_
        have BK308 := n4_
        have BK310 := n5_
        have BK312 := n6_
        have HB := n7_
        clear n0_ n1_ n2_ n3_ n4_ n5_ n6_ n7_
        (try clear hb)
        (try clear hb2)
        (try clear hk)
        (try clear hi)
        refine hK.out _ _ ⟨(blk_cell BK306.out 0).trans rfl, (blk_cell BK306.out 1).trans rfl, (blk_cell BK302.out 0).trans rfl, (blk_cell BK302.out 1).trans rfl, (blk_cell BK308.out 0).trans rfl, (blk_cell BK308.out 1).trans rfl⟩ (fun hHeld => ?_)
        clear hK K
        refine norm_ (a' := ?_) ?_ ?_
        rotate_left
        ·
         show Act.put _ (some 41) _ = _
         simp only [Act.put, List.setIfInBounds_toArray, List.set_cons_zero, List.set_cons_succ, i64_w, i32_w]
         rfl
        refine pure_ (i := 1) (N := some 42) (v := ?_) (a' := ?_) #[true, true, false, false, false, false, false, false, false, false, false, false, false, false, false, false, false, false, false, false, false, false] rfl rfl (any_of HT_.out (by kernel_rfl)) (fun _ _ _ h => h) (Or.inl ⟨by rfl, ?_⟩) ?_ ?_
        rotate_left
        ·
         intro w'
         go_simp
         with_reducible rfl
        rotate_left
        ·
         simp only [Act.put, List.setIfInBounds_toArray, List.set_cons_zero, List.set_cons_succ, i64_w, i32_w]
         rfl
        refine pure_ (i := 2) (N := some 43) (v := ?_) (a' := ?_) #[true, true, true, false, false, false, false, false, false, false, false, false, false, false, false, false, false, false, false, false, false, false] rfl rfl (any_of HT_.out (by kernel_rfl)) (fun _ _ _ h => h) (Or.inl ⟨by rfl, ?_⟩) ?_ ?_
        rotate_left
        ·
         intro w'
         go_simp
         with_reducible rfl
        rotate_left
        ·
         simp only [Act.put, List.setIfInBounds_toArray, List.set_cons_zero, List.set_cons_succ, i64_w, i32_w]
         rfl
        refine pure_ (i := 3) (N := some 44) (v := ?_) (a' := ?_) #[true, true, true, true, false, false, false, false, false, false, false, false, false, false, false, false, false, false, false, false, false, false] rfl rfl (any_of HT_.out (by kernel_rfl)) (fun _ _ _ h => h) (Or.inl ⟨by rfl, ?_⟩) ?_ ?_
        rotate_left
        ·
         intro w'
         go_simp
         with_reducible rfl
        rotate_left
        ·
         simp only [Act.put, List.setIfInBounds_toArray, List.set_cons_zero, List.set_cons_succ, i64_w, i32_w]
         rfl
        refine pure_ (i := 4) (N := some 45) (v := ?_) (a' := ?_) #[true, true, true, true, true, false, false, false, false, false, false, false, false, false, false, false, false, false, false, false, false, false] rfl rfl (any_of HT_.out (by kernel_rfl)) (fun _ _ _ h => h) (Or.inl ⟨by rfl, ?_⟩) ?_ ?_
        rotate_left
        ·
         intro w'
         go_simp
         with_reducible rfl
        rotate_left
        ·
         simp only [Act.put, List.setIfInBounds_toArray, List.set_cons_zero, List.set_cons_succ, i64_w, i32_w]
         rfl
        refine pure_ (i := 5) (N := some 46) (v := ?_) (a' := ?_) #[true, true, true, true, true, true, false, false, false, false, false, false, false, false, false, false, false, false, false, false, false, false] rfl rfl (any_of HT_.out (by kernel_rfl)) (fun _ _ _ h => h) (Or.inl ⟨by rfl, ?_⟩) ?_ ?_
        rotate_left
        ·
         intro w'
         go_simp
         with_reducible rfl
        rotate_left
        ·
         simp only [Act.put, List.setIfInBounds_toArray, List.set_cons_zero, List.set_cons_succ, i64_w, i32_w]
         rfl
        refine pure_ (i := 6) (N := some 47) (v := ?_) (a' := ?_) #[true, true, true, true, true, true, true, false, false, false, false, false, false, false, false, false, false, false, false, false, false, false] rfl rfl (any_of HT_.out (by kernel_rfl)) (fun _ _ _ h => h) (Or.inl ⟨by rfl, ?_⟩) ?_ ?_
        rotate_left
        ·
         intro w'
         go_simp
         with_reducible rfl
        rotate_left
        ·
         simp only [Act.put, List.setIfInBounds_toArray, List.set_cons_zero, List.set_cons_succ, i64_w, i32_w]
         rfl
        refine take_ (i := 7) (N := some 48) (v := ?_) (a' := ?_) #[true, true, true, true, true, true, true, true, false, false, false, false, false, false, false, false, false, false, false, false, false, false] rfl rfl (take_ofW HT_.out HW_.out (by kernel_rfl)) (fun _ _ _ h => h) (Or.inl ⟨by rfl, ?_⟩) hHeld ?_ ?_
        rotate_left
        ·
         rintro w' ⟨s0, s1, s2, s3, s4, s5⟩
         go_simp
         with_reducible rfl
        rotate_left
        ·
         simp only [Act.put, List.setIfInBounds_toArray, List.set_cons_zero, List.set_cons_succ, i64_w, i32_w]
         rfl
        refine take_ (i := 8) (N := some 49) (v := ?_) (a' := ?_) #[true, true, true, true, true, true, true, true, true, false, false, false, false, false, false, false, false, false, false, false, false, false] rfl rfl (take_ofW HT_.out HW_.out (by kernel_rfl)) (fun _ _ _ h => h) (Or.inl ⟨by rfl, ?_⟩) hHeld ?_ ?_
        rotate_left
        ·
         rintro w' ⟨s0, s1, s2, s3, s4, s5⟩
         go_simp
         with_reducible rfl
        rotate_left
        ·
         simp only [Act.put, List.setIfInBounds_toArray, List.set_cons_zero, List.set_cons_succ, i64_w, i32_w]
         rfl
        refine one_ (i := 9) (N := some 50) #[true, true, true, true, true, true, true, true, true, true, false, false, false, false, false, false, false, false, false, false, false, false] rfl rfl (one_of HT_.out (by kernel_rfl)) (by decide) (fun K hK => ?_)
        refine goes_ Try.func11 (by kernel_rfl) rfl #[.agg #[.int .i64 a0_0, .int .u64 a0_1]] (by rfl) rfl rfl (by (try simp only [List.map_toArray, List.map_cons, List.map_nil]); first | done | rfl | (simp only [List.length_drop, List.length_take]; rfl)) ?_
        with_reducible refine (clevislaw01_Num.calls k a0_0 a0_1 t443 t444 _ A42.out).mono ?_
        rintro e w49 ⟨v445, rfl, ho0, hb⟩
        refine ⟨_, rfl, ?_⟩
        have n0_ := Aside0.mk (Kd.V_below (by (with_reducible repeat (first | apply Kd.V_alloc | apply Kd.V_drewN | apply Kd.V_drew)); exact HO429.out) hb)
        have n1_ := Aside0.mk (Kd.V_below (by (with_reducible repeat (first | apply Kd.V_alloc | apply Kd.V_drewN | apply Kd.V_drew)); exact HO440.out) hb)
        have n2_ := Aside0.mk (Kd.V_lower (Kd.V_mono (ok' := fun k_ => k_ ≠ gb302 ∧ k_ ≠ gb306 ∧ k_ ≠ gb308 ∧ k_ ≠ gb310 ∧ k_ ≠ gb312) ho0 (fun k_ hk_ => ⟨(Kd.freshB (g := gb302) (o := .cells #[.int .i64 a0_0, .int .u64 a0_1] 24 (0, 0)) bk_ k_ hk_), (Kd.freshB (g := gb306) (o := .cells #[.bool t426, .slice Ao19 t427.length co19] 32 (0, 0)) bk_ k_ hk_), (Kd.freshB (g := gb308) (o := .cells #[.int .i64 t431, .int .u64 t432] 24 (0, 0)) bk_ k_ hk_), (Kd.freshB (g := gb310) (o := .cells #[.int .i64 t434, .int .u64 t435] 24 (0, 0)) bk_ k_ hk_), (Kd.freshB (g := gb312) (o := .cells #[.bool t437, .slice Ao38 t438.length co38] 32 (0, 0)) bk_ k_ hk_)⟩)) (below_size bw_))
        have n3_ := Aside0.mk (kb_ BK302 hb)
        have n4_ := Aside0.mk (kb_ BK306 hb)
        have n5_ := Aside0.mk (kb_ BK308 hb)
        have n6_ := Aside0.mk (kb_ BK310 hb)
        have n7_ := Aside0.mk (kb_ BK312 hb)
        have n8_ := Aside0.mk (below_step bw_ hb)
        clear HO429
        clear HO440
        clear BK302
        clear BK306
        clear BK308
        clear BK310
        clear BK312
        clear HB
        have HO429 := n0_
        have HO440 := n1_
        have HO446 := n2_
        have BK302 := n3_
        have BK306 := n4_
        have BK308 := n5_
        have BK310 := n6_
        have BK312 := n7_
        have HB := n8_
        clear n0_ n1_ n2_ n3_ n4_ n5_ n6_ n7_ n8_
        (try clear hb)
        (try clear hb2)
        (try clear hk)
        (try clear hi)
        (try clear ho0)
        obtain ⟨Ao50, co50, eo50⟩ := Kd.V_slice HO446.out
        (first | subst eo50 | (injection eo50 with f1_ f2_ f3_; have f4_ := f1_.symm; have f5_ := f3_.symm; clear f1_ f2_ f3_; subst f4_; subst f5_))
        refine hK.out _ _ ⟨(blk_cell BK306.out 0).trans rfl, (blk_cell BK306.out 1).trans rfl, (blk_cell BK302.out 0).trans rfl, (blk_cell BK302.out 1).trans rfl, (blk_cell BK308.out 0).trans rfl, (blk_cell BK308.out 1).trans rfl⟩ (fun hHeld => ?_)
        clear hK K
        refine norm_ (a' := ?_) ?_ ?_
        rotate_left
        ·
         show Act.put _ (some 50) _ = _
         simp only [Act.put, List.setIfInBounds_toArray, List.set_cons_zero, List.set_cons_succ, i64_w, i32_w]
         rfl
        refine one_ (i := 10) (N := some 51) #[true, true, true, true, true, true, true, true, true, true, true, false, false, false, false, false, false, false, false, false, false, false] rfl rfl (one_of HT_.out (by kernel_rfl)) (by decide) (fun K hK => ?_)
        refine goes_ Try.func16 (by kernel_rfl) rfl #[.agg #[.bool t426, .slice Ao19 t427.length co19], .agg #[.bool t443, .slice Ao50 t444.length co50]] (by rfl) rfl rfl (by (try simp only [List.map_toArray, List.map_cons, List.map_nil]); first | done | rfl | (simp only [List.length_drop, List.length_take]; rfl)) ?_
        with_reducible refine (clevisref01_Compare.calls k t426 _ _ t427 t443 _ _ t444 t447 _ ?side1 ?side2 ?side3 ?side4 A43.out).mono ?_
        (case side1 => repeat (first | exact (Kd.V_reads' HO429.out).2.2 | (with_reducible refine Kd.C_alloc ?_ _) | (with_reducible refine Kd.C_drewN ?_ _) | (with_reducible refine Kd.C_drew ?_)))
        (case side2 => exact (Kd.V_reads' HO429.out).2.1)
        (case side3 => repeat (first | exact (Kd.V_reads' HO446.out).2.2 | (with_reducible refine Kd.C_alloc ?_ _) | (with_reducible refine Kd.C_drewN ?_ _) | (with_reducible refine Kd.C_drew ?_)))
        (case side4 => exact (Kd.V_reads' HO446.out).2.1)
        rintro e w51 ⟨rfl, hb⟩
        refine ⟨_, rfl, ?_⟩
        have n0_ := Aside0.mk (Kd.V_below (by (with_reducible repeat (first | apply Kd.V_alloc | apply Kd.V_drewN | apply Kd.V_drew)); exact HO429.out) hb)
        have n1_ := Aside0.mk (Kd.V_below (by (with_reducible repeat (first | apply Kd.V_alloc | apply Kd.V_drewN | apply Kd.V_drew)); exact HO440.out) hb)
        have n2_ := Aside0.mk (Kd.V_below (by (with_reducible repeat (first | apply Kd.V_alloc | apply Kd.V_drewN | apply Kd.V_drew)); exact HO446.out) hb)
        have n3_ := Aside0.mk (kb_ BK302 hb)
        have n4_ := Aside0.mk (kb_ BK306 hb)
        have n5_ := Aside0.mk (kb_ BK308 hb)
        have n6_ := Aside0.mk (kb_ BK310 hb)
        have n7_ := Aside0.mk (kb_ BK312 hb)
        have n8_ := Aside0.mk (below_step bw_ hb)
        clear HO429
        clear HO440
        clear HO446
        clear BK302
        clear BK306
        clear BK308
        clear BK310
        clear BK312
        clear HB
        have HO429 := n0_
        have HO440 := n1_
        have HO446 := n2_
        have BK302 := n3_
        have BK306 := n4_
        have BK308 := n5_
        have BK310 := n6_
        have BK312 := n7_
        have HB := n8_
        clear n0_ n1_ n2_ n3_ n4_ n5_ n6_ n7_ n8_
        (try clear hb)
        (try clear hb2)
        (try clear hk)
        (try clear hi)
        refine hK.out _ _ ⟨(blk_cell BK306.out 0).trans rfl, (blk_cell BK306.out 1).trans rfl, (blk_cell BK302.out 0).trans rfl, (blk_cell BK302.out 1).trans rfl, (blk_cell BK308.out 0).trans rfl, (blk_cell BK308.out 1).trans rfl⟩ (fun hHeld => ?_)
        clear hK K
        refine norm_ (a' := ?_) ?_ ?_
        rotate_left
        ·
         show Act.put _ (some 51) _ = _
         simp only [Act.put, List.setIfInBounds_toArray, List.set_cons_zero, List.set_cons_succ, i64_w, i32_w]
         rfl
        refine pure_ (i := 11) (N := some 52) (v := ?_) (a' := ?_) #[true, true, true, true, true, true, true, true, true, true, true, true, false, false, false, false, false, false, false, false, false, false] rfl rfl (any_of HT_.out (by kernel_rfl)) (fun _ _ _ h => h) (Or.inl ⟨by rfl, ?_⟩) ?_ ?_
        rotate_left
        ·
         intro w'
         go_simp
         with_reducible rfl
        rotate_left
        ·
         simp only [Act.put, List.setIfInBounds_toArray, List.set_cons_zero, List.set_cons_succ, i64_w, i32_w]
         rfl
        refine pure_ (i := 12) (N := some 53) (v := ?_) (a' := ?_) #[true, true, true, true, true, true, true, true, true, true, true, true, true, false, false, false, false, false, false, false, false, false] rfl rfl (any_of HT_.out (by kernel_rfl)) (fun _ _ _ h => h) (Or.inl ⟨by rfl, ?_⟩) ?_ ?_
        rotate_left
        ·
         intro w'
         go_simp
         with_reducible rfl
        rotate_left
        ·
         simp only [Act.put, List.setIfInBounds_toArray, List.set_cons_zero, List.set_cons_succ, i64_w, i32_w]
         rfl
        refine pure_ (i := 13) (N := some 54) (v := ?_) (a' := ?_) #[true, true, true, true, true, true, true, true, true, true, true, true, true, true, false, false, false, false, false, false, false, false] rfl rfl (any_of HT_.out (by kernel_rfl)) (fun _ _ _ h => h) (Or.inl ⟨by rfl, ?_⟩) ?_ ?_
        rotate_left
        ·
         intro w'
         go_simp
         with_reducible rfl
        rotate_left
        ·
         simp only [Act.put, List.setIfInBounds_toArray, List.set_cons_zero, List.set_cons_succ, i64_w, i32_w]
         rfl
        refine pure_ (i := 14) (N := some 55) (v := ?_) (a' := ?_) #[true, true, true, true, true, true, true, true, true, true, true, true, true, true, true, false, false, false, false, false, false, false] rfl rfl (any_of HT_.out (by kernel_rfl)) (fun _ _ _ h => h) (Or.inl ⟨by rfl, ?_⟩) ?_ ?_
        rotate_left
        ·
         intro w'
         go_simp
         with_reducible rfl
        rotate_left
        ·
         simp only [Act.put, List.setIfInBounds_toArray, List.set_cons_zero, List.set_cons_succ, i64_w, i32_w]
         rfl
        refine pure_ (i := 15) (N := some 56) (v := ?_) (a' := ?_) #[true, true, true, true, true, true, true, true, true, true, true, true, true, true, true, true, false, false, false, false, false, false] rfl rfl (any_of HT_.out (by kernel_rfl)) (fun _ _ _ h => h) (Or.inl ⟨by rfl, ?_⟩) ?_ ?_
        rotate_left
        ·
         intro w'
         go_simp
         with_reducible rfl
        rotate_left
        ·
         simp only [Act.put, List.setIfInBounds_toArray, List.set_cons_zero, List.set_cons_succ, i64_w, i32_w]
         rfl
        refine pure_ (i := 16) (N := some 57) (v := ?_) (a' := ?_) #[true, true, true, true, true, true, true, true, true, true, true, true, true, true, true, true, true, false, false, false, false, false] rfl rfl (any_of HT_.out (by kernel_rfl)) (fun _ _ _ h => h) (Or.inl ⟨by rfl, ?_⟩) ?_ ?_
        rotate_left
        ·
         intro w'
         go_simp
         with_reducible rfl
        rotate_left
        ·
         simp only [Act.put, List.setIfInBounds_toArray, List.set_cons_zero, List.set_cons_succ, i64_w, i32_w]
         rfl
        refine pure_ (i := 17) (N := some 58) (v := ?_) (a' := ?_) #[true, true, true, true, true, true, true, true, true, true, true, true, true, true, true, true, true, true, false, false, false, false] rfl rfl (any_of HT_.out (by kernel_rfl)) (fun _ _ _ h => h) (Or.inl ⟨by rfl, ?_⟩) ?_ ?_
        rotate_left
        ·
         intro w'
         go_simp
         with_reducible rfl
        rotate_left
        ·
         simp only [Act.put, List.setIfInBounds_toArray, List.set_cons_zero, List.set_cons_succ, i64_w, i32_w]
         rfl
        refine take_ (i := 18) (N := some 59) (v := ?_) (a' := ?_) #[true, true, true, true, true, true, true, true, true, true, true, true, true, true, true, true, true, true, true, false, false, false] rfl rfl (take_ofW HT_.out HW_.out (by kernel_rfl)) (fun _ _ _ h => h) (Or.inl ⟨by rfl, ?_⟩) hHeld ?_ ?_
        rotate_left
        ·
         rintro w' ⟨s0, s1, s2, s3, s4, s5⟩
         go_simp
         with_reducible rfl
        rotate_left
        ·
         simp only [Act.put, List.setIfInBounds_toArray, List.set_cons_zero, List.set_cons_succ, i64_w, i32_w]
         rfl
        refine take_ (i := 19) (N := some 60) (v := ?_) (a' := ?_) #[true, true, true, true, true, true, true, true, true, true, true, true, true, true, true, true, true, true, true, true, false, false] rfl rfl (take_ofW HT_.out HW_.out (by kernel_rfl)) (fun _ _ _ h => h) (Or.inl ⟨by rfl, ?_⟩) hHeld ?_ ?_
        rotate_left
        ·
         rintro w' ⟨s0, s1, s2, s3, s4, s5⟩
         go_simp
         with_reducible rfl
        rotate_left
        ·
         simp only [Act.put, List.setIfInBounds_toArray, List.set_cons_zero, List.set_cons_succ, i64_w, i32_w]
         rfl
        refine pure_ (i := 20) (N := some 61) (v := ?_) (a' := ?_) #[true, true, true, true, true, true, true, true, true, true, true, true, true, true, true, true, true, true, true, true, true, false] rfl rfl (any_of HT_.out (by kernel_rfl)) (fun _ _ _ h => h) (Or.inl ⟨by rfl, ?_⟩) ?_ ?_
        rotate_left
        ·
         intro w'
         go_simp
         with_reducible rfl
        rotate_left
        ·
         simp only [Act.put, List.setIfInBounds_toArray, List.set_cons_zero, List.set_cons_succ, i64_w, i32_w]
         rfl
        refine pure_ (i := 21) (N := some 62) (v := ?_) (a' := ?_) #[true, true, true, true, true, true, true, true, true, true, true, true, true, true, true, true, true, true, true, true, true, true] rfl rfl (any_of HT_.out (by kernel_rfl)) (fun _ _ _ h => h) (Or.inl ⟨by rfl, ?_⟩) ?_ ?_
        rotate_left
        ·
         intro w'
         go_simp
         with_reducible rfl
        rotate_left
        ·
         simp only [Act.put, List.setIfInBounds_toArray, List.set_cons_zero, List.set_cons_succ, i64_w, i32_w]
         rfl
        refine done_ (done_of HT_.out (by kernel_rfl)) ?_
        try go_wp2
        go_meet
        case rel => exact ⟨_, ((!(t431 == a0_0) || (!(t432 == a0_1)))), (by first | rfl | (simp; done) | (simp [*]; done)), H', ⟨by first | omega | exact Nat.le_refl _⟩, ⟨by (with_reducible repeat (first | apply Kd.V_alloc | apply Kd.V_drewN | apply Kd.V_drew)); exact HO429.out⟩, ⟨by (with_reducible repeat (first | apply Kd.V_alloc | apply Kd.V_drewN | apply Kd.V_drew)); exact HO440.out⟩, ⟨bk_⟩, ⟨bk_⟩, ⟨bk_⟩, ⟨bk_⟩, ⟨bk_⟩, ⟨bw_⟩⟩
       ·
        rw [if_neg c45] at H
        have c45b0 : (t433 == 0) = false := beq_eq_false_iff_ne.mpr c45
        have c45b1 : (t433 != 0) = true := bne_iff_ne.mpr c45
        have H' := Aside0.mk H
        clear H
        try go_wp2
        have n0_ : Aside0 (Kd.V (Kd.int .i64) 3 ((w32.setCell ⟨gb312, 0, none⟩ (.bool t437)).setCell ⟨gb312, 1, none⟩ (.slice Ao38 t438.length co38)) w.heap.size (fun k_ => k_ ≠ gb302 ∧ k_ ≠ gb306 ∧ k_ ≠ gb308 ∧ k_ ≠ gb310 ∧ k_ ≠ gb312) (.slice Ao19 t427.length co19) t427) := ⟨by (with_reducible repeat (first | apply Kd.V_alloc | apply Kd.V_drewN | apply Kd.V_drew)); exact Kd.V_mono (Kd.V_far (p := ⟨gb312, 1, none⟩) (Kd.V_far (p := ⟨gb312, 0, none⟩) (Kd.V_mono HO429.out (fun k_ hk => (⟨hk, hk.2⟩ : _ ∧ k_ ≠ gb312))) (fun _ hk => hk.2) (.bool t437)) (fun _ hk => hk.2) (.slice Ao38 t438.length co38)) (fun _ hk => ⟨hk.1.1.1.1.1, ⟨hk.1.1.1.1.2, ⟨hk.1.1.1.2, ⟨hk.1.1.2, hk.1.2⟩⟩⟩⟩)⟩
        have n1_ : Aside0 (Kd.V (Kd.int .i64) 3 ((w32.setCell ⟨gb312, 0, none⟩ (.bool t437)).setCell ⟨gb312, 1, none⟩ (.slice Ao38 t438.length co38)) w.heap.size (fun k_ => k_ ≠ gb302 ∧ k_ ≠ gb306 ∧ k_ ≠ gb308 ∧ k_ ≠ gb310 ∧ k_ ≠ gb312) (.slice Ao38 t438.length co38) t438) := ⟨by (with_reducible repeat (first | apply Kd.V_alloc | apply Kd.V_drewN | apply Kd.V_drew)); exact Kd.V_mono (Kd.V_far (p := ⟨gb312, 1, none⟩) (Kd.V_far (p := ⟨gb312, 0, none⟩) (Kd.V_mono HO440.out (fun k_ hk => (⟨hk, hk.2⟩ : _ ∧ k_ ≠ gb312))) (fun _ hk => hk.2) (.bool t437)) (fun _ hk => hk.2) (.slice Ao38 t438.length co38)) (fun _ hk => ⟨hk.1.1.1, ⟨hk.1.1.2.1, ⟨hk.1.1.2.2.1, ⟨hk.1.1.2.2.2, hk.1.2⟩⟩⟩⟩)⟩
        have n2_ : Aside0 (((w32.setCell ⟨gb312, 0, none⟩ (.bool t437)).setCell ⟨gb312, 1, none⟩ (.slice Ao38 t438.length co38)).heap[gb302]? = some (.cells #[.int .i64 a0_0, .int .u64 a0_1] 24 (0, 0))) := ⟨bk_⟩
        have n3_ : Aside0 (((w32.setCell ⟨gb312, 0, none⟩ (.bool t437)).setCell ⟨gb312, 1, none⟩ (.slice Ao38 t438.length co38)).heap[gb306]? = some (.cells #[.bool t426, .slice Ao19 t427.length co19] 32 (0, 0))) := ⟨bk_⟩
        have n4_ : Aside0 (((w32.setCell ⟨gb312, 0, none⟩ (.bool t437)).setCell ⟨gb312, 1, none⟩ (.slice Ao38 t438.length co38)).heap[gb308]? = some (.cells #[.int .i64 t431, .int .u64 t432] 24 (0, 0))) := ⟨bk_⟩
        have n5_ : Aside0 (((w32.setCell ⟨gb312, 0, none⟩ (.bool t437)).setCell ⟨gb312, 1, none⟩ (.slice Ao38 t438.length co38)).heap[gb310]? = some (.cells #[.int .i64 t434, .int .u64 t435] 24 (0, 0))) := ⟨bk_⟩
        have n6_ : Aside0 (((w32.setCell ⟨gb312, 0, none⟩ (.bool t437)).setCell ⟨gb312, 1, none⟩ (.slice Ao38 t438.length co38)).heap[gb312]? = some (.cells #[.bool t437, .slice Ao38 t438.length co38] 32 (0, 0))) := ⟨by (with_reducible repeat (first | refine blk_drewN ?_ _ | refine blk_drew ?_ | refine blk_alloc ?_ _)); refine blk_put (cs := #[.bool t437, .slice none 0 0]) ?_ 1 _ rfl; (with_reducible repeat (first | refine blk_drewN ?_ _ | refine blk_drew ?_ | refine blk_alloc ?_ _)); refine blk_put (cs := #[.bool false, .slice none 0 0]) ?_ 0 _ rfl; (with_reducible repeat (first | refine blk_drewN ?_ _ | refine blk_drew ?_ | refine blk_alloc ?_ _)); exact BK312.out⟩
        have n7_ : Aside0 (Below w.heap.size w ((w32.setCell ⟨gb312, 0, none⟩ (.bool t437)).setCell ⟨gb312, 1, none⟩ (.slice Ao38 t438.length co38))) := ⟨bw_⟩
        (try clear HO429)
        (try clear HO440)
        (try clear BK302)
        (try clear BK306)
        (try clear BK308)
        (try clear BK310)
        (try clear BK312)
        (try clear HB)
        generalize ((w32.setCell ⟨gb312, 0, none⟩ (.bool t437)).setCell ⟨gb312, 1, none⟩ (.slice Ao38 t438.length co38)) = w52 at n0_ n1_ n2_ n3_ n4_ n5_ n6_ n7_ ⊢
        have HO429 := n0_
        have HO440 := n1_
        have BK302 := n2_
        have BK306 := n3_
        have BK308 := n4_
        have BK310 := n5_
        have BK312 := n6_
        have HB := n7_
        clear n0_ n1_ n2_ n3_ n4_ n5_ n6_ n7_
        have n0_ := Aside0.mk (Kd.V_drew HO429.out)
        have n1_ := Aside0.mk (Kd.V_drew HO440.out)
        have n2_ := Aside0.mk (blk_drew BK302.out)
        have n3_ := Aside0.mk (blk_drew BK306.out)
        have n4_ := Aside0.mk (blk_drew BK308.out)
        have n5_ := Aside0.mk (blk_drew BK310.out)
        have n6_ := Aside0.mk (blk_drew BK312.out)
        have n7_ := Aside0.mk (below_drew1 HB.out)
        clear HO429
        clear HO440
        clear BK302
        clear BK306
        clear BK308
        clear BK310
        clear BK312
        clear HB
        have HO429 := n0_
        have HO440 := n1_
        have BK302 := n2_
        have BK306 := n3_
        have BK308 := n4_
        have BK310 := n5_
        have BK312 := n6_
        have HB := n7_
        clear n0_ n1_ n2_ n3_ n4_ n5_ n6_ n7_
        refine start_ (n := 22) (S := fun w' => w'.cell? ⟨gb306, 0, none⟩ = some (.bool t426) ∧ w'.cell? ⟨gb306, 1, none⟩ = some (.slice Ao19 t427.length co19) ∧ w'.cell? ⟨gb302, 0, none⟩ = some (.int .i64 a0_0) ∧ w'.cell? ⟨gb302, 1, none⟩ = some (.int .u64 a0_1)) (ds := []) #[false, false, false, false, false, false, false, false, false, false, false, false, false, false, false, false, false, false, false, false, false, false] (by kernel_rfl) rfl rfl ⟨(blk_cell BK306.out 0).trans rfl, (blk_cell BK306.out 1).trans rfl, (blk_cell BK302.out 0).trans rfl, (blk_cell BK302.out 1).trans rfl⟩ (fun hHeld => ?_); refine with_tabW clevislaw01_FixedTexts.tab7 clevislaw01_FixedTexts.bits7 (fun HT_ HW_ => ?_)
        generalize w52.drew = w53 at HO429 HO440 BK302 BK306 BK308 BK310 BK312 HB hHeld ⊢
        refine one_ (i := 0) (N := some 41) #[true, false, false, false, false, false, false, false, false, false, false, false, false, false, false, false, false, false, false, false, false, false] rfl rfl (one_of HT_.out (by kernel_rfl)) (by decide) (fun K hK => ?_)
        refine goes_ Try.func9 (by kernel_rfl) rfl #[] (by rfl) rfl rfl (by (try simp only [List.map_toArray, List.map_cons, List.map_nil]); first | done | rfl | (simp only [List.length_drop, List.length_take]; rfl)) ?_
        with_reducible refine (clevislaw01_known.calls  true _ A39.out).mono ?_
        rintro e w54 ⟨rfl, hb⟩
        refine ⟨_, rfl, ?_⟩
        have n0_ := Aside0.mk (Kd.V_below (by (with_reducible repeat (first | apply Kd.V_alloc | apply Kd.V_drewN | apply Kd.V_drew)); exact HO429.out) hb)
        have n1_ := Aside0.mk (Kd.V_below (by (with_reducible repeat (first | apply Kd.V_alloc | apply Kd.V_drewN | apply Kd.V_drew)); exact HO440.out) hb)
        have n2_ := Aside0.mk (kb_ BK302 hb)
        have n3_ := Aside0.mk (kb_ BK306 hb)
        have n4_ := Aside0.mk (kb_ BK308 hb)
        have n5_ := Aside0.mk (kb_ BK310 hb)
        have n6_ := Aside0.mk (kb_ BK312 hb)
        have n7_ := Aside0.mk (below_step bw_ hb)
        clear HO429
        clear HO440
        clear BK302
        clear BK306
        clear BK308
        clear BK310
        clear BK312
        clear HB
        have HO429 := n0_
        have HO440 := n1_
        have BK302 := n2_
        have BK306 := n3_
        have BK308 := n4_
        have BK310 := n5_
        have BK312 := n6_
        have HB := n7_
        clear n0_ n1_ n2_ n3_ n4_ n5_ n6_ n7_
        (try clear hb)
        (try clear hb2)
        (try clear hk)
        (try clear hi)
        refine hK.out _ _ ⟨(blk_cell BK306.out 0).trans rfl, (blk_cell BK306.out 1).trans rfl, (blk_cell BK302.out 0).trans rfl, (blk_cell BK302.out 1).trans rfl⟩ (fun hHeld => ?_)
        clear hK K
        refine norm_ (a' := ?_) ?_ ?_
        rotate_left
        ·
         show Act.put _ (some 41) _ = _
         simp only [Act.put, List.setIfInBounds_toArray, List.set_cons_zero, List.set_cons_succ, i64_w, i32_w]
         rfl
        refine pure_ (i := 1) (N := some 42) (v := ?_) (a' := ?_) #[true, true, false, false, false, false, false, false, false, false, false, false, false, false, false, false, false, false, false, false, false, false] rfl rfl (any_of HT_.out (by kernel_rfl)) (fun _ _ _ h => h) (Or.inl ⟨by rfl, ?_⟩) ?_ ?_
        rotate_left
        ·
         intro w'
         go_simp
         with_reducible rfl
        rotate_left
        ·
         simp only [Act.put, List.setIfInBounds_toArray, List.set_cons_zero, List.set_cons_succ, i64_w, i32_w]
         rfl
        refine pure_ (i := 2) (N := some 43) (v := ?_) (a' := ?_) #[true, true, true, false, false, false, false, false, false, false, false, false, false, false, false, false, false, false, false, false, false, false] rfl rfl (any_of HT_.out (by kernel_rfl)) (fun _ _ _ h => h) (Or.inl ⟨by rfl, ?_⟩) ?_ ?_
        rotate_left
        ·
         intro w'
         go_simp
         with_reducible rfl
        rotate_left
        ·
         simp only [Act.put, List.setIfInBounds_toArray, List.set_cons_zero, List.set_cons_succ, i64_w, i32_w]
         rfl
        refine pure_ (i := 3) (N := some 44) (v := ?_) (a' := ?_) #[true, true, true, true, false, false, false, false, false, false, false, false, false, false, false, false, false, false, false, false, false, false] rfl rfl (any_of HT_.out (by kernel_rfl)) (fun _ _ _ h => h) (Or.inl ⟨by rfl, ?_⟩) ?_ ?_
        rotate_left
        ·
         intro w'
         go_simp
         with_reducible rfl
        rotate_left
        ·
         simp only [Act.put, List.setIfInBounds_toArray, List.set_cons_zero, List.set_cons_succ, i64_w, i32_w]
         rfl
        refine pure_ (i := 4) (N := some 45) (v := ?_) (a' := ?_) #[true, true, true, true, true, false, false, false, false, false, false, false, false, false, false, false, false, false, false, false, false, false] rfl rfl (any_of HT_.out (by kernel_rfl)) (fun _ _ _ h => h) (Or.inl ⟨by rfl, ?_⟩) ?_ ?_
        rotate_left
        ·
         intro w'
         go_simp
         with_reducible rfl
        rotate_left
        ·
         simp only [Act.put, List.setIfInBounds_toArray, List.set_cons_zero, List.set_cons_succ, i64_w, i32_w]
         rfl
        refine pure_ (i := 5) (N := some 46) (v := ?_) (a' := ?_) #[true, true, true, true, true, true, false, false, false, false, false, false, false, false, false, false, false, false, false, false, false, false] rfl rfl (any_of HT_.out (by kernel_rfl)) (fun _ _ _ h => h) (Or.inl ⟨by rfl, ?_⟩) ?_ ?_
        rotate_left
        ·
         intro w'
         go_simp
         with_reducible rfl
        rotate_left
        ·
         simp only [Act.put, List.setIfInBounds_toArray, List.set_cons_zero, List.set_cons_succ, i64_w, i32_w]
         rfl
        refine pure_ (i := 6) (N := some 47) (v := ?_) (a' := ?_) #[true, true, true, true, true, true, true, false, false, false, false, false, false, false, false, false, false, false, false, false, false, false] rfl rfl (any_of HT_.out (by kernel_rfl)) (fun _ _ _ h => h) (Or.inl ⟨by rfl, ?_⟩) ?_ ?_
        rotate_left
        ·
         intro w'
         go_simp
         with_reducible rfl
        rotate_left
        ·
         simp only [Act.put, List.setIfInBounds_toArray, List.set_cons_zero, List.set_cons_succ, i64_w, i32_w]
         rfl
        refine take_ (i := 7) (N := some 48) (v := ?_) (a' := ?_) #[true, true, true, true, true, true, true, true, false, false, false, false, false, false, false, false, false, false, false, false, false, false] rfl rfl (take_ofW HT_.out HW_.out (by kernel_rfl)) (fun _ _ _ h => h) (Or.inl ⟨by rfl, ?_⟩) hHeld ?_ ?_
        rotate_left
        ·
         rintro w' ⟨s0, s1, s2, s3⟩
         go_simp
         with_reducible rfl
        rotate_left
        ·
         simp only [Act.put, List.setIfInBounds_toArray, List.set_cons_zero, List.set_cons_succ, i64_w, i32_w]
         rfl
        refine take_ (i := 8) (N := some 49) (v := ?_) (a' := ?_) #[true, true, true, true, true, true, true, true, true, false, false, false, false, false, false, false, false, false, false, false, false, false] rfl rfl (take_ofW HT_.out HW_.out (by kernel_rfl)) (fun _ _ _ h => h) (Or.inl ⟨by rfl, ?_⟩) hHeld ?_ ?_
        rotate_left
        ·
         rintro w' ⟨s0, s1, s2, s3⟩
         go_simp
         with_reducible rfl
        rotate_left
        ·
         simp only [Act.put, List.setIfInBounds_toArray, List.set_cons_zero, List.set_cons_succ, i64_w, i32_w]
         rfl
        refine one_ (i := 9) (N := some 50) #[true, true, true, true, true, true, true, true, true, true, false, false, false, false, false, false, false, false, false, false, false, false] rfl rfl (one_of HT_.out (by kernel_rfl)) (by decide) (fun K hK => ?_)
        refine goes_ Try.func11 (by kernel_rfl) rfl #[.agg #[.int .i64 a0_0, .int .u64 a0_1]] (by rfl) rfl rfl (by (try simp only [List.map_toArray, List.map_cons, List.map_nil]); first | done | rfl | (simp only [List.length_drop, List.length_take]; rfl)) ?_
        with_reducible refine (clevislaw01_Num.calls k a0_0 a0_1 t443 t444 _ A42.out).mono ?_
        rintro e w55 ⟨v445, rfl, ho0, hb⟩
        refine ⟨_, rfl, ?_⟩
        have n0_ := Aside0.mk (Kd.V_below (by (with_reducible repeat (first | apply Kd.V_alloc | apply Kd.V_drewN | apply Kd.V_drew)); exact HO429.out) hb)
        have n1_ := Aside0.mk (Kd.V_below (by (with_reducible repeat (first | apply Kd.V_alloc | apply Kd.V_drewN | apply Kd.V_drew)); exact HO440.out) hb)
        have n2_ := Aside0.mk (Kd.V_lower (Kd.V_mono (ok' := fun k_ => k_ ≠ gb302 ∧ k_ ≠ gb306 ∧ k_ ≠ gb308 ∧ k_ ≠ gb310 ∧ k_ ≠ gb312) ho0 (fun k_ hk_ => ⟨(Kd.freshB (g := gb302) (o := .cells #[.int .i64 a0_0, .int .u64 a0_1] 24 (0, 0)) bk_ k_ hk_), (Kd.freshB (g := gb306) (o := .cells #[.bool t426, .slice Ao19 t427.length co19] 32 (0, 0)) bk_ k_ hk_), (Kd.freshB (g := gb308) (o := .cells #[.int .i64 t431, .int .u64 t432] 24 (0, 0)) bk_ k_ hk_), (Kd.freshB (g := gb310) (o := .cells #[.int .i64 t434, .int .u64 t435] 24 (0, 0)) bk_ k_ hk_), (Kd.freshB (g := gb312) (o := .cells #[.bool t437, .slice Ao38 t438.length co38] 32 (0, 0)) bk_ k_ hk_)⟩)) (below_size bw_))
        have n3_ := Aside0.mk (kb_ BK302 hb)
        have n4_ := Aside0.mk (kb_ BK306 hb)
        have n5_ := Aside0.mk (kb_ BK308 hb)
        have n6_ := Aside0.mk (kb_ BK310 hb)
        have n7_ := Aside0.mk (kb_ BK312 hb)
        have n8_ := Aside0.mk (below_step bw_ hb)
        clear HO429
        clear HO440
        clear BK302
        clear BK306
        clear BK308
        clear BK310
        clear BK312
        clear HB
        have HO429 := n0_
        have HO440 := n1_
        have HO446 := n2_
        have BK302 := n3_
        have BK306 := n4_
        have BK308 := n5_
        have BK310 := n6_
        have BK312 := n7_
        have HB := n8_
        clear n0_ n1_ n2_ n3_ n4_ n5_ n6_ n7_ n8_
        (try clear hb)
        (try clear hb2)
        (try clear hk)
        (try clear hi)
        (try clear ho0)
        obtain ⟨Ao56, co56, eo56⟩ := Kd.V_slice HO446.out
        (first | subst eo56 | (injection eo56 with f1_ f2_ f3_; have f4_ := f1_.symm; have f5_ := f3_.symm; clear f1_ f2_ f3_; subst f4_; subst f5_))
        refine hK.out _ _ ⟨(blk_cell BK306.out 0).trans rfl, (blk_cell BK306.out 1).trans rfl, (blk_cell BK302.out 0).trans rfl, (blk_cell BK302.out 1).trans rfl⟩ (fun hHeld => ?_)
        clear hK K
        refine norm_ (a' := ?_) ?_ ?_
        rotate_left
        ·
         show Act.put _ (some 50) _ = _
         simp only [Act.put, List.setIfInBounds_toArray, List.set_cons_zero, List.set_cons_succ, i64_w, i32_w]
         rfl
        refine one_ (i := 10) (N := some 51) #[true, true, true, true, true, true, true, true, true, true, true, false, false, false, false, false, false, false, false, false, false, false] rfl rfl (one_of HT_.out (by kernel_rfl)) (by decide) (fun K hK => ?_)
        refine goes_ Try.func16 (by kernel_rfl) rfl #[.agg #[.bool t426, .slice Ao19 t427.length co19], .agg #[.bool t443, .slice Ao56 t444.length co56]] (by rfl) rfl rfl (by (try simp only [List.map_toArray, List.map_cons, List.map_nil]); first | done | rfl | (simp only [List.length_drop, List.length_take]; rfl)) ?_
        with_reducible refine (clevisref01_Compare.calls k t426 _ _ t427 t443 _ _ t444 t447 _ ?side1 ?side2 ?side3 ?side4 A43.out).mono ?_
        (case side1 => repeat (first | exact (Kd.V_reads' HO429.out).2.2 | (with_reducible refine Kd.C_alloc ?_ _) | (with_reducible refine Kd.C_drewN ?_ _) | (with_reducible refine Kd.C_drew ?_)))
        (case side2 => exact (Kd.V_reads' HO429.out).2.1)
        (case side3 => repeat (first | exact (Kd.V_reads' HO446.out).2.2 | (with_reducible refine Kd.C_alloc ?_ _) | (with_reducible refine Kd.C_drewN ?_ _) | (with_reducible refine Kd.C_drew ?_)))
        (case side4 => exact (Kd.V_reads' HO446.out).2.1)
        rintro e w57 ⟨rfl, hb⟩
        refine ⟨_, rfl, ?_⟩
        have n0_ := Aside0.mk (Kd.V_below (by (with_reducible repeat (first | apply Kd.V_alloc | apply Kd.V_drewN | apply Kd.V_drew)); exact HO429.out) hb)
        have n1_ := Aside0.mk (Kd.V_below (by (with_reducible repeat (first | apply Kd.V_alloc | apply Kd.V_drewN | apply Kd.V_drew)); exact HO440.out) hb)
        have n2_ := Aside0.mk (Kd.V_below (by (with_reducible repeat (first | apply Kd.V_alloc | apply Kd.V_drewN | apply Kd.V_drew)); exact HO446.out) hb)
        have n3_ := Aside0.mk (kb_ BK302 hb)
        have n4_ := Aside0.mk (kb_ BK306 hb)
        have n5_ := Aside0.mk (kb_ BK308 hb)
        have n6_ := Aside0.mk (kb_ BK310 hb)
        have n7_ := Aside0.mk (kb_ BK312 hb)
        have n8_ := Aside0.mk (below_step bw_ hb)
        clear HO429
        clear HO440
        clear HO446
        clear BK302
        clear BK306
        clear BK308
        clear BK310
        clear BK312
        clear HB
        have HO429 := n0_
        have HO440 := n1_
        have HO446 := n2_
        have BK302 := n3_
        have BK306 := n4_
        have BK308 := n5_
        have BK310 := n6_
        have BK312 := n7_
        have HB := n8_
        clear n0_ n1_ n2_ n3_ n4_ n5_ n6_ n7_ n8_
        (try clear hb)
        (try clear hb2)
        (try clear hk)
        (try clear hi)
        refine hK.out _ _ ⟨(blk_cell BK306.out 0).trans rfl, (blk_cell BK306.out 1).trans rfl, (blk_cell BK302.out 0).trans rfl, (blk_cell BK302.out 1).trans rfl⟩ (fun hHeld => ?_)
        clear hK K
        refine norm_ (a' := ?_) ?_ ?_
        rotate_left
        ·
         show Act.put _ (some 51) _ = _
         simp only [Act.put, List.setIfInBounds_toArray, List.set_cons_zero, List.set_cons_succ, i64_w, i32_w]
         rfl
        refine pure_ (i := 11) (N := some 52) (v := ?_) (a' := ?_) #[true, true, true, true, true, true, true, true, true, true, true, true, false, false, false, false, false, false, false, false, false, false] rfl rfl (any_of HT_.out (by kernel_rfl)) (fun _ _ _ h => h) (Or.inl ⟨by rfl, ?_⟩) ?_ ?_
        rotate_left
        ·
         intro w'
         go_simp
         with_reducible rfl
        rotate_left
        ·
         simp only [Act.put, List.setIfInBounds_toArray, List.set_cons_zero, List.set_cons_succ, i64_w, i32_w]
         rfl
        refine pure_ (i := 12) (N := some 53) (v := ?_) (a' := ?_) #[true, true, true, true, true, true, true, true, true, true, true, true, true, false, false, false, false, false, false, false, false, false] rfl rfl (any_of HT_.out (by kernel_rfl)) (fun _ _ _ h => h) (Or.inl ⟨by rfl, ?_⟩) ?_ ?_
        rotate_left
        ·
         intro w'
         go_simp
         with_reducible rfl
        rotate_left
        ·
         simp only [Act.put, List.setIfInBounds_toArray, List.set_cons_zero, List.set_cons_succ, i64_w, i32_w]
         rfl
        refine pure_ (i := 13) (N := some 54) (v := ?_) (a' := ?_) #[true, true, true, true, true, true, true, true, true, true, true, true, true, true, false, false, false, false, false, false, false, false] rfl rfl (any_of HT_.out (by kernel_rfl)) (fun _ _ _ h => h) (Or.inl ⟨by rfl, ?_⟩) ?_ ?_
        rotate_left
        ·
         intro w'
         go_simp
         with_reducible rfl
        rotate_left
        ·
         simp only [Act.put, List.setIfInBounds_toArray, List.set_cons_zero, List.set_cons_succ, i64_w, i32_w]
         rfl
        refine pure_ (i := 14) (N := some 55) (v := ?_) (a' := ?_) #[true, true, true, true, true, true, true, true, true, true, true, true, true, true, true, false, false, false, false, false, false, false] rfl rfl (any_of HT_.out (by kernel_rfl)) (fun _ _ _ h => h) (Or.inl ⟨by rfl, ?_⟩) ?_ ?_
        rotate_left
        ·
         intro w'
         go_simp
         with_reducible rfl
        rotate_left
        ·
         simp only [Act.put, List.setIfInBounds_toArray, List.set_cons_zero, List.set_cons_succ, i64_w, i32_w]
         rfl
        refine pure_ (i := 15) (N := some 56) (v := ?_) (a' := ?_) #[true, true, true, true, true, true, true, true, true, true, true, true, true, true, true, true, false, false, false, false, false, false] rfl rfl (any_of HT_.out (by kernel_rfl)) (fun _ _ _ h => h) (Or.inl ⟨by rfl, ?_⟩) ?_ ?_
        rotate_left
        ·
         intro w'
         go_simp
         with_reducible rfl
        rotate_left
        ·
         simp only [Act.put, List.setIfInBounds_toArray, List.set_cons_zero, List.set_cons_succ, i64_w, i32_w]
         rfl
        refine pure_ (i := 16) (N := some 57) (v := ?_) (a' := ?_) #[true, true, true, true, true, true, true, true, true, true, true, true, true, true, true, true, true, false, false, false, false, false] rfl rfl (any_of HT_.out (by kernel_rfl)) (fun _ _ _ h => h) (Or.inl ⟨by rfl, ?_⟩) ?_ ?_
        rotate_left
        ·
         intro w'
         go_simp
         with_reducible rfl
        rotate_left
        ·
         simp only [Act.put, List.setIfInBounds_toArray, List.set_cons_zero, List.set_cons_succ, i64_w, i32_w]
         rfl
        refine pure_ (i := 17) (N := some 58) (v := ?_) (a' := ?_) #[true, true, true, true, true, true, true, true, true, true, true, true, true, true, true, true, true, true, false, false, false, false] rfl rfl (any_of HT_.out (by kernel_rfl)) (fun _ _ _ h => h) (Or.inl ⟨by rfl, ?_⟩) ?_ ?_
        rotate_left
        ·
         intro w'
         go_simp
         with_reducible rfl
        rotate_left
        ·
         simp only [Act.put, List.setIfInBounds_toArray, List.set_cons_zero, List.set_cons_succ, i64_w, i32_w]
         rfl
        refine pure_ (i := 18) (N := some 59) (v := undef) (a' := ?_) #[true, true, true, true, true, true, true, true, true, true, true, true, true, true, true, true, true, true, true, false, false, false] rfl rfl (any_of HT_.out (by kernel_rfl)) (fun _ _ _ h => h) (Or.inr ⟨by rfl, rfl⟩) ?_ ?_
        rotate_left
        ·
         simp only [Act.put, List.setIfInBounds_toArray, List.set_cons_zero, List.set_cons_succ, i64_w, i32_w]
         rfl
        refine pure_ (i := 19) (N := some 60) (v := undef) (a' := ?_) #[true, true, true, true, true, true, true, true, true, true, true, true, true, true, true, true, true, true, true, true, false, false] rfl rfl (any_of HT_.out (by kernel_rfl)) (fun _ _ _ h => h) (Or.inr ⟨by rfl, rfl⟩) ?_ ?_
        rotate_left
        ·
         simp only [Act.put, List.setIfInBounds_toArray, List.set_cons_zero, List.set_cons_succ, i64_w, i32_w]
         rfl
        refine pure_ (i := 20) (N := some 61) (v := undef) (a' := ?_) #[true, true, true, true, true, true, true, true, true, true, true, true, true, true, true, true, true, true, true, true, true, false] rfl rfl (any_of HT_.out (by kernel_rfl)) (fun _ _ _ h => h) (Or.inr ⟨by rfl, rfl⟩) ?_ ?_
        rotate_left
        ·
         simp only [Act.put, List.setIfInBounds_toArray, List.set_cons_zero, List.set_cons_succ, i64_w, i32_w]
         rfl
        refine pure_ (i := 21) (N := some 62) (v := ?_) (a' := ?_) #[true, true, true, true, true, true, true, true, true, true, true, true, true, true, true, true, true, true, true, true, true, true] rfl rfl (any_of HT_.out (by kernel_rfl)) (fun _ _ _ h => h) (Or.inl ⟨by rfl, ?_⟩) ?_ ?_
        rotate_left
        ·
         intro w'
         go_simp
         with_reducible rfl
        rotate_left
        ·
         simp only [Act.put, List.setIfInBounds_toArray, List.set_cons_zero, List.set_cons_succ, i64_w, i32_w]
         rfl
        refine done_ (done_of HT_.out (by kernel_rfl)) ?_
        try go_wp2
        go_meet
        case rel => exact ⟨_, (true), (by first | rfl | (simp; done) | (simp [*]; done)), H', ⟨by first | omega | exact Nat.le_refl _⟩, ⟨by (with_reducible repeat (first | apply Kd.V_alloc | apply Kd.V_drewN | apply Kd.V_drew)); exact HO429.out⟩, ⟨by (with_reducible repeat (first | apply Kd.V_alloc | apply Kd.V_drewN | apply Kd.V_drew)); exact HO440.out⟩, ⟨bk_⟩, ⟨bk_⟩, ⟨bk_⟩, ⟨bk_⟩, ⟨bk_⟩, ⟨bw_⟩⟩
      ·
       rw [if_neg c44] at H
       have c44b0 : (t447 == 0) = false := beq_eq_false_iff_ne.mpr c44
       have c44b1 : (t447 != 0) = true := bne_iff_ne.mpr c44
       (first | rw [c44b0] | (simp only [i64_w, i32_w]; rw [c44b0]) | skip)
       have H' := Aside0.mk H
       clear H
       try go_wp2
       have n0_ : Aside0 (Kd.V (Kd.int .i64) 3 ((w32.setCell ⟨gb312, 0, none⟩ (.bool t437)).setCell ⟨gb312, 1, none⟩ (.slice Ao38 t438.length co38)) w.heap.size (fun k_ => k_ ≠ gb302 ∧ k_ ≠ gb306 ∧ k_ ≠ gb308 ∧ k_ ≠ gb310 ∧ k_ ≠ gb312) (.slice Ao19 t427.length co19) t427) := ⟨by (with_reducible repeat (first | apply Kd.V_alloc | apply Kd.V_drewN | apply Kd.V_drew)); exact Kd.V_mono (Kd.V_far (p := ⟨gb312, 1, none⟩) (Kd.V_far (p := ⟨gb312, 0, none⟩) (Kd.V_mono HO429.out (fun k_ hk => (⟨hk, hk.2⟩ : _ ∧ k_ ≠ gb312))) (fun _ hk => hk.2) (.bool t437)) (fun _ hk => hk.2) (.slice Ao38 t438.length co38)) (fun _ hk => ⟨hk.1.1.1.1.1, ⟨hk.1.1.1.1.2, ⟨hk.1.1.1.2, ⟨hk.1.1.2, hk.1.2⟩⟩⟩⟩)⟩
       have n1_ : Aside0 (Kd.V (Kd.int .i64) 3 ((w32.setCell ⟨gb312, 0, none⟩ (.bool t437)).setCell ⟨gb312, 1, none⟩ (.slice Ao38 t438.length co38)) w.heap.size (fun k_ => k_ ≠ gb302 ∧ k_ ≠ gb306 ∧ k_ ≠ gb308 ∧ k_ ≠ gb310 ∧ k_ ≠ gb312) (.slice Ao38 t438.length co38) t438) := ⟨by (with_reducible repeat (first | apply Kd.V_alloc | apply Kd.V_drewN | apply Kd.V_drew)); exact Kd.V_mono (Kd.V_far (p := ⟨gb312, 1, none⟩) (Kd.V_far (p := ⟨gb312, 0, none⟩) (Kd.V_mono HO440.out (fun k_ hk => (⟨hk, hk.2⟩ : _ ∧ k_ ≠ gb312))) (fun _ hk => hk.2) (.bool t437)) (fun _ hk => hk.2) (.slice Ao38 t438.length co38)) (fun _ hk => ⟨hk.1.1.1, ⟨hk.1.1.2.1, ⟨hk.1.1.2.2.1, ⟨hk.1.1.2.2.2, hk.1.2⟩⟩⟩⟩)⟩
       have n2_ : Aside0 (((w32.setCell ⟨gb312, 0, none⟩ (.bool t437)).setCell ⟨gb312, 1, none⟩ (.slice Ao38 t438.length co38)).heap[gb302]? = some (.cells #[.int .i64 a0_0, .int .u64 a0_1] 24 (0, 0))) := ⟨bk_⟩
       have n3_ : Aside0 (((w32.setCell ⟨gb312, 0, none⟩ (.bool t437)).setCell ⟨gb312, 1, none⟩ (.slice Ao38 t438.length co38)).heap[gb306]? = some (.cells #[.bool t426, .slice Ao19 t427.length co19] 32 (0, 0))) := ⟨bk_⟩
       have n4_ : Aside0 (((w32.setCell ⟨gb312, 0, none⟩ (.bool t437)).setCell ⟨gb312, 1, none⟩ (.slice Ao38 t438.length co38)).heap[gb308]? = some (.cells #[.int .i64 t431, .int .u64 t432] 24 (0, 0))) := ⟨bk_⟩
       have n5_ : Aside0 (((w32.setCell ⟨gb312, 0, none⟩ (.bool t437)).setCell ⟨gb312, 1, none⟩ (.slice Ao38 t438.length co38)).heap[gb310]? = some (.cells #[.int .i64 t434, .int .u64 t435] 24 (0, 0))) := ⟨bk_⟩
       have n6_ : Aside0 (((w32.setCell ⟨gb312, 0, none⟩ (.bool t437)).setCell ⟨gb312, 1, none⟩ (.slice Ao38 t438.length co38)).heap[gb312]? = some (.cells #[.bool t437, .slice Ao38 t438.length co38] 32 (0, 0))) := ⟨by (with_reducible repeat (first | refine blk_drewN ?_ _ | refine blk_drew ?_ | refine blk_alloc ?_ _)); refine blk_put (cs := #[.bool t437, .slice none 0 0]) ?_ 1 _ rfl; (with_reducible repeat (first | refine blk_drewN ?_ _ | refine blk_drew ?_ | refine blk_alloc ?_ _)); refine blk_put (cs := #[.bool false, .slice none 0 0]) ?_ 0 _ rfl; (with_reducible repeat (first | refine blk_drewN ?_ _ | refine blk_drew ?_ | refine blk_alloc ?_ _)); exact BK312.out⟩
       have n7_ : Aside0 (Below w.heap.size w ((w32.setCell ⟨gb312, 0, none⟩ (.bool t437)).setCell ⟨gb312, 1, none⟩ (.slice Ao38 t438.length co38))) := ⟨bw_⟩
       (try clear HO429)
       (try clear HO440)
       (try clear BK302)
       (try clear BK306)
       (try clear BK308)
       (try clear BK310)
       (try clear BK312)
       (try clear HB)
       generalize ((w32.setCell ⟨gb312, 0, none⟩ (.bool t437)).setCell ⟨gb312, 1, none⟩ (.slice Ao38 t438.length co38)) = w58 at n0_ n1_ n2_ n3_ n4_ n5_ n6_ n7_ ⊢
       have HO429 := n0_
       have HO440 := n1_
       have BK302 := n2_
       have BK306 := n3_
       have BK308 := n4_
       have BK310 := n5_
       have BK312 := n6_
       have HB := n7_
       clear n0_ n1_ n2_ n3_ n4_ n5_ n6_ n7_
       have n0_ := Aside0.mk (Kd.V_drew HO429.out)
       have n1_ := Aside0.mk (Kd.V_drew HO440.out)
       have n2_ := Aside0.mk (blk_drew BK302.out)
       have n3_ := Aside0.mk (blk_drew BK306.out)
       have n4_ := Aside0.mk (blk_drew BK308.out)
       have n5_ := Aside0.mk (blk_drew BK310.out)
       have n6_ := Aside0.mk (blk_drew BK312.out)
       have n7_ := Aside0.mk (below_drew1 HB.out)
       clear HO429
       clear HO440
       clear BK302
       clear BK306
       clear BK308
       clear BK310
       clear BK312
       clear HB
       have HO429 := n0_
       have HO440 := n1_
       have BK302 := n2_
       have BK306 := n3_
       have BK308 := n4_
       have BK310 := n5_
       have BK312 := n6_
       have HB := n7_
       clear n0_ n1_ n2_ n3_ n4_ n5_ n6_ n7_
       refine start_ (n := 22) (S := fun w' => w'.cell? ⟨gb306, 0, none⟩ = some (.bool t426) ∧ w'.cell? ⟨gb306, 1, none⟩ = some (.slice Ao19 t427.length co19) ∧ w'.cell? ⟨gb302, 0, none⟩ = some (.int .i64 a0_0) ∧ w'.cell? ⟨gb302, 1, none⟩ = some (.int .u64 a0_1)) (ds := []) #[false, false, false, false, false, false, false, false, false, false, false, false, false, false, false, false, false, false, false, false, false, false] (by kernel_rfl) rfl rfl ⟨(blk_cell BK306.out 0).trans rfl, (blk_cell BK306.out 1).trans rfl, (blk_cell BK302.out 0).trans rfl, (blk_cell BK302.out 1).trans rfl⟩ (fun hHeld => ?_); refine with_tabW clevislaw01_FixedTexts.tab7 clevislaw01_FixedTexts.bits7 (fun HT_ HW_ => ?_)
       generalize w58.drew = w59 at HO429 HO440 BK302 BK306 BK308 BK310 BK312 HB hHeld ⊢
       refine one_ (i := 0) (N := some 41) #[true, false, false, false, false, false, false, false, false, false, false, false, false, false, false, false, false, false, false, false, false, false] rfl rfl (one_of HT_.out (by kernel_rfl)) (by decide) (fun K hK => ?_)
       refine goes_ Try.func9 (by kernel_rfl) rfl #[] (by rfl) rfl rfl (by (try simp only [List.map_toArray, List.map_cons, List.map_nil]); first | done | rfl | (simp only [List.length_drop, List.length_take]; rfl)) ?_
       with_reducible refine (clevislaw01_known.calls  true _ A39.out).mono ?_
       rintro e w60 ⟨rfl, hb⟩
       refine ⟨_, rfl, ?_⟩
       have n0_ := Aside0.mk (Kd.V_below (by (with_reducible repeat (first | apply Kd.V_alloc | apply Kd.V_drewN | apply Kd.V_drew)); exact HO429.out) hb)
       have n1_ := Aside0.mk (Kd.V_below (by (with_reducible repeat (first | apply Kd.V_alloc | apply Kd.V_drewN | apply Kd.V_drew)); exact HO440.out) hb)
       have n2_ := Aside0.mk (kb_ BK302 hb)
       have n3_ := Aside0.mk (kb_ BK306 hb)
       have n4_ := Aside0.mk (kb_ BK308 hb)
       have n5_ := Aside0.mk (kb_ BK310 hb)
       have n6_ := Aside0.mk (kb_ BK312 hb)
       have n7_ := Aside0.mk (below_step bw_ hb)
       clear HO429
       clear HO440
       clear BK302
       clear BK306
       clear BK308
       clear BK310
       clear BK312
       clear HB
       have HO429 := n0_
       have HO440 := n1_
       have BK302 := n2_
       have BK306 := n3_
       have BK308 := n4_
       have BK310 := n5_
       have BK312 := n6_
       have HB := n7_
       clear n0_ n1_ n2_ n3_ n4_ n5_ n6_ n7_
       (try clear hb)
       (try clear hb2)
       (try clear hk)
       (try clear hi)
       refine hK.out _ _ ⟨(blk_cell BK306.out 0).trans rfl, (blk_cell BK306.out 1).trans rfl, (blk_cell BK302.out 0).trans rfl, (blk_cell BK302.out 1).trans rfl⟩ (fun hHeld => ?_)
       clear hK K
       refine norm_ (a' := ?_) ?_ ?_
       rotate_left
       ·
        show Act.put _ (some 41) _ = _
        simp only [Act.put, List.setIfInBounds_toArray, List.set_cons_zero, List.set_cons_succ, i64_w, i32_w]
        rfl
       refine pure_ (i := 1) (N := some 42) (v := ?_) (a' := ?_) #[true, true, false, false, false, false, false, false, false, false, false, false, false, false, false, false, false, false, false, false, false, false] rfl rfl (any_of HT_.out (by kernel_rfl)) (fun _ _ _ h => h) (Or.inl ⟨by rfl, ?_⟩) ?_ ?_
       rotate_left
       ·
        intro w'
        go_simp
        with_reducible rfl
       rotate_left
       ·
        simp only [Act.put, List.setIfInBounds_toArray, List.set_cons_zero, List.set_cons_succ, i64_w, i32_w]
        rfl
       refine pure_ (i := 2) (N := some 43) (v := ?_) (a' := ?_) #[true, true, true, false, false, false, false, false, false, false, false, false, false, false, false, false, false, false, false, false, false, false] rfl rfl (any_of HT_.out (by kernel_rfl)) (fun _ _ _ h => h) (Or.inl ⟨by rfl, ?_⟩) ?_ ?_
       rotate_left
       ·
        intro w'
        go_simp
        with_reducible rfl
       rotate_left
       ·
        simp only [Act.put, List.setIfInBounds_toArray, List.set_cons_zero, List.set_cons_succ, i64_w, i32_w]
        rfl
       refine pure_ (i := 3) (N := some 44) (v := ?_) (a' := ?_) #[true, true, true, true, false, false, false, false, false, false, false, false, false, false, false, false, false, false, false, false, false, false] rfl rfl (any_of HT_.out (by kernel_rfl)) (fun _ _ _ h => h) (Or.inl ⟨by rfl, ?_⟩) ?_ ?_
       rotate_left
       ·
        intro w'
        go_simp
        with_reducible rfl
       rotate_left
       ·
        simp only [Act.put, List.setIfInBounds_toArray, List.set_cons_zero, List.set_cons_succ, i64_w, i32_w]
        rfl
       refine pure_ (i := 4) (N := some 45) (v := ?_) (a' := ?_) #[true, true, true, true, true, false, false, false, false, false, false, false, false, false, false, false, false, false, false, false, false, false] rfl rfl (any_of HT_.out (by kernel_rfl)) (fun _ _ _ h => h) (Or.inl ⟨by rfl, ?_⟩) ?_ ?_
       rotate_left
       ·
        intro w'
        go_simp
        with_reducible rfl
       rotate_left
       ·
        simp only [Act.put, List.setIfInBounds_toArray, List.set_cons_zero, List.set_cons_succ, i64_w, i32_w]
        rfl
       refine pure_ (i := 5) (N := some 46) (v := ?_) (a' := ?_) #[true, true, true, true, true, true, false, false, false, false, false, false, false, false, false, false, false, false, false, false, false, false] rfl rfl (any_of HT_.out (by kernel_rfl)) (fun _ _ _ h => h) (Or.inl ⟨by rfl, ?_⟩) ?_ ?_
       rotate_left
       ·
        intro w'
        go_simp
        with_reducible rfl
       rotate_left
       ·
        simp only [Act.put, List.setIfInBounds_toArray, List.set_cons_zero, List.set_cons_succ, i64_w, i32_w]
        rfl
       refine pure_ (i := 6) (N := some 47) (v := ?_) (a' := ?_) #[true, true, true, true, true, true, true, false, false, false, false, false, false, false, false, false, false, false, false, false, false, false] rfl rfl (any_of HT_.out (by kernel_rfl)) (fun _ _ _ h => h) (Or.inl ⟨by rfl, ?_⟩) ?_ ?_
       rotate_left
       ·
        intro w'
        go_simp
        with_reducible rfl
       rotate_left
       ·
        simp only [Act.put, List.setIfInBounds_toArray, List.set_cons_zero, List.set_cons_succ, i64_w, i32_w]
        rfl
       refine take_ (i := 7) (N := some 48) (v := ?_) (a' := ?_) #[true, true, true, true, true, true, true, true, false, false, false, false, false, false, false, false, false, false, false, false, false, false] rfl rfl (take_ofW HT_.out HW_.out (by kernel_rfl)) (fun _ _ _ h => h) (Or.inl ⟨by rfl, ?_⟩) hHeld ?_ ?_
       rotate_left
       ·
        rintro w' ⟨s0, s1, s2, s3⟩
        go_simp
        with_reducible rfl
       rotate_left
       ·
        simp only [Act.put, List.setIfInBounds_toArray, List.set_cons_zero, List.set_cons_succ, i64_w, i32_w]
        rfl
       refine take_ (i := 8) (N := some 49) (v := ?_) (a' := ?_) #[true, true, true, true, true, true, true, true, true, false, false, false, false, false, false, false, false, false, false, false, false, false] rfl rfl (take_ofW HT_.out HW_.out (by kernel_rfl)) (fun _ _ _ h => h) (Or.inl ⟨by rfl, ?_⟩) hHeld ?_ ?_
       rotate_left
       ·
        rintro w' ⟨s0, s1, s2, s3⟩
        go_simp
        with_reducible rfl
       rotate_left
       ·
        simp only [Act.put, List.setIfInBounds_toArray, List.set_cons_zero, List.set_cons_succ, i64_w, i32_w]
        rfl
       refine one_ (i := 9) (N := some 50) #[true, true, true, true, true, true, true, true, true, true, false, false, false, false, false, false, false, false, false, false, false, false] rfl rfl (one_of HT_.out (by kernel_rfl)) (by decide) (fun K hK => ?_)
       refine goes_ Try.func11 (by kernel_rfl) rfl #[.agg #[.int .i64 a0_0, .int .u64 a0_1]] (by rfl) rfl rfl (by (try simp only [List.map_toArray, List.map_cons, List.map_nil]); first | done | rfl | (simp only [List.length_drop, List.length_take]; rfl)) ?_
       with_reducible refine (clevislaw01_Num.calls k a0_0 a0_1 t443 t444 _ A42.out).mono ?_
       rintro e w61 ⟨v445, rfl, ho0, hb⟩
       refine ⟨_, rfl, ?_⟩
       have n0_ := Aside0.mk (Kd.V_below (by (with_reducible repeat (first | apply Kd.V_alloc | apply Kd.V_drewN | apply Kd.V_drew)); exact HO429.out) hb)
       have n1_ := Aside0.mk (Kd.V_below (by (with_reducible repeat (first | apply Kd.V_alloc | apply Kd.V_drewN | apply Kd.V_drew)); exact HO440.out) hb)
       have n2_ := Aside0.mk (Kd.V_lower (Kd.V_mono (ok' := fun k_ => k_ ≠ gb302 ∧ k_ ≠ gb306 ∧ k_ ≠ gb308 ∧ k_ ≠ gb310 ∧ k_ ≠ gb312) ho0 (fun k_ hk_ => ⟨(Kd.freshB (g := gb302) (o := .cells #[.int .i64 a0_0, .int .u64 a0_1] 24 (0, 0)) bk_ k_ hk_), (Kd.freshB (g := gb306) (o := .cells #[.bool t426, .slice Ao19 t427.length co19] 32 (0, 0)) bk_ k_ hk_), (Kd.freshB (g := gb308) (o := .cells #[.int .i64 t431, .int .u64 t432] 24 (0, 0)) bk_ k_ hk_), (Kd.freshB (g := gb310) (o := .cells #[.int .i64 t434, .int .u64 t435] 24 (0, 0)) bk_ k_ hk_), (Kd.freshB (g := gb312) (o := .cells #[.bool t437, .slice Ao38 t438.length co38] 32 (0, 0)) bk_ k_ hk_)⟩)) (below_size bw_))
       have n3_ := Aside0.mk (kb_ BK302 hb)
       have n4_ := Aside0.mk (kb_ BK306 hb)
       have n5_ := Aside0.mk (kb_ BK308 hb)
       have n6_ := Aside0.mk (kb_ BK310 hb)
       have n7_ := Aside0.mk (kb_ BK312 hb)
       have n8_ := Aside0.mk (below_step bw_ hb)
       clear HO429
       clear HO440
       clear BK302
       clear BK306
       clear BK308
       clear BK310
       clear BK312
       clear HB
       have HO429 := n0_
       have HO440 := n1_
       have HO446 := n2_
       have BK302 := n3_
       have BK306 := n4_
       have BK308 := n5_
       have BK310 := n6_
       have BK312 := n7_
       have HB := n8_
       clear n0_ n1_ n2_ n3_ n4_ n5_ n6_ n7_ n8_
       (try clear hb)
       (try clear hb2)
       (try clear hk)
       (try clear hi)
       (try clear ho0)
       obtain ⟨Ao62, co62, eo62⟩ := Kd.V_slice HO446.out
       (first | subst eo62 | (injection eo62 with f1_ f2_ f3_; have f4_ := f1_.symm; have f5_ := f3_.symm; clear f1_ f2_ f3_; subst f4_; subst f5_))
       refine hK.out _ _ ⟨(blk_cell BK306.out 0).trans rfl, (blk_cell BK306.out 1).trans rfl, (blk_cell BK302.out 0).trans rfl, (blk_cell BK302.out 1).trans rfl⟩ (fun hHeld => ?_)
       clear hK K
       refine norm_ (a' := ?_) ?_ ?_
       rotate_left
       ·
        show Act.put _ (some 50) _ = _
        simp only [Act.put, List.setIfInBounds_toArray, List.set_cons_zero, List.set_cons_succ, i64_w, i32_w]
        rfl
       refine one_ (i := 10) (N := some 51) #[true, true, true, true, true, true, true, true, true, true, true, false, false, false, false, false, false, false, false, false, false, false] rfl rfl (one_of HT_.out (by kernel_rfl)) (by decide) (fun K hK => ?_)
       refine goes_ Try.func16 (by kernel_rfl) rfl #[.agg #[.bool t426, .slice Ao19 t427.length co19], .agg #[.bool t443, .slice Ao62 t444.length co62]] (by rfl) rfl rfl (by (try simp only [List.map_toArray, List.map_cons, List.map_nil]); first | done | rfl | (simp only [List.length_drop, List.length_take]; rfl)) ?_
       with_reducible refine (clevisref01_Compare.calls k t426 _ _ t427 t443 _ _ t444 t447 _ ?side1 ?side2 ?side3 ?side4 A43.out).mono ?_
       (case side1 => repeat (first | exact (Kd.V_reads' HO429.out).2.2 | (with_reducible refine Kd.C_alloc ?_ _) | (with_reducible refine Kd.C_drewN ?_ _) | (with_reducible refine Kd.C_drew ?_)))
       (case side2 => exact (Kd.V_reads' HO429.out).2.1)
       (case side3 => repeat (first | exact (Kd.V_reads' HO446.out).2.2 | (with_reducible refine Kd.C_alloc ?_ _) | (with_reducible refine Kd.C_drewN ?_ _) | (with_reducible refine Kd.C_drew ?_)))
       (case side4 => exact (Kd.V_reads' HO446.out).2.1)
       rintro e w63 ⟨rfl, hb⟩
       refine ⟨_, rfl, ?_⟩
       have n0_ := Aside0.mk (Kd.V_below (by (with_reducible repeat (first | apply Kd.V_alloc | apply Kd.V_drewN | apply Kd.V_drew)); exact HO429.out) hb)
       have n1_ := Aside0.mk (Kd.V_below (by (with_reducible repeat (first | apply Kd.V_alloc | apply Kd.V_drewN | apply Kd.V_drew)); exact HO440.out) hb)
       have n2_ := Aside0.mk (Kd.V_below (by (with_reducible repeat (first | apply Kd.V_alloc | apply Kd.V_drewN | apply Kd.V_drew)); exact HO446.out) hb)
       have n3_ := Aside0.mk (kb_ BK302 hb)
       have n4_ := Aside0.mk (kb_ BK306 hb)
       have n5_ := Aside0.mk (kb_ BK308 hb)
       have n6_ := Aside0.mk (kb_ BK310 hb)
       have n7_ := Aside0.mk (kb_ BK312 hb)
       have n8_ := Aside0.mk (below_step bw_ hb)
       clear HO429
       clear HO440
       clear HO446
       clear BK302
       clear BK306
       clear BK308
       clear BK310
       clear BK312
       clear HB
       have HO429 := n0_
       have HO440 := n1_
       have HO446 := n2_
       have BK302 := n3_
       have BK306 := n4_
       have BK308 := n5_
       have BK310 := n6_
       have BK312 := n7_
       have HB := n8_
       clear n0_ n1_ n2_ n3_ n4_ n5_ n6_ n7_ n8_
       (try clear hb)
       (try clear hb2)
       (try clear hk)
       (try clear hi)
       refine hK.out _ _ ⟨(blk_cell BK306.out 0).trans rfl, (blk_cell BK306.out 1).trans rfl, (blk_cell BK302.out 0).trans rfl, (blk_cell BK302.out 1).trans rfl⟩ (fun hHeld => ?_)
       clear hK K
       refine norm_ (a' := ?_) ?_ ?_
       rotate_left
       ·
        show Act.put _ (some 51) _ = _
        simp only [Act.put, List.setIfInBounds_toArray, List.set_cons_zero, List.set_cons_succ, i64_w, i32_w]
        rfl
       refine pure_ (i := 11) (N := some 52) (v := ?_) (a' := ?_) #[true, true, true, true, true, true, true, true, true, true, true, true, false, false, false, false, false, false, false, false, false, false] rfl rfl (any_of HT_.out (by kernel_rfl)) (fun _ _ _ h => h) (Or.inl ⟨by rfl, ?_⟩) ?_ ?_
       rotate_left
       ·
        intro w'
        go_simp
        with_reducible rfl
       rotate_left
       ·
        simp only [Act.put, List.setIfInBounds_toArray, List.set_cons_zero, List.set_cons_succ, i64_w, i32_w]
        rfl
       refine pure_ (i := 12) (N := some 53) (v := ?_) (a' := ?_) #[true, true, true, true, true, true, true, true, true, true, true, true, true, false, false, false, false, false, false, false, false, false] rfl rfl (any_of HT_.out (by kernel_rfl)) (fun _ _ _ h => h) (Or.inl ⟨by rfl, ?_⟩) ?_ ?_
       rotate_left
       ·
        intro w'
        go_simp
        with_reducible rfl
       rotate_left
       ·
        simp only [Act.put, List.setIfInBounds_toArray, List.set_cons_zero, List.set_cons_succ, i64_w, i32_w]
        rfl
       refine pure_ (i := 13) (N := some 54) (v := ?_) (a' := ?_) #[true, true, true, true, true, true, true, true, true, true, true, true, true, true, false, false, false, false, false, false, false, false] rfl rfl (any_of HT_.out (by kernel_rfl)) (fun _ _ _ h => h) (Or.inl ⟨by rfl, ?_⟩) ?_ ?_
       rotate_left
       ·
        intro w'
        go_simp
        with_reducible rfl
       rotate_left
       ·
        simp only [Act.put, List.setIfInBounds_toArray, List.set_cons_zero, List.set_cons_succ, i64_w, i32_w]
        rfl
       refine pure_ (i := 14) (N := some 55) (v := undef) (a' := ?_) #[true, true, true, true, true, true, true, true, true, true, true, true, true, true, true, false, false, false, false, false, false, false] rfl rfl (any_of HT_.out (by kernel_rfl)) (fun _ _ _ h => h) (Or.inr ⟨by rfl, rfl⟩) ?_ ?_
       rotate_left
       ·
        simp only [Act.put, List.setIfInBounds_toArray, List.set_cons_zero, List.set_cons_succ, i64_w, i32_w]
        rfl
       refine pure_ (i := 15) (N := some 56) (v := undef) (a' := ?_) #[true, true, true, true, true, true, true, true, true, true, true, true, true, true, true, true, false, false, false, false, false, false] rfl rfl (any_of HT_.out (by kernel_rfl)) (fun _ _ _ h => h) (Or.inr ⟨by rfl, rfl⟩) ?_ ?_
       rotate_left
       ·
        simp only [Act.put, List.setIfInBounds_toArray, List.set_cons_zero, List.set_cons_succ, i64_w, i32_w]
        rfl
       refine pure_ (i := 16) (N := some 57) (v := ?_) (a' := ?_) #[true, true, true, true, true, true, true, true, true, true, true, true, true, true, true, true, true, false, false, false, false, false] rfl rfl (any_of HT_.out (by kernel_rfl)) (fun _ _ _ h => h) (Or.inl ⟨by rfl, ?_⟩) ?_ ?_
       rotate_left
       ·
        intro w'
        go_simp
        with_reducible rfl
       rotate_left
       ·
        simp only [Act.put, List.setIfInBounds_toArray, List.set_cons_zero, List.set_cons_succ, i64_w, i32_w]
        rfl
       refine pure_ (i := 17) (N := some 58) (v := ?_) (a' := ?_) #[true, true, true, true, true, true, true, true, true, true, true, true, true, true, true, true, true, true, false, false, false, false] rfl rfl (any_of HT_.out (by kernel_rfl)) (fun _ _ _ h => h) (Or.inl ⟨by rfl, ?_⟩) ?_ ?_
       rotate_left
       ·
        intro w'
        go_simp
        with_reducible rfl
       rotate_left
       ·
        simp only [Act.put, List.setIfInBounds_toArray, List.set_cons_zero, List.set_cons_succ, i64_w, i32_w]
        rfl
       refine pure_ (i := 18) (N := some 59) (v := undef) (a' := ?_) #[true, true, true, true, true, true, true, true, true, true, true, true, true, true, true, true, true, true, true, false, false, false] rfl rfl (any_of HT_.out (by kernel_rfl)) (fun _ _ _ h => h) (Or.inr ⟨by rfl, rfl⟩) ?_ ?_
       rotate_left
       ·
        simp only [Act.put, List.setIfInBounds_toArray, List.set_cons_zero, List.set_cons_succ, i64_w, i32_w]
        rfl
       refine pure_ (i := 19) (N := some 60) (v := undef) (a' := ?_) #[true, true, true, true, true, true, true, true, true, true, true, true, true, true, true, true, true, true, true, true, false, false] rfl rfl (any_of HT_.out (by kernel_rfl)) (fun _ _ _ h => h) (Or.inr ⟨by rfl, rfl⟩) ?_ ?_
       rotate_left
       ·
        simp only [Act.put, List.setIfInBounds_toArray, List.set_cons_zero, List.set_cons_succ, i64_w, i32_w]
        rfl
       refine pure_ (i := 20) (N := some 61) (v := undef) (a' := ?_) #[true, true, true, true, true, true, true, true, true, true, true, true, true, true, true, true, true, true, true, true, true, false] rfl rfl (any_of HT_.out (by kernel_rfl)) (fun _ _ _ h => h) (Or.inr ⟨by rfl, rfl⟩) ?_ ?_
       rotate_left
       ·
        simp only [Act.put, List.setIfInBounds_toArray, List.set_cons_zero, List.set_cons_succ, i64_w, i32_w]
        rfl
       refine pure_ (i := 21) (N := some 62) (v := ?_) (a' := ?_) #[true, true, true, true, true, true, true, true, true, true, true, true, true, true, true, true, true, true, true, true, true, true] rfl rfl (any_of HT_.out (by kernel_rfl)) (fun _ _ _ h => h) (Or.inl ⟨by rfl, ?_⟩) ?_ ?_
       rotate_left
       ·
        intro w'
        go_simp
        with_reducible rfl
       rotate_left
       ·
        simp only [Act.put, List.setIfInBounds_toArray, List.set_cons_zero, List.set_cons_succ, i64_w, i32_w]
        rfl
       refine done_ (done_of HT_.out (by kernel_rfl)) ?_
       try go_wp2
       go_meet
       case rel => exact ⟨_, (true), (by first | rfl | (simp; done) | (simp [*]; done)), H', ⟨by first | omega | exact Nat.le_refl _⟩, ⟨by (with_reducible repeat (first | apply Kd.V_alloc | apply Kd.V_drewN | apply Kd.V_drew)); exact HO429.out⟩, ⟨by (with_reducible repeat (first | apply Kd.V_alloc | apply Kd.V_drewN | apply Kd.V_drew)); exact HO440.out⟩, ⟨bk_⟩, ⟨bk_⟩, ⟨bk_⟩, ⟨bk_⟩, ⟨bk_⟩, ⟨bw_⟩⟩
     ·
      replace c41 := Bool.eq_false_iff.mpr c41
      subst c41
      have H1 : (clevislaw01_FixedTexts.j0 k t436 t441 true t434 t435 t437 t438) = some r := by rw [if_neg (show ¬ (false = true) by decide)] at H; exact H
      clear H
      have H := H1
      clear H1
      have H' := Aside0.mk H
      clear H
      try go_wp2
      have n0_ : Aside0 (Kd.V (Kd.int .i64) 3 ((w32.setCell ⟨gb312, 0, none⟩ (.bool t437)).setCell ⟨gb312, 1, none⟩ (.slice Ao38 t438.length co38)) w.heap.size (fun k_ => k_ ≠ gb302 ∧ k_ ≠ gb306 ∧ k_ ≠ gb308 ∧ k_ ≠ gb310 ∧ k_ ≠ gb312) (.slice Ao19 t427.length co19) t427) := ⟨by (with_reducible repeat (first | apply Kd.V_alloc | apply Kd.V_drewN | apply Kd.V_drew)); exact Kd.V_mono (Kd.V_far (p := ⟨gb312, 1, none⟩) (Kd.V_far (p := ⟨gb312, 0, none⟩) (Kd.V_mono HO429.out (fun k_ hk => (⟨hk, hk.2⟩ : _ ∧ k_ ≠ gb312))) (fun _ hk => hk.2) (.bool t437)) (fun _ hk => hk.2) (.slice Ao38 t438.length co38)) (fun _ hk => ⟨hk.1.1.1.1.1, ⟨hk.1.1.1.1.2, ⟨hk.1.1.1.2, ⟨hk.1.1.2, hk.1.2⟩⟩⟩⟩)⟩
      have n1_ : Aside0 (Kd.V (Kd.int .i64) 3 ((w32.setCell ⟨gb312, 0, none⟩ (.bool t437)).setCell ⟨gb312, 1, none⟩ (.slice Ao38 t438.length co38)) w.heap.size (fun k_ => k_ ≠ gb302 ∧ k_ ≠ gb306 ∧ k_ ≠ gb308 ∧ k_ ≠ gb310 ∧ k_ ≠ gb312) (.slice Ao38 t438.length co38) t438) := ⟨by (with_reducible repeat (first | apply Kd.V_alloc | apply Kd.V_drewN | apply Kd.V_drew)); exact Kd.V_mono (Kd.V_far (p := ⟨gb312, 1, none⟩) (Kd.V_far (p := ⟨gb312, 0, none⟩) (Kd.V_mono HO440.out (fun k_ hk => (⟨hk, hk.2⟩ : _ ∧ k_ ≠ gb312))) (fun _ hk => hk.2) (.bool t437)) (fun _ hk => hk.2) (.slice Ao38 t438.length co38)) (fun _ hk => ⟨hk.1.1.1, ⟨hk.1.1.2.1, ⟨hk.1.1.2.2.1, ⟨hk.1.1.2.2.2, hk.1.2⟩⟩⟩⟩)⟩
      have n2_ : Aside0 (((w32.setCell ⟨gb312, 0, none⟩ (.bool t437)).setCell ⟨gb312, 1, none⟩ (.slice Ao38 t438.length co38)).heap[gb302]? = some (.cells #[.int .i64 a0_0, .int .u64 a0_1] 24 (0, 0))) := ⟨bk_⟩
      have n3_ : Aside0 (((w32.setCell ⟨gb312, 0, none⟩ (.bool t437)).setCell ⟨gb312, 1, none⟩ (.slice Ao38 t438.length co38)).heap[gb306]? = some (.cells #[.bool t426, .slice Ao19 t427.length co19] 32 (0, 0))) := ⟨bk_⟩
      have n4_ : Aside0 (((w32.setCell ⟨gb312, 0, none⟩ (.bool t437)).setCell ⟨gb312, 1, none⟩ (.slice Ao38 t438.length co38)).heap[gb308]? = some (.cells #[.int .i64 t431, .int .u64 t432] 24 (0, 0))) := ⟨bk_⟩
      have n5_ : Aside0 (((w32.setCell ⟨gb312, 0, none⟩ (.bool t437)).setCell ⟨gb312, 1, none⟩ (.slice Ao38 t438.length co38)).heap[gb310]? = some (.cells #[.int .i64 t434, .int .u64 t435] 24 (0, 0))) := ⟨bk_⟩
      have n6_ : Aside0 (((w32.setCell ⟨gb312, 0, none⟩ (.bool t437)).setCell ⟨gb312, 1, none⟩ (.slice Ao38 t438.length co38)).heap[gb312]? = some (.cells #[.bool t437, .slice Ao38 t438.length co38] 32 (0, 0))) := ⟨by (with_reducible repeat (first | refine blk_drewN ?_ _ | refine blk_drew ?_ | refine blk_alloc ?_ _)); refine blk_put (cs := #[.bool t437, .slice none 0 0]) ?_ 1 _ rfl; (with_reducible repeat (first | refine blk_drewN ?_ _ | refine blk_drew ?_ | refine blk_alloc ?_ _)); refine blk_put (cs := #[.bool false, .slice none 0 0]) ?_ 0 _ rfl; (with_reducible repeat (first | refine blk_drewN ?_ _ | refine blk_drew ?_ | refine blk_alloc ?_ _)); exact BK312.out⟩
      have n7_ : Aside0 (Below w.heap.size w ((w32.setCell ⟨gb312, 0, none⟩ (.bool t437)).setCell ⟨gb312, 1, none⟩ (.slice Ao38 t438.length co38))) := ⟨bw_⟩
      (try clear HO429)
      (try clear HO440)
      (try clear BK302)
      (try clear BK306)
      (try clear BK308)
      (try clear BK310)
      (try clear BK312)
      (try clear HB)
      generalize ((w32.setCell ⟨gb312, 0, none⟩ (.bool t437)).setCell ⟨gb312, 1, none⟩ (.slice Ao38 t438.length co38)) = w64 at n0_ n1_ n2_ n3_ n4_ n5_ n6_ n7_ ⊢
      have HO429 := n0_
      have HO440 := n1_
      have BK302 := n2_
      have BK306 := n3_
      have BK308 := n4_
      have BK310 := n5_
      have BK312 := n6_
      have HB := n7_
      clear n0_ n1_ n2_ n3_ n4_ n5_ n6_ n7_
      have n0_ := Aside0.mk (Kd.V_drew HO429.out)
      have n1_ := Aside0.mk (Kd.V_drew HO440.out)
      have n2_ := Aside0.mk (blk_drew BK302.out)
      have n3_ := Aside0.mk (blk_drew BK306.out)
      have n4_ := Aside0.mk (blk_drew BK308.out)
      have n5_ := Aside0.mk (blk_drew BK310.out)
      have n6_ := Aside0.mk (blk_drew BK312.out)
      have n7_ := Aside0.mk (below_drew1 HB.out)
      clear HO429
      clear HO440
      clear BK302
      clear BK306
      clear BK308
      clear BK310
      clear BK312
      clear HB
      have HO429 := n0_
      have HO440 := n1_
      have BK302 := n2_
      have BK306 := n3_
      have BK308 := n4_
      have BK310 := n5_
      have BK312 := n6_
      have HB := n7_
      clear n0_ n1_ n2_ n3_ n4_ n5_ n6_ n7_
      refine start_ (n := 22) (S := fun w' => True) (ds := []) #[false, false, false, false, false, false, false, false, false, false, false, false, false, false, false, false, false, false, false, false, false, false] (by kernel_rfl) rfl rfl trivial (fun hHeld => ?_); refine with_tabW clevislaw01_FixedTexts.tab7 clevislaw01_FixedTexts.bits7 (fun HT_ HW_ => ?_)
      generalize w64.drew = w65 at HO429 HO440 BK302 BK306 BK308 BK310 BK312 HB hHeld ⊢
      refine one_ (i := 0) (N := some 41) #[true, false, false, false, false, false, false, false, false, false, false, false, false, false, false, false, false, false, false, false, false, false] rfl rfl (one_of HT_.out (by kernel_rfl)) (by decide) (fun K hK => ?_)
      refine goes_ Try.func9 (by kernel_rfl) rfl #[] (by rfl) rfl rfl (by (try simp only [List.map_toArray, List.map_cons, List.map_nil]); first | done | rfl | (simp only [List.length_drop, List.length_take]; rfl)) ?_
      with_reducible refine (clevislaw01_known.calls  true _ A39.out).mono ?_
      rintro e w66 ⟨rfl, hb⟩
      refine ⟨_, rfl, ?_⟩
      have n0_ := Aside0.mk (Kd.V_below (by (with_reducible repeat (first | apply Kd.V_alloc | apply Kd.V_drewN | apply Kd.V_drew)); exact HO429.out) hb)
      have n1_ := Aside0.mk (Kd.V_below (by (with_reducible repeat (first | apply Kd.V_alloc | apply Kd.V_drewN | apply Kd.V_drew)); exact HO440.out) hb)
      have n2_ := Aside0.mk (kb_ BK302 hb)
      have n3_ := Aside0.mk (kb_ BK306 hb)
      have n4_ := Aside0.mk (kb_ BK308 hb)
      have n5_ := Aside0.mk (kb_ BK310 hb)
      have n6_ := Aside0.mk (kb_ BK312 hb)
      have n7_ := Aside0.mk (below_step bw_ hb)
      clear HO429
      clear HO440
      clear BK302
      clear BK306
      clear BK308
      clear BK310
      clear BK312
      clear HB
      have HO429 := n0_
      have HO440 := n1_
      have BK302 := n2_
      have BK306 := n3_
      have BK308 := n4_
      have BK310 := n5_
      have BK312 := n6_
      have HB := n7_
      clear n0_ n1_ n2_ n3_ n4_ n5_ n6_ n7_
      (try clear hb)
      (try clear hb2)
      (try clear hk)
      (try clear hi)
      refine hK.out _ _ trivial (fun hHeld => ?_)
      clear hK K
      refine norm_ (a' := ?_) ?_ ?_
      rotate_left
      ·
       show Act.put _ (some 41) _ = _
       simp only [Act.put, List.setIfInBounds_toArray, List.set_cons_zero, List.set_cons_succ, i64_w, i32_w]
       rfl
      refine pure_ (i := 1) (N := some 42) (v := ?_) (a' := ?_) #[true, true, false, false, false, false, false, false, false, false, false, false, false, false, false, false, false, false, false, false, false, false] rfl rfl (any_of HT_.out (by kernel_rfl)) (fun _ _ _ h => h) (Or.inl ⟨by rfl, ?_⟩) ?_ ?_
      rotate_left
      ·
       intro w'
       go_simp
       with_reducible rfl
      rotate_left
      ·
       simp only [Act.put, List.setIfInBounds_toArray, List.set_cons_zero, List.set_cons_succ, i64_w, i32_w]
       rfl
      refine pure_ (i := 2) (N := some 43) (v := ?_) (a' := ?_) #[true, true, true, false, false, false, false, false, false, false, false, false, false, false, false, false, false, false, false, false, false, false] rfl rfl (any_of HT_.out (by kernel_rfl)) (fun _ _ _ h => h) (Or.inl ⟨by rfl, ?_⟩) ?_ ?_
      rotate_left
      ·
       intro w'
       go_simp
       with_reducible rfl
      rotate_left
      ·
       simp only [Act.put, List.setIfInBounds_toArray, List.set_cons_zero, List.set_cons_succ, i64_w, i32_w]
       rfl
      refine pure_ (i := 3) (N := some 44) (v := ?_) (a' := ?_) #[true, true, true, true, false, false, false, false, false, false, false, false, false, false, false, false, false, false, false, false, false, false] rfl rfl (any_of HT_.out (by kernel_rfl)) (fun _ _ _ h => h) (Or.inl ⟨by rfl, ?_⟩) ?_ ?_
      rotate_left
      ·
       intro w'
       go_simp
       with_reducible rfl
      rotate_left
      ·
       simp only [Act.put, List.setIfInBounds_toArray, List.set_cons_zero, List.set_cons_succ, i64_w, i32_w]
       rfl
      refine pure_ (i := 4) (N := some 45) (v := ?_) (a' := ?_) #[true, true, true, true, true, false, false, false, false, false, false, false, false, false, false, false, false, false, false, false, false, false] rfl rfl (any_of HT_.out (by kernel_rfl)) (fun _ _ _ h => h) (Or.inl ⟨by rfl, ?_⟩) ?_ ?_
      rotate_left
      ·
       intro w'
       go_simp
       with_reducible rfl
      rotate_left
      ·
       simp only [Act.put, List.setIfInBounds_toArray, List.set_cons_zero, List.set_cons_succ, i64_w, i32_w]
       rfl
      refine pure_ (i := 5) (N := some 46) (v := ?_) (a' := ?_) #[true, true, true, true, true, true, false, false, false, false, false, false, false, false, false, false, false, false, false, false, false, false] rfl rfl (any_of HT_.out (by kernel_rfl)) (fun _ _ _ h => h) (Or.inl ⟨by rfl, ?_⟩) ?_ ?_
      rotate_left
      ·
       intro w'
       go_simp
       with_reducible rfl
      rotate_left
      ·
       simp only [Act.put, List.setIfInBounds_toArray, List.set_cons_zero, List.set_cons_succ, i64_w, i32_w]
       rfl
      refine pure_ (i := 6) (N := some 47) (v := ?_) (a' := ?_) #[true, true, true, true, true, true, true, false, false, false, false, false, false, false, false, false, false, false, false, false, false, false] rfl rfl (any_of HT_.out (by kernel_rfl)) (fun _ _ _ h => h) (Or.inl ⟨by rfl, ?_⟩) ?_ ?_
      rotate_left
      ·
       intro w'
       go_simp
       with_reducible rfl
      rotate_left
      ·
       simp only [Act.put, List.setIfInBounds_toArray, List.set_cons_zero, List.set_cons_succ, i64_w, i32_w]
       rfl
      refine pure_ (i := 7) (N := some 48) (v := undef) (a' := ?_) #[true, true, true, true, true, true, true, true, false, false, false, false, false, false, false, false, false, false, false, false, false, false] rfl rfl (any_of HT_.out (by kernel_rfl)) (fun _ _ _ h => h) (Or.inr ⟨by rfl, rfl⟩) ?_ ?_
      rotate_left
      ·
       simp only [Act.put, List.setIfInBounds_toArray, List.set_cons_zero, List.set_cons_succ, i64_w, i32_w]
       rfl
      refine pure_ (i := 8) (N := some 49) (v := undef) (a' := ?_) #[true, true, true, true, true, true, true, true, true, false, false, false, false, false, false, false, false, false, false, false, false, false] rfl rfl (any_of HT_.out (by kernel_rfl)) (fun _ _ _ h => h) (Or.inr ⟨by rfl, rfl⟩) ?_ ?_
      rotate_left
      ·
       simp only [Act.put, List.setIfInBounds_toArray, List.set_cons_zero, List.set_cons_succ, i64_w, i32_w]
       rfl
      refine pure_ (i := 9) (N := some 50) (v := undef) (a' := ?_) #[true, true, true, true, true, true, true, true, true, true, false, false, false, false, false, false, false, false, false, false, false, false] rfl rfl (any_of HT_.out (by kernel_rfl)) (fun _ _ _ h => h) (Or.inr ⟨by rfl, rfl⟩) ?_ ?_
      rotate_left
      ·
       simp only [Act.put, List.setIfInBounds_toArray, List.set_cons_zero, List.set_cons_succ, i64_w, i32_w]
       rfl
      refine pure_ (i := 10) (N := some 51) (v := undef) (a' := ?_) #[true, true, true, true, true, true, true, true, true, true, true, false, false, false, false, false, false, false, false, false, false, false] rfl rfl (any_of HT_.out (by kernel_rfl)) (fun _ _ _ h => h) (Or.inr ⟨by rfl, rfl⟩) ?_ ?_
      rotate_left
      ·
       simp only [Act.put, List.setIfInBounds_toArray, List.set_cons_zero, List.set_cons_succ, i64_w, i32_w]
       rfl
      refine pure_ (i := 11) (N := some 52) (v := undef) (a' := ?_) #[true, true, true, true, true, true, true, true, true, true, true, true, false, false, false, false, false, false, false, false, false, false] rfl rfl (any_of HT_.out (by kernel_rfl)) (fun _ _ _ h => h) (Or.inr ⟨by rfl, rfl⟩) ?_ ?_
      rotate_left
      ·
       simp only [Act.put, List.setIfInBounds_toArray, List.set_cons_zero, List.set_cons_succ, i64_w, i32_w]
       rfl
      refine pure_ (i := 12) (N := some 53) (v := ?_) (a' := ?_) #[true, true, true, true, true, true, true, true, true, true, true, true, true, false, false, false, false, false, false, false, false, false] rfl rfl (any_of HT_.out (by kernel_rfl)) (fun _ _ _ h => h) (Or.inl ⟨by rfl, ?_⟩) ?_ ?_
      rotate_left
      ·
       intro w'
       go_simp
       with_reducible rfl
      rotate_left
      ·
       simp only [Act.put, List.setIfInBounds_toArray, List.set_cons_zero, List.set_cons_succ, i64_w, i32_w]
       rfl
      refine pure_ (i := 13) (N := some 54) (v := ?_) (a' := ?_) #[true, true, true, true, true, true, true, true, true, true, true, true, true, true, false, false, false, false, false, false, false, false] rfl rfl (any_of HT_.out (by kernel_rfl)) (fun _ _ _ h => h) (Or.inl ⟨by rfl, ?_⟩) ?_ ?_
      rotate_left
      ·
       intro w'
       go_simp
       with_reducible rfl
      rotate_left
      ·
       simp only [Act.put, List.setIfInBounds_toArray, List.set_cons_zero, List.set_cons_succ, i64_w, i32_w]
       rfl
      refine pure_ (i := 14) (N := some 55) (v := undef) (a' := ?_) #[true, true, true, true, true, true, true, true, true, true, true, true, true, true, true, false, false, false, false, false, false, false] rfl rfl (any_of HT_.out (by kernel_rfl)) (fun _ _ _ h => h) (Or.inr ⟨by rfl, rfl⟩) ?_ ?_
      rotate_left
      ·
       simp only [Act.put, List.setIfInBounds_toArray, List.set_cons_zero, List.set_cons_succ, i64_w, i32_w]
       rfl
      refine pure_ (i := 15) (N := some 56) (v := undef) (a' := ?_) #[true, true, true, true, true, true, true, true, true, true, true, true, true, true, true, true, false, false, false, false, false, false] rfl rfl (any_of HT_.out (by kernel_rfl)) (fun _ _ _ h => h) (Or.inr ⟨by rfl, rfl⟩) ?_ ?_
      rotate_left
      ·
       simp only [Act.put, List.setIfInBounds_toArray, List.set_cons_zero, List.set_cons_succ, i64_w, i32_w]
       rfl
      refine pure_ (i := 16) (N := some 57) (v := ?_) (a' := ?_) #[true, true, true, true, true, true, true, true, true, true, true, true, true, true, true, true, true, false, false, false, false, false] rfl rfl (any_of HT_.out (by kernel_rfl)) (fun _ _ _ h => h) (Or.inl ⟨by rfl, ?_⟩) ?_ ?_
      rotate_left
      ·
       intro w'
       go_simp
       with_reducible rfl
      rotate_left
      ·
       simp only [Act.put, List.setIfInBounds_toArray, List.set_cons_zero, List.set_cons_succ, i64_w, i32_w]
       rfl
      refine pure_ (i := 17) (N := some 58) (v := ?_) (a' := ?_) #[true, true, true, true, true, true, true, true, true, true, true, true, true, true, true, true, true, true, false, false, false, false] rfl rfl (any_of HT_.out (by kernel_rfl)) (fun _ _ _ h => h) (Or.inl ⟨by rfl, ?_⟩) ?_ ?_
      rotate_left
      ·
       intro w'
       go_simp
       with_reducible rfl
      rotate_left
      ·
       simp only [Act.put, List.setIfInBounds_toArray, List.set_cons_zero, List.set_cons_succ, i64_w, i32_w]
       rfl
      refine pure_ (i := 18) (N := some 59) (v := undef) (a' := ?_) #[true, true, true, true, true, true, true, true, true, true, true, true, true, true, true, true, true, true, true, false, false, false] rfl rfl (any_of HT_.out (by kernel_rfl)) (fun _ _ _ h => h) (Or.inr ⟨by rfl, rfl⟩) ?_ ?_
      rotate_left
      ·
       simp only [Act.put, List.setIfInBounds_toArray, List.set_cons_zero, List.set_cons_succ, i64_w, i32_w]
       rfl
      refine pure_ (i := 19) (N := some 60) (v := undef) (a' := ?_) #[true, true, true, true, true, true, true, true, true, true, true, true, true, true, true, true, true, true, true, true, false, false] rfl rfl (any_of HT_.out (by kernel_rfl)) (fun _ _ _ h => h) (Or.inr ⟨by rfl, rfl⟩) ?_ ?_
      rotate_left
      ·
       simp only [Act.put, List.setIfInBounds_toArray, List.set_cons_zero, List.set_cons_succ, i64_w, i32_w]
       rfl
      refine pure_ (i := 20) (N := some 61) (v := undef) (a' := ?_) #[true, true, true, true, true, true, true, true, true, true, true, true, true, true, true, true, true, true, true, true, true, false] rfl rfl (any_of HT_.out (by kernel_rfl)) (fun _ _ _ h => h) (Or.inr ⟨by rfl, rfl⟩) ?_ ?_
      rotate_left
      ·
       simp only [Act.put, List.setIfInBounds_toArray, List.set_cons_zero, List.set_cons_succ, i64_w, i32_w]
       rfl
      refine pure_ (i := 21) (N := some 62) (v := ?_) (a' := ?_) #[true, true, true, true, true, true, true, true, true, true, true, true, true, true, true, true, true, true, true, true, true, true] rfl rfl (any_of HT_.out (by kernel_rfl)) (fun _ _ _ h => h) (Or.inl ⟨by rfl, ?_⟩) ?_ ?_
      rotate_left
      ·
       intro w'
       go_simp
       with_reducible rfl
      rotate_left
      ·
       simp only [Act.put, List.setIfInBounds_toArray, List.set_cons_zero, List.set_cons_succ, i64_w, i32_w]
       rfl
      refine done_ (done_of HT_.out (by kernel_rfl)) ?_
      try go_wp2
      go_meet
      case rel => exact ⟨_, (true), (by first | rfl | (simp; done) | (simp [*]; done)), H', ⟨by first | omega | exact Nat.le_refl _⟩, ⟨by (with_reducible repeat (first | apply Kd.V_alloc | apply Kd.V_drewN | apply Kd.V_drew)); exact HO429.out⟩, ⟨by (with_reducible repeat (first | apply Kd.V_alloc | apply Kd.V_drewN | apply Kd.V_drew)); exact HO440.out⟩, ⟨bk_⟩, ⟨bk_⟩, ⟨bk_⟩, ⟨bk_⟩, ⟨bk_⟩, ⟨bw_⟩⟩
    ·
     replace c40 := Bool.eq_false_iff.mpr c40
     subst c40
     have H1 : (clevislaw01_FixedTexts.j0 k t436 t441 true t434 t435 t437 t438) = some r := by rw [if_neg (show ¬ (false = true) by decide)] at H; exact H
     clear H
     have H := H1
     clear H1
     have H' := Aside0.mk H
     clear H
     try go_wp2
     have n0_ : Aside0 (Kd.V (Kd.int .i64) 3 ((w32.setCell ⟨gb312, 0, none⟩ (.bool t437)).setCell ⟨gb312, 1, none⟩ (.slice Ao38 t438.length co38)) w.heap.size (fun k_ => k_ ≠ gb302 ∧ k_ ≠ gb306 ∧ k_ ≠ gb308 ∧ k_ ≠ gb310 ∧ k_ ≠ gb312) (.slice Ao19 t427.length co19) t427) := ⟨by (with_reducible repeat (first | apply Kd.V_alloc | apply Kd.V_drewN | apply Kd.V_drew)); exact Kd.V_mono (Kd.V_far (p := ⟨gb312, 1, none⟩) (Kd.V_far (p := ⟨gb312, 0, none⟩) (Kd.V_mono HO429.out (fun k_ hk => (⟨hk, hk.2⟩ : _ ∧ k_ ≠ gb312))) (fun _ hk => hk.2) (.bool t437)) (fun _ hk => hk.2) (.slice Ao38 t438.length co38)) (fun _ hk => ⟨hk.1.1.1.1.1, ⟨hk.1.1.1.1.2, ⟨hk.1.1.1.2, ⟨hk.1.1.2, hk.1.2⟩⟩⟩⟩)⟩
     have n1_ : Aside0 (Kd.V (Kd.int .i64) 3 ((w32.setCell ⟨gb312, 0, none⟩ (.bool t437)).setCell ⟨gb312, 1, none⟩ (.slice Ao38 t438.length co38)) w.heap.size (fun k_ => k_ ≠ gb302 ∧ k_ ≠ gb306 ∧ k_ ≠ gb308 ∧ k_ ≠ gb310 ∧ k_ ≠ gb312) (.slice Ao38 t438.length co38) t438) := ⟨by (with_reducible repeat (first | apply Kd.V_alloc | apply Kd.V_drewN | apply Kd.V_drew)); exact Kd.V_mono (Kd.V_far (p := ⟨gb312, 1, none⟩) (Kd.V_far (p := ⟨gb312, 0, none⟩) (Kd.V_mono HO440.out (fun k_ hk => (⟨hk, hk.2⟩ : _ ∧ k_ ≠ gb312))) (fun _ hk => hk.2) (.bool t437)) (fun _ hk => hk.2) (.slice Ao38 t438.length co38)) (fun _ hk => ⟨hk.1.1.1, ⟨hk.1.1.2.1, ⟨hk.1.1.2.2.1, ⟨hk.1.1.2.2.2, hk.1.2⟩⟩⟩⟩)⟩
     have n2_ : Aside0 (((w32.setCell ⟨gb312, 0, none⟩ (.bool t437)).setCell ⟨gb312, 1, none⟩ (.slice Ao38 t438.length co38)).heap[gb302]? = some (.cells #[.int .i64 a0_0, .int .u64 a0_1] 24 (0, 0))) := ⟨bk_⟩
     have n3_ : Aside0 (((w32.setCell ⟨gb312, 0, none⟩ (.bool t437)).setCell ⟨gb312, 1, none⟩ (.slice Ao38 t438.length co38)).heap[gb306]? = some (.cells #[.bool t426, .slice Ao19 t427.length co19] 32 (0, 0))) := ⟨bk_⟩
     have n4_ : Aside0 (((w32.setCell ⟨gb312, 0, none⟩ (.bool t437)).setCell ⟨gb312, 1, none⟩ (.slice Ao38 t438.length co38)).heap[gb308]? = some (.cells #[.int .i64 t431, .int .u64 t432] 24 (0, 0))) := ⟨bk_⟩
     have n5_ : Aside0 (((w32.setCell ⟨gb312, 0, none⟩ (.bool t437)).setCell ⟨gb312, 1, none⟩ (.slice Ao38 t438.length co38)).heap[gb310]? = some (.cells #[.int .i64 t434, .int .u64 t435] 24 (0, 0))) := ⟨bk_⟩
     have n6_ : Aside0 (((w32.setCell ⟨gb312, 0, none⟩ (.bool t437)).setCell ⟨gb312, 1, none⟩ (.slice Ao38 t438.length co38)).heap[gb312]? = some (.cells #[.bool t437, .slice Ao38 t438.length co38] 32 (0, 0))) := ⟨by (with_reducible repeat (first | refine blk_drewN ?_ _ | refine blk_drew ?_ | refine blk_alloc ?_ _)); refine blk_put (cs := #[.bool t437, .slice none 0 0]) ?_ 1 _ rfl; (with_reducible repeat (first | refine blk_drewN ?_ _ | refine blk_drew ?_ | refine blk_alloc ?_ _)); refine blk_put (cs := #[.bool false, .slice none 0 0]) ?_ 0 _ rfl; (with_reducible repeat (first | refine blk_drewN ?_ _ | refine blk_drew ?_ | refine blk_alloc ?_ _)); exact BK312.out⟩
     have n7_ : Aside0 (Below w.heap.size w ((w32.setCell ⟨gb312, 0, none⟩ (.bool t437)).setCell ⟨gb312, 1, none⟩ (.slice Ao38 t438.length co38))) := ⟨bw_⟩
     (try clear HO429)
     (try clear HO440)
     (try clear BK302)
     (try clear BK306)
     (try clear BK308)
     (try clear BK310)
     (try clear BK312)
     (try clear HB)
     generalize ((w32.setCell ⟨gb312, 0, none⟩ (.bool t437)).setCell ⟨gb312, 1, none⟩ (.slice Ao38 t438.length co38)) = w67 at n0_ n1_ n2_ n3_ n4_ n5_ n6_ n7_ ⊢
     have HO429 := n0_
     have HO440 := n1_
     have BK302 := n2_
     have BK306 := n3_
     have BK308 := n4_
     have BK310 := n5_
     have BK312 := n6_
     have HB := n7_
     clear n0_ n1_ n2_ n3_ n4_ n5_ n6_ n7_
     have n0_ := Aside0.mk (Kd.V_drew HO429.out)
     have n1_ := Aside0.mk (Kd.V_drew HO440.out)
     have n2_ := Aside0.mk (blk_drew BK302.out)
     have n3_ := Aside0.mk (blk_drew BK306.out)
     have n4_ := Aside0.mk (blk_drew BK308.out)
     have n5_ := Aside0.mk (blk_drew BK310.out)
     have n6_ := Aside0.mk (blk_drew BK312.out)
     have n7_ := Aside0.mk (below_drew1 HB.out)
     clear HO429
     clear HO440
     clear BK302
     clear BK306
     clear BK308
     clear BK310
     clear BK312
     clear HB
     have HO429 := n0_
     have HO440 := n1_
     have BK302 := n2_
     have BK306 := n3_
     have BK308 := n4_
     have BK310 := n5_
     have BK312 := n6_
     have HB := n7_
     clear n0_ n1_ n2_ n3_ n4_ n5_ n6_ n7_
     refine start_ (n := 22) (S := fun w' => True) (ds := []) #[false, false, false, false, false, false, false, false, false, false, false, false, false, false, false, false, false, false, false, false, false, false] (by kernel_rfl) rfl rfl trivial (fun hHeld => ?_); refine with_tabW clevislaw01_FixedTexts.tab7 clevislaw01_FixedTexts.bits7 (fun HT_ HW_ => ?_)
     generalize w67.drew = w68 at HO429 HO440 BK302 BK306 BK308 BK310 BK312 HB hHeld ⊢
     refine one_ (i := 0) (N := some 41) #[true, false, false, false, false, false, false, false, false, false, false, false, false, false, false, false, false, false, false, false, false, false] rfl rfl (one_of HT_.out (by kernel_rfl)) (by decide) (fun K hK => ?_)
     refine goes_ Try.func9 (by kernel_rfl) rfl #[] (by rfl) rfl rfl (by (try simp only [List.map_toArray, List.map_cons, List.map_nil]); first | done | rfl | (simp only [List.length_drop, List.length_take]; rfl)) ?_
     with_reducible refine (clevislaw01_known.calls  false _ A39.out).mono ?_
     rintro e w69 ⟨rfl, hb⟩
     refine ⟨_, rfl, ?_⟩
     have n0_ := Aside0.mk (Kd.V_below (by (with_reducible repeat (first | apply Kd.V_alloc | apply Kd.V_drewN | apply Kd.V_drew)); exact HO429.out) hb)
     have n1_ := Aside0.mk (Kd.V_below (by (with_reducible repeat (first | apply Kd.V_alloc | apply Kd.V_drewN | apply Kd.V_drew)); exact HO440.out) hb)
     have n2_ := Aside0.mk (kb_ BK302 hb)
     have n3_ := Aside0.mk (kb_ BK306 hb)
     have n4_ := Aside0.mk (kb_ BK308 hb)
     have n5_ := Aside0.mk (kb_ BK310 hb)
     have n6_ := Aside0.mk (kb_ BK312 hb)
     have n7_ := Aside0.mk (below_step bw_ hb)
     clear HO429
     clear HO440
     clear BK302
     clear BK306
     clear BK308
     clear BK310
     clear BK312
     clear HB
     have HO429 := n0_
     have HO440 := n1_
     have BK302 := n2_
     have BK306 := n3_
     have BK308 := n4_
     have BK310 := n5_
     have BK312 := n6_
     have HB := n7_
     clear n0_ n1_ n2_ n3_ n4_ n5_ n6_ n7_
     (try clear hb)
     (try clear hb2)
     (try clear hk)
     (try clear hi)
     refine hK.out _ _ trivial (fun hHeld => ?_)
     clear hK K
     refine norm_ (a' := ?_) ?_ ?_
     rotate_left
     ·
      show Act.put _ (some 41) _ = _
      simp only [Act.put, List.setIfInBounds_toArray, List.set_cons_zero, List.set_cons_succ, i64_w, i32_w]
      rfl
     refine pure_ (i := 1) (N := some 42) (v := ?_) (a' := ?_) #[true, true, false, false, false, false, false, false, false, false, false, false, false, false, false, false, false, false, false, false, false, false] rfl rfl (any_of HT_.out (by kernel_rfl)) (fun _ _ _ h => h) (Or.inl ⟨by rfl, ?_⟩) ?_ ?_
     rotate_left
     ·
      intro w'
      go_simp
      with_reducible rfl
     rotate_left
     ·
      simp only [Act.put, List.setIfInBounds_toArray, List.set_cons_zero, List.set_cons_succ, i64_w, i32_w]
      rfl
     refine pure_ (i := 2) (N := some 43) (v := ?_) (a' := ?_) #[true, true, true, false, false, false, false, false, false, false, false, false, false, false, false, false, false, false, false, false, false, false] rfl rfl (any_of HT_.out (by kernel_rfl)) (fun _ _ _ h => h) (Or.inl ⟨by rfl, ?_⟩) ?_ ?_
     rotate_left
     ·
      intro w'
      go_simp
      with_reducible rfl
     rotate_left
     ·
      simp only [Act.put, List.setIfInBounds_toArray, List.set_cons_zero, List.set_cons_succ, i64_w, i32_w]
      rfl
     refine pure_ (i := 3) (N := some 44) (v := undef) (a' := ?_) #[true, true, true, true, false, false, false, false, false, false, false, false, false, false, false, false, false, false, false, false, false, false] rfl rfl (any_of HT_.out (by kernel_rfl)) (fun _ _ _ h => h) (Or.inr ⟨by rfl, rfl⟩) ?_ ?_
     rotate_left
     ·
      simp only [Act.put, List.setIfInBounds_toArray, List.set_cons_zero, List.set_cons_succ, i64_w, i32_w]
      rfl
     refine pure_ (i := 4) (N := some 45) (v := undef) (a' := ?_) #[true, true, true, true, true, false, false, false, false, false, false, false, false, false, false, false, false, false, false, false, false, false] rfl rfl (any_of HT_.out (by kernel_rfl)) (fun _ _ _ h => h) (Or.inr ⟨by rfl, rfl⟩) ?_ ?_
     rotate_left
     ·
      simp only [Act.put, List.setIfInBounds_toArray, List.set_cons_zero, List.set_cons_succ, i64_w, i32_w]
      rfl
     refine pure_ (i := 5) (N := some 46) (v := ?_) (a' := ?_) #[true, true, true, true, true, true, false, false, false, false, false, false, false, false, false, false, false, false, false, false, false, false] rfl rfl (any_of HT_.out (by kernel_rfl)) (fun _ _ _ h => h) (Or.inl ⟨by rfl, ?_⟩) ?_ ?_
     rotate_left
     ·
      intro w'
      go_simp
      with_reducible rfl
     rotate_left
     ·
      simp only [Act.put, List.setIfInBounds_toArray, List.set_cons_zero, List.set_cons_succ, i64_w, i32_w]
      rfl
     refine pure_ (i := 6) (N := some 47) (v := ?_) (a' := ?_) #[true, true, true, true, true, true, true, false, false, false, false, false, false, false, false, false, false, false, false, false, false, false] rfl rfl (any_of HT_.out (by kernel_rfl)) (fun _ _ _ h => h) (Or.inl ⟨by rfl, ?_⟩) ?_ ?_
     rotate_left
     ·
      intro w'
      go_simp
      with_reducible rfl
     rotate_left
     ·
      simp only [Act.put, List.setIfInBounds_toArray, List.set_cons_zero, List.set_cons_succ, i64_w, i32_w]
      rfl
     refine pure_ (i := 7) (N := some 48) (v := undef) (a' := ?_) #[true, true, true, true, true, true, true, true, false, false, false, false, false, false, false, false, false, false, false, false, false, false] rfl rfl (any_of HT_.out (by kernel_rfl)) (fun _ _ _ h => h) (Or.inr ⟨by rfl, rfl⟩) ?_ ?_
     rotate_left
     ·
      simp only [Act.put, List.setIfInBounds_toArray, List.set_cons_zero, List.set_cons_succ, i64_w, i32_w]
      rfl
     refine pure_ (i := 8) (N := some 49) (v := undef) (a' := ?_) #[true, true, true, true, true, true, true, true, true, false, false, false, false, false, false, false, false, false, false, false, false, false] rfl rfl (any_of HT_.out (by kernel_rfl)) (fun _ _ _ h => h) (Or.inr ⟨by rfl, rfl⟩) ?_ ?_
     rotate_left
     ·
      simp only [Act.put, List.setIfInBounds_toArray, List.set_cons_zero, List.set_cons_succ, i64_w, i32_w]
      rfl
     refine pure_ (i := 9) (N := some 50) (v := undef) (a' := ?_) #[true, true, true, true, true, true, true, true, true, true, false, false, false, false, false, false, false, false, false, false, false, false] rfl rfl (any_of HT_.out (by kernel_rfl)) (fun _ _ _ h => h) (Or.inr ⟨by rfl, rfl⟩) ?_ ?_
     rotate_left
     ·
      simp only [Act.put, List.setIfInBounds_toArray, List.set_cons_zero, List.set_cons_succ, i64_w, i32_w]
      rfl
     refine pure_ (i := 10) (N := some 51) (v := undef) (a' := ?_) #[true, true, true, true, true, true, true, true, true, true, true, false, false, false, false, false, false, false, false, false, false, false] rfl rfl (any_of HT_.out (by kernel_rfl)) (fun _ _ _ h => h) (Or.inr ⟨by rfl, rfl⟩) ?_ ?_
     rotate_left
     ·
      simp only [Act.put, List.setIfInBounds_toArray, List.set_cons_zero, List.set_cons_succ, i64_w, i32_w]
      rfl
     refine pure_ (i := 11) (N := some 52) (v := undef) (a' := ?_) #[true, true, true, true, true, true, true, true, true, true, true, true, false, false, false, false, false, false, false, false, false, false] rfl rfl (any_of HT_.out (by kernel_rfl)) (fun _ _ _ h => h) (Or.inr ⟨by rfl, rfl⟩) ?_ ?_
     rotate_left
     ·
      simp only [Act.put, List.setIfInBounds_toArray, List.set_cons_zero, List.set_cons_succ, i64_w, i32_w]
      rfl
     refine pure_ (i := 12) (N := some 53) (v := ?_) (a' := ?_) #[true, true, true, true, true, true, true, true, true, true, true, true, true, false, false, false, false, false, false, false, false, false] rfl rfl (any_of HT_.out (by kernel_rfl)) (fun _ _ _ h => h) (Or.inl ⟨by rfl, ?_⟩) ?_ ?_
     rotate_left
     ·
      intro w'
      go_simp
      with_reducible rfl
     rotate_left
     ·
      simp only [Act.put, List.setIfInBounds_toArray, List.set_cons_zero, List.set_cons_succ, i64_w, i32_w]
      rfl
     refine pure_ (i := 13) (N := some 54) (v := ?_) (a' := ?_) #[true, true, true, true, true, true, true, true, true, true, true, true, true, true, false, false, false, false, false, false, false, false] rfl rfl (any_of HT_.out (by kernel_rfl)) (fun _ _ _ h => h) (Or.inl ⟨by rfl, ?_⟩) ?_ ?_
     rotate_left
     ·
      intro w'
      go_simp
      with_reducible rfl
     rotate_left
     ·
      simp only [Act.put, List.setIfInBounds_toArray, List.set_cons_zero, List.set_cons_succ, i64_w, i32_w]
      rfl
     refine pure_ (i := 14) (N := some 55) (v := undef) (a' := ?_) #[true, true, true, true, true, true, true, true, true, true, true, true, true, true, true, false, false, false, false, false, false, false] rfl rfl (any_of HT_.out (by kernel_rfl)) (fun _ _ _ h => h) (Or.inr ⟨by rfl, rfl⟩) ?_ ?_
     rotate_left
     ·
      simp only [Act.put, List.setIfInBounds_toArray, List.set_cons_zero, List.set_cons_succ, i64_w, i32_w]
      rfl
     refine pure_ (i := 15) (N := some 56) (v := undef) (a' := ?_) #[true, true, true, true, true, true, true, true, true, true, true, true, true, true, true, true, false, false, false, false, false, false] rfl rfl (any_of HT_.out (by kernel_rfl)) (fun _ _ _ h => h) (Or.inr ⟨by rfl, rfl⟩) ?_ ?_
     rotate_left
     ·
      simp only [Act.put, List.setIfInBounds_toArray, List.set_cons_zero, List.set_cons_succ, i64_w, i32_w]
      rfl
     refine pure_ (i := 16) (N := some 57) (v := ?_) (a' := ?_) #[true, true, true, true, true, true, true, true, true, true, true, true, true, true, true, true, true, false, false, false, false, false] rfl rfl (any_of HT_.out (by kernel_rfl)) (fun _ _ _ h => h) (Or.inl ⟨by rfl, ?_⟩) ?_ ?_
     rotate_left
     ·
      intro w'
      go_simp
      with_reducible rfl
     rotate_left
     ·
      simp only [Act.put, List.setIfInBounds_toArray, List.set_cons_zero, List.set_cons_succ, i64_w, i32_w]
      rfl
     refine pure_ (i := 17) (N := some 58) (v := ?_) (a' := ?_) #[true, true, true, true, true, true, true, true, true, true, true, true, true, true, true, true, true, true, false, false, false, false] rfl rfl (any_of HT_.out (by kernel_rfl)) (fun _ _ _ h => h) (Or.inl ⟨by rfl, ?_⟩) ?_ ?_
     rotate_left
     ·
      intro w'
      go_simp
      with_reducible rfl
     rotate_left
     ·
      simp only [Act.put, List.setIfInBounds_toArray, List.set_cons_zero, List.set_cons_succ, i64_w, i32_w]
      rfl
     refine pure_ (i := 18) (N := some 59) (v := undef) (a' := ?_) #[true, true, true, true, true, true, true, true, true, true, true, true, true, true, true, true, true, true, true, false, false, false] rfl rfl (any_of HT_.out (by kernel_rfl)) (fun _ _ _ h => h) (Or.inr ⟨by rfl, rfl⟩) ?_ ?_
     rotate_left
     ·
      simp only [Act.put, List.setIfInBounds_toArray, List.set_cons_zero, List.set_cons_succ, i64_w, i32_w]
      rfl
     refine pure_ (i := 19) (N := some 60) (v := undef) (a' := ?_) #[true, true, true, true, true, true, true, true, true, true, true, true, true, true, true, true, true, true, true, true, false, false] rfl rfl (any_of HT_.out (by kernel_rfl)) (fun _ _ _ h => h) (Or.inr ⟨by rfl, rfl⟩) ?_ ?_
     rotate_left
     ·
      simp only [Act.put, List.setIfInBounds_toArray, List.set_cons_zero, List.set_cons_succ, i64_w, i32_w]
      rfl
     refine pure_ (i := 20) (N := some 61) (v := undef) (a' := ?_) #[true, true, true, true, true, true, true, true, true, true, true, true, true, true, true, true, true, true, true, true, true, false] rfl rfl (any_of HT_.out (by kernel_rfl)) (fun _ _ _ h => h) (Or.inr ⟨by rfl, rfl⟩) ?_ ?_
     rotate_left
     ·
      simp only [Act.put, List.setIfInBounds_toArray, List.set_cons_zero, List.set_cons_succ, i64_w, i32_w]
      rfl
     refine pure_ (i := 21) (N := some 62) (v := ?_) (a' := ?_) #[true, true, true, true, true, true, true, true, true, true, true, true, true, true, true, true, true, true, true, true, true, true] rfl rfl (any_of HT_.out (by kernel_rfl)) (fun _ _ _ h => h) (Or.inl ⟨by rfl, ?_⟩) ?_ ?_
     rotate_left
     ·
      intro w'
      go_simp
      with_reducible rfl
     rotate_left
     ·
      simp only [Act.put, List.setIfInBounds_toArray, List.set_cons_zero, List.set_cons_succ, i64_w, i32_w]
      rfl
     refine done_ (done_of HT_.out (by kernel_rfl)) ?_
     try go_wp2
     go_meet
     case rel => exact ⟨_, (true), (by first | rfl | (simp; done) | (simp [*]; done)), H', ⟨by first | omega | exact Nat.le_refl _⟩, ⟨by (with_reducible repeat (first | apply Kd.V_alloc | apply Kd.V_drewN | apply Kd.V_drew)); exact HO429.out⟩, ⟨by (with_reducible repeat (first | apply Kd.V_alloc | apply Kd.V_drewN | apply Kd.V_drew)); exact HO440.out⟩, ⟨bk_⟩, ⟨bk_⟩, ⟨bk_⟩, ⟨bk_⟩, ⟨bk_⟩, ⟨bw_⟩⟩
   case rest =>
    clear HC11
    try clear c1
    try clear p2
    try clear c4
    try clear c9
    try clear c16
    try clear c40
    try clear c41
    obtain ⟨kq, x62_10, rfl, HA, HJ10, HO_307001, HO_313001, BK302, BK306, BK308, BK310, BK312, HB⟩ := hcut
    cases kq with
    | zero => exact absurd HA.out (by simp [clevislaw01_FixedTexts.j0])
    | succ kj10 =>
     have H := HA.out
     clear HA
     simp only [clevislaw01_FixedTexts.j0] at H
     by_cases c70 : x62_10 = true
     ·
      subst c70
      have H1 : (some false) = some r := by rw [if_pos rfl] at H; exact H
      clear H
      have H := H1
      clear H1
      obtain rfl := Option.some.inj H
      go_wp2
      go_ret
      exact ⟨by first | rfl | (simp [errW_none, errW_some] <;> rfl) | (simp only [← hji3]; first | rfl | (simp [errW_none, errW_some] <;> rfl)) | (simp [*, errW_none, errW_some] <;> rfl), bw_⟩
     ·
      replace c70 := Bool.eq_false_iff.mpr c70
      subst c70
      have H1 : (if t441 = true then ((clevislaw01_wide.f kj10 t434 t435 t436 t437 t438).bind fun t448 => (some t448)) else (if t436 = 3 then (some (t434 == 0 && (t435 == 0))) else (some false))) = some r := by rw [if_neg (show ¬ (false = true) by decide)] at H; exact H
      clear H
      have H := H1
      clear H1
      by_cases c71 : t441 = true
      ·
       subst c71
       have H1 : ((clevislaw01_wide.f kj10 t434 t435 t436 t437 t438).bind fun t448 => (some t448)) = some r := by rw [if_pos rfl] at H; exact H
       clear H
       have H := H1
       clear H1
       replace H := Option.bind_eq_some_iff.mp H
       obtain ⟨t448, A720, H⟩ := H
       replace H : (some t448) = some r := H
       have A72 := Aside0.mk A720
       clear A720
       obtain rfl := Option.some.inj H
       have hnb73 := NB310_302.out
       have hnc73 := NB302_310.out
       have hnb74 := NB310_306.out
       have hnc74 := NB306_310.out
       have hnb75 := NB310_308.out
       have hnc75 := NB308_310.out
       have hnb76 := NB310_312.out
       have hnc76 := NB312_310.out
       have hcz77_0 : wc.cell? ⟨gb310, 0, none⟩ = some (.int .i64 t434) := (blk_cell BK310.out 0).trans rfl
       have hcz77_1 : wc.cell? ⟨gb310, 1, none⟩ = some (.int .u64 t435) := (blk_cell BK310.out 1).trans rfl
       have hfz77_0 := blk_frozen BK310.out 0
       have hfz77_1 := blk_frozen BK310.out 1
       have hnb78 := NB312_302.out
       have hnc78 := NB302_312.out
       have hnb79 := NB312_306.out
       have hnc79 := NB306_312.out
       have hnb80 := NB312_308.out
       have hnc80 := NB308_312.out
       have hcz81_0 : wc.cell? ⟨gb312, 0, none⟩ = some (.bool t437) := (blk_cell BK312.out 0).trans rfl
       have hcz81_1 : wc.cell? ⟨gb312, 1, none⟩ = some (.slice Ao38 t438.length co38) := (blk_cell BK312.out 1).trans rfl
       have hfz81_0 := blk_frozen BK312.out 0
       have hfz81_1 := blk_frozen BK312.out 1
       go_wp2_with (((with_reducible refine gate_callee (f := 17) rfl ?_); refine goesL_ (some 75) rfl rfl Try.func17 (by kernel_rfl) rfl #[.agg #[.int .i64 t434, .int .u64 t435], .int .i64 t436, .agg #[.bool t437, .slice Ao38 t438.length co38]] rfl (by (try simp only [List.map_toArray, List.map_cons, List.map_nil]); first | done | rfl | (simp only [List.length_drop, List.length_take]; rfl)) ?_; (with_reducible refine (clevislaw01_wide.calls kj10 t434 t435 t436 t437 _ _ t438 t448 _ ?side1 ?side2 A72.out).mono ?_); (case side1 => repeat (first | exact (Kd.V_reads' HO_313001.out).2.2 | (with_reducible refine Kd.C_alloc ?_ _) | (with_reducible refine Kd.C_drewN ?_ _) | (with_reducible refine Kd.C_drew ?_))); (case side2 => exact (Kd.V_reads' HO_313001.out).2.1); rintro e w82 ⟨rfl, hb⟩; refine ⟨_, rfl, ?_⟩; have n0_ := Aside0.mk (Kd.V_below (by (with_reducible repeat (first | apply Kd.V_alloc | apply Kd.V_drewN | apply Kd.V_drew)); exact HO_307001.out) hb); have n1_ := Aside0.mk (Kd.V_below (by (with_reducible repeat (first | apply Kd.V_alloc | apply Kd.V_drewN | apply Kd.V_drew)); exact HO_313001.out) hb); have n2_ := Aside0.mk (kb_ BK302 hb); have n3_ := Aside0.mk (kb_ BK306 hb); have n4_ := Aside0.mk (kb_ BK308 hb); have n5_ := Aside0.mk (kb_ BK310 hb); have n6_ := Aside0.mk (kb_ BK312 hb); have n7_ := Aside0.mk (below_step bw_ hb); clear HO_307001; clear HO_313001; clear BK302; clear BK306; clear BK308; clear BK310; clear BK312; clear HB; have HO_307001 := n0_; have HO_313001 := n1_; have BK302 := n2_; have BK306 := n3_; have BK308 := n4_; have BK310 := n5_; have BK312 := n6_; have HB := n7_; clear n0_ n1_ n2_ n3_ n4_ n5_ n6_ n7_; (try clear hb); (try clear hb2); (try clear hk); (try clear hi)))
       go_ret
       exact ⟨by first | rfl | (simp [errW_none, errW_some] <;> rfl) | (simp only [← hji3]; first | rfl | (simp [errW_none, errW_some] <;> rfl)) | (simp [*, errW_none, errW_some] <;> rfl), bw_⟩
      ·
       replace c71 := Bool.eq_false_iff.mpr c71
       subst c71
       have H1 : (if t436 = 3 then (some (t434 == 0 && (t435 == 0))) else (some false)) = some r := by rw [if_neg (show ¬ (false = true) by decide)] at H; exact H
       clear H
       have H := H1
       clear H1
       by_cases c83 : t436 = 3
       ·
        rw [if_pos c83] at H
        have c83b0 : (t436 == 3) = true := beq_iff_eq.mpr c83
        have c83b1 : (t436 != 3) = false := bne_eq_false_iff_eq.mpr c83
        clear c83
        obtain rfl := Option.some.inj H
        have hnb84 := NB310_302.out
        have hnc84 := NB302_310.out
        have hnb85 := NB310_306.out
        have hnc85 := NB306_310.out
        have hnb86 := NB310_308.out
        have hnc86 := NB308_310.out
        have hnb87 := NB310_312.out
        have hnc87 := NB312_310.out
        have hcz88_0 : wc.cell? ⟨gb310, 0, none⟩ = some (.int .i64 t434) := (blk_cell BK310.out 0).trans rfl
        have hcz88_1 : wc.cell? ⟨gb310, 1, none⟩ = some (.int .u64 t435) := (blk_cell BK310.out 1).trans rfl
        have hfz88_0 := blk_frozen BK310.out 0
        have hfz88_1 := blk_frozen BK310.out 1
        go_wp2
        go_ret
        exact ⟨by first | rfl | (simp [errW_none, errW_some] <;> rfl) | (simp only [← hji3]; first | rfl | (simp [errW_none, errW_some] <;> rfl)) | (simp [*, errW_none, errW_some] <;> rfl), bw_⟩
       ·
        rw [if_neg c83] at H
        have c83b0 : (t436 == 3) = false := beq_eq_false_iff_ne.mpr c83
        have c83b1 : (t436 != 3) = true := bne_iff_ne.mpr c83
        obtain rfl := Option.some.inj H
        go_wp2
        go_ret
        exact ⟨by first | rfl | (simp [errW_none, errW_some] <;> rfl) | (simp only [← hji3]; first | rfl | (simp [errW_none, errW_some] <;> rfl)) | (simp [*, errW_none, errW_some] <;> rfl), bw_⟩
  ·
   rw [if_neg c5] at H
   exact absurd H (by simp)
 ·
  rw [if_neg c4] at H
  exact absurd H (by simp)
end Go.Proofs.Ytjbcigiffihjaaa.Fx
end
