/- Texts of this seat, put together (ZD16). -/
import Derived.Test.YtjbcigiffihjaaaZD3
import Derived.Test.YtjbcigiffihjaaaZD5
import Derived.Test.YtjbcigiffihjaaaZD6
import Derived.Test.YtjbcigiffihjaaaZD8
import Derived.Test.YtjbcigiffihjaaaZD14
section
namespace Go.Proofs.Ytjbcigiffihjaaa.Fx
open Go.RowKit Go.Proofs.YtjbcigiffihjaaaW.PrintWords Go.Proofs.YtjbcigiffihjaaaW.PrintLast Go.Proofs.YtjbcigiffihjaaaW.PrintMore
attribute [local go_sem] max2_int min2_int max_two min_two max_three min_three max_four min_four   -- for this text's walks alone
set_option linter.unusedVariables false
set_option linter.unusedSimpArgs false
attribute [local go_sem] run_add64_any
attribute [local go_sem high] eqA24
def clevislaw01_FixedDivides.j0 : Nat → Int → Int → Int → Bool → Int → Int → Int → Int → Option (Bool)
 | 0, _, _, _, _, _, _, _, _ => none
 | k + 1, x1, x2, x8, x25, x304000, x304001, x308000, x308001 => if x25 = true then ((clevislaw01_known.f).bind fun t362 => (if t362 = true then (if x8 = 1 then (some (x308000 == 0 && (x308001 == 0))) else (some false)) else (some false))) else (if x8 = 4 then ((clevislaw01_known.f).bind fun t363 => (if t363 = true then (if (x304000 == (-9223372036854775808) && (x304001 == 0)) = true then (if x1 = (-1) then (some (x308000 == 0 && (x308001 == 0))) else (some false)) else (some false)) else (some false))) else ((clevislaw01_known.f).bind fun t364 => (if t364 = true then (if x8 = 0 then ((clevislaw01_Num.f k x304000 x304001).bind fun bt365 => ((clevisref01_Narrow.f k x1).bind fun bt369 => ((clevislaw01_Num.f k x308000 x308001).bind fun bt373 => ((clevisref01_Rounded.f k bt365.1 bt365.2 bt369.1 bt369.2 bt373.1 bt373.2 x2).bind fun t377 => (some t377))))) else (some false)) else (some false))))
def clevislaw01_FixedDivides.f (k : Nat) (a0_0 : Int) (a0_1 : Int) (a1 : Int) (a2 : Int) : Option (Bool) := (fixed_Divide.f k a0_0 a0_1 a1 a2).bind fun bt359 => (if a1 = 0 then (clevislaw01_FixedDivides.j0 k a1 a2 bt359.2.2 true a0_0 a0_1 bt359.1 bt359.2.1) else (if a2 < 0 then (clevislaw01_FixedDivides.j0 k a1 a2 bt359.2.2 true a0_0 a0_1 bt359.1 bt359.2.1) else (clevislaw01_FixedDivides.j0 k a1 a2 bt359.2.2 (decide (a2 > 3)) a0_0 a0_1 bt359.1 bt359.2.1)))
def clevislaw01_FixedDivides.T6 : Bool × List (List Nat × List Nat) := (true, [([], []), ([0, 0], [0]), ([1], [1]), ([2, 1], [1, 2]), ([1, 3], [1, 3]), ([4, 1], [4]), ([5], [5]), ([6, 5, 5], [5, 6]), ([5], [5]), ([8, 7, 5], [5, 8]), ([5], [5]), ([10, 9, 5], [5, 10]), ([5], [5]), ([7, 9, 11, 12, 11, 5], [5, 7, 9, 11, 12]), ([5, 13], [5, 13]), ([14, 13, 0, 1, 2, 3, 4, 5, 6, 7, 8, 9, 10, 11, 12, 13, 14], [14])])
def clevislaw01_FixedDivides.B6 : List Nat := [0, 1, 3, 7, 15, 31, 63, 127, 63, 511, 63, 2047, 63, 8191, 16383, 32767]
theorem clevislaw01_FixedDivides.tab6 : rtab .any (opsOf Try.f3 6) = clevislaw01_FixedDivides.T6 := by kernel_rfl
theorem clevislaw01_FixedDivides.bits6 : waitsOk clevislaw01_FixedDivides.T6.2 clevislaw01_FixedDivides.B6 = true := by kernel_rfl
set_option maxHeartbeats 8000000 in
set_option maxRecDepth 100000 in
theorem clevislaw01_FixedDivides.calls (k : Nat) (a0_0 : Int) (a0_1 : Int) (a1 : Int) (a2 : Int) (r : Bool) (w : World) (h : clevislaw01_FixedDivides.f k a0_0 a0_1 a1 a2 = some r) :
  Calls Try.prog 3 #[.agg #[.int .i64 a0_0, .int .u64 a0_1], .int .i64 a1, .int .i64 a2] w fun e w' => e = .returned (.bool r) ∧ Below w.heap.size w w' := by
 have hu24 := Try.underlying24
 have HB := A_ (Below.refl w.heap.size w)
 have H : ((fixed_Divide.f k a0_0 a0_1 a1 a2).bind fun bt359 => (if a1 = 0 then (clevislaw01_FixedDivides.j0 k a1 a2 bt359.2.2 true a0_0 a0_1 bt359.1 bt359.2.1) else (if a2 < 0 then (clevislaw01_FixedDivides.j0 k a1 a2 bt359.2.2 true a0_0 a0_1 bt359.1 bt359.2.1) else (clevislaw01_FixedDivides.j0 k a1 a2 bt359.2.2 (decide (a2 > 3)) a0_0 a0_1 bt359.1 bt359.2.1)))) = some r := h
 clear h
 replace H := os_ H
 obtain ⟨⟨t359, t360, t361⟩, A40, H⟩ := H
 replace H : (if a1 = 0 then (clevislaw01_FixedDivides.j0 k a1 a2 t361 true a0_0 a0_1 t359 t360) else (if a2 < 0 then (clevislaw01_FixedDivides.j0 k a1 a2 t361 true a0_0 a0_1 t359 t360) else (clevislaw01_FixedDivides.j0 k a1 a2 t361 (decide (a2 > 3)) a0_0 a0_1 t359 t360))) = some r := H
 have A4 := A_ A40
 clear A40
 have HC5 := A_ H
 clear H
 go_enter Try.func3, Try.ntmps3
 go_upto_region 2 with (first | ((with_reducible refine gate_dst (N := 3) rfl ?_); refine box_event ?hg (N := 3) ?hd (cs := #[.int .i64 a0_0, .int .u64 a0_1]) (t := 24) ?hr ?_; (case hd => rfl); (case hg => rfl); (case hr => first | (go_simp; done) | (go_simp; rfl)); intro gb303 hg w6 hbox hb; have n0_ := A_ (bs_ bw_ hb); have n1_ := A_ (hbox); have n2_ := A_ ((by rw [hg]; exact (bz_ bw_) : w.heap.size ≤ gb303)); have n3_ := A_ ((by rw [hg]; exact (bz_ bw_) : w.heap.size ≤ gb303)); clear HB; have HB := n0_; have BK303 := n1_; have GW303 := n2_; have GE303 := n3_; clear n0_ n1_ n2_ n3_; clear hb hbox hg; have hcz7_0 : w6.cell? ⟨gb303, 0, none⟩ = some (.int .i64 a0_0) := (bc_ BK303.out 0).trans rfl; have hcz7_1 : w6.cell? ⟨gb303, 1, none⟩ = some (.int .u64 a0_1) := (bc_ BK303.out 1).trans rfl; have hfz7_0 := bf_ BK303.out 0; have hfz7_1 := bf_ BK303.out 1) | ((with_reducible refine gate_callee (f := 8) rfl ?_); refine goesL_ (some 13) rfl rfl Try.func8 (by kernel_rfl) rfl #[.agg #[.int .i64 a0_0, .int .u64 a0_1], .int .i64 a1, .int .i64 a2] rfl (by (try simp only [List.map_toArray, List.map_cons, List.map_nil]); first | done | rfl | (simp only [List.length_drop, List.length_take]; rfl)) ?_; (with_reducible refine (fixed_Divide.calls k a0_0 a0_1 a1 a2 t359 t360 t361 _ A4.out).mono ?_); rintro e w8 ⟨rfl, hb⟩; refine ⟨_, rfl, ?_⟩; have n0_ := A_ (kb_ BK303 hb); have n1_ := A_ (bs_ bw_ hb); clear BK303; clear HB; have BK303 := n0_; have HB := n1_; clear n0_ n1_; (try clear hb); (try clear hb2); (try clear hk); (try clear hi)) | ((with_reducible refine gate_dst (N := 7) rfl ?_); refine box_event ?hg (N := 7) ?hd (cs := #[.int .i64 0, .int .u64 0]) (t := 24) ?hr ?_; (case hd => rfl); (case hg => rfl); (case hr => first | (go_simp; done) | (go_simp; rfl)); intro gb307 hg w9 hbox hb; have n0_ := A_ (kb_ BK303 hb); have n1_ := A_ (bs_ bw_ hb); have n2_ := A_ (hbox); have n3_ := A_ ((by rw [hg]; exact (bz_ bw_) : w.heap.size ≤ gb307)); have n4_ := A_ ((by rw [hg]; exact (bz_ bw_) : w.heap.size ≤ gb307)); have n5_ := A_ ((by rw [hg]; exact nl_ (lt_ BK303) : gb303 ≠ gb307)); have n6_ := A_ ((by rw [hg]; exact ng_ (lt_ BK303) : gb307 ≠ gb303)); clear BK303; clear HB; have BK303 := n0_; have HB := n1_; have BK307 := n2_; have GW307 := n3_; have GE307 := n4_; have NB303_307 := n5_; have NB307_303 := n6_; clear n0_ n1_ n2_ n3_ n4_ n5_ n6_; clear hb hbox hg; have hnb10 := NB307_303.out; have hnc10 := NB303_307.out; have hcz11_0 : w9.cell? ⟨gb307, 0, none⟩ = some (.int .i64 0) := (bc_ BK307.out 0).trans rfl; have hcz11_1 : w9.cell? ⟨gb307, 1, none⟩ = some (.int .u64 0) := (bc_ BK307.out 1).trans rfl; have hfz11_0 := bf_ BK307.out 0; have hfz11_1 := bf_ BK307.out 1))
 (try simp only [Act.put, sA_, sZ_, sS_])
 go_cut [25] (fun v25 wc => ∃ (kq : Nat) (x25_4 : Bool), v25 = .bool x25_4 ∧ Aside0 (clevislaw01_FixedDivides.j0 kq a1 a2 t361 x25_4 a0_0 a0_1 t359 t360 = some r) ∧ Aside0 (kq ≤ k) ∧ Aside0 (wc.heap[gb303]? = some (.cells #[.int .i64 a0_0, .int .u64 a0_1] 24 (0, 0))) ∧ Aside0 (wc.heap[gb307]? = some (.cells #[.int .i64 t359, .int .u64 t360] 24 (0, 0))) ∧ Aside0 (Below w.heap.size w wc))
 case first =>
  have H := HC5.out
  clear HC5
  by_cases c12 : a1 = 0
  ·
   rw [if_pos c12] at H
   have c12b0 : (a1 == 0) = true := q1_ c12
   have c12b1 : (a1 != 0) = false := q3_ c12
   clear c12
   (first | rw [c12b0] | (simp only [i64_w, i32_w]; rw [c12b0]) | skip)
   have H' := A_ H
   clear H
   go_wp2
   go_meet
   case rel => exact ⟨_, (true), (by first | rfl | (simp; done) | (simp [*]; done)), H', ⟨by first | omega | exact Nat.le_refl _⟩, ⟨bk_⟩, ⟨by (with_reducible repeat (first | refine bn_ ?_ _ | refine bd_ ?_ | refine ba_ ?_ _)); refine bp_ (cs := #[.int .i64 t359, .int .u64 0]) ?_ 1 _ rfl; (with_reducible repeat (first | refine bn_ ?_ _ | refine bd_ ?_ | refine ba_ ?_ _)); refine bp_ (cs := #[.int .i64 0, .int .u64 0]) ?_ 0 _ rfl; (with_reducible repeat (first | refine bn_ ?_ _ | refine bd_ ?_ | refine ba_ ?_ _)); exact BK307.out⟩, ⟨bw_⟩⟩
  ·
   rw [if_neg c12] at H
   have c12b0 : (a1 == 0) = false := q4_ c12
   have c12b1 : (a1 != 0) = true := q2_ c12
   (first | rw [c12b0] | (simp only [i64_w, i32_w]; rw [c12b0]) | skip)
   by_cases c13 : a2 < 0
   ·
    rw [if_pos c13] at H
    have c13b0 : decide (a2 < 0) = true := decide_eq_true c13
    clear c13
    have H' := A_ H
    clear H
    go_wp2
    go_meet
    case rel => exact ⟨_, (true), (by first | rfl | (simp; done) | (simp [*]; done)), H', ⟨by first | omega | exact Nat.le_refl _⟩, ⟨bk_⟩, ⟨by (with_reducible repeat (first | refine bn_ ?_ _ | refine bd_ ?_ | refine ba_ ?_ _)); refine bp_ (cs := #[.int .i64 t359, .int .u64 0]) ?_ 1 _ rfl; (with_reducible repeat (first | refine bn_ ?_ _ | refine bd_ ?_ | refine ba_ ?_ _)); refine bp_ (cs := #[.int .i64 0, .int .u64 0]) ?_ 0 _ rfl; (with_reducible repeat (first | refine bn_ ?_ _ | refine bd_ ?_ | refine ba_ ?_ _)); exact BK307.out⟩, ⟨bw_⟩⟩
   ·
    rw [if_neg c13] at H
    have c13b0 : decide (a2 < 0) = false := decide_eq_false c13
    clear c13
    have H' := A_ H
    clear H
    go_wp2
    go_meet
    case rel => exact ⟨_, (decide (a2 > 3)), (by first | rfl | (simp; done) | (simp [*]; done)), H', ⟨by first | omega | exact Nat.le_refl _⟩, ⟨bk_⟩, ⟨by (with_reducible repeat (first | refine bn_ ?_ _ | refine bd_ ?_ | refine ba_ ?_ _)); refine bp_ (cs := #[.int .i64 t359, .int .u64 0]) ?_ 1 _ rfl; (with_reducible repeat (first | refine bn_ ?_ _ | refine bd_ ?_ | refine ba_ ?_ _)); refine bp_ (cs := #[.int .i64 0, .int .u64 0]) ?_ 0 _ rfl; (with_reducible repeat (first | refine bn_ ?_ _ | refine bd_ ?_ | refine ba_ ?_ _)); exact BK307.out⟩, ⟨bw_⟩⟩
 case rest =>
  clear HC5
  try clear c1
  try clear p2
  try clear c3
  try clear c8
  try clear c10
  try clear c12
  try clear c12b0
  try clear c12b1
  try clear c13
  try clear c13b0
  try clear hcz11_0
  try clear hcz11_1
  try clear hcz7_0
  try clear hcz7_1
  try clear hfz11_0
  try clear hfz11_1
  try clear hfz7_0
  try clear hfz7_1
  obtain ⟨kq, x25_4, rfl, HA, HJ4, BK303, BK307, HB⟩ := hcut
  cases kq with
  | zero => exact absurd HA.out (by simp [clevislaw01_FixedDivides.j0])
  | succ kj4 =>
   have H := HA.out
   clear HA
   simp only [clevislaw01_FixedDivides.j0] at H
   by_cases c14 : x25_4 = true
   ·
    subst c14
    have H1 : ((clevislaw01_known.f).bind fun t362 => (if t362 = true then (if t361 = 1 then (some (t359 == 0 && (t360 == 0))) else (some false)) else (some false))) = some r := by rw [if_pos rfl] at H; exact H
    clear H
    have H := H1
    clear H1
    replace H := os_ H
    obtain ⟨t362, A150, H⟩ := H
    replace H : (if t362 = true then (if t361 = 1 then (some (t359 == 0 && (t360 == 0))) else (some false)) else (some false)) = some r := H
    have A15 := A_ A150
    clear A150
    by_cases c16 : t362 = true
    ·
     subst c16
     have H1 : (if t361 = 1 then (some (t359 == 0 && (t360 == 0))) else (some false)) = some r := by rw [if_pos rfl] at H; exact H
     clear H
     have H := H1
     clear H1
     by_cases c17 : t361 = 1
     ·
      rw [if_pos c17] at H
      have c17b0 : (t361 == 1) = true := q1_ c17
      have c17b1 : (t361 != 1) = false := q3_ c17
      clear c17
      obtain rfl := Option.some.inj H
      go_wp2_with (((with_reducible refine gate_callee (f := 9) rfl ?_); refine goesL_ (some 26) rfl rfl Try.func9 (by kernel_rfl) rfl #[] rfl (by (try simp only [List.map_toArray, List.map_cons, List.map_nil]); first | done | rfl | (simp only [List.length_drop, List.length_take]; rfl)) ?_; (with_reducible refine (clevislaw01_known.calls  true _ A15.out).mono ?_); rintro e w18 ⟨rfl, hb⟩; refine ⟨_, rfl, ?_⟩; have n0_ := A_ (kb_ BK303 hb); have n1_ := A_ (kb_ BK307 hb); have n2_ := A_ (bs_ bw_ hb); clear BK303; clear BK307; clear HB; have BK303 := n0_; have BK307 := n1_; have HB := n2_; clear n0_ n1_ n2_; (try clear hb); (try clear hb2); (try clear hk); (try clear hi); have hnb19 := NB307_303.out; have hnc19 := NB303_307.out; have hcz20_0 : w18.cell? ⟨gb307, 0, none⟩ = some (.int .i64 t359) := (bc_ BK307.out 0).trans rfl; have hcz20_1 : w18.cell? ⟨gb307, 1, none⟩ = some (.int .u64 t360) := (bc_ BK307.out 1).trans rfl; have hfz20_0 := bf_ BK307.out 0; have hfz20_1 := bf_ BK307.out 1))
      go_ret
      exact ⟨by first | rfl | (simp [errW_none, errW_some] <;> rfl) | (simp [*, errW_none, errW_some] <;> rfl), bw_⟩
     ·
      rw [if_neg c17] at H
      have c17b0 : (t361 == 1) = false := q4_ c17
      have c17b1 : (t361 != 1) = true := q2_ c17
      obtain rfl := Option.some.inj H
      go_wp2_with (((with_reducible refine gate_callee (f := 9) rfl ?_); refine goesL_ (some 26) rfl rfl Try.func9 (by kernel_rfl) rfl #[] rfl (by (try simp only [List.map_toArray, List.map_cons, List.map_nil]); first | done | rfl | (simp only [List.length_drop, List.length_take]; rfl)) ?_; (with_reducible refine (clevislaw01_known.calls  true _ A15.out).mono ?_); rintro e w21 ⟨rfl, hb⟩; refine ⟨_, rfl, ?_⟩; have n0_ := A_ (kb_ BK303 hb); have n1_ := A_ (kb_ BK307 hb); have n2_ := A_ (bs_ bw_ hb); clear BK303; clear BK307; clear HB; have BK303 := n0_; have BK307 := n1_; have HB := n2_; clear n0_ n1_ n2_; (try clear hb); (try clear hb2); (try clear hk); (try clear hi)))
      go_ret
      exact ⟨by first | rfl | (simp [errW_none, errW_some] <;> rfl) | (simp [*, errW_none, errW_some] <;> rfl), bw_⟩
    ·
     replace c16 := Bool.eq_false_iff.mpr c16
     subst c16
     have H1 : (some false) = some r := by rw [if_neg (show ¬ (false = true) by decide)] at H; exact H
     clear H
     have H := H1
     clear H1
     obtain rfl := Option.some.inj H
     go_wp2_with (((with_reducible refine gate_callee (f := 9) rfl ?_); refine goesL_ (some 26) rfl rfl Try.func9 (by kernel_rfl) rfl #[] rfl (by (try simp only [List.map_toArray, List.map_cons, List.map_nil]); first | done | rfl | (simp only [List.length_drop, List.length_take]; rfl)) ?_; (with_reducible refine (clevislaw01_known.calls  false _ A15.out).mono ?_); rintro e w22 ⟨rfl, hb⟩; refine ⟨_, rfl, ?_⟩; have n0_ := A_ (kb_ BK303 hb); have n1_ := A_ (kb_ BK307 hb); have n2_ := A_ (bs_ bw_ hb); clear BK303; clear BK307; clear HB; have BK303 := n0_; have BK307 := n1_; have HB := n2_; clear n0_ n1_ n2_; (try clear hb); (try clear hb2); (try clear hk); (try clear hi)))
     go_ret
     exact ⟨by first | rfl | (simp [errW_none, errW_some] <;> rfl) | (simp [*, errW_none, errW_some] <;> rfl), bw_⟩
   ·
    replace c14 := Bool.eq_false_iff.mpr c14
    subst c14
    have H1 : (if t361 = 4 then ((clevislaw01_known.f).bind fun t363 => (if t363 = true then (if (a0_0 == (-9223372036854775808) && (a0_1 == 0)) = true then (if a1 = (-1) then (some (t359 == 0 && (t360 == 0))) else (some false)) else (some false)) else (some false))) else ((clevislaw01_known.f).bind fun t364 => (if t364 = true then (if t361 = 0 then ((clevislaw01_Num.f kj4 a0_0 a0_1).bind fun bt365 => ((clevisref01_Narrow.f kj4 a1).bind fun bt369 => ((clevislaw01_Num.f kj4 t359 t360).bind fun bt373 => ((clevisref01_Rounded.f kj4 bt365.1 bt365.2 bt369.1 bt369.2 bt373.1 bt373.2 a2).bind fun t377 => (some t377))))) else (some false)) else (some false)))) = some r := by rw [if_neg (show ¬ (false = true) by decide)] at H; exact H
    clear H
    have H := H1
    clear H1
    by_cases c23 : t361 = 4
    ·
     rw [if_pos c23] at H
     have c23b0 : (t361 == 4) = true := q1_ c23
     have c23b1 : (t361 != 4) = false := q3_ c23
     clear c23
     replace H := os_ H
     obtain ⟨t363, A240, H⟩ := H
     replace H : (if t363 = true then (if (a0_0 == (-9223372036854775808) && (a0_1 == 0)) = true then (if a1 = (-1) then (some (t359 == 0 && (t360 == 0))) else (some false)) else (some false)) else (some false)) = some r := H
     have A24 := A_ A240
     clear A240
     by_cases c25 : t363 = true
     ·
      subst c25
      have H1 : (if (a0_0 == (-9223372036854775808) && (a0_1 == 0)) = true then (if a1 = (-1) then (some (t359 == 0 && (t360 == 0))) else (some false)) else (some false)) = some r := by rw [if_pos rfl] at H; exact H
      clear H
      have H := H1
      clear H1
      by_cases c26 : (a0_0 == (-9223372036854775808) && (a0_1 == 0)) = true
      ·
       rw [if_pos c26] at H
       have c26b0 : (a0_0 == (-9223372036854775808) && (a0_1 == 0)) = true := c26
       (try (have c26b1 : decide (a0_0 = (-9223372036854775808) && (a0_1 == 0)) = true := by simpa using c26))
       (try (have c26b2 : (a0_0 == (-9223372036854775808) && (a0_1 == 0)) = true := by simpa using c26))
       clear c26
       by_cases c27 : a1 = (-1)
       ·
        rw [if_pos c27] at H
        have c27b0 : (a1 == (-1)) = true := q1_ c27
        have c27b1 : (a1 != (-1)) = false := q3_ c27
        clear c27
        obtain rfl := Option.some.inj H
        go_wp2_with (((with_reducible refine gate_callee (f := 9) rfl ?_); refine goesL_ (some 38) rfl rfl Try.func9 (by kernel_rfl) rfl #[] rfl (by (try simp only [List.map_toArray, List.map_cons, List.map_nil]); first | done | rfl | (simp only [List.length_drop, List.length_take]; rfl)) ?_; (with_reducible refine (clevislaw01_known.calls  true _ A24.out).mono ?_); rintro e w28 ⟨rfl, hb⟩; refine ⟨_, rfl, ?_⟩; have n0_ := A_ (kb_ BK303 hb); have n1_ := A_ (kb_ BK307 hb); have n2_ := A_ (bs_ bw_ hb); clear BK303; clear BK307; clear HB; have BK303 := n0_; have BK307 := n1_; have HB := n2_; clear n0_ n1_ n2_; (try clear hb); (try clear hb2); (try clear hk); (try clear hi); have hnb29 := NB303_307.out; have hnc29 := NB307_303.out; have hcz30_0 : w28.cell? ⟨gb303, 0, none⟩ = some (.int .i64 a0_0) := (bc_ BK303.out 0).trans rfl; have hcz30_1 : w28.cell? ⟨gb303, 1, none⟩ = some (.int .u64 a0_1) := (bc_ BK303.out 1).trans rfl; have hfz30_0 := bf_ BK303.out 0; have hfz30_1 := bf_ BK303.out 1; have hcz31_0 : w28.cell? ⟨gb307, 0, none⟩ = some (.int .i64 t359) := (bc_ BK307.out 0).trans rfl; have hcz31_1 : w28.cell? ⟨gb307, 1, none⟩ = some (.int .u64 t360) := (bc_ BK307.out 1).trans rfl; have hfz31_0 := bf_ BK307.out 0; have hfz31_1 := bf_ BK307.out 1))
        go_ret
        exact ⟨by first | rfl | (simp [errW_none, errW_some] <;> rfl) | (simp [*, errW_none, errW_some] <;> rfl), bw_⟩
       ·
        rw [if_neg c27] at H
        have c27b0 : (a1 == (-1)) = false := q4_ c27
        have c27b1 : (a1 != (-1)) = true := q2_ c27
        obtain rfl := Option.some.inj H
        go_wp2_with (((with_reducible refine gate_callee (f := 9) rfl ?_); refine goesL_ (some 38) rfl rfl Try.func9 (by kernel_rfl) rfl #[] rfl (by (try simp only [List.map_toArray, List.map_cons, List.map_nil]); first | done | rfl | (simp only [List.length_drop, List.length_take]; rfl)) ?_; (with_reducible refine (clevislaw01_known.calls  true _ A24.out).mono ?_); rintro e w32 ⟨rfl, hb⟩; refine ⟨_, rfl, ?_⟩; have n0_ := A_ (kb_ BK303 hb); have n1_ := A_ (kb_ BK307 hb); have n2_ := A_ (bs_ bw_ hb); clear BK303; clear BK307; clear HB; have BK303 := n0_; have BK307 := n1_; have HB := n2_; clear n0_ n1_ n2_; (try clear hb); (try clear hb2); (try clear hk); (try clear hi); have hnb33 := NB303_307.out; have hnc33 := NB307_303.out; have hcz34_0 : w32.cell? ⟨gb303, 0, none⟩ = some (.int .i64 a0_0) := (bc_ BK303.out 0).trans rfl; have hcz34_1 : w32.cell? ⟨gb303, 1, none⟩ = some (.int .u64 a0_1) := (bc_ BK303.out 1).trans rfl; have hfz34_0 := bf_ BK303.out 0; have hfz34_1 := bf_ BK303.out 1))
        go_ret
        exact ⟨by first | rfl | (simp [errW_none, errW_some] <;> rfl) | (simp [*, errW_none, errW_some] <;> rfl), bw_⟩
      ·
       rw [if_neg c26] at H
       have c26b0 : (a0_0 == (-9223372036854775808) && (a0_1 == 0)) = false := by simpa using c26
       (try (have c26b1 : decide (a0_0 = (-9223372036854775808) && (a0_1 == 0)) = false := by simpa using c26))
       (try (have c26b2 : (a0_0 == (-9223372036854775808) && (a0_1 == 0)) = false := by simpa using c26))
       (try (have c26b3 : ¬ (a0_0 = (-9223372036854775808) && (a0_1 == 0)) := by simpa using c26))
       clear c26
       obtain rfl := Option.some.inj H
       go_wp2_with (((with_reducible refine gate_callee (f := 9) rfl ?_); refine goesL_ (some 38) rfl rfl Try.func9 (by kernel_rfl) rfl #[] rfl (by (try simp only [List.map_toArray, List.map_cons, List.map_nil]); first | done | rfl | (simp only [List.length_drop, List.length_take]; rfl)) ?_; (with_reducible refine (clevislaw01_known.calls  true _ A24.out).mono ?_); rintro e w35 ⟨rfl, hb⟩; refine ⟨_, rfl, ?_⟩; have n0_ := A_ (kb_ BK303 hb); have n1_ := A_ (kb_ BK307 hb); have n2_ := A_ (bs_ bw_ hb); clear BK303; clear BK307; clear HB; have BK303 := n0_; have BK307 := n1_; have HB := n2_; clear n0_ n1_ n2_; (try clear hb); (try clear hb2); (try clear hk); (try clear hi); have hnb36 := NB303_307.out; have hnc36 := NB307_303.out; have hcz37_0 : w35.cell? ⟨gb303, 0, none⟩ = some (.int .i64 a0_0) := (bc_ BK303.out 0).trans rfl; have hcz37_1 : w35.cell? ⟨gb303, 1, none⟩ = some (.int .u64 a0_1) := (bc_ BK303.out 1).trans rfl; have hfz37_0 := bf_ BK303.out 0; have hfz37_1 := bf_ BK303.out 1))
       go_ret
       exact ⟨by first | rfl | (simp [errW_none, errW_some] <;> rfl) | (simp [*, errW_none, errW_some] <;> rfl), bw_⟩
     ·
      replace c25 := Bool.eq_false_iff.mpr c25
      subst c25
      have H1 : (some false) = some r := by rw [if_neg (show ¬ (false = true) by decide)] at H; exact H
      clear H
      have H := H1
      clear H1
      obtain rfl := Option.some.inj H
      go_wp2_with (((with_reducible refine gate_callee (f := 9) rfl ?_); refine goesL_ (some 38) rfl rfl Try.func9 (by kernel_rfl) rfl #[] rfl (by (try simp only [List.map_toArray, List.map_cons, List.map_nil]); first | done | rfl | (simp only [List.length_drop, List.length_take]; rfl)) ?_; (with_reducible refine (clevislaw01_known.calls  false _ A24.out).mono ?_); rintro e w38 ⟨rfl, hb⟩; refine ⟨_, rfl, ?_⟩; have n0_ := A_ (kb_ BK303 hb); have n1_ := A_ (kb_ BK307 hb); have n2_ := A_ (bs_ bw_ hb); clear BK303; clear BK307; clear HB; have BK303 := n0_; have BK307 := n1_; have HB := n2_; clear n0_ n1_ n2_; (try clear hb); (try clear hb2); (try clear hk); (try clear hi)))
      go_ret
      exact ⟨by first | rfl | (simp [errW_none, errW_some] <;> rfl) | (simp [*, errW_none, errW_some] <;> rfl), bw_⟩
    ·
     rw [if_neg c23] at H
     have c23b0 : (t361 == 4) = false := q4_ c23
     have c23b1 : (t361 != 4) = true := q2_ c23
     replace H := os_ H
     obtain ⟨t364, A390, H⟩ := H
     replace H : (if t364 = true then (if t361 = 0 then ((clevislaw01_Num.f kj4 a0_0 a0_1).bind fun bt365 => ((clevisref01_Narrow.f kj4 a1).bind fun bt369 => ((clevislaw01_Num.f kj4 t359 t360).bind fun bt373 => ((clevisref01_Rounded.f kj4 bt365.1 bt365.2 bt369.1 bt369.2 bt373.1 bt373.2 a2).bind fun t377 => (some t377))))) else (some false)) else (some false)) = some r := H
     have A39 := A_ A390
     clear A390
     by_cases c40 : t364 = true
     ·
      subst c40
      have H1 : (if t361 = 0 then ((clevislaw01_Num.f kj4 a0_0 a0_1).bind fun bt365 => ((clevisref01_Narrow.f kj4 a1).bind fun bt369 => ((clevislaw01_Num.f kj4 t359 t360).bind fun bt373 => ((clevisref01_Rounded.f kj4 bt365.1 bt365.2 bt369.1 bt369.2 bt373.1 bt373.2 a2).bind fun t377 => (some t377))))) else (some false)) = some r := by rw [if_pos rfl] at H; exact H
      clear H
      have H := H1
      clear H1
      by_cases c41 : t361 = 0
      ·
       rw [if_pos c41] at H
       have c41b0 : (t361 == 0) = true := q1_ c41
       have c41b1 : (t361 != 0) = false := q3_ c41
       clear c41
       replace H := os_ H
       obtain ⟨⟨t365, t366⟩, A420, H⟩ := H
       replace H : ((clevisref01_Narrow.f kj4 a1).bind fun bt369 => ((clevislaw01_Num.f kj4 t359 t360).bind fun bt373 => ((clevisref01_Rounded.f kj4 t365 t366 bt369.1 bt369.2 bt373.1 bt373.2 a2).bind fun t377 => (some t377)))) = some r := H
       have A42 := A_ A420
       clear A420
       replace H := os_ H
       obtain ⟨⟨t369, t370⟩, A430, H⟩ := H
       replace H : ((clevislaw01_Num.f kj4 t359 t360).bind fun bt373 => ((clevisref01_Rounded.f kj4 t365 t366 t369 t370 bt373.1 bt373.2 a2).bind fun t377 => (some t377))) = some r := H
       have A43 := A_ A430
       clear A430
       replace H := os_ H
       obtain ⟨⟨t373, t374⟩, A440, H⟩ := H
       replace H : ((clevisref01_Rounded.f kj4 t365 t366 t369 t370 t373 t374 a2).bind fun t377 => (some t377)) = some r := H
       have A44 := A_ A440
       clear A440
       replace H := os_ H
       obtain ⟨t377, A450, H⟩ := H
       replace H : (some t377) = some r := H
       have A45 := A_ A450
       clear A450
       obtain rfl := Option.some.inj H
       try go_wp2
       have n0_ := A_ (bd_ BK303.out)
       have n1_ := A_ (bd_ BK307.out)
       have n2_ := A_ (b1_ HB.out)
       clear BK303
       clear BK307
       clear HB
       have BK303 := n0_
       have BK307 := n1_
       have HB := n2_
       clear n0_ n1_ n2_
       refine start_ (n := 16) (S := fun w' => w'.cell? ⟨gb303, 0, none⟩ = some (.int .i64 a0_0) ∧ w'.cell? ⟨gb303, 1, none⟩ = some (.int .u64 a0_1) ∧ w'.cell? ⟨gb307, 0, none⟩ = some (.int .i64 t359) ∧ w'.cell? ⟨gb307, 1, none⟩ = some (.int .u64 t360)) (ds := []) #[false, false, false, false, false, false, false, false, false, false, false, false, false, false, false, false] (by kernel_rfl) rfl rfl ⟨(bc_ BK303.out 0).trans rfl, (bc_ BK303.out 1).trans rfl, (bc_ BK307.out 0).trans rfl, (bc_ BK307.out 1).trans rfl⟩ (fun hHeld => ?_); refine with_tabW clevislaw01_FixedDivides.tab6 clevislaw01_FixedDivides.bits6 (fun HT_ HW_ => ?_)
       generalize wc.drew = w46 at BK303 BK307 HB hHeld ⊢
       refine one_ (i := 0) (N := some 53) #[true, false, false, false, false, false, false, false, false, false, false, false, false, false, false, false] rfl rfl (one_of HT_.out (by kernel_rfl)) (by decide) (fun K hK => ?_)
       refine goes_ Try.func9 (by kernel_rfl) rfl #[] (by rfl) rfl rfl (by (try simp only [List.map_toArray, List.map_cons, List.map_nil]); first | done | rfl | (simp only [List.length_drop, List.length_take]; rfl)) ?_
       with_reducible refine (clevislaw01_known.calls  true _ A39.out).mono ?_
       rintro e w47 ⟨rfl, hb⟩
       refine ⟨_, rfl, ?_⟩
       have n0_ := A_ (kb_ BK303 hb)
       have n1_ := A_ (kb_ BK307 hb)
       have n2_ := A_ (bs_ bw_ hb)
       clear BK303
       clear BK307
       clear HB
       have BK303 := n0_
       have BK307 := n1_
       have HB := n2_
       clear n0_ n1_ n2_
       (try clear hb)
       (try clear hb2)
       (try clear hk)
       (try clear hi)
       refine hK.out _ _ ⟨(bc_ BK303.out 0).trans rfl, (bc_ BK303.out 1).trans rfl, (bc_ BK307.out 0).trans rfl, (bc_ BK307.out 1).trans rfl⟩ (fun hHeld => ?_)
       clear hK K
       refine norm_ (a' := ?_) ?_ ?_
       rotate_left
       ·
        show Act.put _ (some 53) _ = _
        simp only [Act.put, sA_, sZ_, sS_, i64_w, i32_w]
        rfl
       refine pure_ (i := 1) (N := some 54) (v := ?_) (a' := ?_) #[true, true, false, false, false, false, false, false, false, false, false, false, false, false, false, false] rfl rfl (any_of HT_.out (by kernel_rfl)) (fun _ _ _ h => h) (Or.inl ⟨by rfl, ?_⟩) ?_ ?_
       rotate_left
       ·
        intro w'
        go_simp
        with_reducible rfl
       rotate_left
       ·
        simp only [Act.put, sA_, sZ_, sS_, i64_w, i32_w]
        rfl
       refine pure_ (i := 2) (N := some 55) (v := ?_) (a' := ?_) #[true, true, true, false, false, false, false, false, false, false, false, false, false, false, false, false] rfl rfl (any_of HT_.out (by kernel_rfl)) (fun _ _ _ h => h) (Or.inl ⟨by rfl, ?_⟩) ?_ ?_
       rotate_left
       ·
        intro w'
        go_simp
        with_reducible rfl
       rotate_left
       ·
        simp only [Act.put, sA_, sZ_, sS_, i64_w, i32_w]
        rfl
       refine pure_ (i := 3) (N := some 56) (v := ?_) (a' := ?_) #[true, true, true, true, false, false, false, false, false, false, false, false, false, false, false, false] rfl rfl (any_of HT_.out (by kernel_rfl)) (fun _ _ _ h => h) (Or.inl ⟨by rfl, ?_⟩) ?_ ?_
       rotate_left
       ·
        intro w'
        go_simp
        with_reducible rfl
       rotate_left
       ·
        simp only [Act.put, sA_, sZ_, sS_, i64_w, i32_w]
        rfl
       refine pure_ (i := 4) (N := some 57) (v := ?_) (a' := ?_) #[true, true, true, true, true, false, false, false, false, false, false, false, false, false, false, false] rfl rfl (any_of HT_.out (by kernel_rfl)) (fun _ _ _ h => h) (Or.inl ⟨by rfl, ?_⟩) ?_ ?_
       rotate_left
       ·
        intro w'
        go_simp
        with_reducible rfl
       rotate_left
       ·
        simp only [Act.put, sA_, sZ_, sS_, i64_w, i32_w]
        rfl
       refine pure_ (i := 5) (N := some 58) (v := ?_) (a' := ?_) #[true, true, true, true, true, true, false, false, false, false, false, false, false, false, false, false] rfl rfl (any_of HT_.out (by kernel_rfl)) (fun _ _ _ h => h) (Or.inl ⟨by rfl, ?_⟩) ?_ ?_
       rotate_left
       ·
        intro w'
        go_simp
        with_reducible rfl
       rotate_left
       ·
        simp only [Act.put, sA_, sZ_, sS_, i64_w, i32_w]
        rfl
       refine pure_ (i := 8) (N := some 61) (v := ?_) (a' := ?_) #[true, true, true, true, true, true, false, false, true, false, false, false, false, false, false, false] rfl rfl (any_of HT_.out (by kernel_rfl)) (fun _ _ _ h => h) (Or.inl ⟨by rfl, ?_⟩) ?_ ?_
       rotate_left
       ·
        intro w'
        go_simp
        with_reducible rfl
       rotate_left
       ·
        simp only [Act.put, sA_, sZ_, sS_, i64_w, i32_w]
        rfl
       refine pure_ (i := 12) (N := some 65) (v := ?_) (a' := ?_) #[true, true, true, true, true, true, false, false, true, false, false, false, true, false, false, false] rfl rfl (any_of HT_.out (by kernel_rfl)) (fun _ _ _ h => h) (Or.inl ⟨by rfl, ?_⟩) ?_ ?_
       rotate_left
       ·
        intro w'
        go_simp
        with_reducible rfl
       rotate_left
       ·
        simp only [Act.put, sA_, sZ_, sS_, i64_w, i32_w]
        rfl
       refine take_ (i := 6) (N := some 59) (v := ?_) (a' := ?_) #[true, true, true, true, true, true, true, false, true, false, false, false, true, false, false, false] rfl rfl (take_ofW HT_.out HW_.out (by kernel_rfl)) (fun _ _ _ h => h) (Or.inl ⟨by rfl, ?_⟩) hHeld ?_ ?_
       rotate_left
       ·
        rintro w' ⟨s0, s1, s2, s3⟩
        go_simp
        with_reducible rfl
       rotate_left
       ·
        simp only [Act.put, sA_, sZ_, sS_, i64_w, i32_w]
        rfl
       refine take_ (i := 10) (N := some 63) (v := ?_) (a' := ?_) #[true, true, true, true, true, true, true, false, true, false, true, false, true, false, false, false] rfl rfl (take_ofW HT_.out HW_.out (by kernel_rfl)) (fun _ _ _ h => h) (Or.inl ⟨by rfl, ?_⟩) hHeld ?_ ?_
       rotate_left
       ·
        rintro w' ⟨s0, s1, s2, s3⟩
        go_simp
        with_reducible rfl
       rotate_left
       ·
        simp only [Act.put, sA_, sZ_, sS_, i64_w, i32_w]
        rfl
       refine one_ (i := 7) (N := some 60) #[true, true, true, true, true, true, true, true, true, false, true, false, true, false, false, false] rfl rfl (one_of HT_.out (by kernel_rfl)) (by decide) (fun K hK => ?_)
       refine goes_ Try.func11 (by kernel_rfl) rfl #[.agg #[.int .i64 a0_0, .int .u64 a0_1]] (by rfl) rfl rfl (by (try simp only [List.map_toArray, List.map_cons, List.map_nil]); first | done | rfl | (simp only [List.length_drop, List.length_take]; rfl)) ?_
       with_reducible refine (clevislaw01_Num.calls kj4 a0_0 a0_1 t365 t366 _ A42.out).mono ?_
       rintro e w48 ⟨v367, rfl, ho0, hb⟩
       refine ⟨_, rfl, ?_⟩
       have n0_ := A_ (Kd.V_lower (vm_ (ok' := fun k_ => k_ ≠ gb303 ∧ k_ ≠ gb307) ho0 (fun k_ hk_ => ⟨(Kd.freshB (g := gb303) (o := .cells #[.int .i64 a0_0, .int .u64 a0_1] 24 (0, 0)) bk_ k_ hk_), (Kd.freshB (g := gb307) (o := .cells #[.int .i64 t359, .int .u64 t360] 24 (0, 0)) bk_ k_ hk_)⟩)) (bz_ bw_))
       have n1_ := A_ (kb_ BK303 hb)
       have n2_ := A_ (kb_ BK307 hb)
       have n3_ := A_ (bs_ bw_ hb)
       clear BK303
       clear BK307
       clear HB
       have HO368 := n0_
       have BK303 := n1_
       have BK307 := n2_
       have HB := n3_
       clear n0_ n1_ n2_ n3_
       (try clear hb)
       (try clear hb2)
       (try clear hk)
       (try clear hi)
       (try clear ho0)
       refine hK.out _ _ ⟨(bc_ BK303.out 0).trans rfl, (bc_ BK303.out 1).trans rfl, (bc_ BK307.out 0).trans rfl, (bc_ BK307.out 1).trans rfl⟩ (fun hHeld => ?_)
       clear hK K
       refine norm_ (a' := ?_) ?_ ?_
       rotate_left
       ·
        show Act.put _ (some 60) _ = _
        simp only [Act.put, sA_, sZ_, sS_, i64_w, i32_w]
        rfl
       refine one_ (i := 9) (N := some 62) #[true, true, true, true, true, true, true, true, true, true, true, false, true, false, false, false] rfl rfl (one_of HT_.out (by kernel_rfl)) (by decide) (fun K hK => ?_)
       refine goes_ Try.func12 (by kernel_rfl) rfl #[.int .i64 a1] (by rfl) rfl rfl (by (try simp only [List.map_toArray, List.map_cons, List.map_nil]); first | done | rfl | (simp only [List.length_drop, List.length_take]; rfl)) ?_
       with_reducible refine (clevisref01_Narrow.calls kj4 a1 t369 t370 _ A43.out).mono ?_
       rintro e w49 ⟨v371, rfl, ho0, hb⟩
       refine ⟨_, rfl, ?_⟩
       have n0_ := A_ (Kd.V_below (by (with_reducible repeat (first | apply va_ | apply vn_ | apply vd_)); exact HO368.out) hb)
       have n1_ := A_ (Kd.V_lower (vm_ (ok' := fun k_ => k_ ≠ gb303 ∧ k_ ≠ gb307) ho0 (fun k_ hk_ => ⟨(Kd.freshB (g := gb303) (o := .cells #[.int .i64 a0_0, .int .u64 a0_1] 24 (0, 0)) bk_ k_ hk_), (Kd.freshB (g := gb307) (o := .cells #[.int .i64 t359, .int .u64 t360] 24 (0, 0)) bk_ k_ hk_)⟩)) (bz_ bw_))
       have n2_ := A_ (kb_ BK303 hb)
       have n3_ := A_ (kb_ BK307 hb)
       have n4_ := A_ (bs_ bw_ hb)
       clear HO368
       clear BK303
       clear BK307
       clear HB
       have HO368 := n0_
       have HO372 := n1_
       have BK303 := n2_
       have BK307 := n3_
       have HB := n4_
       clear n0_ n1_ n2_ n3_ n4_
       (try clear hb)
       (try clear hb2)
       (try clear hk)
       (try clear hi)
       (try clear ho0)
       refine hK.out _ _ ⟨(bc_ BK303.out 0).trans rfl, (bc_ BK303.out 1).trans rfl, (bc_ BK307.out 0).trans rfl, (bc_ BK307.out 1).trans rfl⟩ (fun hHeld => ?_)
       clear hK K
       refine norm_ (a' := ?_) ?_ ?_
       rotate_left
       ·
        show Act.put _ (some 62) _ = _
        simp only [Act.put, sA_, sZ_, sS_, i64_w, i32_w]
        rfl
       refine one_ (i := 11) (N := some 64) #[true, true, true, true, true, true, true, true, true, true, true, true, true, false, false, false] rfl rfl (one_of HT_.out (by kernel_rfl)) (by decide) (fun K hK => ?_)
       refine goes_ Try.func11 (by kernel_rfl) rfl #[.agg #[.int .i64 t359, .int .u64 t360]] (by rfl) rfl rfl (by (try simp only [List.map_toArray, List.map_cons, List.map_nil]); first | done | rfl | (simp only [List.length_drop, List.length_take]; rfl)) ?_
       with_reducible refine (clevislaw01_Num.calls kj4 t359 t360 t373 t374 _ A44.out).mono ?_
       rintro e w50 ⟨v375, rfl, ho0, hb⟩
       refine ⟨_, rfl, ?_⟩
       have n0_ := A_ (Kd.V_below (by (with_reducible repeat (first | apply va_ | apply vn_ | apply vd_)); exact HO368.out) hb)
       have n1_ := A_ (Kd.V_below (by (with_reducible repeat (first | apply va_ | apply vn_ | apply vd_)); exact HO372.out) hb)
       have n2_ := A_ (Kd.V_lower (vm_ (ok' := fun k_ => k_ ≠ gb303 ∧ k_ ≠ gb307) ho0 (fun k_ hk_ => ⟨(Kd.freshB (g := gb303) (o := .cells #[.int .i64 a0_0, .int .u64 a0_1] 24 (0, 0)) bk_ k_ hk_), (Kd.freshB (g := gb307) (o := .cells #[.int .i64 t359, .int .u64 t360] 24 (0, 0)) bk_ k_ hk_)⟩)) (bz_ bw_))
       have n3_ := A_ (kb_ BK303 hb)
       have n4_ := A_ (kb_ BK307 hb)
       have n5_ := A_ (bs_ bw_ hb)
       clear HO368
       clear HO372
       clear BK303
       clear BK307
       clear HB
       have HO368 := n0_
       have HO372 := n1_
       have HO376 := n2_
       have BK303 := n3_
       have BK307 := n4_
       have HB := n5_
       clear n0_ n1_ n2_ n3_ n4_ n5_
       (try clear hb)
       (try clear hb2)
       (try clear hk)
       (try clear hi)
       (try clear ho0)
       obtain ⟨Ao51, co51, eo51⟩ := Kd.V_slice HO368.out
       (first | subst eo51 | (injection eo51 with f1_ f2_ f3_; have f4_ := f1_.symm; have f5_ := f3_.symm; clear f1_ f2_ f3_; subst f4_; subst f5_))
       obtain ⟨Ao52, co52, eo52⟩ := Kd.V_slice HO372.out
       (first | subst eo52 | (injection eo52 with f1_ f2_ f3_; have f4_ := f1_.symm; have f5_ := f3_.symm; clear f1_ f2_ f3_; subst f4_; subst f5_))
       obtain ⟨Ao53, co53, eo53⟩ := Kd.V_slice HO376.out
       (first | subst eo53 | (injection eo53 with f1_ f2_ f3_; have f4_ := f1_.symm; have f5_ := f3_.symm; clear f1_ f2_ f3_; subst f4_; subst f5_))
       refine hK.out _ _ ⟨(bc_ BK303.out 0).trans rfl, (bc_ BK303.out 1).trans rfl, (bc_ BK307.out 0).trans rfl, (bc_ BK307.out 1).trans rfl⟩ (fun hHeld => ?_)
       clear hK K
       refine norm_ (a' := ?_) ?_ ?_
       rotate_left
       ·
        show Act.put _ (some 64) _ = _
        simp only [Act.put, sA_, sZ_, sS_, i64_w, i32_w]
        rfl
       refine one_ (i := 13) (N := some 66) #[true, true, true, true, true, true, true, true, true, true, true, true, true, true, false, false] rfl rfl (one_of HT_.out (by kernel_rfl)) (by decide) (fun K hK => ?_)
       refine goes_ Try.func10 (by kernel_rfl) rfl #[.agg #[.bool t365, .slice Ao51 t366.length co51], .agg #[.bool t369, .slice Ao52 t370.length co52], .agg #[.bool t373, .slice Ao53 t374.length co53], .int .i64 a2] (by rfl) rfl rfl (by (try simp only [List.map_toArray, List.map_cons, List.map_nil]); first | done | rfl | (simp only [List.length_drop, List.length_take]; rfl)) ?_
       with_reducible refine (clevisref01_Rounded.calls kj4 t365 _ _ t366 t369 _ _ t370 t373 _ _ t374 a2 t377 _ ?side1 ?side2 ?side3 ?side4 ?side5 ?side6 A45.out).mono ?_
       (case side1 => repeat (first | exact (Kd.V_reads' HO368.out).2.2 | (with_reducible refine ca_ ?_ _) | (with_reducible refine cn_ ?_ _) | (with_reducible refine cd_ ?_)))
       (case side2 => exact (Kd.V_reads' HO368.out).2.1)
       (case side3 => repeat (first | exact (Kd.V_reads' HO372.out).2.2 | (with_reducible refine ca_ ?_ _) | (with_reducible refine cn_ ?_ _) | (with_reducible refine cd_ ?_)))
       (case side4 => exact (Kd.V_reads' HO372.out).2.1)
       (case side5 => repeat (first | exact (Kd.V_reads' HO376.out).2.2 | (with_reducible refine ca_ ?_ _) | (with_reducible refine cn_ ?_ _) | (with_reducible refine cd_ ?_)))
       (case side6 => exact (Kd.V_reads' HO376.out).2.1)
       rintro e w54 ⟨rfl, hb⟩
       refine ⟨_, rfl, ?_⟩
       have n0_ := A_ (Kd.V_below (by (with_reducible repeat (first | apply va_ | apply vn_ | apply vd_)); exact HO368.out) hb)
       have n1_ := A_ (Kd.V_below (by (with_reducible repeat (first | apply va_ | apply vn_ | apply vd_)); exact HO372.out) hb)
       have n2_ := A_ (Kd.V_below (by (with_reducible repeat (first | apply va_ | apply vn_ | apply vd_)); exact HO376.out) hb)
       have n3_ := A_ (kb_ BK303 hb)
       have n4_ := A_ (kb_ BK307 hb)
       have n5_ := A_ (bs_ bw_ hb)
       clear HO368
       clear HO372
       clear HO376
       clear BK303
       clear BK307
       clear HB
       have HO368 := n0_
       have HO372 := n1_
       have HO376 := n2_
       have BK303 := n3_
       have BK307 := n4_
       have HB := n5_
       clear n0_ n1_ n2_ n3_ n4_ n5_
       (try clear hb)
       (try clear hb2)
       (try clear hk)
       (try clear hi)
       refine hK.out _ _ ⟨(bc_ BK303.out 0).trans rfl, (bc_ BK303.out 1).trans rfl, (bc_ BK307.out 0).trans rfl, (bc_ BK307.out 1).trans rfl⟩ (fun hHeld => ?_)
       clear hK K
       refine norm_ (a' := ?_) ?_ ?_
       rotate_left
       ·
        show Act.put _ (some 66) _ = _
        simp only [Act.put, sA_, sZ_, sS_, i64_w, i32_w]
        rfl
       refine pure_ (i := 14) (N := some 67) (v := ?_) (a' := ?_) #[true, true, true, true, true, true, true, true, true, true, true, true, true, true, true, false] rfl rfl (any_of HT_.out (by kernel_rfl)) (fun _ _ _ h => h) (Or.inl ⟨by rfl, ?_⟩) ?_ ?_
       rotate_left
       ·
        intro w'
        go_simp
        with_reducible rfl
       rotate_left
       ·
        simp only [Act.put, sA_, sZ_, sS_, i64_w, i32_w]
        rfl
       refine pure_ (i := 15) (N := some 6) (v := ?_) (a' := ?_) #[true, true, true, true, true, true, true, true, true, true, true, true, true, true, true, true] rfl rfl (any_of HT_.out (by kernel_rfl)) (fun _ _ _ h => h) (Or.inl ⟨by rfl, ?_⟩) ?_ ?_
       rotate_left
       ·
        intro w'
        go_simp
        with_reducible rfl
       rotate_left
       ·
        simp only [Act.put, sA_, sZ_, sS_, i64_w, i32_w]
        rfl
       refine done_ (done_of HT_.out (by kernel_rfl)) ?_
       try go_wp2
       go_ret
       exact ⟨by first | rfl | (simp [errW_none, errW_some] <;> rfl) | (simp [*, errW_none, errW_some] <;> rfl), bw_⟩
      ·
       rw [if_neg c41] at H
       have c41b0 : (t361 == 0) = false := q4_ c41
       have c41b1 : (t361 != 0) = true := q2_ c41
       obtain rfl := Option.some.inj H
       try go_wp2
       have n0_ := A_ (bd_ BK303.out)
       have n1_ := A_ (bd_ BK307.out)
       have n2_ := A_ (b1_ HB.out)
       clear BK303
       clear BK307
       clear HB
       have BK303 := n0_
       have BK307 := n1_
       have HB := n2_
       clear n0_ n1_ n2_
       refine start_ (n := 16) (S := fun w' => True) (ds := []) #[false, false, false, false, false, false, false, false, false, false, false, false, false, false, false, false] (by kernel_rfl) rfl rfl trivial (fun hHeld => ?_); refine with_tabW clevislaw01_FixedDivides.tab6 clevislaw01_FixedDivides.bits6 (fun HT_ HW_ => ?_)
       generalize wc.drew = w55 at BK303 BK307 HB hHeld ⊢
       refine one_ (i := 0) (N := some 53) #[true, false, false, false, false, false, false, false, false, false, false, false, false, false, false, false] rfl rfl (one_of HT_.out (by kernel_rfl)) (by decide) (fun K hK => ?_)
       refine goes_ Try.func9 (by kernel_rfl) rfl #[] (by rfl) rfl rfl (by (try simp only [List.map_toArray, List.map_cons, List.map_nil]); first | done | rfl | (simp only [List.length_drop, List.length_take]; rfl)) ?_
       with_reducible refine (clevislaw01_known.calls  true _ A39.out).mono ?_
       rintro e w56 ⟨rfl, hb⟩
       refine ⟨_, rfl, ?_⟩
       have n0_ := A_ (kb_ BK303 hb)
       have n1_ := A_ (kb_ BK307 hb)
       have n2_ := A_ (bs_ bw_ hb)
       clear BK303
       clear BK307
       clear HB
       have BK303 := n0_
       have BK307 := n1_
       have HB := n2_
       clear n0_ n1_ n2_
       (try clear hb)
       (try clear hb2)
       (try clear hk)
       (try clear hi)
       refine hK.out _ _ trivial (fun hHeld => ?_)
       clear hK K
       refine norm_ (a' := ?_) ?_ ?_
       rotate_left
       ·
        show Act.put _ (some 53) _ = _
        simp only [Act.put, sA_, sZ_, sS_, i64_w, i32_w]
        rfl
       refine pure_ (i := 1) (N := some 54) (v := ?_) (a' := ?_) #[true, true, false, false, false, false, false, false, false, false, false, false, false, false, false, false] rfl rfl (any_of HT_.out (by kernel_rfl)) (fun _ _ _ h => h) (Or.inl ⟨by rfl, ?_⟩) ?_ ?_
       rotate_left
       ·
        intro w'
        go_simp
        with_reducible rfl
       rotate_left
       ·
        simp only [Act.put, sA_, sZ_, sS_, i64_w, i32_w]
        rfl
       refine pure_ (i := 2) (N := some 55) (v := ?_) (a' := ?_) #[true, true, true, false, false, false, false, false, false, false, false, false, false, false, false, false] rfl rfl (any_of HT_.out (by kernel_rfl)) (fun _ _ _ h => h) (Or.inl ⟨by rfl, ?_⟩) ?_ ?_
       rotate_left
       ·
        intro w'
        go_simp
        with_reducible rfl
       rotate_left
       ·
        simp only [Act.put, sA_, sZ_, sS_, i64_w, i32_w]
        rfl
       refine pure_ (i := 3) (N := some 56) (v := ?_) (a' := ?_) #[true, true, true, true, false, false, false, false, false, false, false, false, false, false, false, false] rfl rfl (any_of HT_.out (by kernel_rfl)) (fun _ _ _ h => h) (Or.inl ⟨by rfl, ?_⟩) ?_ ?_
       rotate_left
       ·
        intro w'
        go_simp
        with_reducible rfl
       rotate_left
       ·
        simp only [Act.put, sA_, sZ_, sS_, i64_w, i32_w]
        rfl
       refine pure_ (i := 4) (N := some 57) (v := ?_) (a' := ?_) #[true, true, true, true, true, false, false, false, false, false, false, false, false, false, false, false] rfl rfl (any_of HT_.out (by kernel_rfl)) (fun _ _ _ h => h) (Or.inl ⟨by rfl, ?_⟩) ?_ ?_
       rotate_left
       ·
        intro w'
        go_simp
        with_reducible rfl
       rotate_left
       ·
        simp only [Act.put, sA_, sZ_, sS_, i64_w, i32_w]
        rfl
       refine pure_ (i := 5) (N := some 58) (v := ?_) (a' := ?_) #[true, true, true, true, true, true, false, false, false, false, false, false, false, false, false, false] rfl rfl (any_of HT_.out (by kernel_rfl)) (fun _ _ _ h => h) (Or.inl ⟨by rfl, ?_⟩) ?_ ?_
       rotate_left
       ·
        intro w'
        go_simp
        with_reducible rfl
       rotate_left
       ·
        simp only [Act.put, sA_, sZ_, sS_, i64_w, i32_w]
        rfl
       refine pure_ (i := 6) (N := some 59) (v := undef) (a' := ?_) #[true, true, true, true, true, true, true, false, false, false, false, false, false, false, false, false] rfl rfl (any_of HT_.out (by kernel_rfl)) (fun _ _ _ h => h) (Or.inr ⟨by rfl, rfl⟩) ?_ ?_
       rotate_left
       ·
        simp only [Act.put, sA_, sZ_, sS_, i64_w, i32_w]
        rfl
       refine pure_ (i := 7) (N := some 60) (v := undef) (a' := ?_) #[true, true, true, true, true, true, true, true, false, false, false, false, false, false, false, false] rfl rfl (any_of HT_.out (by kernel_rfl)) (fun _ _ _ h => h) (Or.inr ⟨by rfl, rfl⟩) ?_ ?_
       rotate_left
       ·
        simp only [Act.put, sA_, sZ_, sS_, i64_w, i32_w]
        rfl
       refine pure_ (i := 8) (N := some 61) (v := undef) (a' := ?_) #[true, true, true, true, true, true, true, true, true, false, false, false, false, false, false, false] rfl rfl (any_of HT_.out (by kernel_rfl)) (fun _ _ _ h => h) (Or.inr ⟨by rfl, rfl⟩) ?_ ?_
       rotate_left
       ·
        simp only [Act.put, sA_, sZ_, sS_, i64_w, i32_w]
        rfl
       refine pure_ (i := 9) (N := some 62) (v := undef) (a' := ?_) #[true, true, true, true, true, true, true, true, true, true, false, false, false, false, false, false] rfl rfl (any_of HT_.out (by kernel_rfl)) (fun _ _ _ h => h) (Or.inr ⟨by rfl, rfl⟩) ?_ ?_
       rotate_left
       ·
        simp only [Act.put, sA_, sZ_, sS_, i64_w, i32_w]
        rfl
       refine pure_ (i := 10) (N := some 63) (v := undef) (a' := ?_) #[true, true, true, true, true, true, true, true, true, true, true, false, false, false, false, false] rfl rfl (any_of HT_.out (by kernel_rfl)) (fun _ _ _ h => h) (Or.inr ⟨by rfl, rfl⟩) ?_ ?_
       rotate_left
       ·
        simp only [Act.put, sA_, sZ_, sS_, i64_w, i32_w]
        rfl
       refine pure_ (i := 11) (N := some 64) (v := undef) (a' := ?_) #[true, true, true, true, true, true, true, true, true, true, true, true, false, false, false, false] rfl rfl (any_of HT_.out (by kernel_rfl)) (fun _ _ _ h => h) (Or.inr ⟨by rfl, rfl⟩) ?_ ?_
       rotate_left
       ·
        simp only [Act.put, sA_, sZ_, sS_, i64_w, i32_w]
        rfl
       refine pure_ (i := 12) (N := some 65) (v := undef) (a' := ?_) #[true, true, true, true, true, true, true, true, true, true, true, true, true, false, false, false] rfl rfl (any_of HT_.out (by kernel_rfl)) (fun _ _ _ h => h) (Or.inr ⟨by rfl, rfl⟩) ?_ ?_
       rotate_left
       ·
        simp only [Act.put, sA_, sZ_, sS_, i64_w, i32_w]
        rfl
       refine pure_ (i := 13) (N := some 66) (v := undef) (a' := ?_) #[true, true, true, true, true, true, true, true, true, true, true, true, true, true, false, false] rfl rfl (any_of HT_.out (by kernel_rfl)) (fun _ _ _ h => h) (Or.inr ⟨by rfl, rfl⟩) ?_ ?_
       rotate_left
       ·
        simp only [Act.put, sA_, sZ_, sS_, i64_w, i32_w]
        rfl
       refine pure_ (i := 14) (N := some 67) (v := ?_) (a' := ?_) #[true, true, true, true, true, true, true, true, true, true, true, true, true, true, true, false] rfl rfl (any_of HT_.out (by kernel_rfl)) (fun _ _ _ h => h) (Or.inl ⟨by rfl, ?_⟩) ?_ ?_
       rotate_left
       ·
        intro w'
        go_simp
        with_reducible rfl
       rotate_left
       ·
        simp only [Act.put, sA_, sZ_, sS_, i64_w, i32_w]
        rfl
       refine pure_ (i := 15) (N := some 6) (v := ?_) (a' := ?_) #[true, true, true, true, true, true, true, true, true, true, true, true, true, true, true, true] rfl rfl (any_of HT_.out (by kernel_rfl)) (fun _ _ _ h => h) (Or.inl ⟨by rfl, ?_⟩) ?_ ?_
       rotate_left
       ·
        intro w'
        go_simp
        with_reducible rfl
       rotate_left
       ·
        simp only [Act.put, sA_, sZ_, sS_, i64_w, i32_w]
        rfl
       refine done_ (done_of HT_.out (by kernel_rfl)) ?_
       try go_wp2
       go_ret
       exact ⟨by first | rfl | (simp [errW_none, errW_some] <;> rfl) | (simp [*, errW_none, errW_some] <;> rfl), bw_⟩
     ·
      replace c40 := Bool.eq_false_iff.mpr c40
      subst c40
      have H1 : (some false) = some r := by rw [if_neg (show ¬ (false = true) by decide)] at H; exact H
      clear H
      have H := H1
      clear H1
      obtain rfl := Option.some.inj H
      try go_wp2
      have n0_ := A_ (bd_ BK303.out)
      have n1_ := A_ (bd_ BK307.out)
      have n2_ := A_ (b1_ HB.out)
      clear BK303
      clear BK307
      clear HB
      have BK303 := n0_
      have BK307 := n1_
      have HB := n2_
      clear n0_ n1_ n2_
      refine start_ (n := 16) (S := fun w' => True) (ds := []) #[false, false, false, false, false, false, false, false, false, false, false, false, false, false, false, false] (by kernel_rfl) rfl rfl trivial (fun hHeld => ?_); refine with_tabW clevislaw01_FixedDivides.tab6 clevislaw01_FixedDivides.bits6 (fun HT_ HW_ => ?_)
      generalize wc.drew = w57 at BK303 BK307 HB hHeld ⊢
      refine one_ (i := 0) (N := some 53) #[true, false, false, false, false, false, false, false, false, false, false, false, false, false, false, false] rfl rfl (one_of HT_.out (by kernel_rfl)) (by decide) (fun K hK => ?_)
      refine goes_ Try.func9 (by kernel_rfl) rfl #[] (by rfl) rfl rfl (by (try simp only [List.map_toArray, List.map_cons, List.map_nil]); first | done | rfl | (simp only [List.length_drop, List.length_take]; rfl)) ?_
      with_reducible refine (clevislaw01_known.calls  false _ A39.out).mono ?_
      rintro e w58 ⟨rfl, hb⟩
      refine ⟨_, rfl, ?_⟩
      have n0_ := A_ (kb_ BK303 hb)
      have n1_ := A_ (kb_ BK307 hb)
      have n2_ := A_ (bs_ bw_ hb)
      clear BK303
      clear BK307
      clear HB
      have BK303 := n0_
      have BK307 := n1_
      have HB := n2_
      clear n0_ n1_ n2_
      (try clear hb)
      (try clear hb2)
      (try clear hk)
      (try clear hi)
      refine hK.out _ _ trivial (fun hHeld => ?_)
      clear hK K
      refine norm_ (a' := ?_) ?_ ?_
      rotate_left
      ·
       show Act.put _ (some 53) _ = _
       simp only [Act.put, sA_, sZ_, sS_, i64_w, i32_w]
       rfl
      refine pure_ (i := 1) (N := some 54) (v := ?_) (a' := ?_) #[true, true, false, false, false, false, false, false, false, false, false, false, false, false, false, false] rfl rfl (any_of HT_.out (by kernel_rfl)) (fun _ _ _ h => h) (Or.inl ⟨by rfl, ?_⟩) ?_ ?_
      rotate_left
      ·
       intro w'
       go_simp
       with_reducible rfl
      rotate_left
      ·
       simp only [Act.put, sA_, sZ_, sS_, i64_w, i32_w]
       rfl
      refine pure_ (i := 2) (N := some 55) (v := undef) (a' := ?_) #[true, true, true, false, false, false, false, false, false, false, false, false, false, false, false, false] rfl rfl (any_of HT_.out (by kernel_rfl)) (fun _ _ _ h => h) (Or.inr ⟨by rfl, rfl⟩) ?_ ?_
      rotate_left
      ·
       simp only [Act.put, sA_, sZ_, sS_, i64_w, i32_w]
       rfl
      refine pure_ (i := 3) (N := some 56) (v := undef) (a' := ?_) #[true, true, true, true, false, false, false, false, false, false, false, false, false, false, false, false] rfl rfl (any_of HT_.out (by kernel_rfl)) (fun _ _ _ h => h) (Or.inr ⟨by rfl, rfl⟩) ?_ ?_
      rotate_left
      ·
       simp only [Act.put, sA_, sZ_, sS_, i64_w, i32_w]
       rfl
      refine pure_ (i := 4) (N := some 57) (v := ?_) (a' := ?_) #[true, true, true, true, true, false, false, false, false, false, false, false, false, false, false, false] rfl rfl (any_of HT_.out (by kernel_rfl)) (fun _ _ _ h => h) (Or.inl ⟨by rfl, ?_⟩) ?_ ?_
      rotate_left
      ·
       intro w'
       go_simp
       with_reducible rfl
      rotate_left
      ·
       simp only [Act.put, sA_, sZ_, sS_, i64_w, i32_w]
       rfl
      refine pure_ (i := 5) (N := some 58) (v := ?_) (a' := ?_) #[true, true, true, true, true, true, false, false, false, false, false, false, false, false, false, false] rfl rfl (any_of HT_.out (by kernel_rfl)) (fun _ _ _ h => h) (Or.inl ⟨by rfl, ?_⟩) ?_ ?_
      rotate_left
      ·
       intro w'
       go_simp
       with_reducible rfl
      rotate_left
      ·
       simp only [Act.put, sA_, sZ_, sS_, i64_w, i32_w]
       rfl
      refine pure_ (i := 6) (N := some 59) (v := undef) (a' := ?_) #[true, true, true, true, true, true, true, false, false, false, false, false, false, false, false, false] rfl rfl (any_of HT_.out (by kernel_rfl)) (fun _ _ _ h => h) (Or.inr ⟨by rfl, rfl⟩) ?_ ?_
      rotate_left
      ·
       simp only [Act.put, sA_, sZ_, sS_, i64_w, i32_w]
       rfl
      refine pure_ (i := 7) (N := some 60) (v := undef) (a' := ?_) #[true, true, true, true, true, true, true, true, false, false, false, false, false, false, false, false] rfl rfl (any_of HT_.out (by kernel_rfl)) (fun _ _ _ h => h) (Or.inr ⟨by rfl, rfl⟩) ?_ ?_
      rotate_left
      ·
       simp only [Act.put, sA_, sZ_, sS_, i64_w, i32_w]
       rfl
      refine pure_ (i := 8) (N := some 61) (v := undef) (a' := ?_) #[true, true, true, true, true, true, true, true, true, false, false, false, false, false, false, false] rfl rfl (any_of HT_.out (by kernel_rfl)) (fun _ _ _ h => h) (Or.inr ⟨by rfl, rfl⟩) ?_ ?_
      rotate_left
      ·
       simp only [Act.put, sA_, sZ_, sS_, i64_w, i32_w]
       rfl
      refine pure_ (i := 9) (N := some 62) (v := undef) (a' := ?_) #[true, true, true, true, true, true, true, true, true, true, false, false, false, false, false, false] rfl rfl (any_of HT_.out (by kernel_rfl)) (fun _ _ _ h => h) (Or.inr ⟨by rfl, rfl⟩) ?_ ?_
      rotate_left
      ·
       simp only [Act.put, sA_, sZ_, sS_, i64_w, i32_w]
       rfl
      refine pure_ (i := 10) (N := some 63) (v := undef) (a' := ?_) #[true, true, true, true, true, true, true, true, true, true, true, false, false, false, false, false] rfl rfl (any_of HT_.out (by kernel_rfl)) (fun _ _ _ h => h) (Or.inr ⟨by rfl, rfl⟩) ?_ ?_
      rotate_left
      ·
       simp only [Act.put, sA_, sZ_, sS_, i64_w, i32_w]
       rfl
      refine pure_ (i := 11) (N := some 64) (v := undef) (a' := ?_) #[true, true, true, true, true, true, true, true, true, true, true, true, false, false, false, false] rfl rfl (any_of HT_.out (by kernel_rfl)) (fun _ _ _ h => h) (Or.inr ⟨by rfl, rfl⟩) ?_ ?_
      rotate_left
      ·
       simp only [Act.put, sA_, sZ_, sS_, i64_w, i32_w]
       rfl
      refine pure_ (i := 12) (N := some 65) (v := undef) (a' := ?_) #[true, true, true, true, true, true, true, true, true, true, true, true, true, false, false, false] rfl rfl (any_of HT_.out (by kernel_rfl)) (fun _ _ _ h => h) (Or.inr ⟨by rfl, rfl⟩) ?_ ?_
      rotate_left
      ·
       simp only [Act.put, sA_, sZ_, sS_, i64_w, i32_w]
       rfl
      refine pure_ (i := 13) (N := some 66) (v := undef) (a' := ?_) #[true, true, true, true, true, true, true, true, true, true, true, true, true, true, false, false] rfl rfl (any_of HT_.out (by kernel_rfl)) (fun _ _ _ h => h) (Or.inr ⟨by rfl, rfl⟩) ?_ ?_
      rotate_left
      ·
       simp only [Act.put, sA_, sZ_, sS_, i64_w, i32_w]
       rfl
      refine pure_ (i := 14) (N := some 67) (v := ?_) (a' := ?_) #[true, true, true, true, true, true, true, true, true, true, true, true, true, true, true, false] rfl rfl (any_of HT_.out (by kernel_rfl)) (fun _ _ _ h => h) (Or.inl ⟨by rfl, ?_⟩) ?_ ?_
      rotate_left
      ·
       intro w'
       go_simp
       with_reducible rfl
      rotate_left
      ·
       simp only [Act.put, sA_, sZ_, sS_, i64_w, i32_w]
       rfl
      refine pure_ (i := 15) (N := some 6) (v := ?_) (a' := ?_) #[true, true, true, true, true, true, true, true, true, true, true, true, true, true, true, true] rfl rfl (any_of HT_.out (by kernel_rfl)) (fun _ _ _ h => h) (Or.inl ⟨by rfl, ?_⟩) ?_ ?_
      rotate_left
      ·
       intro w'
       go_simp
       with_reducible rfl
      rotate_left
      ·
       simp only [Act.put, sA_, sZ_, sS_, i64_w, i32_w]
       rfl
      refine done_ (done_of HT_.out (by kernel_rfl)) ?_
      try go_wp2
      go_ret
      exact ⟨by first | rfl | (simp [errW_none, errW_some] <;> rfl) | (simp [*, errW_none, errW_some] <;> rfl), bw_⟩
end Go.Proofs.Ytjbcigiffihjaaa.Fx
end
