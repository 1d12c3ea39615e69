/- Texts of this seat, put together (ZW6). -/
import Derived.Test.YtjbcigiffihjaaaZW0
import Derived.Test.YtjbcigiffihjaaaZW5
section
namespace Go.Proofs.Ytjbcigiffihjaaa.Fx
open Go.RowKit Go.Proofs.YtjbcigiffihjaaaW.PrintWords Go.Proofs.YtjbcigiffihjaaaW.PrintLast Go.Proofs.YtjbcigiffihjaaaW.PrintMore
attribute [local go_sem] max2_int min2_int max_two min_two max_three min_three max_four min_four   -- for this text's walks alone
set_option linter.unusedVariables false
set_option linter.unusedSimpArgs false
attribute [local go_sem] run_add64_any
mutual
def clevisref01_Add.l0 : Nat → Int → Int → Bool → List Int → Bool → List Int → Bool → List Int → Option (Bool × List Int)
  | 0, _, _, _, _, _, _, _, _ => none
  | k + 1, x6, x7, x303000, x303001, x304000, x304001, x306000, x306001 => if x7 < (x303001.length : Int) then (clevisref01_Add.j1 k x6 x7 true x303000 x303001 x304000 x304001 x306000 x306001) else (clevisref01_Add.j1 k x6 x7 (decide (x7 < (x304001.length : Int))) x303000 x303001 x304000 x304001 x306000 x306001)
def clevisref01_Add.j1 : Nat → Int → Int → Bool → Bool → List Int → Bool → List Int → Bool → List Int → Option (Bool × List Int)
  | 0, _, _, _, _, _, _, _, _, _ => none
  | k + 1, x6, x7, x32, x303000, x303001, x304000, x304001, x306000, x306001 => if x32 = true then ((clevisref01_at.f x303001 x7).bind fun t173 => ((clevisref01_at.f x304001 x7).bind fun t174 => (if x306001.length < 17592186044416 then (clevisref01_Add.l0 k (wrap64 (Int.tdiv (wrap64 ((wrap64 (t173 + t174)) + x6)) 65536)) (wrap64 (x7 + 1)) x303000 x303001 x304000 x304001 x306000 (x306001 ++ [Int.tmod (wrap64 ((wrap64 (t173 + t174)) + x6)) 65536])) else (none)))) else (if x306001.length < 17592186044416 then ((clevisref01_clean.f k x306000 (x306001 ++ [x6])).bind fun bt181 => (some (bt181.1, bt181.2))) else (none))
def clevisref01_Add.l1 : Nat → Int → Int → Bool → List Int → Bool → List Int → Bool → List Int → Option (Bool × List Int)
  | 0, _, _, _, _, _, _, _, _ => none
  | k + 1, x10, x11, x303000, x303001, x304000, x304001, x310000, x310001 => if x11 < (x303001.length : Int) then ((clevisref01_at.f x303001 x11).bind fun t190 => ((clevisref01_at.f x304001 x11).bind fun t191 => (if (wrap64 ((wrap64 (t190 - t191)) - x10)) < 0 then (if x310001.length < 17592186044416 then (clevisref01_Add.l1 k 1 (wrap64 (x11 + 1)) x303000 x303001 x304000 x304001 x310000 (x310001 ++ [wrap64 ((wrap64 ((wrap64 (t190 - t191)) - x10)) + 65536)])) else (none)) else (if x310001.length < 17592186044416 then (clevisref01_Add.l1 k 0 (wrap64 (x11 + 1)) x303000 x303001 x304000 x304001 x310000 (x310001 ++ [wrap64 ((wrap64 (t190 - t191)) - x10)])) else (none))))) else ((clevisref01_clean.f k x310000 x310001).bind fun bt186 => (some (bt186.1, bt186.2)))
def clevisref01_Add.l102 : Nat → Int → Int → Bool → List Int → Bool → List Int → Bool → List Int → Option (Bool × List Int)
  | 0, _, _, _, _, _, _, _, _ => none
  | k + 1, x10, x11, x303000, x303001, x304000, x304001, x310000, x310001 => if x11 < (x303001.length : Int) then ((clevisref01_at.f x303001 x11).bind fun t202 => ((clevisref01_at.f x304001 x11).bind fun t203 => (if (wrap64 ((wrap64 (t202 - t203)) - x10)) < 0 then (if x310001.length < 17592186044416 then (clevisref01_Add.l102 k 1 (wrap64 (x11 + 1)) x303000 x303001 x304000 x304001 x310000 (x310001 ++ [wrap64 ((wrap64 ((wrap64 (t202 - t203)) - x10)) + 65536)])) else (none)) else (if x310001.length < 17592186044416 then (clevisref01_Add.l102 k 0 (wrap64 (x11 + 1)) x303000 x303001 x304000 x304001 x310000 (x310001 ++ [wrap64 ((wrap64 (t202 - t203)) - x10)])) else (none))))) else ((clevisref01_clean.f k x310000 x310001).bind fun bt198 => (some (bt198.1, bt198.2)))
end
def clevisref01_Add.f (k : Nat) (a0_0 : Bool) (l0_1 : List Int) (a1_0 : Bool) (l1_1 : List Int) : Option (Bool × List Int) := if (a0_0 == a1_0) = true then (clevisref01_Add.l0 k 0 0 a0_0 l0_1 a1_0 l1_1 a0_0 ([] : List Int)) else ((clevisref01_size.f k l0_1 l1_1).bind fun t185 => (if t185 < 0 then (clevisref01_Add.l1 k 0 0 a1_0 l1_1 a0_0 l0_1 a1_0 ([] : List Int)) else (clevisref01_Add.l102 k 0 0 a0_0 l0_1 a1_0 l1_1 a0_0 ([] : List Int))))
set_option maxHeartbeats 8000000 in
set_option maxRecDepth 100000 in
theorem clevisref01_Add.calls (k : Nat) (a0_0 : Bool) (A0_1 : Option Addr) (c0_1 : Nat) (l0_1 : List Int) (a1_0 : Bool) (A1_1 : Option Addr) (c1_1 : Nat) (l1_1 : List Int) (r1 : Bool) (r2 : List Int) (w : World) (hr0_1 : Kd.C (Kd.int .i64) w A0_1 l0_1.length l0_1) (hc0_1 : l0_1.length ≤ c0_1) (hr1_1 : Kd.C (Kd.int .i64) w A1_1 l1_1.length l1_1) (hc1_1 : l1_1.length ≤ c1_1) (h : clevisref01_Add.f k a0_0 l0_1 a1_0 l1_1 = some (r1, r2)) :
    Calls Try.prog 21 #[.agg #[.bool a0_0, .slice A0_1 l0_1.length c0_1], .agg #[.bool a1_0, .slice A1_1 l1_1.length c1_1]] w fun e w' => ∃ v1_ : Value, e = .returned (.agg #[.bool r1, v1_]) ∧ Kd.V (Kd.int .i64) 3 w' w.heap.size (fun k_ => (w.heap.size ≤ k_)) v1_ r2 ∧ Below w.heap.size w w' := by
  have hu32 := Try.underlying32
  have HR0_1 := Aside0.mk hr0_1
  have HC0_1 := Aside0.mk hc0_1
  clear hr0_1 hc0_1
  have HR1_1 := Aside0.mk hr1_1
  have HC1_1 := Aside0.mk hc1_1
  clear hr1_1 hc1_1
  have HB := Aside0.mk (Below.refl w.heap.size w)
  have H : (if (a0_0 == a1_0) = true then (clevisref01_Add.l0 k 0 0 a0_0 l0_1 a1_0 l1_1 a0_0 ([] : List Int)) else ((clevisref01_size.f k l0_1 l1_1).bind fun t185 => (if t185 < 0 then (clevisref01_Add.l1 k 0 0 a1_0 l1_1 a0_0 l0_1 a1_0 ([] : List Int)) else (clevisref01_Add.l102 k 0 0 a0_0 l0_1 a1_0 l1_1 a0_0 ([] : List Int))))) = some (r1, r2) := h
  clear h
  by_cases c3 : (a0_0 == a1_0) = true
  · rw [if_pos c3] at H
    have c3b0 : (a0_0 == a1_0) = true := c3
    (try (have c3b1 : decide (a0_0 = a1_0) = true := by simpa using c3))
    (try (have c3b2 : (a0_0 == a1_0) = true := by simpa using c3))
    clear c3
    have H' := Aside0.mk H
    clear H
    go_enter Try.func21, Try.ntmps21
    go_wp2_with (first | ((with_reducible refine gate_dst (N := 2) rfl ?_); (try (refine gate_guard (by rfl) ?_; dsimp only)); refine box_event ?hg (N := 2) ?hd (cs := #[.bool a0_0, .slice A0_1 l0_1.length c0_1]) (t := 32) ?hr ?_; (case hd => rfl); (case hg => rfl); (case hr => first | (go_simp; done) | (go_simp; rfl)); intro gb302 hg w4 hbox hb; have n0_ := Aside0.mk (below_step (by repeat (first | (with_reducible first | exact HB.out | apply below_alloc | apply pw_below_drewN | apply below_drew1) | exact HB.out)) hb); have n1_ := Aside0.mk (hbox); have n2_ := Aside0.mk ((by rw [hg]; exact (below_size (by repeat (first | (with_reducible first | exact HB.out | apply below_alloc | apply pw_below_drewN | apply below_drew1) | exact HB.out))) : w.heap.size ≤ gb302)); have n3_ := Aside0.mk ((by rw [hg]; exact (below_size (by repeat (first | (with_reducible first | exact HB.out | apply below_alloc | apply pw_below_drewN | apply below_drew1) | exact HB.out))) : w.heap.size ≤ gb302)); clear HB; have HB := n0_; have BK302 := n1_; have GW302 := n2_; have GE302 := n3_; clear n0_ n1_ n2_ n3_; clear hb hbox hg) | ((with_reducible refine gate_dst (N := 3) rfl ?_); (try (refine gate_guard (by rfl) ?_; dsimp only)); refine box_event ?hg (N := 3) ?hd (cs := #[.bool a1_0, .slice A1_1 l1_1.length c1_1]) (t := 32) ?hr ?_; (case hd => rfl); (case hg => rfl); (case hr => first | (go_simp; done) | (go_simp; rfl)); intro gb303 hg w5 hbox hb; have n0_ := Aside0.mk (blk_below (g := gb302) (o := .cells #[.bool a0_0, .slice A0_1 l0_1.length c0_1] 32 (0, 0)) (by (with_reducible repeat (first | refine blk_drewN ?_ _ | refine blk_drew ?_ | refine blk_alloc ?_ _)); exact BK302.out) hb); have n1_ := Aside0.mk (below_step (by repeat (first | (with_reducible first | exact HB.out | apply below_alloc | apply pw_below_drewN | apply below_drew1 | refine below_set ?_ GE302.out) | exact HB.out)) hb); have n2_ := Aside0.mk (hbox); have n3_ := Aside0.mk ((by rw [hg]; exact (below_size (by repeat (first | (with_reducible first | exact HB.out | apply below_alloc | apply pw_below_drewN | apply below_drew1 | refine below_set ?_ GE302.out) | exact HB.out))) : w.heap.size ≤ gb303)); have n4_ := Aside0.mk ((by rw [hg]; exact (below_size (by repeat (first | (with_reducible first | exact HB.out | apply below_alloc | apply pw_below_drewN | apply below_drew1 | refine below_set ?_ GE302.out) | exact HB.out))) : w.heap.size ≤ gb303)); have n5_ := Aside0.mk ((by rw [hg]; exact Nat.ne_of_lt (blk_lt (g := gb302) (o := .cells #[.bool a0_0, .slice A0_1 l0_1.length c0_1] 32 (0, 0)) (by (with_reducible repeat (first | refine blk_drewN ?_ _ | refine blk_drew ?_ | refine blk_alloc ?_ _)); exact BK302.out)) : gb302 ≠ gb303)); have n6_ := Aside0.mk ((by rw [hg]; exact Nat.ne_of_gt (blk_lt (g := gb302) (o := .cells #[.bool a0_0, .slice A0_1 l0_1.length c0_1] 32 (0, 0)) (by (with_reducible repeat (first | refine blk_drewN ?_ _ | refine blk_drew ?_ | refine blk_alloc ?_ _)); exact BK302.out)) : gb303 ≠ gb302)); clear BK302; clear HB; have BK302 := n0_; have HB := n1_; have BK303 := n2_; have GW303 := n3_; have GE303 := n4_; have NB302_303 := n5_; have NB303_302 := n6_; clear n0_ n1_ n2_ n3_ n4_ n5_ n6_; clear hb hbox hg) | ((with_reducible refine gate_dst (N := 4) rfl ?_); (try (refine gate_guard (by rfl) ?_; dsimp only)); refine box_event ?hg (N := 4) ?hd (cs := #[.bool false, .slice none 0 0]) (t := 32) ?hr ?_; (case hd => rfl); (case hg => rfl); (case hr => first | (go_simp; done) | (go_simp; rfl)); intro gb304 hg w6 hbox hb; have n0_ := Aside0.mk (blk_below (g := gb302) (o := .cells #[.bool a0_0, .slice A0_1 l0_1.length c0_1] 32 (0, 0)) (by (with_reducible repeat (first | refine blk_drewN ?_ _ | refine blk_drew ?_ | refine blk_alloc ?_ _)); exact BK302.out) hb); have n1_ := Aside0.mk (blk_below (g := gb303) (o := .cells #[.bool a1_0, .slice A1_1 l1_1.length c1_1] 32 (0, 0)) (by (with_reducible repeat (first | refine blk_drewN ?_ _ | refine blk_drew ?_ | refine blk_alloc ?_ _)); exact BK303.out) hb); have n2_ := Aside0.mk (below_step (by repeat (first | (with_reducible first | exact HB.out | apply below_alloc | apply pw_below_drewN | apply below_drew1 | refine below_set ?_ GE302.out | refine below_set ?_ GE303.out) | exact HB.out)) hb); have n3_ := Aside0.mk (hbox); have n4_ := Aside0.mk ((by rw [hg]; exact (below_size (by repeat (first | (with_reducible first | exact HB.out | apply below_alloc | apply pw_below_drewN | apply below_drew1 | refine below_set ?_ GE302.out | refine below_set ?_ GE303.out) | exact HB.out))) : w.heap.size ≤ gb304)); have n5_ := Aside0.mk ((by rw [hg]; exact (below_size (by repeat (first | (with_reducible first | exact HB.out | apply below_alloc | apply pw_below_drewN | apply below_drew1 | refine below_set ?_ GE302.out | refine below_set ?_ GE303.out) | exact HB.out))) : w.heap.size ≤ gb304)); have n6_ := Aside0.mk ((by rw [hg]; exact Nat.ne_of_lt (blk_lt (g := gb302) (o := .cells #[.bool a0_0, .slice A0_1 l0_1.length c0_1] 32 (0, 0)) (by (with_reducible repeat (first | refine blk_drewN ?_ _ | refine blk_drew ?_ | refine blk_alloc ?_ _)); exact BK302.out)) : gb302 ≠ gb304)); have n7_ := Aside0.mk ((by rw [hg]; exact Nat.ne_of_gt (blk_lt (g := gb302) (o := .cells #[.bool a0_0, .slice A0_1 l0_1.length c0_1] 32 (0, 0)) (by (with_reducible repeat (first | refine blk_drewN ?_ _ | refine blk_drew ?_ | refine blk_alloc ?_ _)); exact BK302.out)) : gb304 ≠ gb302)); have n8_ := Aside0.mk ((by rw [hg]; exact Nat.ne_of_lt (blk_lt (g := gb303) (o := .cells #[.bool a1_0, .slice A1_1 l1_1.length c1_1] 32 (0, 0)) (by (with_reducible repeat (first | refine blk_drewN ?_ _ | refine blk_drew ?_ | refine blk_alloc ?_ _)); exact BK303.out)) : gb303 ≠ gb304)); have n9_ := Aside0.mk ((by rw [hg]; exact Nat.ne_of_gt (blk_lt (g := gb303) (o := .cells #[.bool a1_0, .slice A1_1 l1_1.length c1_1] 32 (0, 0)) (by (with_reducible repeat (first | refine blk_drewN ?_ _ | refine blk_drew ?_ | refine blk_alloc ?_ _)); exact BK303.out)) : gb304 ≠ gb303)); clear BK302; clear BK303; clear HB; have BK302 := n0_; have BK303 := n1_; have HB := n2_; have BK304 := n3_; have GW304 := n4_; have GE304 := n5_; have NB302_304 := n6_; have NB304_302 := n7_; have NB303_304 := n8_; have NB304_303 := n9_; clear n0_ n1_ n2_ n3_ n4_ n5_ n6_ n7_ n8_ n9_; clear hb hbox hg; have hnb7 := NB302_303.out; have hnc7 := NB303_302.out; have hnb8 := NB302_304.out; have hnc8 := NB304_302.out; have hcz9_0 : w6.cell? ⟨gb302, 0, none⟩ = some (.bool a0_0) := (blk_cell BK302.out 0).trans rfl; have hcz9_1 : w6.cell? ⟨gb302, 1, none⟩ = some (.slice A0_1 l0_1.length c0_1) := (blk_cell BK302.out 1).trans rfl; have hfz9_0 := blk_frozen BK302.out 0; have hfz9_1 := blk_frozen BK302.out 1; have hnb10 := NB303_304.out; have hnc10 := NB304_303.out; have hcz11_0 : w6.cell? ⟨gb303, 0, none⟩ = some (.bool a1_0) := (blk_cell BK303.out 0).trans rfl; have hcz11_1 : w6.cell? ⟨gb303, 1, none⟩ = some (.slice A1_1 l1_1.length c1_1) := (blk_cell BK303.out 1).trans rfl; have hfz11_0 := blk_frozen BK303.out 0; have hfz11_1 := blk_frozen BK303.out 1) | ((with_reducible refine gate_dst (N := 5) rfl ?_); (try (refine gate_guard (by rfl) ?_; dsimp only)); refine box_event ?hg (N := 5) ?hd (cs := #[.bool false, .slice none 0 0]) (t := 32) ?hr ?_; (case hd => rfl); (case hg => rfl); (case hr => first | (go_simp; done) | (go_simp; rfl)); intro gb305 hg w12 hbox hb; have n0_ := Aside0.mk (blk_below (g := gb302) (o := .cells #[.bool a0_0, .slice A0_1 l0_1.length c0_1] 32 (0, 0)) (by (with_reducible repeat (first | refine blk_drewN ?_ _ | refine blk_drew ?_ | refine blk_alloc ?_ _)); exact BK302.out) hb); have n1_ := Aside0.mk (blk_below (g := gb303) (o := .cells #[.bool a1_0, .slice A1_1 l1_1.length c1_1] 32 (0, 0)) (by (with_reducible repeat (first | refine blk_drewN ?_ _ | refine blk_drew ?_ | refine blk_alloc ?_ _)); exact BK303.out) hb); have n2_ := Aside0.mk (blk_below (g := gb304) (o := .cells #[.bool false, .slice none 0 0] 32 (0, 0)) (by (with_reducible repeat (first | refine blk_drewN ?_ _ | refine blk_drew ?_ | refine blk_alloc ?_ _)); exact BK304.out) hb); have n3_ := Aside0.mk (below_step (by repeat (first | (with_reducible first | exact HB.out | apply below_alloc | apply pw_below_drewN | apply below_drew1 | refine below_set ?_ GE302.out | refine below_set ?_ GE303.out | refine below_set ?_ GE304.out) | exact HB.out)) hb); have n4_ := Aside0.mk (hbox); have n5_ := Aside0.mk ((by rw [hg]; exact (below_size (by repeat (first | (with_reducible first | exact HB.out | apply below_alloc | apply pw_below_drewN | apply below_drew1 | refine below_set ?_ GE302.out | refine below_set ?_ GE303.out | refine below_set ?_ GE304.out) | exact HB.out))) : w.heap.size ≤ gb305)); have n6_ := Aside0.mk ((by rw [hg]; exact (below_size (by repeat (first | (with_reducible first | exact HB.out | apply below_alloc | apply pw_below_drewN | apply below_drew1 | refine below_set ?_ GE302.out | refine below_set ?_ GE303.out | refine below_set ?_ GE304.out) | exact HB.out))) : w.heap.size ≤ gb305)); have n7_ := Aside0.mk ((by rw [hg]; exact Nat.ne_of_lt (blk_lt (g := gb302) (o := .cells #[.bool a0_0, .slice A0_1 l0_1.length c0_1] 32 (0, 0)) (by (with_reducible repeat (first | refine blk_drewN ?_ _ | refine blk_drew ?_ | refine blk_alloc ?_ _)); exact BK302.out)) : gb302 ≠ gb305)); have n8_ := Aside0.mk ((by rw [hg]; exact Nat.ne_of_gt (blk_lt (g := gb302) (o := .cells #[.bool a0_0, .slice A0_1 l0_1.length c0_1] 32 (0, 0)) (by (with_reducible repeat (first | refine blk_drewN ?_ _ | refine blk_drew ?_ | refine blk_alloc ?_ _)); exact BK302.out)) : gb305 ≠ gb302)); have n9_ := Aside0.mk ((by rw [hg]; exact Nat.ne_of_lt (blk_lt (g := gb303) (o := .cells #[.bool a1_0, .slice A1_1 l1_1.length c1_1] 32 (0, 0)) (by (with_reducible repeat (first | refine blk_drewN ?_ _ | refine blk_drew ?_ | refine blk_alloc ?_ _)); exact BK303.out)) : gb303 ≠ gb305)); have n10_ := Aside0.mk ((by rw [hg]; exact Nat.ne_of_gt (blk_lt (g := gb303) (o := .cells #[.bool a1_0, .slice A1_1 l1_1.length c1_1] 32 (0, 0)) (by (with_reducible repeat (first | refine blk_drewN ?_ _ | refine blk_drew ?_ | refine blk_alloc ?_ _)); exact BK303.out)) : gb305 ≠ gb303)); have n11_ := Aside0.mk ((by rw [hg]; exact Nat.ne_of_lt (blk_lt (g := gb304) (o := .cells #[.bool false, .slice none 0 0] 32 (0, 0)) (by (with_reducible repeat (first | refine blk_drewN ?_ _ | refine blk_drew ?_ | refine blk_alloc ?_ _)); exact BK304.out)) : gb304 ≠ gb305)); have n12_ := Aside0.mk ((by rw [hg]; exact Nat.ne_of_gt (blk_lt (g := gb304) (o := .cells #[.bool false, .slice none 0 0] 32 (0, 0)) (by (with_reducible repeat (first | refine blk_drewN ?_ _ | refine blk_drew ?_ | refine blk_alloc ?_ _)); exact BK304.out)) : gb305 ≠ gb304)); clear BK302; clear BK303; clear BK304; clear HB; have BK302 := n0_; have BK303 := n1_; have BK304 := n2_; have HB := n3_; have BK305 := n4_; have GW305 := n5_; have GE305 := n6_; have NB302_305 := n7_; have NB305_302 := n8_; have NB303_305 := n9_; have NB305_303 := n10_; have NB304_305 := n11_; have NB305_304 := n12_; clear n0_ n1_ n2_ n3_ n4_ n5_ n6_ n7_ n8_ n9_ n10_ n11_ n12_; clear hb hbox hg; have hnb13 := NB305_302.out; have hnc13 := NB302_305.out; have hnb14 := NB305_303.out; have hnc14 := NB303_305.out; have hnb15 := NB305_304.out; have hnc15 := NB304_305.out; have hcz16_0 : w12.cell? ⟨gb305, 0, none⟩ = some (.bool false) := (blk_cell BK305.out 0).trans rfl; have hcz16_1 : w12.cell? ⟨gb305, 1, none⟩ = some (.slice none 0 0) := (blk_cell BK305.out 1).trans rfl; have hfz16_0 := blk_frozen BK305.out 0; have hfz16_1 := blk_frozen BK305.out 1))
    (try simp only [Act.put, List.setIfInBounds_toArray, List.set_cons_zero, List.set_cons_succ])
    go_loopg [6, 7] k (fun kq v6 v7 w' => ∃ (x6_1 : Int) (x7_1 : Int) (x306001_1 : List Int) (u306001 : Value), v6 = .int .i64 x6_1 ∧ v7 = .int .i64 x7_1 ∧ Aside0 (clevisref01_Add.l0 kq x6_1 x7_1 a0_0 l0_1 a1_0 l1_1 a0_0 x306001_1 = some (r1, r2)) ∧ Aside0 (kq ≤ k) ∧ Aside0 (Kd.R (Kd.int .i64) 3 w' w.heap.size (fun k_ => (w.heap.size ≤ k_)) u306001 x306001_1) ∧ Aside0 (w'.heap[gb302]? = some (.cells #[.bool a0_0, (.slice A0_1 l0_1.length c0_1)] 32 (0, 0))) ∧ Aside0 (w'.heap[gb303]? = some (.cells #[.bool a1_0, (.slice A1_1 l1_1.length c1_1)] 32 (0, 0))) ∧ Aside0 (w'.heap[gb304]? = some (.cells #[.bool false, (.slice none 0 0)] 32 (0, 0))) ∧ Aside0 (w'.heap[gb305]? = some (.cells #[.bool a0_0, u306001] 32 (0, 0))) ∧ Aside0 (Below w.heap.size w w'))
    case atStart => exact ⟨(0), (0), (([] : List Int)), (.slice none 0 0), (by first | rfl | (simp; done) | (simp [*]; done)), (by first | rfl | (simp; done) | (simp [*]; done)), H', ⟨Nat.le_refl _⟩, ⟨by first | exact Kd.R_nil _ _ _ _ _ | exact Kd.N_nil _ _ _ _ _ | exact Kd.V_nil _ _ _ _ _ | exact Kd.Q_nil _ _ _ _ _ | exact Kd.S_nil _ _ _ _ _⟩, ⟨by (with_reducible repeat (first | refine blk_drewN ?_ _ | refine blk_drew ?_ | refine blk_alloc ?_ _)); refine blk_far ?_ NB302_305.out _; (with_reducible repeat (first | refine blk_drewN ?_ _ | refine blk_drew ?_ | refine blk_alloc ?_ _)); refine blk_far ?_ NB302_305.out _; (with_reducible repeat (first | refine blk_drewN ?_ _ | refine blk_drew ?_ | refine blk_alloc ?_ _)); exact BK302.out⟩, ⟨by (with_reducible repeat (first | refine blk_drewN ?_ _ | refine blk_drew ?_ | refine blk_alloc ?_ _)); refine blk_far ?_ NB303_305.out _; (with_reducible repeat (first | refine blk_drewN ?_ _ | refine blk_drew ?_ | refine blk_alloc ?_ _)); refine blk_far ?_ NB303_305.out _; (with_reducible repeat (first | refine blk_drewN ?_ _ | refine blk_drew ?_ | refine blk_alloc ?_ _)); exact BK303.out⟩, ⟨by (with_reducible repeat (first | refine blk_drewN ?_ _ | refine blk_drew ?_ | refine blk_alloc ?_ _)); refine blk_far ?_ NB304_305.out _; (with_reducible repeat (first | refine blk_drewN ?_ _ | refine blk_drew ?_ | refine blk_alloc ?_ _)); refine blk_far ?_ NB304_305.out _; (with_reducible repeat (first | refine blk_drewN ?_ _ | refine blk_drew ?_ | refine blk_alloc ?_ _)); exact BK304.out⟩, ⟨by (with_reducible repeat (first | refine blk_drewN ?_ _ | refine blk_drew ?_ | refine blk_alloc ?_ _)); refine blk_put (cs := #[.bool a0_0, .slice none 0 0]) ?_ 1 _ rfl; (with_reducible repeat (first | refine blk_drewN ?_ _ | refine blk_drew ?_ | refine blk_alloc ?_ _)); refine blk_put (cs := #[.bool false, .slice none 0 0]) ?_ 0 _ rfl; (with_reducible repeat (first | refine blk_drewN ?_ _ | refine blk_drew ?_ | refine blk_alloc ?_ _)); exact BK305.out⟩, ⟨by repeat (first | (with_reducible first | exact HB.out | apply below_alloc | apply pw_below_drewN | apply below_drew1 | refine below_set ?_ GE302.out | refine below_set ?_ GE303.out | refine below_set ?_ GE304.out | refine below_set ?_ GE305.out) | exact HB.out)⟩⟩
    case round =>
      clear H'
      try clear c1
      try clear c2
      try clear p2
      try clear c3
      try clear c3b0
      try clear c3b1
      try clear c3b2
      try clear c7
      try clear c8
      try clear c10
      try clear c13
      try clear c14
      try clear c15
      try clear hcz11_0
      try clear hcz11_1
      try clear hcz16_0
      try clear hcz16_1
      try clear hcz9_0
      try clear hcz9_1
      try clear hfz11_0
      try clear hfz11_1
      try clear hfz16_0
      try clear hfz16_1
      try clear hfz9_0
      try clear hfz9_1
      obtain ⟨x6_1, x7_1, x306001_1, u306001, rfl, rfl, HA, HK1, HO_306001, BK302, BK303, BK304, BK305, HB⟩ := hrel
      cases gk with
      | zero => exact absurd HA.out (by simp [clevisref01_Add.l0])
      | succ k1 =>
        have H := HA.out
        clear HA
        simp only [clevisref01_Add.l0] at H
        have HC17 := Aside0.mk H
        clear H
        go_upto_region 5 with (fail)
        go_cut [32] (fun v32 wc => ∃ (kq : Nat) (x32_16 : Bool), v32 = .bool x32_16 ∧ Aside0 (clevisref01_Add.j1 kq x6_1 x7_1 x32_16 a0_0 l0_1 a1_0 l1_1 a0_0 x306001_1 = some (r1, r2)) ∧ Aside0 (kq ≤ k1) ∧ Aside0 (Kd.R (Kd.int .i64) 3 wc w.heap.size (fun k_ => (w.heap.size ≤ k_)) u306001 x306001_1) ∧ Aside0 (wc.heap[gb302]? = some (.cells #[.bool a0_0, (.slice A0_1 l0_1.length c0_1)] 32 (0, 0))) ∧ Aside0 (wc.heap[gb303]? = some (.cells #[.bool a1_0, (.slice A1_1 l1_1.length c1_1)] 32 (0, 0))) ∧ Aside0 (wc.heap[gb304]? = some (.cells #[.bool false, (.slice none 0 0)] 32 (0, 0))) ∧ Aside0 (wc.heap[gb305]? = some (.cells #[.bool a0_0, u306001] 32 (0, 0))) ∧ Aside0 (Below w.heap.size w wc))
        case first =>
          have H := HC17.out
          clear HC17
          by_cases c18 : x7_1 < (l0_1.length : Int)
          · rw [if_pos c18] at H
            have c18b0 : decide (x7_1 < (l0_1.length : Int)) = true := decide_eq_true c18
            clear c18
            (first | rw [c18b0] | (simp only [i64_w, i32_w]; rw [c18b0]) | skip)
            have H' := Aside0.mk H
            clear H
            have hnb19 := NB302_303.out
            have hnc19 := NB303_302.out
            have hnb20 := NB302_304.out
            have hnc20 := NB304_302.out
            have hnb21 := NB302_305.out
            have hnc21 := NB305_302.out
            have hcz22_0 : wr.cell? ⟨gb302, 0, none⟩ = some (.bool a0_0) := (blk_cell BK302.out 0).trans rfl
            have hcz22_1 : wr.cell? ⟨gb302, 1, none⟩ = some (.slice A0_1 l0_1.length c0_1) := (blk_cell BK302.out 1).trans rfl
            have hfz22_0 := blk_frozen BK302.out 0
            have hfz22_1 := blk_frozen BK302.out 1
            go_wp2
            go_meet
            case rel => exact ⟨_, (true), (by first | rfl | (simp; done) | (simp [*]; done)), H', ⟨by have := HK1.out; first | omega | exact Nat.le_refl _⟩, ⟨by (with_reducible repeat (first | apply Kd.R_alloc | apply Kd.R_drewN | apply Kd.R_drew)); exact HO_306001.out⟩, ⟨by (with_reducible repeat (first | refine blk_drewN ?_ _ | refine blk_drew ?_ | refine blk_alloc ?_ _)); exact BK302.out⟩, ⟨by (with_reducible repeat (first | refine blk_drewN ?_ _ | refine blk_drew ?_ | refine blk_alloc ?_ _)); exact BK303.out⟩, ⟨by (with_reducible repeat (first | refine blk_drewN ?_ _ | refine blk_drew ?_ | refine blk_alloc ?_ _)); exact BK304.out⟩, ⟨by (with_reducible repeat (first | refine blk_drewN ?_ _ | refine blk_drew ?_ | refine blk_alloc ?_ _)); exact BK305.out⟩, ⟨by repeat (first | (with_reducible first | exact HB.out | apply below_alloc | apply pw_below_drewN | apply below_drew1 | refine below_set ?_ GE302.out | refine below_set ?_ GE303.out | refine below_set ?_ GE304.out | refine below_set ?_ GE305.out) | exact HB.out)⟩⟩
          · rw [if_neg c18] at H
            have c18b0 : decide (x7_1 < (l0_1.length : Int)) = false := decide_eq_false c18
            clear c18
            (first | rw [c18b0] | (simp only [i64_w, i32_w]; rw [c18b0]) | skip)
            have H' := Aside0.mk H
            clear H
            have hnb23 := NB302_303.out
            have hnc23 := NB303_302.out
            have hnb24 := NB302_304.out
            have hnc24 := NB304_302.out
            have hnb25 := NB302_305.out
            have hnc25 := NB305_302.out
            have hcz26_0 : wr.cell? ⟨gb302, 0, none⟩ = some (.bool a0_0) := (blk_cell BK302.out 0).trans rfl
            have hcz26_1 : wr.cell? ⟨gb302, 1, none⟩ = some (.slice A0_1 l0_1.length c0_1) := (blk_cell BK302.out 1).trans rfl
            have hfz26_0 := blk_frozen BK302.out 0
            have hfz26_1 := blk_frozen BK302.out 1
            have hnb27 := NB303_304.out
            have hnc27 := NB304_303.out
            have hnb28 := NB303_305.out
            have hnc28 := NB305_303.out
            have hcz29_0 : wr.cell? ⟨gb303, 0, none⟩ = some (.bool a1_0) := (blk_cell BK303.out 0).trans rfl
            have hcz29_1 : wr.cell? ⟨gb303, 1, none⟩ = some (.slice A1_1 l1_1.length c1_1) := (blk_cell BK303.out 1).trans rfl
            have hfz29_0 := blk_frozen BK303.out 0
            have hfz29_1 := blk_frozen BK303.out 1
            go_wp2
            go_meet
            case rel => exact ⟨_, (decide (x7_1 < (l1_1.length : Int))), (by first | rfl | (simp; done) | (simp [*]; done)), H', ⟨by have := HK1.out; first | omega | exact Nat.le_refl _⟩, ⟨by (with_reducible repeat (first | apply Kd.R_alloc | apply Kd.R_drewN | apply Kd.R_drew)); exact HO_306001.out⟩, ⟨by (with_reducible repeat (first | refine blk_drewN ?_ _ | refine blk_drew ?_ | refine blk_alloc ?_ _)); exact BK302.out⟩, ⟨by (with_reducible repeat (first | refine blk_drewN ?_ _ | refine blk_drew ?_ | refine blk_alloc ?_ _)); exact BK303.out⟩, ⟨by (with_reducible repeat (first | refine blk_drewN ?_ _ | refine blk_drew ?_ | refine blk_alloc ?_ _)); exact BK304.out⟩, ⟨by (with_reducible repeat (first | refine blk_drewN ?_ _ | refine blk_drew ?_ | refine blk_alloc ?_ _)); exact BK305.out⟩, ⟨by repeat (first | (with_reducible first | exact HB.out | apply below_alloc | apply pw_below_drewN | apply below_drew1 | refine below_set ?_ GE302.out | refine below_set ?_ GE303.out | refine below_set ?_ GE304.out | refine below_set ?_ GE305.out) | exact HB.out)⟩⟩
        case rest =>
          clear HC17
          try clear c1
          try clear c2
          try clear p2
          try clear c3
          try clear c3b0
          try clear c3b1
          try clear c3b2
          try clear c7
          try clear c8
          try clear c10
          try clear c13
          try clear c14
          try clear c15
          try clear c18
          try clear c18b0
          try clear c19
          try clear c20
          try clear c21
          try clear c23
          try clear c24
          try clear c25
          try clear c27
          try clear c28
          try clear hcz11_0
          try clear hcz11_1
          try clear hcz16_0
          try clear hcz16_1
          try clear hcz22_0
          try clear hcz22_1
          try clear hcz26_0
          try clear hcz26_1
          try clear hcz29_0
          try clear hcz29_1
          try clear hcz9_0
          try clear hcz9_1
          try clear hfz11_0
          try clear hfz11_1
          try clear hfz16_0
          try clear hfz16_1
          try clear hfz22_0
          try clear hfz22_1
          try clear hfz26_0
          try clear hfz26_1
          try clear hfz29_0
          try clear hfz29_1
          try clear hfz9_0
          try clear hfz9_1
          try clear p2
          obtain ⟨kq, x32_16, rfl, HA, HJ16, HO_306001, BK302, BK303, BK304, BK305, HB⟩ := hcut
          cases kq with
          | zero => exact absurd HA.out (by simp [clevisref01_Add.j1])
          | succ kj16 =>
            have H := HA.out
            clear HA
            simp only [clevisref01_Add.j1] at H
            by_cases c30 : x32_16 = true
            · subst c30
              have H1 : ((clevisref01_at.f l0_1 x7_1).bind fun t173 => ((clevisref01_at.f l1_1 x7_1).bind fun t174 => (if x306001_1.length < 17592186044416 then (clevisref01_Add.l0 kj16 (wrap64 (Int.tdiv (wrap64 ((wrap64 (t173 + t174)) + x6_1)) 65536)) (wrap64 (x7_1 + 1)) a0_0 l0_1 a1_0 l1_1 a0_0 (x306001_1 ++ [Int.tmod (wrap64 ((wrap64 (t173 + t174)) + x6_1)) 65536])) else (none)))) = some (r1, r2) := by rw [if_pos rfl] at H; exact H
              clear H
              have H := H1
              clear H1
              replace H := Option.bind_eq_some_iff.mp H
              obtain ⟨t173, A310, H⟩ := H
              replace H : ((clevisref01_at.f l1_1 x7_1).bind fun t174 => (if x306001_1.length < 17592186044416 then (clevisref01_Add.l0 kj16 (wrap64 (Int.tdiv (wrap64 ((wrap64 (t173 + t174)) + x6_1)) 65536)) (wrap64 (x7_1 + 1)) a0_0 l0_1 a1_0 l1_1 a0_0 (x306001_1 ++ [Int.tmod (wrap64 ((wrap64 (t173 + t174)) + x6_1)) 65536])) else (none))) = some (r1, r2) := H
              have A31 := Aside0.mk A310
              clear A310
              replace H := Option.bind_eq_some_iff.mp H
              obtain ⟨t174, A320, H⟩ := H
              replace H : (if x306001_1.length < 17592186044416 then (clevisref01_Add.l0 kj16 (wrap64 (Int.tdiv (wrap64 ((wrap64 (t173 + t174)) + x6_1)) 65536)) (wrap64 (x7_1 + 1)) a0_0 l0_1 a1_0 l1_1 a0_0 (x306001_1 ++ [Int.tmod (wrap64 ((wrap64 (t173 + t174)) + x6_1)) 65536])) else (none)) = some (r1, r2) := H
              have A32 := Aside0.mk A320
              clear A320
              by_cases c33 : x306001_1.length < 17592186044416
              · rw [if_pos c33] at H
                have LMc33 := Aside0.mk c33
                clear c33
                obtain ⟨y175, hy175⟩ : ∃ y_ : List Int, y_ = (x306001_1 ++ [Int.tmod (wrap64 ((wrap64 (t173 + t174)) + x6_1)) 65536]) := ⟨_, rfl⟩
                replace H : (clevisref01_Add.l0 kj16 (wrap64 (Int.tdiv (wrap64 ((wrap64 (t173 + t174)) + x6_1)) 65536)) (wrap64 (x7_1 + 1)) a0_0 l0_1 a1_0 l1_1 a0_0 y175) = some (r1, r2) := by first | (rw [hy175]; with_reducible exact H) | (have H2_ := (Option.bind_some _ _).symm.trans H; rw [hy175]; with_reducible exact H2_) | (have H2_ := (Option.bind_some _ _).symm.trans H; with_reducible exact H2_) | with_reducible exact H | (rw [hy175]; exact H) | exact H
                have Ny175 := Aside0.mk hy175
                clear hy175
                have H' := Aside0.mk H
                clear H
                have hnb34 := NB302_303.out
                have hnc34 := NB303_302.out
                have hnb35 := NB302_304.out
                have hnc35 := NB304_302.out
                have hnb36 := NB302_305.out
                have hnc36 := NB305_302.out
                have hcz37_0 : wc.cell? ⟨gb302, 0, none⟩ = some (.bool a0_0) := (blk_cell BK302.out 0).trans rfl
                have hcz37_1 : wc.cell? ⟨gb302, 1, none⟩ = some (.slice A0_1 l0_1.length c0_1) := (blk_cell BK302.out 1).trans rfl
                have hfz37_0 := blk_frozen BK302.out 0
                have hfz37_1 := blk_frozen BK302.out 1
                go_wp2_with (first | (go_at_call 54; (with_reducible refine (clevisref01_at.calls _ _ l0_1 x7_1 t173 _ ?side1 ?side2 A31.out).mono ?_); (case side1 => repeat (first | exact (Kd.C_below HR0_1.out HB.out) | (with_reducible refine Kd.C_alloc ?_ _) | (with_reducible refine Kd.C_drewN ?_ _) | (with_reducible refine Kd.C_drew ?_))); (case side2 => exact HC0_1.out); rintro e w' ⟨rfl, ⟨nd, rfl⟩⟩; (try first | exact ⟨rfl, _, World.drewN_drewN _ _ _⟩ | exact ⟨rfl, _, Eq.trans (World.drewN_drewN _ _ _) (congrArg (World.drewN _) (Nat.add_assoc _ _ _))⟩); have hnb38 := NB303_304.out; have hnc38 := NB304_303.out; have hnb39 := NB303_305.out; have hnc39 := NB305_303.out; have hcz40_0 : wc.cell? ⟨gb303, 0, none⟩ = some (.bool a1_0) := (blk_cell BK303.out 0).trans rfl; have hcz40_1 : wc.cell? ⟨gb303, 1, none⟩ = some (.slice A1_1 l1_1.length c1_1) := (blk_cell BK303.out 1).trans rfl; have hfz40_0 := blk_frozen BK303.out 0; have hfz40_1 := blk_frozen BK303.out 1) | (go_at_call 54; (with_reducible refine (clevisref01_at.calls _ _ l1_1 x7_1 t174 _ ?side1 ?side2 A32.out).mono ?_); (case side1 => repeat (first | exact (Kd.C_below HR1_1.out (by repeat (first | (with_reducible first | exact HB.out | apply below_alloc | apply pw_below_drewN | apply below_drew1 | refine below_set ?_ GE302.out | refine below_set ?_ GE303.out | refine below_set ?_ GE304.out | refine below_set ?_ GE305.out) | exact HB.out))) | (with_reducible refine Kd.C_alloc ?_ _) | (with_reducible refine Kd.C_drewN ?_ _) | (with_reducible refine Kd.C_drew ?_))); (case side2 => exact HC1_1.out); rintro e w' ⟨rfl, ⟨nd, rfl⟩⟩; (try first | exact ⟨rfl, _, World.drewN_drewN _ _ _⟩ | exact ⟨rfl, _, Eq.trans (World.drewN_drewN _ _ _) (congrArg (World.drewN _) (Nat.add_assoc _ _ _))⟩); have hnb41 := NB305_304.out; have hnc41 := NB304_305.out; have hcz42_0 : wc.cell? ⟨gb305, 0, none⟩ = some (.bool a0_0) := (blk_cell BK305.out 0).trans rfl; have hcz42_1 : wc.cell? ⟨gb305, 1, none⟩ = some (u306001) := (blk_cell BK305.out 1).trans rfl; have hfz42_0 := blk_frozen BK305.out 0; have hfz42_1 := blk_frozen BK305.out 1) | ((with_reducible refine gate_builtin (b := .append) (xs := #[.tmp 47, .tmp 50]) rfl ?_); (try (refine gate_guard (by rfl) ?_; dsimp only)); at_builtin; refine Kd.R_append (Kd.int .i64) (w0 := w) w.heap.size rfl (.tmp 47) (.tmp 50) 30 3 (.int .i64 0) 8 rfl Try.underlying30 info3 rfl (by decide) (by omega) u306001 x306001_1 (Int.tmod (wrap64 ((wrap64 (t173 + t174)) + x6_1)) 65536) [.int .i64 (Int.tmod (wrap64 ((wrap64 (t173 + t174)) + x6_1)) 65536)] (fun k_ => (w.heap.size ≤ k_)) (fun _ => False) rfl rfl ?aP (fun _ hk => hk.elim) ?aF ?aO ?aB ?aS ?aL ?_; (case aP => exact rfl); (case aB => exact (by repeat (first | (with_reducible first | exact HB.out | apply below_alloc | apply pw_below_drewN | apply below_drew1 | refine below_set ?_ GE302.out | refine below_set ?_ GE303.out | refine below_set ?_ GE304.out | refine below_set ?_ GE305.out) | exact HB.out))); (case aF => exact (fun k_ hk => (Nat.le_trans (below_size (by repeat (first | (with_reducible first | exact HB.out | apply below_alloc | apply pw_below_drewN | apply below_drew1 | refine below_set ?_ GE302.out | refine below_set ?_ GE303.out | refine below_set ?_ GE304.out | refine below_set ?_ GE305.out) | exact HB.out))) hk))); (case aO => exact (by (with_reducible repeat (first | apply Kd.R_alloc | apply Kd.R_drewN | apply Kd.R_drew)); exact HO_306001.out)); (case aS => exact (below_size (by repeat (first | (with_reducible first | exact HB.out | apply below_alloc | apply pw_below_drewN | apply below_drew1 | refine below_set ?_ GE302.out | refine below_set ?_ GE303.out | refine below_set ?_ GE304.out | refine below_set ?_ GE305.out) | exact HB.out)))); (case aL => have := LMc33.out; omega); intro v176 w43 ho hb hg hat; rw [← Ny175.out] at ho; have n0_ := Aside0.mk (blk_grown (g := gb302) (o := .cells #[.bool a0_0, .slice A0_1 l0_1.length c0_1] 32 (0, 0)) (by (with_reducible repeat (first | refine blk_drewN ?_ _ | refine blk_drew ?_ | refine blk_alloc ?_ _)); exact BK302.out) hg (Kd.R_ne HO_306001.out BK302.out (by decide))); have n1_ := Aside0.mk (blk_grown (g := gb303) (o := .cells #[.bool a1_0, .slice A1_1 l1_1.length c1_1] 32 (0, 0)) (by (with_reducible repeat (first | refine blk_drewN ?_ _ | refine blk_drew ?_ | refine blk_alloc ?_ _)); exact BK303.out) hg (Kd.R_ne HO_306001.out BK303.out (by decide))); have n2_ := Aside0.mk (blk_grown (g := gb304) (o := .cells #[.bool false, .slice none 0 0] 32 (0, 0)) (by (with_reducible repeat (first | refine blk_drewN ?_ _ | refine blk_drew ?_ | refine blk_alloc ?_ _)); exact BK304.out) hg (Kd.R_ne HO_306001.out BK304.out (by decide))); have n3_ := Aside0.mk (blk_grown (g := gb305) (o := .cells #[.bool a0_0, u306001] 32 (0, 0)) (by (with_reducible repeat (first | refine blk_drewN ?_ _ | refine blk_drew ?_ | refine blk_alloc ?_ _)); exact BK305.out) hg (Kd.R_ne HO_306001.out BK305.out (by decide))); have n4_ := Aside0.mk (hb); have n5_ := Aside0.mk (ho); clear BK302; clear BK303; clear BK304; clear BK305; clear HB; clear HO_306001; have BK302 := n0_; have BK303 := n1_; have BK304 := n2_; have BK305 := n3_; have HB := n4_; have HO177 := n5_; clear n0_ n1_ n2_ n3_ n4_ n5_; clear ho hb hg hat; obtain ⟨Ao44, co44, eo44⟩ := Kd.R_slice HO177.out; subst eo44; have hcz45_0 : w43.cell? ⟨gb305, 0, none⟩ = some (.bool a0_0) := (blk_cell BK305.out 0).trans rfl; have hcz45_1 : w43.cell? ⟨gb305, 1, none⟩ = some (u306001) := (blk_cell BK305.out 1).trans rfl; have hfz45_0 := blk_frozen BK305.out 0; have hfz45_1 := blk_frozen BK305.out 1))
                repeat (go_quiet (first | (go_at_call 54; (with_reducible refine (clevisref01_at.calls _ _ l0_1 x7_1 t173 _ ?side1 ?side2 A31.out).mono ?_); (case side1 => repeat (first | exact (Kd.C_below HR0_1.out HB.out) | (with_reducible refine Kd.C_alloc ?_ _) | (with_reducible refine Kd.C_drewN ?_ _) | (with_reducible refine Kd.C_drew ?_))); (case side2 => exact HC0_1.out); rintro e w' ⟨rfl, ⟨nd, rfl⟩⟩; (try first | exact ⟨rfl, _, World.drewN_drewN _ _ _⟩ | exact ⟨rfl, _, Eq.trans (World.drewN_drewN _ _ _) (congrArg (World.drewN _) (Nat.add_assoc _ _ _))⟩); have hnb38 := NB303_304.out; have hnc38 := NB304_303.out; have hnb39 := NB303_305.out; have hnc39 := NB305_303.out; have hcz40_0 : wc.cell? ⟨gb303, 0, none⟩ = some (.bool a1_0) := (blk_cell BK303.out 0).trans rfl; have hcz40_1 : wc.cell? ⟨gb303, 1, none⟩ = some (.slice A1_1 l1_1.length c1_1) := (blk_cell BK303.out 1).trans rfl; have hfz40_0 := blk_frozen BK303.out 0; have hfz40_1 := blk_frozen BK303.out 1) | (go_at_call 54; (with_reducible refine (clevisref01_at.calls _ _ l1_1 x7_1 t174 _ ?side1 ?side2 A32.out).mono ?_); (case side1 => repeat (first | exact (Kd.C_below HR1_1.out (by repeat (first | (with_reducible first | exact HB.out | apply below_alloc | apply pw_below_drewN | apply below_drew1 | refine below_set ?_ GE302.out | refine below_set ?_ GE303.out | refine below_set ?_ GE304.out | refine below_set ?_ GE305.out) | exact HB.out))) | (with_reducible refine Kd.C_alloc ?_ _) | (with_reducible refine Kd.C_drewN ?_ _) | (with_reducible refine Kd.C_drew ?_))); (case side2 => exact HC1_1.out); rintro e w' ⟨rfl, ⟨nd, rfl⟩⟩; (try first | exact ⟨rfl, _, World.drewN_drewN _ _ _⟩ | exact ⟨rfl, _, Eq.trans (World.drewN_drewN _ _ _) (congrArg (World.drewN _) (Nat.add_assoc _ _ _))⟩); have hnb41 := NB305_304.out; have hnc41 := NB304_305.out; have hcz42_0 : wc.cell? ⟨gb305, 0, none⟩ = some (.bool a0_0) := (blk_cell BK305.out 0).trans rfl; have hcz42_1 : wc.cell? ⟨gb305, 1, none⟩ = some (u306001) := (blk_cell BK305.out 1).trans rfl; have hfz42_0 := blk_frozen BK305.out 0; have hfz42_1 := blk_frozen BK305.out 1) | ((with_reducible refine gate_builtin (b := .append) (xs := #[.tmp 47, .tmp 50]) rfl ?_); (try (refine gate_guard (by rfl) ?_; dsimp only)); at_builtin; refine Kd.R_append (Kd.int .i64) (w0 := w) w.heap.size rfl (.tmp 47) (.tmp 50) 30 3 (.int .i64 0) 8 rfl Try.underlying30 info3 rfl (by decide) (by omega) u306001 x306001_1 (Int.tmod (wrap64 ((wrap64 (t173 + t174)) + x6_1)) 65536) [.int .i64 (Int.tmod (wrap64 ((wrap64 (t173 + t174)) + x6_1)) 65536)] (fun k_ => (w.heap.size ≤ k_)) (fun _ => False) rfl rfl ?aP (fun _ hk => hk.elim) ?aF ?aO ?aB ?aS ?aL ?_; (case aP => exact rfl); (case aB => exact (by repeat (first | (with_reducible first | exact HB.out | apply below_alloc | apply pw_below_drewN | apply below_drew1 | refine below_set ?_ GE302.out | refine below_set ?_ GE303.out | refine below_set ?_ GE304.out | refine below_set ?_ GE305.out) | exact HB.out))); (case aF => exact (fun k_ hk => (Nat.le_trans (below_size (by repeat (first | (with_reducible first | exact HB.out | apply below_alloc | apply pw_below_drewN | apply below_drew1 | refine below_set ?_ GE302.out | refine below_set ?_ GE303.out | refine below_set ?_ GE304.out | refine below_set ?_ GE305.out) | exact HB.out))) hk))); (case aO => exact (by (with_reducible repeat (first | apply Kd.R_alloc | apply Kd.R_drewN | apply Kd.R_drew)); exact HO_306001.out)); (case aS => exact (below_size (by repeat (first | (with_reducible first | exact HB.out | apply below_alloc | apply pw_below_drewN | apply below_drew1 | refine below_set ?_ GE302.out | refine below_set ?_ GE303.out | refine below_set ?_ GE304.out | refine below_set ?_ GE305.out) | exact HB.out)))); (case aL => have := LMc33.out; omega); intro v176 w43 ho hb hg hat; rw [← Ny175.out] at ho; have n0_ := Aside0.mk (blk_grown (g := gb302) (o := .cells #[.bool a0_0, .slice A0_1 l0_1.length c0_1] 32 (0, 0)) (by (with_reducible repeat (first | refine blk_drewN ?_ _ | refine blk_drew ?_ | refine blk_alloc ?_ _)); exact BK302.out) hg (Kd.R_ne HO_306001.out BK302.out (by decide))); have n1_ := Aside0.mk (blk_grown (g := gb303) (o := .cells #[.bool a1_0, .slice A1_1 l1_1.length c1_1] 32 (0, 0)) (by (with_reducible repeat (first | refine blk_drewN ?_ _ | refine blk_drew ?_ | refine blk_alloc ?_ _)); exact BK303.out) hg (Kd.R_ne HO_306001.out BK303.out (by decide))); have n2_ := Aside0.mk (blk_grown (g := gb304) (o := .cells #[.bool false, .slice none 0 0] 32 (0, 0)) (by (with_reducible repeat (first | refine blk_drewN ?_ _ | refine blk_drew ?_ | refine blk_alloc ?_ _)); exact BK304.out) hg (Kd.R_ne HO_306001.out BK304.out (by decide))); have n3_ := Aside0.mk (blk_grown (g := gb305) (o := .cells #[.bool a0_0, u306001] 32 (0, 0)) (by (with_reducible repeat (first | refine blk_drewN ?_ _ | refine blk_drew ?_ | refine blk_alloc ?_ _)); exact BK305.out) hg (Kd.R_ne HO_306001.out BK305.out (by decide))); have n4_ := Aside0.mk (hb); have n5_ := Aside0.mk (ho); clear BK302; clear BK303; clear BK304; clear BK305; clear HB; clear HO_306001; have BK302 := n0_; have BK303 := n1_; have BK304 := n2_; have BK305 := n3_; have HB := n4_; have HO177 := n5_; clear n0_ n1_ n2_ n3_ n4_ n5_; clear ho hb hg hat; obtain ⟨Ao44, co44, eo44⟩ := Kd.R_slice HO177.out; subst eo44; have hcz45_0 : w43.cell? ⟨gb305, 0, none⟩ = some (.bool a0_0) := (blk_cell BK305.out 0).trans rfl; have hcz45_1 : w43.cell? ⟨gb305, 1, none⟩ = some (u306001) := (blk_cell BK305.out 1).trans rfl; have hfz45_0 := blk_frozen BK305.out 0; have hfz45_1 := blk_frozen BK305.out 1)); try go_wp2_with (first | (go_at_call 54; (with_reducible refine (clevisref01_at.calls _ _ l0_1 x7_1 t173 _ ?side1 ?side2 A31.out).mono ?_); (case side1 => repeat (first | exact (Kd.C_below HR0_1.out HB.out) | (with_reducible refine Kd.C_alloc ?_ _) | (with_reducible refine Kd.C_drewN ?_ _) | (with_reducible refine Kd.C_drew ?_))); (case side2 => exact HC0_1.out); rintro e w' ⟨rfl, ⟨nd, rfl⟩⟩; (try first | exact ⟨rfl, _, World.drewN_drewN _ _ _⟩ | exact ⟨rfl, _, Eq.trans (World.drewN_drewN _ _ _) (congrArg (World.drewN _) (Nat.add_assoc _ _ _))⟩); have hnb38 := NB303_304.out; have hnc38 := NB304_303.out; have hnb39 := NB303_305.out; have hnc39 := NB305_303.out; have hcz40_0 : wc.cell? ⟨gb303, 0, none⟩ = some (.bool a1_0) := (blk_cell BK303.out 0).trans rfl; have hcz40_1 : wc.cell? ⟨gb303, 1, none⟩ = some (.slice A1_1 l1_1.length c1_1) := (blk_cell BK303.out 1).trans rfl; have hfz40_0 := blk_frozen BK303.out 0; have hfz40_1 := blk_frozen BK303.out 1) | (go_at_call 54; (with_reducible refine (clevisref01_at.calls _ _ l1_1 x7_1 t174 _ ?side1 ?side2 A32.out).mono ?_); (case side1 => repeat (first | exact (Kd.C_below HR1_1.out (by repeat (first | (with_reducible first | exact HB.out | apply below_alloc | apply pw_below_drewN | apply below_drew1 | refine below_set ?_ GE302.out | refine below_set ?_ GE303.out | refine below_set ?_ GE304.out | refine below_set ?_ GE305.out) | exact HB.out))) | (with_reducible refine Kd.C_alloc ?_ _) | (with_reducible refine Kd.C_drewN ?_ _) | (with_reducible refine Kd.C_drew ?_))); (case side2 => exact HC1_1.out); rintro e w' ⟨rfl, ⟨nd, rfl⟩⟩; (try first | exact ⟨rfl, _, World.drewN_drewN _ _ _⟩ | exact ⟨rfl, _, Eq.trans (World.drewN_drewN _ _ _) (congrArg (World.drewN _) (Nat.add_assoc _ _ _))⟩); have hnb41 := NB305_304.out; have hnc41 := NB304_305.out; have hcz42_0 : wc.cell? ⟨gb305, 0, none⟩ = some (.bool a0_0) := (blk_cell BK305.out 0).trans rfl; have hcz42_1 : wc.cell? ⟨gb305, 1, none⟩ = some (u306001) := (blk_cell BK305.out 1).trans rfl; have hfz42_0 := blk_frozen BK305.out 0; have hfz42_1 := blk_frozen BK305.out 1) | ((with_reducible refine gate_builtin (b := .append) (xs := #[.tmp 47, .tmp 50]) rfl ?_); (try (refine gate_guard (by rfl) ?_; dsimp only)); at_builtin; refine Kd.R_append (Kd.int .i64) (w0 := w) w.heap.size rfl (.tmp 47) (.tmp 50) 30 3 (.int .i64 0) 8 rfl Try.underlying30 info3 rfl (by decide) (by omega) u306001 x306001_1 (Int.tmod (wrap64 ((wrap64 (t173 + t174)) + x6_1)) 65536) [.int .i64 (Int.tmod (wrap64 ((wrap64 (t173 + t174)) + x6_1)) 65536)] (fun k_ => (w.heap.size ≤ k_)) (fun _ => False) rfl rfl ?aP (fun _ hk => hk.elim) ?aF ?aO ?aB ?aS ?aL ?_; (case aP => exact rfl); (case aB => exact (by repeat (first | (with_reducible first | exact HB.out | apply below_alloc | apply pw_below_drewN | apply below_drew1 | refine below_set ?_ GE302.out | refine below_set ?_ GE303.out | refine below_set ?_ GE304.out | refine below_set ?_ GE305.out) | exact HB.out))); (case aF => exact (fun k_ hk => (Nat.le_trans (below_size (by repeat (first | (with_reducible first | exact HB.out | apply below_alloc | apply pw_below_drewN | apply below_drew1 | refine below_set ?_ GE302.out | refine below_set ?_ GE303.out | refine below_set ?_ GE304.out | refine below_set ?_ GE305.out) | exact HB.out))) hk))); (case aO => exact (by (with_reducible repeat (first | apply Kd.R_alloc | apply Kd.R_drewN | apply Kd.R_drew)); exact HO_306001.out)); (case aS => exact (below_size (by repeat (first | (with_reducible first | exact HB.out | apply below_alloc | apply pw_below_drewN | apply below_drew1 | refine below_set ?_ GE302.out | refine below_set ?_ GE303.out | refine below_set ?_ GE304.out | refine below_set ?_ GE305.out) | exact HB.out)))); (case aL => have := LMc33.out; omega); intro v176 w43 ho hb hg hat; rw [← Ny175.out] at ho; have n0_ := Aside0.mk (blk_grown (g := gb302) (o := .cells #[.bool a0_0, .slice A0_1 l0_1.length c0_1] 32 (0, 0)) (by (with_reducible repeat (first | refine blk_drewN ?_ _ | refine blk_drew ?_ | refine blk_alloc ?_ _)); exact BK302.out) hg (Kd.R_ne HO_306001.out BK302.out (by decide))); have n1_ := Aside0.mk (blk_grown (g := gb303) (o := .cells #[.bool a1_0, .slice A1_1 l1_1.length c1_1] 32 (0, 0)) (by (with_reducible repeat (first | refine blk_drewN ?_ _ | refine blk_drew ?_ | refine blk_alloc ?_ _)); exact BK303.out) hg (Kd.R_ne HO_306001.out BK303.out (by decide))); have n2_ := Aside0.mk (blk_grown (g := gb304) (o := .cells #[.bool false, .slice none 0 0] 32 (0, 0)) (by (with_reducible repeat (first | refine blk_drewN ?_ _ | refine blk_drew ?_ | refine blk_alloc ?_ _)); exact BK304.out) hg (Kd.R_ne HO_306001.out BK304.out (by decide))); have n3_ := Aside0.mk (blk_grown (g := gb305) (o := .cells #[.bool a0_0, u306001] 32 (0, 0)) (by (with_reducible repeat (first | refine blk_drewN ?_ _ | refine blk_drew ?_ | refine blk_alloc ?_ _)); exact BK305.out) hg (Kd.R_ne HO_306001.out BK305.out (by decide))); have n4_ := Aside0.mk (hb); have n5_ := Aside0.mk (ho); clear BK302; clear BK303; clear BK304; clear BK305; clear HB; clear HO_306001; have BK302 := n0_; have BK303 := n1_; have BK304 := n2_; have BK305 := n3_; have HB := n4_; have HO177 := n5_; clear n0_ n1_ n2_ n3_ n4_ n5_; clear ho hb hg hat; obtain ⟨Ao44, co44, eo44⟩ := Kd.R_slice HO177.out; subst eo44; have hcz45_0 : w43.cell? ⟨gb305, 0, none⟩ = some (.bool a0_0) := (blk_cell BK305.out 0).trans rfl; have hcz45_1 : w43.cell? ⟨gb305, 1, none⟩ = some (u306001) := (blk_cell BK305.out 1).trans rfl; have hfz45_0 := blk_frozen BK305.out 0; have hfz45_1 := blk_frozen BK305.out 1)))
                go_roundg kj16
                case measure => have := HK1.out; have := HJ16.out; omega
                case rel => exact ⟨(wrap64 (Int.tdiv (wrap64 ((wrap64 (t173 + t174)) + x6_1)) 65536)), (wrap64 (x7_1 + 1)), (y175), (.slice Ao44 y175.length co44), (by first | rfl | (simp; done) | (simp [*]; done)), (by first | rfl | (simp; done) | (simp [*]; done)), H', ⟨by have := HK1.out; have := HJ16.out; omega⟩, ⟨by (with_reducible repeat (first | apply Kd.R_alloc | apply Kd.R_drewN | apply Kd.R_drew)); exact Kd.R_mono (Kd.R_far (p := ⟨gb305, 1, none⟩) (Kd.R_types HO177.out BK305.out (by decide)) (fun _ hk => hk.2) (.slice Ao44 y175.length co44)) (fun _ hk => hk.1)⟩, ⟨by (with_reducible repeat (first | refine blk_drewN ?_ _ | refine blk_drew ?_ | refine blk_alloc ?_ _)); refine blk_far ?_ NB302_305.out _; (with_reducible repeat (first | refine blk_drewN ?_ _ | refine blk_drew ?_ | refine blk_alloc ?_ _)); exact BK302.out⟩, ⟨by (with_reducible repeat (first | refine blk_drewN ?_ _ | refine blk_drew ?_ | refine blk_alloc ?_ _)); refine blk_far ?_ NB303_305.out _; (with_reducible repeat (first | refine blk_drewN ?_ _ | refine blk_drew ?_ | refine blk_alloc ?_ _)); exact BK303.out⟩, ⟨by (with_reducible repeat (first | refine blk_drewN ?_ _ | refine blk_drew ?_ | refine blk_alloc ?_ _)); refine blk_far ?_ NB304_305.out _; (with_reducible repeat (first | refine blk_drewN ?_ _ | refine blk_drew ?_ | refine blk_alloc ?_ _)); exact BK304.out⟩, ⟨by (with_reducible repeat (first | refine blk_drewN ?_ _ | refine blk_drew ?_ | refine blk_alloc ?_ _)); refine blk_put (cs := #[.bool a0_0, u306001]) ?_ 1 _ rfl; (with_reducible repeat (first | refine blk_drewN ?_ _ | refine blk_drew ?_ | refine blk_alloc ?_ _)); exact BK305.out⟩, ⟨by repeat (first | (with_reducible first | exact HB.out | apply below_alloc | apply pw_below_drewN | apply below_drew1 | refine below_set ?_ GE302.out | refine below_set ?_ GE303.out | refine below_set ?_ GE304.out | refine below_set ?_ GE305.out) | exact HB.out)⟩⟩
              · rw [if_neg c33] at H
                exact absurd H (by simp)
            · replace c30 := Bool.eq_false_iff.mpr c30
              subst c30
              have H1 : (if x306001_1.length < 17592186044416 then ((clevisref01_clean.f kj16 a0_0 (x306001_1 ++ [x6_1])).bind fun bt181 => (some (bt181.1, bt181.2))) else (none)) = some (r1, r2) := by rw [if_neg (show ¬ (false = true) by decide)] at H; exact H
              clear H
              have H := H1
              clear H1
              by_cases c46 : x306001_1.length < 17592186044416
              · rw [if_pos c46] at H
                have LMc46 := Aside0.mk c46
                clear c46
                obtain ⟨y178, hy178⟩ : ∃ y_ : List Int, y_ = (x306001_1 ++ [x6_1]) := ⟨_, rfl⟩
                replace H : ((clevisref01_clean.f kj16 a0_0 y178).bind fun bt181 => (some (bt181.1, bt181.2))) = some (r1, r2) := by first | (rw [hy178]; with_reducible exact H) | (have H2_ := (Option.bind_some _ _).symm.trans H; rw [hy178]; with_reducible exact H2_) | (have H2_ := (Option.bind_some _ _).symm.trans H; with_reducible exact H2_) | with_reducible exact H | (rw [hy178]; exact H) | exact H
                have Ny178 := Aside0.mk hy178
                clear hy178
                replace H := Option.bind_eq_some_iff.mp H
                obtain ⟨⟨t181, t182⟩, A470, H⟩ := H
                replace H : (some (t181, t182)) = some (r1, r2) := H
                have A47 := Aside0.mk A470
                clear A470
                simp only [Option.some.injEq, Prod.mk.injEq] at H
                obtain ⟨rfl, rfl⟩ := H
                have hnb48 := NB305_302.out
                have hnc48 := NB302_305.out
                have hnb49 := NB305_303.out
                have hnc49 := NB303_305.out
                have hnb50 := NB305_304.out
                have hnc50 := NB304_305.out
                have hcz51_0 : wc.cell? ⟨gb305, 0, none⟩ = some (.bool a0_0) := (blk_cell BK305.out 0).trans rfl
                have hcz51_1 : wc.cell? ⟨gb305, 1, none⟩ = some (u306001) := (blk_cell BK305.out 1).trans rfl
                have hfz51_0 := blk_frozen BK305.out 0
                have hfz51_1 := blk_frozen BK305.out 1
                go_wp2_with (first | ((with_reducible refine gate_builtin (b := .append) (xs := #[.tmp 56, .tmp 58]) rfl ?_); (try (refine gate_guard (by rfl) ?_; dsimp only)); at_builtin; refine Kd.R_append (Kd.int .i64) (w0 := w) w.heap.size rfl (.tmp 56) (.tmp 58) 30 3 (.int .i64 0) 8 rfl Try.underlying30 info3 rfl (by decide) (by omega) u306001 x306001_1 x6_1 [.int .i64 x6_1] (fun k_ => (w.heap.size ≤ k_)) (fun _ => False) rfl rfl ?aP (fun _ hk => hk.elim) ?aF ?aO ?aB ?aS ?aL ?_; (case aP => exact rfl); (case aB => exact (by repeat (first | (with_reducible first | exact HB.out | apply below_alloc | apply pw_below_drewN | apply below_drew1 | refine below_set ?_ GE302.out | refine below_set ?_ GE303.out | refine below_set ?_ GE304.out | refine below_set ?_ GE305.out) | exact HB.out))); (case aF => exact (fun k_ hk => (Nat.le_trans (below_size (by repeat (first | (with_reducible first | exact HB.out | apply below_alloc | apply pw_below_drewN | apply below_drew1 | refine below_set ?_ GE302.out | refine below_set ?_ GE303.out | refine below_set ?_ GE304.out | refine below_set ?_ GE305.out) | exact HB.out))) hk))); (case aO => exact (by (with_reducible repeat (first | apply Kd.R_alloc | apply Kd.R_drewN | apply Kd.R_drew)); exact HO_306001.out)); (case aS => exact (below_size (by repeat (first | (with_reducible first | exact HB.out | apply below_alloc | apply pw_below_drewN | apply below_drew1 | refine below_set ?_ GE302.out | refine below_set ?_ GE303.out | refine below_set ?_ GE304.out | refine below_set ?_ GE305.out) | exact HB.out)))); (case aL => have := LMc46.out; omega); intro v179 w52 ho hb hg hat; rw [← Ny178.out] at ho; have n0_ := Aside0.mk (blk_grown (g := gb302) (o := .cells #[.bool a0_0, .slice A0_1 l0_1.length c0_1] 32 (0, 0)) (by (with_reducible repeat (first | refine blk_drewN ?_ _ | refine blk_drew ?_ | refine blk_alloc ?_ _)); exact BK302.out) hg (Kd.R_ne HO_306001.out BK302.out (by decide))); have n1_ := Aside0.mk (blk_grown (g := gb303) (o := .cells #[.bool a1_0, .slice A1_1 l1_1.length c1_1] 32 (0, 0)) (by (with_reducible repeat (first | refine blk_drewN ?_ _ | refine blk_drew ?_ | refine blk_alloc ?_ _)); exact BK303.out) hg (Kd.R_ne HO_306001.out BK303.out (by decide))); have n2_ := Aside0.mk (blk_grown (g := gb304) (o := .cells #[.bool false, .slice none 0 0] 32 (0, 0)) (by (with_reducible repeat (first | refine blk_drewN ?_ _ | refine blk_drew ?_ | refine blk_alloc ?_ _)); exact BK304.out) hg (Kd.R_ne HO_306001.out BK304.out (by decide))); have n3_ := Aside0.mk (blk_grown (g := gb305) (o := .cells #[.bool a0_0, u306001] 32 (0, 0)) (by (with_reducible repeat (first | refine blk_drewN ?_ _ | refine blk_drew ?_ | refine blk_alloc ?_ _)); exact BK305.out) hg (Kd.R_ne HO_306001.out BK305.out (by decide))); have n4_ := Aside0.mk (hb); have n5_ := Aside0.mk (ho); clear BK302; clear BK303; clear BK304; clear BK305; clear HB; clear HO_306001; have BK302 := n0_; have BK303 := n1_; have BK304 := n2_; have BK305 := n3_; have HB := n4_; have HO180 := n5_; clear n0_ n1_ n2_ n3_ n4_ n5_; clear ho hb hg hat; obtain ⟨Ao53, co53, eo53⟩ := Kd.R_slice HO180.out; subst eo53; have hcz54_0 : w52.cell? ⟨gb305, 0, none⟩ = some (.bool a0_0) := (blk_cell BK305.out 0).trans rfl; have hcz54_1 : w52.cell? ⟨gb305, 1, none⟩ = some (u306001) := (blk_cell BK305.out 1).trans rfl; have hfz54_0 := blk_frozen BK305.out 0; have hfz54_1 := blk_frozen BK305.out 1) | ((with_reducible refine gate_store (t := 30) (p := 60) rfl ?_); (try (rw [drewN_self w52]; generalize hq_ : World.drewN w52 _ = w52; have n0_ := Aside0.mk (Kd.R_at hq_ HO180.out); have n1_ := Aside0.mk (blk_at hq_ BK302.out); have n2_ := Aside0.mk (blk_at hq_ BK303.out); have n3_ := Aside0.mk (blk_at hq_ BK304.out); have n4_ := Aside0.mk (blk_at hq_ BK305.out); have n5_ := Aside0.mk (below_at hq_ HB.out); clear hq_ HO180 BK302 BK303 BK304 BK305 HB; have HO180 := n0_; have BK302 := n1_; have BK303 := n2_; have BK304 := n3_; have BK305 := n4_; have HB := n5_; clear n0_ n1_ n2_ n3_ n4_ n5_)); (first | (refine store_event (t := 30) (p := 60) (v := ?vo_w55) (w1 := (w52.setCell ⟨gb305, 1, none⟩ (.slice Ao53 y178.length co53))) ?hg ?ho ?hn ?hr ?_; (case ho => rfl); (case hg => rfl); (case hn => rfl); (case hr => first | (go_simp; done) | (go_simp; rfl)); intro w55 hw) | (refine store_event (t := 30) (p := 60) (v := ?vo_w55) (w1 := ((w52.drewN ?ndq_w55).setCell ⟨gb305, 1, none⟩ (.slice Ao53 y178.length co53))) ?hg ?ho ?hn ?hr ?_; (case ho => rfl); (case hg => rfl); (case hn => rfl); (case hr => first | (go_simp; done) | (go_simp; rfl)); intro w55 hw; rw [sd_eq] at hw)); have n0_ : Aside0 (Kd.R (Kd.int .i64) 3 w55 w.heap.size (fun k_ => (w.heap.size ≤ k_)) (.slice Ao53 y178.length co53) y178) := ⟨(by rw [hw]; first | (with_reducible exact (by (with_reducible repeat (first | apply Kd.R_alloc | apply Kd.R_drewN | apply Kd.R_drew)); exact Kd.R_mono (Kd.R_far (p := ⟨gb305, 1, none⟩) (Kd.R_types HO180.out BK305.out (by decide)) (fun _ hk => hk.2) (.slice Ao53 y178.length co53)) (fun _ hk => hk.1))) | (exact grown_dn ((by (with_reducible repeat (first | apply Kd.R_alloc | apply Kd.R_drewN | apply Kd.R_drew)); exact Kd.R_mono (Kd.R_far (p := ⟨gb305, 1, none⟩) (Kd.R_types HO180.out BK305.out (by decide)) (fun _ hk => hk.2) (.slice Ao53 y178.length co53)) (fun _ hk => hk.1))) _) | (exact pw_below_drewN ((by (with_reducible repeat (first | apply Kd.R_alloc | apply Kd.R_drewN | apply Kd.R_drew)); exact Kd.R_mono (Kd.R_far (p := ⟨gb305, 1, none⟩) (Kd.R_types HO180.out BK305.out (by decide)) (fun _ hk => hk.2) (.slice Ao53 y178.length co53)) (fun _ hk => hk.1))) _) | (exact Kd.R_drewN ((by (with_reducible repeat (first | apply Kd.R_alloc | apply Kd.R_drewN | apply Kd.R_drew)); exact Kd.R_mono (Kd.R_far (p := ⟨gb305, 1, none⟩) (Kd.R_types HO180.out BK305.out (by decide)) (fun _ hk => hk.2) (.slice Ao53 y178.length co53)) (fun _ hk => hk.1))) _) | exact (by (with_reducible repeat (first | apply Kd.R_alloc | apply Kd.R_drewN | apply Kd.R_drew)); exact Kd.R_mono (Kd.R_far (p := ⟨gb305, 1, none⟩) (Kd.R_types HO180.out BK305.out (by decide)) (fun _ hk => hk.2) (.slice Ao53 y178.length co53)) (fun _ hk => hk.1)))⟩; have n1_ : Aside0 (w55.heap[gb302]? = some (.cells #[.bool a0_0, .slice A0_1 l0_1.length c0_1] 32 (0, 0))) := ⟨(by rw [hw]; first | (with_reducible exact (by (with_reducible repeat (first | refine blk_drewN ?_ _ | refine blk_drew ?_ | refine blk_alloc ?_ _)); refine blk_far ?_ NB302_305.out _; (with_reducible repeat (first | refine blk_drewN ?_ _ | refine blk_drew ?_ | refine blk_alloc ?_ _)); exact BK302.out)) | (exact grown_dn ((by (with_reducible repeat (first | refine blk_drewN ?_ _ | refine blk_drew ?_ | refine blk_alloc ?_ _)); refine blk_far ?_ NB302_305.out _; (with_reducible repeat (first | refine blk_drewN ?_ _ | refine blk_drew ?_ | refine blk_alloc ?_ _)); exact BK302.out)) _) | (exact pw_below_drewN ((by (with_reducible repeat (first | refine blk_drewN ?_ _ | refine blk_drew ?_ | refine blk_alloc ?_ _)); refine blk_far ?_ NB302_305.out _; (with_reducible repeat (first | refine blk_drewN ?_ _ | refine blk_drew ?_ | refine blk_alloc ?_ _)); exact BK302.out)) _) | (exact Kd.R_drewN ((by (with_reducible repeat (first | refine blk_drewN ?_ _ | refine blk_drew ?_ | refine blk_alloc ?_ _)); refine blk_far ?_ NB302_305.out _; (with_reducible repeat (first | refine blk_drewN ?_ _ | refine blk_drew ?_ | refine blk_alloc ?_ _)); exact BK302.out)) _) | exact (by (with_reducible repeat (first | refine blk_drewN ?_ _ | refine blk_drew ?_ | refine blk_alloc ?_ _)); refine blk_far ?_ NB302_305.out _; (with_reducible repeat (first | refine blk_drewN ?_ _ | refine blk_drew ?_ | refine blk_alloc ?_ _)); exact BK302.out))⟩; have n2_ : Aside0 (w55.heap[gb303]? = some (.cells #[.bool a1_0, .slice A1_1 l1_1.length c1_1] 32 (0, 0))) := ⟨(by rw [hw]; first | (with_reducible exact (by (with_reducible repeat (first | refine blk_drewN ?_ _ | refine blk_drew ?_ | refine blk_alloc ?_ _)); refine blk_far ?_ NB303_305.out _; (with_reducible repeat (first | refine blk_drewN ?_ _ | refine blk_drew ?_ | refine blk_alloc ?_ _)); exact BK303.out)) | (exact grown_dn ((by (with_reducible repeat (first | refine blk_drewN ?_ _ | refine blk_drew ?_ | refine blk_alloc ?_ _)); refine blk_far ?_ NB303_305.out _; (with_reducible repeat (first | refine blk_drewN ?_ _ | refine blk_drew ?_ | refine blk_alloc ?_ _)); exact BK303.out)) _) | (exact pw_below_drewN ((by (with_reducible repeat (first | refine blk_drewN ?_ _ | refine blk_drew ?_ | refine blk_alloc ?_ _)); refine blk_far ?_ NB303_305.out _; (with_reducible repeat (first | refine blk_drewN ?_ _ | refine blk_drew ?_ | refine blk_alloc ?_ _)); exact BK303.out)) _) | (exact Kd.R_drewN ((by (with_reducible repeat (first | refine blk_drewN ?_ _ | refine blk_drew ?_ | refine blk_alloc ?_ _)); refine blk_far ?_ NB303_305.out _; (with_reducible repeat (first | refine blk_drewN ?_ _ | refine blk_drew ?_ | refine blk_alloc ?_ _)); exact BK303.out)) _) | exact (by (with_reducible repeat (first | refine blk_drewN ?_ _ | refine blk_drew ?_ | refine blk_alloc ?_ _)); refine blk_far ?_ NB303_305.out _; (with_reducible repeat (first | refine blk_drewN ?_ _ | refine blk_drew ?_ | refine blk_alloc ?_ _)); exact BK303.out))⟩; have n3_ : Aside0 (w55.heap[gb304]? = some (.cells #[.bool false, .slice none 0 0] 32 (0, 0))) := ⟨(by rw [hw]; first | (with_reducible exact (by (with_reducible repeat (first | refine blk_drewN ?_ _ | refine blk_drew ?_ | refine blk_alloc ?_ _)); refine blk_far ?_ NB304_305.out _; (with_reducible repeat (first | refine blk_drewN ?_ _ | refine blk_drew ?_ | refine blk_alloc ?_ _)); exact BK304.out)) | (exact grown_dn ((by (with_reducible repeat (first | refine blk_drewN ?_ _ | refine blk_drew ?_ | refine blk_alloc ?_ _)); refine blk_far ?_ NB304_305.out _; (with_reducible repeat (first | refine blk_drewN ?_ _ | refine blk_drew ?_ | refine blk_alloc ?_ _)); exact BK304.out)) _) | (exact pw_below_drewN ((by (with_reducible repeat (first | refine blk_drewN ?_ _ | refine blk_drew ?_ | refine blk_alloc ?_ _)); refine blk_far ?_ NB304_305.out _; (with_reducible repeat (first | refine blk_drewN ?_ _ | refine blk_drew ?_ | refine blk_alloc ?_ _)); exact BK304.out)) _) | (exact Kd.R_drewN ((by (with_reducible repeat (first | refine blk_drewN ?_ _ | refine blk_drew ?_ | refine blk_alloc ?_ _)); refine blk_far ?_ NB304_305.out _; (with_reducible repeat (first | refine blk_drewN ?_ _ | refine blk_drew ?_ | refine blk_alloc ?_ _)); exact BK304.out)) _) | exact (by (with_reducible repeat (first | refine blk_drewN ?_ _ | refine blk_drew ?_ | refine blk_alloc ?_ _)); refine blk_far ?_ NB304_305.out _; (with_reducible repeat (first | refine blk_drewN ?_ _ | refine blk_drew ?_ | refine blk_alloc ?_ _)); exact BK304.out))⟩; have n4_ : Aside0 (w55.heap[gb305]? = some (.cells #[.bool a0_0, .slice Ao53 y178.length co53] 32 (0, 0))) := ⟨(by rw [hw]; first | (with_reducible exact (by (with_reducible repeat (first | refine blk_drewN ?_ _ | refine blk_drew ?_ | refine blk_alloc ?_ _)); refine blk_put (cs := #[.bool a0_0, u306001]) ?_ 1 _ rfl; (with_reducible repeat (first | refine blk_drewN ?_ _ | refine blk_drew ?_ | refine blk_alloc ?_ _)); exact BK305.out)) | (exact grown_dn ((by (with_reducible repeat (first | refine blk_drewN ?_ _ | refine blk_drew ?_ | refine blk_alloc ?_ _)); refine blk_put (cs := #[.bool a0_0, u306001]) ?_ 1 _ rfl; (with_reducible repeat (first | refine blk_drewN ?_ _ | refine blk_drew ?_ | refine blk_alloc ?_ _)); exact BK305.out)) _) | (exact pw_below_drewN ((by (with_reducible repeat (first | refine blk_drewN ?_ _ | refine blk_drew ?_ | refine blk_alloc ?_ _)); refine blk_put (cs := #[.bool a0_0, u306001]) ?_ 1 _ rfl; (with_reducible repeat (first | refine blk_drewN ?_ _ | refine blk_drew ?_ | refine blk_alloc ?_ _)); exact BK305.out)) _) | (exact Kd.R_drewN ((by (with_reducible repeat (first | refine blk_drewN ?_ _ | refine blk_drew ?_ | refine blk_alloc ?_ _)); refine blk_put (cs := #[.bool a0_0, u306001]) ?_ 1 _ rfl; (with_reducible repeat (first | refine blk_drewN ?_ _ | refine blk_drew ?_ | refine blk_alloc ?_ _)); exact BK305.out)) _) | exact (by (with_reducible repeat (first | refine blk_drewN ?_ _ | refine blk_drew ?_ | refine blk_alloc ?_ _)); refine blk_put (cs := #[.bool a0_0, u306001]) ?_ 1 _ rfl; (with_reducible repeat (first | refine blk_drewN ?_ _ | refine blk_drew ?_ | refine blk_alloc ?_ _)); exact BK305.out))⟩; have n5_ : Aside0 (Below w.heap.size w w55) := ⟨(by rw [hw]; first | (with_reducible exact (by repeat (first | (with_reducible first | exact HB.out | apply below_alloc | apply pw_below_drewN | apply below_drew1 | refine below_set ?_ GE302.out | refine below_set ?_ GE303.out | refine below_set ?_ GE304.out | refine below_set ?_ GE305.out) | exact HB.out))) | (exact grown_dn ((by repeat (first | (with_reducible first | exact HB.out | apply below_alloc | apply pw_below_drewN | apply below_drew1 | refine below_set ?_ GE302.out | refine below_set ?_ GE303.out | refine below_set ?_ GE304.out | refine below_set ?_ GE305.out) | exact HB.out))) _) | (exact pw_below_drewN ((by repeat (first | (with_reducible first | exact HB.out | apply below_alloc | apply pw_below_drewN | apply below_drew1 | refine below_set ?_ GE302.out | refine below_set ?_ GE303.out | refine below_set ?_ GE304.out | refine below_set ?_ GE305.out) | exact HB.out))) _) | (exact Kd.R_drewN ((by repeat (first | (with_reducible first | exact HB.out | apply below_alloc | apply pw_below_drewN | apply below_drew1 | refine below_set ?_ GE302.out | refine below_set ?_ GE303.out | refine below_set ?_ GE304.out | refine below_set ?_ GE305.out) | exact HB.out))) _) | exact (by repeat (first | (with_reducible first | exact HB.out | apply below_alloc | apply pw_below_drewN | apply below_drew1 | refine below_set ?_ GE302.out | refine below_set ?_ GE303.out | refine below_set ?_ GE304.out | refine below_set ?_ GE305.out) | exact HB.out)))⟩; clear hw; clear HO180; clear BK302; clear BK303; clear BK304; clear BK305; clear HB; have HO180 := n0_; have BK302 := n1_; have BK303 := n2_; have BK304 := n3_; have BK305 := n4_; have HB := n5_; clear n0_ n1_ n2_ n3_ n4_ n5_; have hcz56_0 : w55.cell? ⟨gb305, 0, none⟩ = some (.bool a0_0) := (blk_cell BK305.out 0).trans rfl; have hcz56_1 : w55.cell? ⟨gb305, 1, none⟩ = some (.slice Ao53 y178.length co53) := (blk_cell BK305.out 1).trans rfl; have hfz56_0 := blk_frozen BK305.out 0; have hfz56_1 := blk_frozen BK305.out 1) | (go_at_call 47; (with_reducible refine (clevisref01_clean.calls kj16 a0_0 (fun k_ => some k_ = (.slice Ao53 y178.length co53 : Value).ownBlock) _ _ y178 t181 t182 _ ?side1 A47.out).mono ?_); (case side1 => exact Kd.R_V (Kd.R_tight rfl (Kd.R_types (Kd.R_types (Kd.R_types (Kd.R_types (HO180.out) BK302.out (by decide)) BK303.out (by decide)) BK304.out (by decide)) BK305.out (by decide)))); rintro e w57 ⟨v183, rfl, ho0, hb⟩; have n0_ := Aside0.mk (Kd.R_below (by (with_reducible repeat (first | apply Kd.R_alloc | apply Kd.R_drewN | apply Kd.R_drew)); exact HO180.out) hb); have n1_ := Aside0.mk (Kd.V_lower (Kd.V_mono (ok' := fun k_ => (w.heap.size ≤ k_) ∧ k_ ≠ gb302 ∧ k_ ≠ gb303 ∧ k_ ≠ gb304 ∧ k_ ≠ gb305) ho0 (fun k_ hk_ => ⟨Or.elim hk_ (fun hs_ => ((Kd.R_types (Kd.R_types (Kd.R_types (Kd.R_types (HO180.out) BK302.out (by decide)) BK303.out (by decide)) BK304.out (by decide)) BK305.out (by decide)).1 k_ hs_.symm).1.1.1.1) (fun hn_ => (Nat.le_trans (below_size (by repeat (first | (with_reducible first | exact HB.out | apply below_alloc | apply pw_below_drewN | apply below_drew1 | refine below_set ?_ GE302.out | refine below_set ?_ GE303.out | refine below_set ?_ GE304.out | refine below_set ?_ GE305.out) | exact HB.out))) hn_)), Or.elim hk_ (fun hs_ => ((Kd.R_types (Kd.R_types (Kd.R_types (Kd.R_types (HO180.out) BK302.out (by decide)) BK303.out (by decide)) BK304.out (by decide)) BK305.out (by decide)).1 k_ hs_.symm).1.1.1.2) (fun hn_ => (Kd.freshB (g := gb302) (o := .cells #[.bool a0_0, .slice A0_1 l0_1.length c0_1] 32 (0, 0)) (by (with_reducible repeat (first | refine blk_drewN ?_ _ | refine blk_drew ?_ | refine blk_alloc ?_ _)); exact BK302.out) k_ hn_)), Or.elim hk_ (fun hs_ => ((Kd.R_types (Kd.R_types (Kd.R_types (Kd.R_types (HO180.out) BK302.out (by decide)) BK303.out (by decide)) BK304.out (by decide)) BK305.out (by decide)).1 k_ hs_.symm).1.1.2) (fun hn_ => (Kd.freshB (g := gb303) (o := .cells #[.bool a1_0, .slice A1_1 l1_1.length c1_1] 32 (0, 0)) (by (with_reducible repeat (first | refine blk_drewN ?_ _ | refine blk_drew ?_ | refine blk_alloc ?_ _)); exact BK303.out) k_ hn_)), Or.elim hk_ (fun hs_ => ((Kd.R_types (Kd.R_types (Kd.R_types (Kd.R_types (HO180.out) BK302.out (by decide)) BK303.out (by decide)) BK304.out (by decide)) BK305.out (by decide)).1 k_ hs_.symm).1.2) (fun hn_ => (Kd.freshB (g := gb304) (o := .cells #[.bool false, .slice none 0 0] 32 (0, 0)) (by (with_reducible repeat (first | refine blk_drewN ?_ _ | refine blk_drew ?_ | refine blk_alloc ?_ _)); exact BK304.out) k_ hn_)), Or.elim hk_ (fun hs_ => ((Kd.R_types (Kd.R_types (Kd.R_types (Kd.R_types (HO180.out) BK302.out (by decide)) BK303.out (by decide)) BK304.out (by decide)) BK305.out (by decide)).1 k_ hs_.symm).2) (fun hn_ => (Kd.freshB (g := gb305) (o := .cells #[.bool a0_0, .slice Ao53 y178.length co53] 32 (0, 0)) (by (with_reducible repeat (first | refine blk_drewN ?_ _ | refine blk_drew ?_ | refine blk_alloc ?_ _)); exact BK305.out) k_ hn_))⟩)) (below_size (by repeat (first | (with_reducible first | exact HB.out | apply below_alloc | apply pw_below_drewN | apply below_drew1 | refine below_set ?_ GE302.out | refine below_set ?_ GE303.out | refine below_set ?_ GE304.out | refine below_set ?_ GE305.out) | exact HB.out)))); have n2_ := Aside0.mk (blk_below (g := gb302) (o := .cells #[.bool a0_0, .slice A0_1 l0_1.length c0_1] 32 (0, 0)) (by (with_reducible repeat (first | refine blk_drewN ?_ _ | refine blk_drew ?_ | refine blk_alloc ?_ _)); exact BK302.out) hb); have n3_ := Aside0.mk (blk_below (g := gb303) (o := .cells #[.bool a1_0, .slice A1_1 l1_1.length c1_1] 32 (0, 0)) (by (with_reducible repeat (first | refine blk_drewN ?_ _ | refine blk_drew ?_ | refine blk_alloc ?_ _)); exact BK303.out) hb); have n4_ := Aside0.mk (blk_below (g := gb304) (o := .cells #[.bool false, .slice none 0 0] 32 (0, 0)) (by (with_reducible repeat (first | refine blk_drewN ?_ _ | refine blk_drew ?_ | refine blk_alloc ?_ _)); exact BK304.out) hb); have n5_ := Aside0.mk (blk_below (g := gb305) (o := .cells #[.bool a0_0, .slice Ao53 y178.length co53] 32 (0, 0)) (by (with_reducible repeat (first | refine blk_drewN ?_ _ | refine blk_drew ?_ | refine blk_alloc ?_ _)); exact BK305.out) hb); have n6_ := Aside0.mk (below_step (by repeat (first | (with_reducible first | exact HB.out | apply below_alloc | apply pw_below_drewN | apply below_drew1 | refine below_set ?_ GE302.out | refine below_set ?_ GE303.out | refine below_set ?_ GE304.out | refine below_set ?_ GE305.out) | exact HB.out)) hb); clear HO180; clear BK302; clear BK303; clear BK304; clear BK305; clear HB; have HO180 := n0_; have HO184 := n1_; have BK302 := n2_; have BK303 := n3_; have BK304 := n4_; have BK305 := n5_; have HB := n6_; clear n0_ n1_ n2_ n3_ n4_ n5_ n6_; (try clear hb); (try clear hb2); (try clear hk); (try clear hi); (try clear ho0); have hnb58 := NB304_302.out; have hnc58 := NB302_304.out; have hnb59 := NB304_303.out; have hnc59 := NB303_304.out; have hcz60_0 : w57.cell? ⟨gb304, 0, none⟩ = some (.bool false) := (blk_cell BK304.out 0).trans rfl; have hcz60_1 : w57.cell? ⟨gb304, 1, none⟩ = some (.slice none 0 0) := (blk_cell BK304.out 1).trans rfl; have hfz60_0 := blk_frozen BK304.out 0; have hfz60_1 := blk_frozen BK304.out 1; obtain ⟨Ao61, co61, eo61⟩ := Kd.V_slice HO184.out; subst eo61))
                refine bodyPost_ret (results_cell_row rfl _ _ gb304 32 #[.bool t181, .slice Ao61 t182.length co61] (0, 0) _ rfl (by (with_reducible repeat (first | refine blk_drewN ?_ _ | refine blk_drew ?_ | refine blk_alloc ?_ _)); refine blk_put (cs := #[.bool t181, .slice none 0 0]) ?_ 1 _ rfl; (with_reducible repeat (first | refine blk_drewN ?_ _ | refine blk_drew ?_ | refine blk_alloc ?_ _)); refine blk_put (cs := #[.bool false, .slice none 0 0]) ?_ 0 _ rfl; (with_reducible repeat (first | refine blk_drewN ?_ _ | refine blk_drew ?_ | refine blk_alloc ?_ _)); exact BK304.out) Try.underlying32 rfl (by kernel_rfl)) rfl ?_
                exact ⟨_, by first | rfl | (simp [errW_none, errW_some] <;> rfl) | (simp [*, errW_none, errW_some] <;> rfl), by (with_reducible repeat (first | apply Kd.V_alloc | apply Kd.V_drewN | apply Kd.V_drew)); exact Kd.V_mono (Kd.V_far (p := ⟨gb304, 1, none⟩) (Kd.V_far (p := ⟨gb304, 0, none⟩) (Kd.V_mono HO184.out (fun k_ hk => (⟨hk, hk.2.2.2.1⟩ : _ ∧ k_ ≠ gb304))) (fun _ hk => hk.2) (.bool t181)) (fun _ hk => hk.2) (.slice Ao61 t182.length co61)) (fun _ hk => hk.1.1), by repeat (first | (with_reducible first | exact HB.out | apply below_alloc | apply pw_below_drewN | apply below_drew1 | refine below_set ?_ GE302.out | refine below_set ?_ GE303.out | refine below_set ?_ GE304.out | refine below_set ?_ GE305.out) | exact HB.out)⟩
              · rw [if_neg c46] at H
                exact absurd H (by simp)
  · rw [if_neg c3] at H
    have c3b0 : (a0_0 == a1_0) = false := by simpa using c3
    (try (have c3b1 : decide (a0_0 = a1_0) = false := by simpa using c3))
    (try (have c3b2 : (a0_0 == a1_0) = false := by simpa using c3))
    (try (have c3b3 : ¬ (a0_0 = a1_0) := by simpa using c3))
    clear c3
    replace H := Option.bind_eq_some_iff.mp H
    obtain ⟨t185, A620, H⟩ := H
    replace H : (if t185 < 0 then (clevisref01_Add.l1 k 0 0 a1_0 l1_1 a0_0 l0_1 a1_0 ([] : List Int)) else (clevisref01_Add.l102 k 0 0 a0_0 l0_1 a1_0 l1_1 a0_0 ([] : List Int))) = some (r1, r2) := H
    have A62 := Aside0.mk A620
    clear A620
    by_cases c63 : t185 < 0
    · rw [if_pos c63] at H
      have c63b0 : decide (t185 < 0) = true := decide_eq_true c63
      clear c63
      have H' := Aside0.mk H
      clear H
      go_enter Try.func21, Try.ntmps21
      go_wp2_with (first | ((with_reducible refine gate_dst (N := 2) rfl ?_); (try (refine gate_guard (by rfl) ?_; dsimp only)); refine box_event ?hg (N := 2) ?hd (cs := #[.bool a0_0, .slice A0_1 l0_1.length c0_1]) (t := 32) ?hr ?_; (case hd => rfl); (case hg => rfl); (case hr => first | (go_simp; done) | (go_simp; rfl)); intro gb302 hg w64 hbox hb; have n0_ := Aside0.mk (below_step (by repeat (first | (with_reducible first | exact HB.out | apply below_alloc | apply pw_below_drewN | apply below_drew1) | exact HB.out)) hb); have n1_ := Aside0.mk (hbox); have n2_ := Aside0.mk ((by rw [hg]; exact (below_size (by repeat (first | (with_reducible first | exact HB.out | apply below_alloc | apply pw_below_drewN | apply below_drew1) | exact HB.out))) : w.heap.size ≤ gb302)); have n3_ := Aside0.mk ((by rw [hg]; exact (below_size (by repeat (first | (with_reducible first | exact HB.out | apply below_alloc | apply pw_below_drewN | apply below_drew1) | exact HB.out))) : w.heap.size ≤ gb302)); clear HB; have HB := n0_; have BK302 := n1_; have GW302 := n2_; have GE302 := n3_; clear n0_ n1_ n2_ n3_; clear hb hbox hg) | ((with_reducible refine gate_dst (N := 3) rfl ?_); (try (refine gate_guard (by rfl) ?_; dsimp only)); refine box_event ?hg (N := 3) ?hd (cs := #[.bool a1_0, .slice A1_1 l1_1.length c1_1]) (t := 32) ?hr ?_; (case hd => rfl); (case hg => rfl); (case hr => first | (go_simp; done) | (go_simp; rfl)); intro gb303 hg w65 hbox hb; have n0_ := Aside0.mk (blk_below (g := gb302) (o := .cells #[.bool a0_0, .slice A0_1 l0_1.length c0_1] 32 (0, 0)) (by (with_reducible repeat (first | refine blk_drewN ?_ _ | refine blk_drew ?_ | refine blk_alloc ?_ _)); exact BK302.out) hb); have n1_ := Aside0.mk (below_step (by repeat (first | (with_reducible first | exact HB.out | apply below_alloc | apply pw_below_drewN | apply below_drew1 | refine below_set ?_ GE302.out) | exact HB.out)) hb); have n2_ := Aside0.mk (hbox); have n3_ := Aside0.mk ((by rw [hg]; exact (below_size (by repeat (first | (with_reducible first | exact HB.out | apply below_alloc | apply pw_below_drewN | apply below_drew1 | refine below_set ?_ GE302.out) | exact HB.out))) : w.heap.size ≤ gb303)); have n4_ := Aside0.mk ((by rw [hg]; exact (below_size (by repeat (first | (with_reducible first | exact HB.out | apply below_alloc | apply pw_below_drewN | apply below_drew1 | refine below_set ?_ GE302.out) | exact HB.out))) : w.heap.size ≤ gb303)); have n5_ := Aside0.mk ((by rw [hg]; exact Nat.ne_of_lt (blk_lt (g := gb302) (o := .cells #[.bool a0_0, .slice A0_1 l0_1.length c0_1] 32 (0, 0)) (by (with_reducible repeat (first | refine blk_drewN ?_ _ | refine blk_drew ?_ | refine blk_alloc ?_ _)); exact BK302.out)) : gb302 ≠ gb303)); have n6_ := Aside0.mk ((by rw [hg]; exact Nat.ne_of_gt (blk_lt (g := gb302) (o := .cells #[.bool a0_0, .slice A0_1 l0_1.length c0_1] 32 (0, 0)) (by (with_reducible repeat (first | refine blk_drewN ?_ _ | refine blk_drew ?_ | refine blk_alloc ?_ _)); exact BK302.out)) : gb303 ≠ gb302)); clear BK302; clear HB; have BK302 := n0_; have HB := n1_; have BK303 := n2_; have GW303 := n3_; have GE303 := n4_; have NB302_303 := n5_; have NB303_302 := n6_; clear n0_ n1_ n2_ n3_ n4_ n5_ n6_; clear hb hbox hg) | ((with_reducible refine gate_dst (N := 4) rfl ?_); (try (refine gate_guard (by rfl) ?_; dsimp only)); refine box_event ?hg (N := 4) ?hd (cs := #[.bool false, .slice none 0 0]) (t := 32) ?hr ?_; (case hd => rfl); (case hg => rfl); (case hr => first | (go_simp; done) | (go_simp; rfl)); intro gb304 hg w66 hbox hb; have n0_ := Aside0.mk (blk_below (g := gb302) (o := .cells #[.bool a0_0, .slice A0_1 l0_1.length c0_1] 32 (0, 0)) (by (with_reducible repeat (first | refine blk_drewN ?_ _ | refine blk_drew ?_ | refine blk_alloc ?_ _)); exact BK302.out) hb); have n1_ := Aside0.mk (blk_below (g := gb303) (o := .cells #[.bool a1_0, .slice A1_1 l1_1.length c1_1] 32 (0, 0)) (by (with_reducible repeat (first | refine blk_drewN ?_ _ | refine blk_drew ?_ | refine blk_alloc ?_ _)); exact BK303.out) hb); have n2_ := Aside0.mk (below_step (by repeat (first | (with_reducible first | exact HB.out | apply below_alloc | apply pw_below_drewN | apply below_drew1 | refine below_set ?_ GE302.out | refine below_set ?_ GE303.out) | exact HB.out)) hb); have n3_ := Aside0.mk (hbox); have n4_ := Aside0.mk ((by rw [hg]; exact (below_size (by repeat (first | (with_reducible first | exact HB.out | apply below_alloc | apply pw_below_drewN | apply below_drew1 | refine below_set ?_ GE302.out | refine below_set ?_ GE303.out) | exact HB.out))) : w.heap.size ≤ gb304)); have n5_ := Aside0.mk ((by rw [hg]; exact (below_size (by repeat (first | (with_reducible first | exact HB.out | apply below_alloc | apply pw_below_drewN | apply below_drew1 | refine below_set ?_ GE302.out | refine below_set ?_ GE303.out) | exact HB.out))) : w.heap.size ≤ gb304)); have n6_ := Aside0.mk ((by rw [hg]; exact Nat.ne_of_lt (blk_lt (g := gb302) (o := .cells #[.bool a0_0, .slice A0_1 l0_1.length c0_1] 32 (0, 0)) (by (with_reducible repeat (first | refine blk_drewN ?_ _ | refine blk_drew ?_ | refine blk_alloc ?_ _)); exact BK302.out)) : gb302 ≠ gb304)); have n7_ := Aside0.mk ((by rw [hg]; exact Nat.ne_of_gt (blk_lt (g := gb302) (o := .cells #[.bool a0_0, .slice A0_1 l0_1.length c0_1] 32 (0, 0)) (by (with_reducible repeat (first | refine blk_drewN ?_ _ | refine blk_drew ?_ | refine blk_alloc ?_ _)); exact BK302.out)) : gb304 ≠ gb302)); have n8_ := Aside0.mk ((by rw [hg]; exact Nat.ne_of_lt (blk_lt (g := gb303) (o := .cells #[.bool a1_0, .slice A1_1 l1_1.length c1_1] 32 (0, 0)) (by (with_reducible repeat (first | refine blk_drewN ?_ _ | refine blk_drew ?_ | refine blk_alloc ?_ _)); exact BK303.out)) : gb303 ≠ gb304)); have n9_ := Aside0.mk ((by rw [hg]; exact Nat.ne_of_gt (blk_lt (g := gb303) (o := .cells #[.bool a1_0, .slice A1_1 l1_1.length c1_1] 32 (0, 0)) (by (with_reducible repeat (first | refine blk_drewN ?_ _ | refine blk_drew ?_ | refine blk_alloc ?_ _)); exact BK303.out)) : gb304 ≠ gb303)); clear BK302; clear BK303; clear HB; have BK302 := n0_; have BK303 := n1_; have HB := n2_; have BK304 := n3_; have GW304 := n4_; have GE304 := n5_; have NB302_304 := n6_; have NB304_302 := n7_; have NB303_304 := n8_; have NB304_303 := n9_; clear n0_ n1_ n2_ n3_ n4_ n5_ n6_ n7_ n8_ n9_; clear hb hbox hg; have hnb67 := NB302_303.out; have hnc67 := NB303_302.out; have hnb68 := NB302_304.out; have hnc68 := NB304_302.out; have hcz69_0 : w66.cell? ⟨gb302, 0, none⟩ = some (.bool a0_0) := (blk_cell BK302.out 0).trans rfl; have hcz69_1 : w66.cell? ⟨gb302, 1, none⟩ = some (.slice A0_1 l0_1.length c0_1) := (blk_cell BK302.out 1).trans rfl; have hfz69_0 := blk_frozen BK302.out 0; have hfz69_1 := blk_frozen BK302.out 1; have hnb70 := NB303_304.out; have hnc70 := NB304_303.out; have hcz71_0 : w66.cell? ⟨gb303, 0, none⟩ = some (.bool a1_0) := (blk_cell BK303.out 0).trans rfl; have hcz71_1 : w66.cell? ⟨gb303, 1, none⟩ = some (.slice A1_1 l1_1.length c1_1) := (blk_cell BK303.out 1).trans rfl; have hfz71_0 := blk_frozen BK303.out 0; have hfz71_1 := blk_frozen BK303.out 1) | (go_at_call 42; (with_reducible refine (clevisref01_size.calls k _ _ l0_1 _ _ l1_1 t185 _ ?side1 ?side2 ?side3 ?side4 A62.out).mono ?_); (case side1 => repeat (first | exact (Kd.C_below HR0_1.out HB.out) | (with_reducible refine Kd.C_alloc ?_ _) | (with_reducible refine Kd.C_drewN ?_ _) | (with_reducible refine Kd.C_drew ?_))); (case side2 => exact HC0_1.out); (case side3 => repeat (first | exact (Kd.C_below HR1_1.out HB.out) | (with_reducible refine Kd.C_alloc ?_ _) | (with_reducible refine Kd.C_drewN ?_ _) | (with_reducible refine Kd.C_drew ?_))); (case side4 => exact HC1_1.out); rintro e w' ⟨rfl, ⟨nd, rfl⟩⟩; (try first | exact ⟨rfl, _, World.drewN_drewN _ _ _⟩ | exact ⟨rfl, _, Eq.trans (World.drewN_drewN _ _ _) (congrArg (World.drewN _) (Nat.add_assoc _ _ _))⟩)) | ((with_reducible refine gate_dst (N := 9) rfl ?_); (try (refine gate_guard (by rfl) ?_; dsimp only)); refine box_event ?hg (N := 9) ?hd (cs := #[.bool false, .slice none 0 0]) (t := 32) ?hr ?_; (case hd => rfl); (case hg => rfl); (case hr => first | (go_simp; done) | (go_simp; rfl)); intro gb309 hg w72 hbox hb; have n0_ := Aside0.mk (blk_below (g := gb302) (o := .cells #[.bool a1_0, .slice A1_1 l1_1.length c1_1] 32 (0, 0)) (by (with_reducible repeat (first | refine blk_drewN ?_ _ | refine blk_drew ?_ | refine blk_alloc ?_ _)); refine blk_far ?_ NB302_303.out _; (with_reducible repeat (first | refine blk_drewN ?_ _ | refine blk_drew ?_ | refine blk_alloc ?_ _)); refine blk_far ?_ NB302_303.out _; (with_reducible repeat (first | refine blk_drewN ?_ _ | refine blk_drew ?_ | refine blk_alloc ?_ _)); refine blk_put (cs := #[.bool a1_0, .slice A0_1 l0_1.length c0_1]) ?_ 1 _ rfl; (with_reducible repeat (first | refine blk_drewN ?_ _ | refine blk_drew ?_ | refine blk_alloc ?_ _)); refine blk_put (cs := #[.bool a0_0, .slice A0_1 l0_1.length c0_1]) ?_ 0 _ rfl; (with_reducible repeat (first | refine blk_drewN ?_ _ | refine blk_drew ?_ | refine blk_alloc ?_ _)); exact BK302.out) hb); have n1_ := Aside0.mk (blk_below (g := gb303) (o := .cells #[.bool a0_0, .slice A0_1 l0_1.length c0_1] 32 (0, 0)) (by (with_reducible repeat (first | refine blk_drewN ?_ _ | refine blk_drew ?_ | refine blk_alloc ?_ _)); refine blk_put (cs := #[.bool a0_0, .slice A1_1 l1_1.length c1_1]) ?_ 1 _ rfl; (with_reducible repeat (first | refine blk_drewN ?_ _ | refine blk_drew ?_ | refine blk_alloc ?_ _)); refine blk_put (cs := #[.bool a1_0, .slice A1_1 l1_1.length c1_1]) ?_ 0 _ rfl; (with_reducible repeat (first | refine blk_drewN ?_ _ | refine blk_drew ?_ | refine blk_alloc ?_ _)); refine blk_far ?_ NB303_302.out _; (with_reducible repeat (first | refine blk_drewN ?_ _ | refine blk_drew ?_ | refine blk_alloc ?_ _)); refine blk_far ?_ NB303_302.out _; (with_reducible repeat (first | refine blk_drewN ?_ _ | refine blk_drew ?_ | refine blk_alloc ?_ _)); exact BK303.out) hb); have n2_ := Aside0.mk (blk_below (g := gb304) (o := .cells #[.bool false, .slice none 0 0] 32 (0, 0)) (by (with_reducible repeat (first | refine blk_drewN ?_ _ | refine blk_drew ?_ | refine blk_alloc ?_ _)); refine blk_far ?_ NB304_303.out _; (with_reducible repeat (first | refine blk_drewN ?_ _ | refine blk_drew ?_ | refine blk_alloc ?_ _)); refine blk_far ?_ NB304_303.out _; (with_reducible repeat (first | refine blk_drewN ?_ _ | refine blk_drew ?_ | refine blk_alloc ?_ _)); refine blk_far ?_ NB304_302.out _; (with_reducible repeat (first | refine blk_drewN ?_ _ | refine blk_drew ?_ | refine blk_alloc ?_ _)); refine blk_far ?_ NB304_302.out _; (with_reducible repeat (first | refine blk_drewN ?_ _ | refine blk_drew ?_ | refine blk_alloc ?_ _)); exact BK304.out) hb); have n3_ := Aside0.mk (below_step (by repeat (first | (with_reducible first | exact HB.out | apply below_alloc | apply pw_below_drewN | apply below_drew1 | refine below_set ?_ GE302.out | refine below_set ?_ GE303.out | refine below_set ?_ GE304.out) | exact HB.out)) hb); have n4_ := Aside0.mk (hbox); have n5_ := Aside0.mk ((by rw [hg]; exact (below_size (by repeat (first | (with_reducible first | exact HB.out | apply below_alloc | apply pw_below_drewN | apply below_drew1 | refine below_set ?_ GE302.out | refine below_set ?_ GE303.out | refine below_set ?_ GE304.out) | exact HB.out))) : w.heap.size ≤ gb309)); have n6_ := Aside0.mk ((by rw [hg]; exact (below_size (by repeat (first | (with_reducible first | exact HB.out | apply below_alloc | apply pw_below_drewN | apply below_drew1 | refine below_set ?_ GE302.out | refine below_set ?_ GE303.out | refine below_set ?_ GE304.out) | exact HB.out))) : w.heap.size ≤ gb309)); have n7_ := Aside0.mk ((by rw [hg]; exact Nat.ne_of_lt (blk_lt (g := gb302) (o := .cells #[.bool a1_0, .slice A1_1 l1_1.length c1_1] 32 (0, 0)) (by (with_reducible repeat (first | refine blk_drewN ?_ _ | refine blk_drew ?_ | refine blk_alloc ?_ _)); refine blk_far ?_ NB302_303.out _; (with_reducible repeat (first | refine blk_drewN ?_ _ | refine blk_drew ?_ | refine blk_alloc ?_ _)); refine blk_far ?_ NB302_303.out _; (with_reducible repeat (first | refine blk_drewN ?_ _ | refine blk_drew ?_ | refine blk_alloc ?_ _)); refine blk_put (cs := #[.bool a1_0, .slice A0_1 l0_1.length c0_1]) ?_ 1 _ rfl; (with_reducible repeat (first | refine blk_drewN ?_ _ | refine blk_drew ?_ | refine blk_alloc ?_ _)); refine blk_put (cs := #[.bool a0_0, .slice A0_1 l0_1.length c0_1]) ?_ 0 _ rfl; (with_reducible repeat (first | refine blk_drewN ?_ _ | refine blk_drew ?_ | refine blk_alloc ?_ _)); exact BK302.out)) : gb302 ≠ gb309)); have n8_ := Aside0.mk ((by rw [hg]; exact Nat.ne_of_gt (blk_lt (g := gb302) (o := .cells #[.bool a1_0, .slice A1_1 l1_1.length c1_1] 32 (0, 0)) (by (with_reducible repeat (first | refine blk_drewN ?_ _ | refine blk_drew ?_ | refine blk_alloc ?_ _)); refine blk_far ?_ NB302_303.out _; (with_reducible repeat (first | refine blk_drewN ?_ _ | refine blk_drew ?_ | refine blk_alloc ?_ _)); refine blk_far ?_ NB302_303.out _; (with_reducible repeat (first | refine blk_drewN ?_ _ | refine blk_drew ?_ | refine blk_alloc ?_ _)); refine blk_put (cs := #[.bool a1_0, .slice A0_1 l0_1.length c0_1]) ?_ 1 _ rfl; (with_reducible repeat (first | refine blk_drewN ?_ _ | refine blk_drew ?_ | refine blk_alloc ?_ _)); refine blk_put (cs := #[.bool a0_0, .slice A0_1 l0_1.length c0_1]) ?_ 0 _ rfl; (with_reducible repeat (first | refine blk_drewN ?_ _ | refine blk_drew ?_ | refine blk_alloc ?_ _)); exact BK302.out)) : gb309 ≠ gb302)); have n9_ := Aside0.mk ((by rw [hg]; exact Nat.ne_of_lt (blk_lt (g := gb303) (o := .cells #[.bool a0_0, .slice A0_1 l0_1.length c0_1] 32 (0, 0)) (by (with_reducible repeat (first | refine blk_drewN ?_ _ | refine blk_drew ?_ | refine blk_alloc ?_ _)); refine blk_put (cs := #[.bool a0_0, .slice A1_1 l1_1.length c1_1]) ?_ 1 _ rfl; (with_reducible repeat (first | refine blk_drewN ?_ _ | refine blk_drew ?_ | refine blk_alloc ?_ _)); refine blk_put (cs := #[.bool a1_0, .slice A1_1 l1_1.length c1_1]) ?_ 0 _ rfl; (with_reducible repeat (first | refine blk_drewN ?_ _ | refine blk_drew ?_ | refine blk_alloc ?_ _)); refine blk_far ?_ NB303_302.out _; (with_reducible repeat (first | refine blk_drewN ?_ _ | refine blk_drew ?_ | refine blk_alloc ?_ _)); refine blk_far ?_ NB303_302.out _; (with_reducible repeat (first | refine blk_drewN ?_ _ | refine blk_drew ?_ | refine blk_alloc ?_ _)); exact BK303.out)) : gb303 ≠ gb309)); have n10_ := Aside0.mk ((by rw [hg]; exact Nat.ne_of_gt (blk_lt (g := gb303) (o := .cells #[.bool a0_0, .slice A0_1 l0_1.length c0_1] 32 (0, 0)) (by (with_reducible repeat (first | refine blk_drewN ?_ _ | refine blk_drew ?_ | refine blk_alloc ?_ _)); refine blk_put (cs := #[.bool a0_0, .slice A1_1 l1_1.length c1_1]) ?_ 1 _ rfl; (with_reducible repeat (first | refine blk_drewN ?_ _ | refine blk_drew ?_ | refine blk_alloc ?_ _)); refine blk_put (cs := #[.bool a1_0, .slice A1_1 l1_1.length c1_1]) ?_ 0 _ rfl; (with_reducible repeat (first | refine blk_drewN ?_ _ | refine blk_drew ?_ | refine blk_alloc ?_ _)); refine blk_far ?_ NB303_302.out _; (with_reducible repeat (first | refine blk_drewN ?_ _ | refine blk_drew ?_ | refine blk_alloc ?_ _)); refine blk_far ?_ NB303_302.out _; (with_reducible repeat (first | refine blk_drewN ?_ _ | refine blk_drew ?_ | refine blk_alloc ?_ _)); exact BK303.out)) : gb309 ≠ gb303)); have n11_ := Aside0.mk ((by rw [hg]; exact Nat.ne_of_lt (blk_lt (g := gb304) (o := .cells #[.bool false, .slice none 0 0] 32 (0, 0)) (by (with_reducible repeat (first | refine blk_drewN ?_ _ | refine blk_drew ?_ | refine blk_alloc ?_ _)); refine blk_far ?_ NB304_303.out _; (with_reducible repeat (first | refine blk_drewN ?_ _ | refine blk_drew ?_ | refine blk_alloc ?_ _)); refine blk_far ?_ NB304_303.out _; (with_reducible repeat (first | refine blk_drewN ?_ _ | refine blk_drew ?_ | refine blk_alloc ?_ _)); refine blk_far ?_ NB304_302.out _; (with_reducible repeat (first | refine blk_drewN ?_ _ | refine blk_drew ?_ | refine blk_alloc ?_ _)); refine blk_far ?_ NB304_302.out _; (with_reducible repeat (first | refine blk_drewN ?_ _ | refine blk_drew ?_ | refine blk_alloc ?_ _)); exact BK304.out)) : gb304 ≠ gb309)); have n12_ := Aside0.mk ((by rw [hg]; exact Nat.ne_of_gt (blk_lt (g := gb304) (o := .cells #[.bool false, .slice none 0 0] 32 (0, 0)) (by (with_reducible repeat (first | refine blk_drewN ?_ _ | refine blk_drew ?_ | refine blk_alloc ?_ _)); refine blk_far ?_ NB304_303.out _; (with_reducible repeat (first | refine blk_drewN ?_ _ | refine blk_drew ?_ | refine blk_alloc ?_ _)); refine blk_far ?_ NB304_303.out _; (with_reducible repeat (first | refine blk_drewN ?_ _ | refine blk_drew ?_ | refine blk_alloc ?_ _)); refine blk_far ?_ NB304_302.out _; (with_reducible repeat (first | refine blk_drewN ?_ _ | refine blk_drew ?_ | refine blk_alloc ?_ _)); refine blk_far ?_ NB304_302.out _; (with_reducible repeat (first | refine blk_drewN ?_ _ | refine blk_drew ?_ | refine blk_alloc ?_ _)); exact BK304.out)) : gb309 ≠ gb304)); clear BK302; clear BK303; clear BK304; clear HB; have BK302 := n0_; have BK303 := n1_; have BK304 := n2_; have HB := n3_; have BK309 := n4_; have GW309 := n5_; have GE309 := n6_; have NB302_309 := n7_; have NB309_302 := n8_; have NB303_309 := n9_; have NB309_303 := n10_; have NB304_309 := n11_; have NB309_304 := n12_; clear n0_ n1_ n2_ n3_ n4_ n5_ n6_ n7_ n8_ n9_ n10_ n11_ n12_; clear hb hbox hg; have hnb73 := NB309_302.out; have hnc73 := NB302_309.out; have hnb74 := NB309_303.out; have hnc74 := NB303_309.out; have hnb75 := NB309_304.out; have hnc75 := NB304_309.out; have hcz76_0 : w72.cell? ⟨gb309, 0, none⟩ = some (.bool false) := (blk_cell BK309.out 0).trans rfl; have hcz76_1 : w72.cell? ⟨gb309, 1, none⟩ = some (.slice none 0 0) := (blk_cell BK309.out 1).trans rfl; have hfz76_0 := blk_frozen BK309.out 0; have hfz76_1 := blk_frozen BK309.out 1))
      (try simp only [Act.put, List.setIfInBounds_toArray, List.set_cons_zero, List.set_cons_succ])
      go_loopg [10, 11] k (fun kq v10 v11 w' => ∃ (x10_1 : Int) (x11_1 : Int) (x310001_1 : List Int) (u310001 : Value), v10 = .int .i64 x10_1 ∧ v11 = .int .i64 x11_1 ∧ Aside0 (clevisref01_Add.l1 kq x10_1 x11_1 a1_0 l1_1 a0_0 l0_1 a1_0 x310001_1 = some (r1, r2)) ∧ Aside0 (kq ≤ k) ∧ Aside0 (Kd.R (Kd.int .i64) 3 w' w.heap.size (fun k_ => (w.heap.size ≤ k_)) u310001 x310001_1) ∧ Aside0 (w'.heap[gb302]? = some (.cells #[.bool a1_0, (.slice A1_1 l1_1.length c1_1)] 32 (0, 0))) ∧ Aside0 (w'.heap[gb303]? = some (.cells #[.bool a0_0, (.slice A0_1 l0_1.length c0_1)] 32 (0, 0))) ∧ Aside0 (w'.heap[gb304]? = some (.cells #[.bool false, (.slice none 0 0)] 32 (0, 0))) ∧ Aside0 (w'.heap[gb309]? = some (.cells #[.bool a1_0, u310001] 32 (0, 0))) ∧ Aside0 (Below w.heap.size w w'))
      case atStart => exact ⟨(0), (0), (([] : List Int)), (.slice none 0 0), (by first | rfl | (simp; done) | (simp [*]; done)), (by first | rfl | (simp; done) | (simp [*]; done)), H', ⟨Nat.le_refl _⟩, ⟨by first | exact Kd.R_nil _ _ _ _ _ | exact Kd.N_nil _ _ _ _ _ | exact Kd.V_nil _ _ _ _ _ | exact Kd.Q_nil _ _ _ _ _ | exact Kd.S_nil _ _ _ _ _⟩, ⟨by (with_reducible repeat (first | refine blk_drewN ?_ _ | refine blk_drew ?_ | refine blk_alloc ?_ _)); refine blk_far ?_ NB302_309.out _; (with_reducible repeat (first | refine blk_drewN ?_ _ | refine blk_drew ?_ | refine blk_alloc ?_ _)); refine blk_far ?_ NB302_309.out _; (with_reducible repeat (first | refine blk_drewN ?_ _ | refine blk_drew ?_ | refine blk_alloc ?_ _)); exact BK302.out⟩, ⟨by (with_reducible repeat (first | refine blk_drewN ?_ _ | refine blk_drew ?_ | refine blk_alloc ?_ _)); refine blk_far ?_ NB303_309.out _; (with_reducible repeat (first | refine blk_drewN ?_ _ | refine blk_drew ?_ | refine blk_alloc ?_ _)); refine blk_far ?_ NB303_309.out _; (with_reducible repeat (first | refine blk_drewN ?_ _ | refine blk_drew ?_ | refine blk_alloc ?_ _)); exact BK303.out⟩, ⟨by (with_reducible repeat (first | refine blk_drewN ?_ _ | refine blk_drew ?_ | refine blk_alloc ?_ _)); refine blk_far ?_ NB304_309.out _; (with_reducible repeat (first | refine blk_drewN ?_ _ | refine blk_drew ?_ | refine blk_alloc ?_ _)); refine blk_far ?_ NB304_309.out _; (with_reducible repeat (first | refine blk_drewN ?_ _ | refine blk_drew ?_ | refine blk_alloc ?_ _)); exact BK304.out⟩, ⟨by (with_reducible repeat (first | refine blk_drewN ?_ _ | refine blk_drew ?_ | refine blk_alloc ?_ _)); refine blk_put (cs := #[.bool a1_0, .slice none 0 0]) ?_ 1 _ rfl; (with_reducible repeat (first | refine blk_drewN ?_ _ | refine blk_drew ?_ | refine blk_alloc ?_ _)); refine blk_put (cs := #[.bool false, .slice none 0 0]) ?_ 0 _ rfl; (with_reducible repeat (first | refine blk_drewN ?_ _ | refine blk_drew ?_ | refine blk_alloc ?_ _)); exact BK309.out⟩, ⟨by repeat (first | (with_reducible first | exact HB.out | apply below_alloc | apply pw_below_drewN | apply below_drew1 | refine below_set ?_ GE302.out | refine below_set ?_ GE303.out | refine below_set ?_ GE304.out | refine below_set ?_ GE309.out) | exact HB.out)⟩⟩
      case round =>
        clear H'
        try clear c1
        try clear c2
        try clear p2
        try clear c3
        try clear c3b0
        try clear c3b1
        try clear c3b2
        try clear c4
        try clear c5
        try clear c6
        try clear p6
        try clear c7
        try clear c8
        try clear c10
        try clear c13
        try clear c14
        try clear c15
        try clear c18
        try clear c18b0
        try clear c19
        try clear c20
        try clear c21
        try clear c23
        try clear c24
        try clear c25
        try clear c27
        try clear c28
        try clear c30
        try clear c33
        try clear c34
        try clear c35
        try clear c36
        try clear c38
        try clear c39
        try clear c41
        try clear c46
        try clear c48
        try clear c49
        try clear c50
        try clear c58
        try clear c59
        try clear c63
        try clear c63b0
        try clear p64
        try clear c67
        try clear c68
        try clear c70
        try clear c73
        try clear c74
        try clear c75
        try clear hcz11_0
        try clear hcz11_1
        try clear hcz16_0
        try clear hcz16_1
        try clear hcz22_0
        try clear hcz22_1
        try clear hcz26_0
        try clear hcz26_1
        try clear hcz29_0
        try clear hcz29_1
        try clear hcz37_0
        try clear hcz37_1
        try clear hcz40_0
        try clear hcz40_1
        try clear hcz42_0
        try clear hcz42_1
        try clear hcz45_0
        try clear hcz45_1
        try clear hcz51_0
        try clear hcz51_1
        try clear hcz54_0
        try clear hcz54_1
        try clear hcz56_0
        try clear hcz56_1
        try clear hcz60_0
        try clear hcz60_1
        try clear hcz69_0
        try clear hcz69_1
        try clear hcz71_0
        try clear hcz71_1
        try clear hcz76_0
        try clear hcz76_1
        try clear hcz9_0
        try clear hcz9_1
        try clear hfz11_0
        try clear hfz11_1
        try clear hfz16_0
        try clear hfz16_1
        try clear hfz22_0
        try clear hfz22_1
        try clear hfz26_0
        try clear hfz26_1
        try clear hfz29_0
        try clear hfz29_1
        try clear hfz37_0
        try clear hfz37_1
        try clear hfz40_0
        try clear hfz40_1
        try clear hfz42_0
        try clear hfz42_1
        try clear hfz45_0
        try clear hfz45_1
        try clear hfz51_0
        try clear hfz51_1
        try clear hfz54_0
        try clear hfz54_1
        try clear hfz56_0
        try clear hfz56_1
        try clear hfz60_0
        try clear hfz60_1
        try clear hfz69_0
        try clear hfz69_1
        try clear hfz71_0
        try clear hfz71_1
        try clear hfz76_0
        try clear hfz76_1
        try clear hfz9_0
        try clear hfz9_1
        try clear p2
        obtain ⟨x10_1, x11_1, x310001_1, u310001, rfl, rfl, HA, HK1, HO_310001, BK302, BK303, BK304, BK309, HB⟩ := hrel
        cases gk with
        | zero => exact absurd HA.out (by simp [clevisref01_Add.l1])
        | succ k1 =>
          have H := HA.out
          clear HA
          simp only [clevisref01_Add.l1] at H
          by_cases c77 : x11_1 < (l1_1.length : Int)
          · rw [if_pos c77] at H
            have c77b0 : decide (x11_1 < (l1_1.length : Int)) = true := decide_eq_true c77
            clear c77
            replace H := Option.bind_eq_some_iff.mp H
            obtain ⟨t190, A780, H⟩ := H
            replace H : ((clevisref01_at.f l0_1 x11_1).bind fun t191 => (if (wrap64 ((wrap64 (t190 - t191)) - x10_1)) < 0 then (if x310001_1.length < 17592186044416 then (clevisref01_Add.l1 k1 1 (wrap64 (x11_1 + 1)) a1_0 l1_1 a0_0 l0_1 a1_0 (x310001_1 ++ [wrap64 ((wrap64 ((wrap64 (t190 - t191)) - x10_1)) + 65536)])) else (none)) else (if x310001_1.length < 17592186044416 then (clevisref01_Add.l1 k1 0 (wrap64 (x11_1 + 1)) a1_0 l1_1 a0_0 l0_1 a1_0 (x310001_1 ++ [wrap64 ((wrap64 (t190 - t191)) - x10_1)])) else (none)))) = some (r1, r2) := H
            have A78 := Aside0.mk A780
            clear A780
            replace H := Option.bind_eq_some_iff.mp H
            obtain ⟨t191, A790, H⟩ := H
            replace H : (if (wrap64 ((wrap64 (t190 - t191)) - x10_1)) < 0 then (if x310001_1.length < 17592186044416 then (clevisref01_Add.l1 k1 1 (wrap64 (x11_1 + 1)) a1_0 l1_1 a0_0 l0_1 a1_0 (x310001_1 ++ [wrap64 ((wrap64 ((wrap64 (t190 - t191)) - x10_1)) + 65536)])) else (none)) else (if x310001_1.length < 17592186044416 then (clevisref01_Add.l1 k1 0 (wrap64 (x11_1 + 1)) a1_0 l1_1 a0_0 l0_1 a1_0 (x310001_1 ++ [wrap64 ((wrap64 (t190 - t191)) - x10_1)])) else (none))) = some (r1, r2) := H
            have A79 := Aside0.mk A790
            clear A790
            by_cases c80 : (wrap64 ((wrap64 (t190 - t191)) - x10_1)) < 0
            · rw [if_pos c80] at H
              have c80b0 : decide ((wrap64 ((wrap64 (t190 - t191)) - x10_1)) < 0) = true := decide_eq_true c80
              (try (have c80b1 : decide ((IntKind.i64.wrap ((IntKind.i64.wrap (t190 - t191)) - x10_1)) < 0) = true := by first | exact (decide_eq_true c80) | (simp only [i64_w]; exact (decide_eq_true c80))))
              clear c80
              by_cases c81 : x310001_1.length < 17592186044416
              · rw [if_pos c81] at H
                have LMc81 := Aside0.mk c81
                clear c81
                obtain ⟨y192, hy192⟩ : ∃ y_ : List Int, y_ = (x310001_1 ++ [wrap64 ((wrap64 ((wrap64 (t190 - t191)) - x10_1)) + 65536)]) := ⟨_, rfl⟩
                replace H : (clevisref01_Add.l1 k1 1 (wrap64 (x11_1 + 1)) a1_0 l1_1 a0_0 l0_1 a1_0 y192) = some (r1, r2) := by first | (rw [hy192]; with_reducible exact H) | (have H2_ := (Option.bind_some _ _).symm.trans H; rw [hy192]; with_reducible exact H2_) | (have H2_ := (Option.bind_some _ _).symm.trans H; with_reducible exact H2_) | with_reducible exact H | (rw [hy192]; exact H) | exact H
                have Ny192 := Aside0.mk hy192
                clear hy192
                have H' := Aside0.mk H
                clear H
                have hnb82 := NB302_303.out
                have hnc82 := NB303_302.out
                have hnb83 := NB302_304.out
                have hnc83 := NB304_302.out
                have hnb84 := NB302_309.out
                have hnc84 := NB309_302.out
                have hcz85_0 : wr.cell? ⟨gb302, 0, none⟩ = some (.bool a1_0) := (blk_cell BK302.out 0).trans rfl
                have hcz85_1 : wr.cell? ⟨gb302, 1, none⟩ = some (.slice A1_1 l1_1.length c1_1) := (blk_cell BK302.out 1).trans rfl
                have hfz85_0 := blk_frozen BK302.out 0
                have hfz85_1 := blk_frozen BK302.out 1
                go_wp2_with (first | (go_at_call 54; (with_reducible refine (clevisref01_at.calls _ _ l1_1 x11_1 t190 _ ?side1 ?side2 A78.out).mono ?_); (case side1 => repeat (first | exact (Kd.C_below HR1_1.out HB.out) | (with_reducible refine Kd.C_alloc ?_ _) | (with_reducible refine Kd.C_drewN ?_ _) | (with_reducible refine Kd.C_drew ?_))); (case side2 => exact HC1_1.out); rintro e w' ⟨rfl, ⟨nd, rfl⟩⟩; (try first | exact ⟨rfl, _, World.drewN_drewN _ _ _⟩ | exact ⟨rfl, _, Eq.trans (World.drewN_drewN _ _ _) (congrArg (World.drewN _) (Nat.add_assoc _ _ _))⟩); have hnb86 := NB303_304.out; have hnc86 := NB304_303.out; have hnb87 := NB303_309.out; have hnc87 := NB309_303.out; have hcz88_0 : wr.cell? ⟨gb303, 0, none⟩ = some (.bool a0_0) := (blk_cell BK303.out 0).trans rfl; have hcz88_1 : wr.cell? ⟨gb303, 1, none⟩ = some (.slice A0_1 l0_1.length c0_1) := (blk_cell BK303.out 1).trans rfl; have hfz88_0 := blk_frozen BK303.out 0; have hfz88_1 := blk_frozen BK303.out 1) | (go_at_call 54; (with_reducible refine (clevisref01_at.calls _ _ l0_1 x11_1 t191 _ ?side1 ?side2 A79.out).mono ?_); (case side1 => repeat (first | exact (Kd.C_below HR0_1.out (by repeat (first | (with_reducible first | exact HB.out | apply below_alloc | apply pw_below_drewN | apply below_drew1 | refine below_set ?_ GE302.out | refine below_set ?_ GE303.out | refine below_set ?_ GE304.out | refine below_set ?_ GE309.out) | exact HB.out))) | (with_reducible refine Kd.C_alloc ?_ _) | (with_reducible refine Kd.C_drewN ?_ _) | (with_reducible refine Kd.C_drew ?_))); (case side2 => exact HC0_1.out); rintro e w' ⟨rfl, ⟨nd, rfl⟩⟩; (try first | exact ⟨rfl, _, World.drewN_drewN _ _ _⟩ | exact ⟨rfl, _, Eq.trans (World.drewN_drewN _ _ _) (congrArg (World.drewN _) (Nat.add_assoc _ _ _))⟩); have hnb89 := NB309_304.out; have hnc89 := NB304_309.out; have hcz90_0 : wr.cell? ⟨gb309, 0, none⟩ = some (.bool a1_0) := (blk_cell BK309.out 0).trans rfl; have hcz90_1 : wr.cell? ⟨gb309, 1, none⟩ = some (u310001) := (blk_cell BK309.out 1).trans rfl; have hfz90_0 := blk_frozen BK309.out 0; have hfz90_1 := blk_frozen BK309.out 1) | ((with_reducible refine gate_builtin (b := .append) (xs := #[.tmp 97, .tmp 99]) rfl ?_); (try (refine gate_guard (by rfl) ?_; dsimp only)); at_builtin; refine Kd.R_append (Kd.int .i64) (w0 := w) w.heap.size rfl (.tmp 97) (.tmp 99) 30 3 (.int .i64 0) 8 rfl Try.underlying30 info3 rfl (by decide) (by omega) u310001 x310001_1 (wrap64 ((wrap64 ((wrap64 (t190 - t191)) - x10_1)) + 65536)) [.int .i64 (wrap64 ((wrap64 ((wrap64 (t190 - t191)) - x10_1)) + 65536))] (fun k_ => (w.heap.size ≤ k_)) (fun _ => False) rfl rfl ?aP (fun _ hk => hk.elim) ?aF ?aO ?aB ?aS ?aL ?_; (case aP => exact rfl); (case aB => exact (by repeat (first | (with_reducible first | exact HB.out | apply below_alloc | apply pw_below_drewN | apply below_drew1 | refine below_set ?_ GE302.out | refine below_set ?_ GE303.out | refine below_set ?_ GE304.out | refine below_set ?_ GE309.out) | exact HB.out))); (case aF => exact (fun k_ hk => (Nat.le_trans (below_size (by repeat (first | (with_reducible first | exact HB.out | apply below_alloc | apply pw_below_drewN | apply below_drew1 | refine below_set ?_ GE302.out | refine below_set ?_ GE303.out | refine below_set ?_ GE304.out | refine below_set ?_ GE309.out) | exact HB.out))) hk))); (case aO => exact (by (with_reducible repeat (first | apply Kd.R_alloc | apply Kd.R_drewN | apply Kd.R_drew)); exact HO_310001.out)); (case aS => exact (below_size (by repeat (first | (with_reducible first | exact HB.out | apply below_alloc | apply pw_below_drewN | apply below_drew1 | refine below_set ?_ GE302.out | refine below_set ?_ GE303.out | refine below_set ?_ GE304.out | refine below_set ?_ GE309.out) | exact HB.out)))); (case aL => have := LMc81.out; omega); intro v193 w91 ho hb hg hat; rw [← Ny192.out] at ho; have n0_ := Aside0.mk (blk_grown (g := gb302) (o := .cells #[.bool a1_0, .slice A1_1 l1_1.length c1_1] 32 (0, 0)) (by (with_reducible repeat (first | refine blk_drewN ?_ _ | refine blk_drew ?_ | refine blk_alloc ?_ _)); exact BK302.out) hg (Kd.R_ne HO_310001.out BK302.out (by decide))); have n1_ := Aside0.mk (blk_grown (g := gb303) (o := .cells #[.bool a0_0, .slice A0_1 l0_1.length c0_1] 32 (0, 0)) (by (with_reducible repeat (first | refine blk_drewN ?_ _ | refine blk_drew ?_ | refine blk_alloc ?_ _)); exact BK303.out) hg (Kd.R_ne HO_310001.out BK303.out (by decide))); have n2_ := Aside0.mk (blk_grown (g := gb304) (o := .cells #[.bool false, .slice none 0 0] 32 (0, 0)) (by (with_reducible repeat (first | refine blk_drewN ?_ _ | refine blk_drew ?_ | refine blk_alloc ?_ _)); exact BK304.out) hg (Kd.R_ne HO_310001.out BK304.out (by decide))); have n3_ := Aside0.mk (blk_grown (g := gb309) (o := .cells #[.bool a1_0, u310001] 32 (0, 0)) (by (with_reducible repeat (first | refine blk_drewN ?_ _ | refine blk_drew ?_ | refine blk_alloc ?_ _)); exact BK309.out) hg (Kd.R_ne HO_310001.out BK309.out (by decide))); have n4_ := Aside0.mk (hb); have n5_ := Aside0.mk (ho); clear BK302; clear BK303; clear BK304; clear BK309; clear HB; clear HO_310001; have BK302 := n0_; have BK303 := n1_; have BK304 := n2_; have BK309 := n3_; have HB := n4_; have HO194 := n5_; clear n0_ n1_ n2_ n3_ n4_ n5_; clear ho hb hg hat; obtain ⟨Ao92, co92, eo92⟩ := Kd.R_slice HO194.out; subst eo92; have hcz93_0 : w91.cell? ⟨gb309, 0, none⟩ = some (.bool a1_0) := (blk_cell BK309.out 0).trans rfl; have hcz93_1 : w91.cell? ⟨gb309, 1, none⟩ = some (u310001) := (blk_cell BK309.out 1).trans rfl; have hfz93_0 := blk_frozen BK309.out 0; have hfz93_1 := blk_frozen BK309.out 1))
                repeat (go_quiet (first | (go_at_call 54; (with_reducible refine (clevisref01_at.calls _ _ l1_1 x11_1 t190 _ ?side1 ?side2 A78.out).mono ?_); (case side1 => repeat (first | exact (Kd.C_below HR1_1.out HB.out) | (with_reducible refine Kd.C_alloc ?_ _) | (with_reducible refine Kd.C_drewN ?_ _) | (with_reducible refine Kd.C_drew ?_))); (case side2 => exact HC1_1.out); rintro e w' ⟨rfl, ⟨nd, rfl⟩⟩; (try first | exact ⟨rfl, _, World.drewN_drewN _ _ _⟩ | exact ⟨rfl, _, Eq.trans (World.drewN_drewN _ _ _) (congrArg (World.drewN _) (Nat.add_assoc _ _ _))⟩); have hnb86 := NB303_304.out; have hnc86 := NB304_303.out; have hnb87 := NB303_309.out; have hnc87 := NB309_303.out; have hcz88_0 : wr.cell? ⟨gb303, 0, none⟩ = some (.bool a0_0) := (blk_cell BK303.out 0).trans rfl; have hcz88_1 : wr.cell? ⟨gb303, 1, none⟩ = some (.slice A0_1 l0_1.length c0_1) := (blk_cell BK303.out 1).trans rfl; have hfz88_0 := blk_frozen BK303.out 0; have hfz88_1 := blk_frozen BK303.out 1) | (go_at_call 54; (with_reducible refine (clevisref01_at.calls _ _ l0_1 x11_1 t191 _ ?side1 ?side2 A79.out).mono ?_); (case side1 => repeat (first | exact (Kd.C_below HR0_1.out (by repeat (first | (with_reducible first | exact HB.out | apply below_alloc | apply pw_below_drewN | apply below_drew1 | refine below_set ?_ GE302.out | refine below_set ?_ GE303.out | refine below_set ?_ GE304.out | refine below_set ?_ GE309.out) | exact HB.out))) | (with_reducible refine Kd.C_alloc ?_ _) | (with_reducible refine Kd.C_drewN ?_ _) | (with_reducible refine Kd.C_drew ?_))); (case side2 => exact HC0_1.out); rintro e w' ⟨rfl, ⟨nd, rfl⟩⟩; (try first | exact ⟨rfl, _, World.drewN_drewN _ _ _⟩ | exact ⟨rfl, _, Eq.trans (World.drewN_drewN _ _ _) (congrArg (World.drewN _) (Nat.add_assoc _ _ _))⟩); have hnb89 := NB309_304.out; have hnc89 := NB304_309.out; have hcz90_0 : wr.cell? ⟨gb309, 0, none⟩ = some (.bool a1_0) := (blk_cell BK309.out 0).trans rfl; have hcz90_1 : wr.cell? ⟨gb309, 1, none⟩ = some (u310001) := (blk_cell BK309.out 1).trans rfl; have hfz90_0 := blk_frozen BK309.out 0; have hfz90_1 := blk_frozen BK309.out 1) | ((with_reducible refine gate_builtin (b := .append) (xs := #[.tmp 97, .tmp 99]) rfl ?_); (try (refine gate_guard (by rfl) ?_; dsimp only)); at_builtin; refine Kd.R_append (Kd.int .i64) (w0 := w) w.heap.size rfl (.tmp 97) (.tmp 99) 30 3 (.int .i64 0) 8 rfl Try.underlying30 info3 rfl (by decide) (by omega) u310001 x310001_1 (wrap64 ((wrap64 ((wrap64 (t190 - t191)) - x10_1)) + 65536)) [.int .i64 (wrap64 ((wrap64 ((wrap64 (t190 - t191)) - x10_1)) + 65536))] (fun k_ => (w.heap.size ≤ k_)) (fun _ => False) rfl rfl ?aP (fun _ hk => hk.elim) ?aF ?aO ?aB ?aS ?aL ?_; (case aP => exact rfl); (case aB => exact (by repeat (first | (with_reducible first | exact HB.out | apply below_alloc | apply pw_below_drewN | apply below_drew1 | refine below_set ?_ GE302.out | refine below_set ?_ GE303.out | refine below_set ?_ GE304.out | refine below_set ?_ GE309.out) | exact HB.out))); (case aF => exact (fun k_ hk => (Nat.le_trans (below_size (by repeat (first | (with_reducible first | exact HB.out | apply below_alloc | apply pw_below_drewN | apply below_drew1 | refine below_set ?_ GE302.out | refine below_set ?_ GE303.out | refine below_set ?_ GE304.out | refine below_set ?_ GE309.out) | exact HB.out))) hk))); (case aO => exact (by (with_reducible repeat (first | apply Kd.R_alloc | apply Kd.R_drewN | apply Kd.R_drew)); exact HO_310001.out)); (case aS => exact (below_size (by repeat (first | (with_reducible first | exact HB.out | apply below_alloc | apply pw_below_drewN | apply below_drew1 | refine below_set ?_ GE302.out | refine below_set ?_ GE303.out | refine below_set ?_ GE304.out | refine below_set ?_ GE309.out) | exact HB.out)))); (case aL => have := LMc81.out; omega); intro v193 w91 ho hb hg hat; rw [← Ny192.out] at ho; have n0_ := Aside0.mk (blk_grown (g := gb302) (o := .cells #[.bool a1_0, .slice A1_1 l1_1.length c1_1] 32 (0, 0)) (by (with_reducible repeat (first | refine blk_drewN ?_ _ | refine blk_drew ?_ | refine blk_alloc ?_ _)); exact BK302.out) hg (Kd.R_ne HO_310001.out BK302.out (by decide))); have n1_ := Aside0.mk (blk_grown (g := gb303) (o := .cells #[.bool a0_0, .slice A0_1 l0_1.length c0_1] 32 (0, 0)) (by (with_reducible repeat (first | refine blk_drewN ?_ _ | refine blk_drew ?_ | refine blk_alloc ?_ _)); exact BK303.out) hg (Kd.R_ne HO_310001.out BK303.out (by decide))); have n2_ := Aside0.mk (blk_grown (g := gb304) (o := .cells #[.bool false, .slice none 0 0] 32 (0, 0)) (by (with_reducible repeat (first | refine blk_drewN ?_ _ | refine blk_drew ?_ | refine blk_alloc ?_ _)); exact BK304.out) hg (Kd.R_ne HO_310001.out BK304.out (by decide))); have n3_ := Aside0.mk (blk_grown (g := gb309) (o := .cells #[.bool a1_0, u310001] 32 (0, 0)) (by (with_reducible repeat (first | refine blk_drewN ?_ _ | refine blk_drew ?_ | refine blk_alloc ?_ _)); exact BK309.out) hg (Kd.R_ne HO_310001.out BK309.out (by decide))); have n4_ := Aside0.mk (hb); have n5_ := Aside0.mk (ho); clear BK302; clear BK303; clear BK304; clear BK309; clear HB; clear HO_310001; have BK302 := n0_; have BK303 := n1_; have BK304 := n2_; have BK309 := n3_; have HB := n4_; have HO194 := n5_; clear n0_ n1_ n2_ n3_ n4_ n5_; clear ho hb hg hat; obtain ⟨Ao92, co92, eo92⟩ := Kd.R_slice HO194.out; subst eo92; have hcz93_0 : w91.cell? ⟨gb309, 0, none⟩ = some (.bool a1_0) := (blk_cell BK309.out 0).trans rfl; have hcz93_1 : w91.cell? ⟨gb309, 1, none⟩ = some (u310001) := (blk_cell BK309.out 1).trans rfl; have hfz93_0 := blk_frozen BK309.out 0; have hfz93_1 := blk_frozen BK309.out 1)); try go_wp2_with (first | (go_at_call 54; (with_reducible refine (clevisref01_at.calls _ _ l1_1 x11_1 t190 _ ?side1 ?side2 A78.out).mono ?_); (case side1 => repeat (first | exact (Kd.C_below HR1_1.out HB.out) | (with_reducible refine Kd.C_alloc ?_ _) | (with_reducible refine Kd.C_drewN ?_ _) | (with_reducible refine Kd.C_drew ?_))); (case side2 => exact HC1_1.out); rintro e w' ⟨rfl, ⟨nd, rfl⟩⟩; (try first | exact ⟨rfl, _, World.drewN_drewN _ _ _⟩ | exact ⟨rfl, _, Eq.trans (World.drewN_drewN _ _ _) (congrArg (World.drewN _) (Nat.add_assoc _ _ _))⟩); have hnb86 := NB303_304.out; have hnc86 := NB304_303.out; have hnb87 := NB303_309.out; have hnc87 := NB309_303.out; have hcz88_0 : wr.cell? ⟨gb303, 0, none⟩ = some (.bool a0_0) := (blk_cell BK303.out 0).trans rfl; have hcz88_1 : wr.cell? ⟨gb303, 1, none⟩ = some (.slice A0_1 l0_1.length c0_1) := (blk_cell BK303.out 1).trans rfl; have hfz88_0 := blk_frozen BK303.out 0; have hfz88_1 := blk_frozen BK303.out 1) | (go_at_call 54; (with_reducible refine (clevisref01_at.calls _ _ l0_1 x11_1 t191 _ ?side1 ?side2 A79.out).mono ?_); (case side1 => repeat (first | exact (Kd.C_below HR0_1.out (by repeat (first | (with_reducible first | exact HB.out | apply below_alloc | apply pw_below_drewN | apply below_drew1 | refine below_set ?_ GE302.out | refine below_set ?_ GE303.out | refine below_set ?_ GE304.out | refine below_set ?_ GE309.out) | exact HB.out))) | (with_reducible refine Kd.C_alloc ?_ _) | (with_reducible refine Kd.C_drewN ?_ _) | (with_reducible refine Kd.C_drew ?_))); (case side2 => exact HC0_1.out); rintro e w' ⟨rfl, ⟨nd, rfl⟩⟩; (try first | exact ⟨rfl, _, World.drewN_drewN _ _ _⟩ | exact ⟨rfl, _, Eq.trans (World.drewN_drewN _ _ _) (congrArg (World.drewN _) (Nat.add_assoc _ _ _))⟩); have hnb89 := NB309_304.out; have hnc89 := NB304_309.out; have hcz90_0 : wr.cell? ⟨gb309, 0, none⟩ = some (.bool a1_0) := (blk_cell BK309.out 0).trans rfl; have hcz90_1 : wr.cell? ⟨gb309, 1, none⟩ = some (u310001) := (blk_cell BK309.out 1).trans rfl; have hfz90_0 := blk_frozen BK309.out 0; have hfz90_1 := blk_frozen BK309.out 1) | ((with_reducible refine gate_builtin (b := .append) (xs := #[.tmp 97, .tmp 99]) rfl ?_); (try (refine gate_guard (by rfl) ?_; dsimp only)); at_builtin; refine Kd.R_append (Kd.int .i64) (w0 := w) w.heap.size rfl (.tmp 97) (.tmp 99) 30 3 (.int .i64 0) 8 rfl Try.underlying30 info3 rfl (by decide) (by omega) u310001 x310001_1 (wrap64 ((wrap64 ((wrap64 (t190 - t191)) - x10_1)) + 65536)) [.int .i64 (wrap64 ((wrap64 ((wrap64 (t190 - t191)) - x10_1)) + 65536))] (fun k_ => (w.heap.size ≤ k_)) (fun _ => False) rfl rfl ?aP (fun _ hk => hk.elim) ?aF ?aO ?aB ?aS ?aL ?_; (case aP => exact rfl); (case aB => exact (by repeat (first | (with_reducible first | exact HB.out | apply below_alloc | apply pw_below_drewN | apply below_drew1 | refine below_set ?_ GE302.out | refine below_set ?_ GE303.out | refine below_set ?_ GE304.out | refine below_set ?_ GE309.out) | exact HB.out))); (case aF => exact (fun k_ hk => (Nat.le_trans (below_size (by repeat (first | (with_reducible first | exact HB.out | apply below_alloc | apply pw_below_drewN | apply below_drew1 | refine below_set ?_ GE302.out | refine below_set ?_ GE303.out | refine below_set ?_ GE304.out | refine below_set ?_ GE309.out) | exact HB.out))) hk))); (case aO => exact (by (with_reducible repeat (first | apply Kd.R_alloc | apply Kd.R_drewN | apply Kd.R_drew)); exact HO_310001.out)); (case aS => exact (below_size (by repeat (first | (with_reducible first | exact HB.out | apply below_alloc | apply pw_below_drewN | apply below_drew1 | refine below_set ?_ GE302.out | refine below_set ?_ GE303.out | refine below_set ?_ GE304.out | refine below_set ?_ GE309.out) | exact HB.out)))); (case aL => have := LMc81.out; omega); intro v193 w91 ho hb hg hat; rw [← Ny192.out] at ho; have n0_ := Aside0.mk (blk_grown (g := gb302) (o := .cells #[.bool a1_0, .slice A1_1 l1_1.length c1_1] 32 (0, 0)) (by (with_reducible repeat (first | refine blk_drewN ?_ _ | refine blk_drew ?_ | refine blk_alloc ?_ _)); exact BK302.out) hg (Kd.R_ne HO_310001.out BK302.out (by decide))); have n1_ := Aside0.mk (blk_grown (g := gb303) (o := .cells #[.bool a0_0, .slice A0_1 l0_1.length c0_1] 32 (0, 0)) (by (with_reducible repeat (first | refine blk_drewN ?_ _ | refine blk_drew ?_ | refine blk_alloc ?_ _)); exact BK303.out) hg (Kd.R_ne HO_310001.out BK303.out (by decide))); have n2_ := Aside0.mk (blk_grown (g := gb304) (o := .cells #[.bool false, .slice none 0 0] 32 (0, 0)) (by (with_reducible repeat (first | refine blk_drewN ?_ _ | refine blk_drew ?_ | refine blk_alloc ?_ _)); exact BK304.out) hg (Kd.R_ne HO_310001.out BK304.out (by decide))); have n3_ := Aside0.mk (blk_grown (g := gb309) (o := .cells #[.bool a1_0, u310001] 32 (0, 0)) (by (with_reducible repeat (first | refine blk_drewN ?_ _ | refine blk_drew ?_ | refine blk_alloc ?_ _)); exact BK309.out) hg (Kd.R_ne HO_310001.out BK309.out (by decide))); have n4_ := Aside0.mk (hb); have n5_ := Aside0.mk (ho); clear BK302; clear BK303; clear BK304; clear BK309; clear HB; clear HO_310001; have BK302 := n0_; have BK303 := n1_; have BK304 := n2_; have BK309 := n3_; have HB := n4_; have HO194 := n5_; clear n0_ n1_ n2_ n3_ n4_ n5_; clear ho hb hg hat; obtain ⟨Ao92, co92, eo92⟩ := Kd.R_slice HO194.out; subst eo92; have hcz93_0 : w91.cell? ⟨gb309, 0, none⟩ = some (.bool a1_0) := (blk_cell BK309.out 0).trans rfl; have hcz93_1 : w91.cell? ⟨gb309, 1, none⟩ = some (u310001) := (blk_cell BK309.out 1).trans rfl; have hfz93_0 := blk_frozen BK309.out 0; have hfz93_1 := blk_frozen BK309.out 1)))
                go_roundg k1
                case measure => have := HK1.out; omega
                case rel => exact ⟨(1), (wrap64 (x11_1 + 1)), (y192), (.slice Ao92 y192.length co92), (by first | rfl | (simp; done) | (simp [*]; done)), (by first | rfl | (simp; done) | (simp [*]; done)), H', ⟨by have := HK1.out; omega⟩, ⟨by (with_reducible repeat (first | apply Kd.R_alloc | apply Kd.R_drewN | apply Kd.R_drew)); exact Kd.R_mono (Kd.R_far (p := ⟨gb309, 1, none⟩) (Kd.R_types HO194.out BK309.out (by decide)) (fun _ hk => hk.2) (.slice Ao92 y192.length co92)) (fun _ hk => hk.1)⟩, ⟨by (with_reducible repeat (first | refine blk_drewN ?_ _ | refine blk_drew ?_ | refine blk_alloc ?_ _)); refine blk_far ?_ NB302_309.out _; (with_reducible repeat (first | refine blk_drewN ?_ _ | refine blk_drew ?_ | refine blk_alloc ?_ _)); exact BK302.out⟩, ⟨by (with_reducible repeat (first | refine blk_drewN ?_ _ | refine blk_drew ?_ | refine blk_alloc ?_ _)); refine blk_far ?_ NB303_309.out _; (with_reducible repeat (first | refine blk_drewN ?_ _ | refine blk_drew ?_ | refine blk_alloc ?_ _)); exact BK303.out⟩, ⟨by (with_reducible repeat (first | refine blk_drewN ?_ _ | refine blk_drew ?_ | refine blk_alloc ?_ _)); refine blk_far ?_ NB304_309.out _; (with_reducible repeat (first | refine blk_drewN ?_ _ | refine blk_drew ?_ | refine blk_alloc ?_ _)); exact BK304.out⟩, ⟨by (with_reducible repeat (first | refine blk_drewN ?_ _ | refine blk_drew ?_ | refine blk_alloc ?_ _)); refine blk_put (cs := #[.bool a1_0, u310001]) ?_ 1 _ rfl; (with_reducible repeat (first | refine blk_drewN ?_ _ | refine blk_drew ?_ | refine blk_alloc ?_ _)); exact BK309.out⟩, ⟨by repeat (first | (with_reducible first | exact HB.out | apply below_alloc | apply pw_below_drewN | apply below_drew1 | refine below_set ?_ GE302.out | refine below_set ?_ GE303.out | refine below_set ?_ GE304.out | refine below_set ?_ GE309.out) | exact HB.out)⟩⟩
              · rw [if_neg c81] at H
                exact absurd H (by simp)
            · rw [if_neg c80] at H
              have c80b0 : decide ((wrap64 ((wrap64 (t190 - t191)) - x10_1)) < 0) = false := decide_eq_false c80
              (try (have c80b1 : decide ((IntKind.i64.wrap ((IntKind.i64.wrap (t190 - t191)) - x10_1)) < 0) = false := by first | exact (decide_eq_false c80) | (simp only [i64_w]; exact (decide_eq_false c80))))
              clear c80
              by_cases c94 : x310001_1.length < 17592186044416
              · rw [if_pos c94] at H
                have LMc94 := Aside0.mk c94
                clear c94
                obtain ⟨y195, hy195⟩ : ∃ y_ : List Int, y_ = (x310001_1 ++ [wrap64 ((wrap64 (t190 - t191)) - x10_1)]) := ⟨_, rfl⟩
                replace H : (clevisref01_Add.l1 k1 0 (wrap64 (x11_1 + 1)) a1_0 l1_1 a0_0 l0_1 a1_0 y195) = some (r1, r2) := by first | (rw [hy195]; with_reducible exact H) | (have H2_ := (Option.bind_some _ _).symm.trans H; rw [hy195]; with_reducible exact H2_) | (have H2_ := (Option.bind_some _ _).symm.trans H; with_reducible exact H2_) | with_reducible exact H | (rw [hy195]; exact H) | exact H
                have Ny195 := Aside0.mk hy195
                clear hy195
                have H' := Aside0.mk H
                clear H
                have hnb95 := NB302_303.out
                have hnc95 := NB303_302.out
                have hnb96 := NB302_304.out
                have hnc96 := NB304_302.out
                have hnb97 := NB302_309.out
                have hnc97 := NB309_302.out
                have hcz98_0 : wr.cell? ⟨gb302, 0, none⟩ = some (.bool a1_0) := (blk_cell BK302.out 0).trans rfl
                have hcz98_1 : wr.cell? ⟨gb302, 1, none⟩ = some (.slice A1_1 l1_1.length c1_1) := (blk_cell BK302.out 1).trans rfl
                have hfz98_0 := blk_frozen BK302.out 0
                have hfz98_1 := blk_frozen BK302.out 1
                go_wp2_with (first | (go_at_call 54; (with_reducible refine (clevisref01_at.calls _ _ l1_1 x11_1 t190 _ ?side1 ?side2 A78.out).mono ?_); (case side1 => repeat (first | exact (Kd.C_below HR1_1.out HB.out) | (with_reducible refine Kd.C_alloc ?_ _) | (with_reducible refine Kd.C_drewN ?_ _) | (with_reducible refine Kd.C_drew ?_))); (case side2 => exact HC1_1.out); rintro e w' ⟨rfl, ⟨nd, rfl⟩⟩; (try first | exact ⟨rfl, _, World.drewN_drewN _ _ _⟩ | exact ⟨rfl, _, Eq.trans (World.drewN_drewN _ _ _) (congrArg (World.drewN _) (Nat.add_assoc _ _ _))⟩); have hnb99 := NB303_304.out; have hnc99 := NB304_303.out; have hnb100 := NB303_309.out; have hnc100 := NB309_303.out; have hcz101_0 : wr.cell? ⟨gb303, 0, none⟩ = some (.bool a0_0) := (blk_cell BK303.out 0).trans rfl; have hcz101_1 : wr.cell? ⟨gb303, 1, none⟩ = some (.slice A0_1 l0_1.length c0_1) := (blk_cell BK303.out 1).trans rfl; have hfz101_0 := blk_frozen BK303.out 0; have hfz101_1 := blk_frozen BK303.out 1) | (go_at_call 54; (with_reducible refine (clevisref01_at.calls _ _ l0_1 x11_1 t191 _ ?side1 ?side2 A79.out).mono ?_); (case side1 => repeat (first | exact (Kd.C_below HR0_1.out (by repeat (first | (with_reducible first | exact HB.out | apply below_alloc | apply pw_below_drewN | apply below_drew1 | refine below_set ?_ GE302.out | refine below_set ?_ GE303.out | refine below_set ?_ GE304.out | refine below_set ?_ GE309.out) | exact HB.out))) | (with_reducible refine Kd.C_alloc ?_ _) | (with_reducible refine Kd.C_drewN ?_ _) | (with_reducible refine Kd.C_drew ?_))); (case side2 => exact HC0_1.out); rintro e w' ⟨rfl, ⟨nd, rfl⟩⟩; (try first | exact ⟨rfl, _, World.drewN_drewN _ _ _⟩ | exact ⟨rfl, _, Eq.trans (World.drewN_drewN _ _ _) (congrArg (World.drewN _) (Nat.add_assoc _ _ _))⟩); have hnb102 := NB309_304.out; have hnc102 := NB304_309.out; have hcz103_0 : wr.cell? ⟨gb309, 0, none⟩ = some (.bool a1_0) := (blk_cell BK309.out 0).trans rfl; have hcz103_1 : wr.cell? ⟨gb309, 1, none⟩ = some (u310001) := (blk_cell BK309.out 1).trans rfl; have hfz103_0 := blk_frozen BK309.out 0; have hfz103_1 := blk_frozen BK309.out 1) | ((with_reducible refine gate_builtin (b := .append) (xs := #[.tmp 97, .tmp 99]) rfl ?_); (try (refine gate_guard (by rfl) ?_; dsimp only)); at_builtin; refine Kd.R_append (Kd.int .i64) (w0 := w) w.heap.size rfl (.tmp 97) (.tmp 99) 30 3 (.int .i64 0) 8 rfl Try.underlying30 info3 rfl (by decide) (by omega) u310001 x310001_1 (wrap64 ((wrap64 (t190 - t191)) - x10_1)) [.int .i64 (wrap64 ((wrap64 (t190 - t191)) - x10_1))] (fun k_ => (w.heap.size ≤ k_)) (fun _ => False) rfl rfl ?aP (fun _ hk => hk.elim) ?aF ?aO ?aB ?aS ?aL ?_; (case aP => exact rfl); (case aB => exact (by repeat (first | (with_reducible first | exact HB.out | apply below_alloc | apply pw_below_drewN | apply below_drew1 | refine below_set ?_ GE302.out | refine below_set ?_ GE303.out | refine below_set ?_ GE304.out | refine below_set ?_ GE309.out) | exact HB.out))); (case aF => exact (fun k_ hk => (Nat.le_trans (below_size (by repeat (first | (with_reducible first | exact HB.out | apply below_alloc | apply pw_below_drewN | apply below_drew1 | refine below_set ?_ GE302.out | refine below_set ?_ GE303.out | refine below_set ?_ GE304.out | refine below_set ?_ GE309.out) | exact HB.out))) hk))); (case aO => exact (by (with_reducible repeat (first | apply Kd.R_alloc | apply Kd.R_drewN | apply Kd.R_drew)); exact HO_310001.out)); (case aS => exact (below_size (by repeat (first | (with_reducible first | exact HB.out | apply below_alloc | apply pw_below_drewN | apply below_drew1 | refine below_set ?_ GE302.out | refine below_set ?_ GE303.out | refine below_set ?_ GE304.out | refine below_set ?_ GE309.out) | exact HB.out)))); (case aL => have := LMc94.out; omega); intro v196 w104 ho hb hg hat; rw [← Ny195.out] at ho; have n0_ := Aside0.mk (blk_grown (g := gb302) (o := .cells #[.bool a1_0, .slice A1_1 l1_1.length c1_1] 32 (0, 0)) (by (with_reducible repeat (first | refine blk_drewN ?_ _ | refine blk_drew ?_ | refine blk_alloc ?_ _)); exact BK302.out) hg (Kd.R_ne HO_310001.out BK302.out (by decide))); have n1_ := Aside0.mk (blk_grown (g := gb303) (o := .cells #[.bool a0_0, .slice A0_1 l0_1.length c0_1] 32 (0, 0)) (by (with_reducible repeat (first | refine blk_drewN ?_ _ | refine blk_drew ?_ | refine blk_alloc ?_ _)); exact BK303.out) hg (Kd.R_ne HO_310001.out BK303.out (by decide))); have n2_ := Aside0.mk (blk_grown (g := gb304) (o := .cells #[.bool false, .slice none 0 0] 32 (0, 0)) (by (with_reducible repeat (first | refine blk_drewN ?_ _ | refine blk_drew ?_ | refine blk_alloc ?_ _)); exact BK304.out) hg (Kd.R_ne HO_310001.out BK304.out (by decide))); have n3_ := Aside0.mk (blk_grown (g := gb309) (o := .cells #[.bool a1_0, u310001] 32 (0, 0)) (by (with_reducible repeat (first | refine blk_drewN ?_ _ | refine blk_drew ?_ | refine blk_alloc ?_ _)); exact BK309.out) hg (Kd.R_ne HO_310001.out BK309.out (by decide))); have n4_ := Aside0.mk (hb); have n5_ := Aside0.mk (ho); clear BK302; clear BK303; clear BK304; clear BK309; clear HB; clear HO_310001; have BK302 := n0_; have BK303 := n1_; have BK304 := n2_; have BK309 := n3_; have HB := n4_; have HO197 := n5_; clear n0_ n1_ n2_ n3_ n4_ n5_; clear ho hb hg hat; obtain ⟨Ao105, co105, eo105⟩ := Kd.R_slice HO197.out; subst eo105; have hcz106_0 : w104.cell? ⟨gb309, 0, none⟩ = some (.bool a1_0) := (blk_cell BK309.out 0).trans rfl; have hcz106_1 : w104.cell? ⟨gb309, 1, none⟩ = some (u310001) := (blk_cell BK309.out 1).trans rfl; have hfz106_0 := blk_frozen BK309.out 0; have hfz106_1 := blk_frozen BK309.out 1))
                repeat (go_quiet (first | (go_at_call 54; (with_reducible refine (clevisref01_at.calls _ _ l1_1 x11_1 t190 _ ?side1 ?side2 A78.out).mono ?_); (case side1 => repeat (first | exact (Kd.C_below HR1_1.out HB.out) | (with_reducible refine Kd.C_alloc ?_ _) | (with_reducible refine Kd.C_drewN ?_ _) | (with_reducible refine Kd.C_drew ?_))); (case side2 => exact HC1_1.out); rintro e w' ⟨rfl, ⟨nd, rfl⟩⟩; (try first | exact ⟨rfl, _, World.drewN_drewN _ _ _⟩ | exact ⟨rfl, _, Eq.trans (World.drewN_drewN _ _ _) (congrArg (World.drewN _) (Nat.add_assoc _ _ _))⟩); have hnb99 := NB303_304.out; have hnc99 := NB304_303.out; have hnb100 := NB303_309.out; have hnc100 := NB309_303.out; have hcz101_0 : wr.cell? ⟨gb303, 0, none⟩ = some (.bool a0_0) := (blk_cell BK303.out 0).trans rfl; have hcz101_1 : wr.cell? ⟨gb303, 1, none⟩ = some (.slice A0_1 l0_1.length c0_1) := (blk_cell BK303.out 1).trans rfl; have hfz101_0 := blk_frozen BK303.out 0; have hfz101_1 := blk_frozen BK303.out 1) | (go_at_call 54; (with_reducible refine (clevisref01_at.calls _ _ l0_1 x11_1 t191 _ ?side1 ?side2 A79.out).mono ?_); (case side1 => repeat (first | exact (Kd.C_below HR0_1.out (by repeat (first | (with_reducible first | exact HB.out | apply below_alloc | apply pw_below_drewN | apply below_drew1 | refine below_set ?_ GE302.out | refine below_set ?_ GE303.out | refine below_set ?_ GE304.out | refine below_set ?_ GE309.out) | exact HB.out))) | (with_reducible refine Kd.C_alloc ?_ _) | (with_reducible refine Kd.C_drewN ?_ _) | (with_reducible refine Kd.C_drew ?_))); (case side2 => exact HC0_1.out); rintro e w' ⟨rfl, ⟨nd, rfl⟩⟩; (try first | exact ⟨rfl, _, World.drewN_drewN _ _ _⟩ | exact ⟨rfl, _, Eq.trans (World.drewN_drewN _ _ _) (congrArg (World.drewN _) (Nat.add_assoc _ _ _))⟩); have hnb102 := NB309_304.out; have hnc102 := NB304_309.out; have hcz103_0 : wr.cell? ⟨gb309, 0, none⟩ = some (.bool a1_0) := (blk_cell BK309.out 0).trans rfl; have hcz103_1 : wr.cell? ⟨gb309, 1, none⟩ = some (u310001) := (blk_cell BK309.out 1).trans rfl; have hfz103_0 := blk_frozen BK309.out 0; have hfz103_1 := blk_frozen BK309.out 1) | ((with_reducible refine gate_builtin (b := .append) (xs := #[.tmp 97, .tmp 99]) rfl ?_); (try (refine gate_guard (by rfl) ?_; dsimp only)); at_builtin; refine Kd.R_append (Kd.int .i64) (w0 := w) w.heap.size rfl (.tmp 97) (.tmp 99) 30 3 (.int .i64 0) 8 rfl Try.underlying30 info3 rfl (by decide) (by omega) u310001 x310001_1 (wrap64 ((wrap64 (t190 - t191)) - x10_1)) [.int .i64 (wrap64 ((wrap64 (t190 - t191)) - x10_1))] (fun k_ => (w.heap.size ≤ k_)) (fun _ => False) rfl rfl ?aP (fun _ hk => hk.elim) ?aF ?aO ?aB ?aS ?aL ?_; (case aP => exact rfl); (case aB => exact (by repeat (first | (with_reducible first | exact HB.out | apply below_alloc | apply pw_below_drewN | apply below_drew1 | refine below_set ?_ GE302.out | refine below_set ?_ GE303.out | refine below_set ?_ GE304.out | refine below_set ?_ GE309.out) | exact HB.out))); (case aF => exact (fun k_ hk => (Nat.le_trans (below_size (by repeat (first | (with_reducible first | exact HB.out | apply below_alloc | apply pw_below_drewN | apply below_drew1 | refine below_set ?_ GE302.out | refine below_set ?_ GE303.out | refine below_set ?_ GE304.out | refine below_set ?_ GE309.out) | exact HB.out))) hk))); (case aO => exact (by (with_reducible repeat (first | apply Kd.R_alloc | apply Kd.R_drewN | apply Kd.R_drew)); exact HO_310001.out)); (case aS => exact (below_size (by repeat (first | (with_reducible first | exact HB.out | apply below_alloc | apply pw_below_drewN | apply below_drew1 | refine below_set ?_ GE302.out | refine below_set ?_ GE303.out | refine below_set ?_ GE304.out | refine below_set ?_ GE309.out) | exact HB.out)))); (case aL => have := LMc94.out; omega); intro v196 w104 ho hb hg hat; rw [← Ny195.out] at ho; have n0_ := Aside0.mk (blk_grown (g := gb302) (o := .cells #[.bool a1_0, .slice A1_1 l1_1.length c1_1] 32 (0, 0)) (by (with_reducible repeat (first | refine blk_drewN ?_ _ | refine blk_drew ?_ | refine blk_alloc ?_ _)); exact BK302.out) hg (Kd.R_ne HO_310001.out BK302.out (by decide))); have n1_ := Aside0.mk (blk_grown (g := gb303) (o := .cells #[.bool a0_0, .slice A0_1 l0_1.length c0_1] 32 (0, 0)) (by (with_reducible repeat (first | refine blk_drewN ?_ _ | refine blk_drew ?_ | refine blk_alloc ?_ _)); exact BK303.out) hg (Kd.R_ne HO_310001.out BK303.out (by decide))); have n2_ := Aside0.mk (blk_grown (g := gb304) (o := .cells #[.bool false, .slice none 0 0] 32 (0, 0)) (by (with_reducible repeat (first | refine blk_drewN ?_ _ | refine blk_drew ?_ | refine blk_alloc ?_ _)); exact BK304.out) hg (Kd.R_ne HO_310001.out BK304.out (by decide))); have n3_ := Aside0.mk (blk_grown (g := gb309) (o := .cells #[.bool a1_0, u310001] 32 (0, 0)) (by (with_reducible repeat (first | refine blk_drewN ?_ _ | refine blk_drew ?_ | refine blk_alloc ?_ _)); exact BK309.out) hg (Kd.R_ne HO_310001.out BK309.out (by decide))); have n4_ := Aside0.mk (hb); have n5_ := Aside0.mk (ho); clear BK302; clear BK303; clear BK304; clear BK309; clear HB; clear HO_310001; have BK302 := n0_; have BK303 := n1_; have BK304 := n2_; have BK309 := n3_; have HB := n4_; have HO197 := n5_; clear n0_ n1_ n2_ n3_ n4_ n5_; clear ho hb hg hat; obtain ⟨Ao105, co105, eo105⟩ := Kd.R_slice HO197.out; subst eo105; have hcz106_0 : w104.cell? ⟨gb309, 0, none⟩ = some (.bool a1_0) := (blk_cell BK309.out 0).trans rfl; have hcz106_1 : w104.cell? ⟨gb309, 1, none⟩ = some (u310001) := (blk_cell BK309.out 1).trans rfl; have hfz106_0 := blk_frozen BK309.out 0; have hfz106_1 := blk_frozen BK309.out 1)); try go_wp2_with (first | (go_at_call 54; (with_reducible refine (clevisref01_at.calls _ _ l1_1 x11_1 t190 _ ?side1 ?side2 A78.out).mono ?_); (case side1 => repeat (first | exact (Kd.C_below HR1_1.out HB.out) | (with_reducible refine Kd.C_alloc ?_ _) | (with_reducible refine Kd.C_drewN ?_ _) | (with_reducible refine Kd.C_drew ?_))); (case side2 => exact HC1_1.out); rintro e w' ⟨rfl, ⟨nd, rfl⟩⟩; (try first | exact ⟨rfl, _, World.drewN_drewN _ _ _⟩ | exact ⟨rfl, _, Eq.trans (World.drewN_drewN _ _ _) (congrArg (World.drewN _) (Nat.add_assoc _ _ _))⟩); have hnb99 := NB303_304.out; have hnc99 := NB304_303.out; have hnb100 := NB303_309.out; have hnc100 := NB309_303.out; have hcz101_0 : wr.cell? ⟨gb303, 0, none⟩ = some (.bool a0_0) := (blk_cell BK303.out 0).trans rfl; have hcz101_1 : wr.cell? ⟨gb303, 1, none⟩ = some (.slice A0_1 l0_1.length c0_1) := (blk_cell BK303.out 1).trans rfl; have hfz101_0 := blk_frozen BK303.out 0; have hfz101_1 := blk_frozen BK303.out 1) | (go_at_call 54; (with_reducible refine (clevisref01_at.calls _ _ l0_1 x11_1 t191 _ ?side1 ?side2 A79.out).mono ?_); (case side1 => repeat (first | exact (Kd.C_below HR0_1.out (by repeat (first | (with_reducible first | exact HB.out | apply below_alloc | apply pw_below_drewN | apply below_drew1 | refine below_set ?_ GE302.out | refine below_set ?_ GE303.out | refine below_set ?_ GE304.out | refine below_set ?_ GE309.out) | exact HB.out))) | (with_reducible refine Kd.C_alloc ?_ _) | (with_reducible refine Kd.C_drewN ?_ _) | (with_reducible refine Kd.C_drew ?_))); (case side2 => exact HC0_1.out); rintro e w' ⟨rfl, ⟨nd, rfl⟩⟩; (try first | exact ⟨rfl, _, World.drewN_drewN _ _ _⟩ | exact ⟨rfl, _, Eq.trans (World.drewN_drewN _ _ _) (congrArg (World.drewN _) (Nat.add_assoc _ _ _))⟩); have hnb102 := NB309_304.out; have hnc102 := NB304_309.out; have hcz103_0 : wr.cell? ⟨gb309, 0, none⟩ = some (.bool a1_0) := (blk_cell BK309.out 0).trans rfl; have hcz103_1 : wr.cell? ⟨gb309, 1, none⟩ = some (u310001) := (blk_cell BK309.out 1).trans rfl; have hfz103_0 := blk_frozen BK309.out 0; have hfz103_1 := blk_frozen BK309.out 1) | ((with_reducible refine gate_builtin (b := .append) (xs := #[.tmp 97, .tmp 99]) rfl ?_); (try (refine gate_guard (by rfl) ?_; dsimp only)); at_builtin; refine Kd.R_append (Kd.int .i64) (w0 := w) w.heap.size rfl (.tmp 97) (.tmp 99) 30 3 (.int .i64 0) 8 rfl Try.underlying30 info3 rfl (by decide) (by omega) u310001 x310001_1 (wrap64 ((wrap64 (t190 - t191)) - x10_1)) [.int .i64 (wrap64 ((wrap64 (t190 - t191)) - x10_1))] (fun k_ => (w.heap.size ≤ k_)) (fun _ => False) rfl rfl ?aP (fun _ hk => hk.elim) ?aF ?aO ?aB ?aS ?aL ?_; (case aP => exact rfl); (case aB => exact (by repeat (first | (with_reducible first | exact HB.out | apply below_alloc | apply pw_below_drewN | apply below_drew1 | refine below_set ?_ GE302.out | refine below_set ?_ GE303.out | refine below_set ?_ GE304.out | refine below_set ?_ GE309.out) | exact HB.out))); (case aF => exact (fun k_ hk => (Nat.le_trans (below_size (by repeat (first | (with_reducible first | exact HB.out | apply below_alloc | apply pw_below_drewN | apply below_drew1 | refine below_set ?_ GE302.out | refine below_set ?_ GE303.out | refine below_set ?_ GE304.out | refine below_set ?_ GE309.out) | exact HB.out))) hk))); (case aO => exact (by (with_reducible repeat (first | apply Kd.R_alloc | apply Kd.R_drewN | apply Kd.R_drew)); exact HO_310001.out)); (case aS => exact (below_size (by repeat (first | (with_reducible first | exact HB.out | apply below_alloc | apply pw_below_drewN | apply below_drew1 | refine below_set ?_ GE302.out | refine below_set ?_ GE303.out | refine below_set ?_ GE304.out | refine below_set ?_ GE309.out) | exact HB.out)))); (case aL => have := LMc94.out; omega); intro v196 w104 ho hb hg hat; rw [← Ny195.out] at ho; have n0_ := Aside0.mk (blk_grown (g := gb302) (o := .cells #[.bool a1_0, .slice A1_1 l1_1.length c1_1] 32 (0, 0)) (by (with_reducible repeat (first | refine blk_drewN ?_ _ | refine blk_drew ?_ | refine blk_alloc ?_ _)); exact BK302.out) hg (Kd.R_ne HO_310001.out BK302.out (by decide))); have n1_ := Aside0.mk (blk_grown (g := gb303) (o := .cells #[.bool a0_0, .slice A0_1 l0_1.length c0_1] 32 (0, 0)) (by (with_reducible repeat (first | refine blk_drewN ?_ _ | refine blk_drew ?_ | refine blk_alloc ?_ _)); exact BK303.out) hg (Kd.R_ne HO_310001.out BK303.out (by decide))); have n2_ := Aside0.mk (blk_grown (g := gb304) (o := .cells #[.bool false, .slice none 0 0] 32 (0, 0)) (by (with_reducible repeat (first | refine blk_drewN ?_ _ | refine blk_drew ?_ | refine blk_alloc ?_ _)); exact BK304.out) hg (Kd.R_ne HO_310001.out BK304.out (by decide))); have n3_ := Aside0.mk (blk_grown (g := gb309) (o := .cells #[.bool a1_0, u310001] 32 (0, 0)) (by (with_reducible repeat (first | refine blk_drewN ?_ _ | refine blk_drew ?_ | refine blk_alloc ?_ _)); exact BK309.out) hg (Kd.R_ne HO_310001.out BK309.out (by decide))); have n4_ := Aside0.mk (hb); have n5_ := Aside0.mk (ho); clear BK302; clear BK303; clear BK304; clear BK309; clear HB; clear HO_310001; have BK302 := n0_; have BK303 := n1_; have BK304 := n2_; have BK309 := n3_; have HB := n4_; have HO197 := n5_; clear n0_ n1_ n2_ n3_ n4_ n5_; clear ho hb hg hat; obtain ⟨Ao105, co105, eo105⟩ := Kd.R_slice HO197.out; subst eo105; have hcz106_0 : w104.cell? ⟨gb309, 0, none⟩ = some (.bool a1_0) := (blk_cell BK309.out 0).trans rfl; have hcz106_1 : w104.cell? ⟨gb309, 1, none⟩ = some (u310001) := (blk_cell BK309.out 1).trans rfl; have hfz106_0 := blk_frozen BK309.out 0; have hfz106_1 := blk_frozen BK309.out 1)))
                go_roundg k1
                case measure => have := HK1.out; omega
                case rel => exact ⟨(0), (wrap64 (x11_1 + 1)), (y195), (.slice Ao105 y195.length co105), (by first | rfl | (simp; done) | (simp [*]; done)), (by first | rfl | (simp; done) | (simp [*]; done)), H', ⟨by have := HK1.out; omega⟩, ⟨by (with_reducible repeat (first | apply Kd.R_alloc | apply Kd.R_drewN | apply Kd.R_drew)); exact Kd.R_mono (Kd.R_far (p := ⟨gb309, 1, none⟩) (Kd.R_types HO197.out BK309.out (by decide)) (fun _ hk => hk.2) (.slice Ao105 y195.length co105)) (fun _ hk => hk.1)⟩, ⟨by (with_reducible repeat (first | refine blk_drewN ?_ _ | refine blk_drew ?_ | refine blk_alloc ?_ _)); refine blk_far ?_ NB302_309.out _; (with_reducible repeat (first | refine blk_drewN ?_ _ | refine blk_drew ?_ | refine blk_alloc ?_ _)); exact BK302.out⟩, ⟨by (with_reducible repeat (first | refine blk_drewN ?_ _ | refine blk_drew ?_ | refine blk_alloc ?_ _)); refine blk_far ?_ NB303_309.out _; (with_reducible repeat (first | refine blk_drewN ?_ _ | refine blk_drew ?_ | refine blk_alloc ?_ _)); exact BK303.out⟩, ⟨by (with_reducible repeat (first | refine blk_drewN ?_ _ | refine blk_drew ?_ | refine blk_alloc ?_ _)); refine blk_far ?_ NB304_309.out _; (with_reducible repeat (first | refine blk_drewN ?_ _ | refine blk_drew ?_ | refine blk_alloc ?_ _)); exact BK304.out⟩, ⟨by (with_reducible repeat (first | refine blk_drewN ?_ _ | refine blk_drew ?_ | refine blk_alloc ?_ _)); refine blk_put (cs := #[.bool a1_0, u310001]) ?_ 1 _ rfl; (with_reducible repeat (first | refine blk_drewN ?_ _ | refine blk_drew ?_ | refine blk_alloc ?_ _)); exact BK309.out⟩, ⟨by repeat (first | (with_reducible first | exact HB.out | apply below_alloc | apply pw_below_drewN | apply below_drew1 | refine below_set ?_ GE302.out | refine below_set ?_ GE303.out | refine below_set ?_ GE304.out | refine below_set ?_ GE309.out) | exact HB.out)⟩⟩
              · rw [if_neg c94] at H
                exact absurd H (by simp)
          · rw [if_neg c77] at H
            have c77b0 : decide (x11_1 < (l1_1.length : Int)) = false := decide_eq_false c77
            clear c77
            replace H := Option.bind_eq_some_iff.mp H
            obtain ⟨⟨t186, t187⟩, A1070, H⟩ := H
            replace H : (some (t186, t187)) = some (r1, r2) := H
            have A107 := Aside0.mk A1070
            clear A1070
            simp only [Option.some.injEq, Prod.mk.injEq] at H
            obtain ⟨rfl, rfl⟩ := H
            have hnb108 := NB302_303.out
            have hnc108 := NB303_302.out
            have hnb109 := NB302_304.out
            have hnc109 := NB304_302.out
            have hnb110 := NB302_309.out
            have hnc110 := NB309_302.out
            have hcz111_0 : wr.cell? ⟨gb302, 0, none⟩ = some (.bool a1_0) := (blk_cell BK302.out 0).trans rfl
            have hcz111_1 : wr.cell? ⟨gb302, 1, none⟩ = some (.slice A1_1 l1_1.length c1_1) := (blk_cell BK302.out 1).trans rfl
            have hfz111_0 := blk_frozen BK302.out 0
            have hfz111_1 := blk_frozen BK302.out 1
            have hnb112 := NB309_303.out
            have hnc112 := NB303_309.out
            have hnb113 := NB309_304.out
            have hnc113 := NB304_309.out
            have hcz114_0 : wr.cell? ⟨gb309, 0, none⟩ = some (.bool a1_0) := (blk_cell BK309.out 0).trans rfl
            have hcz114_1 : wr.cell? ⟨gb309, 1, none⟩ = some (u310001) := (blk_cell BK309.out 1).trans rfl
            have hfz114_0 := blk_frozen BK309.out 0
            have hfz114_1 := blk_frozen BK309.out 1
            obtain ⟨Ao115, co115, eo115⟩ := Kd.R_slice HO_310001.out
            subst eo115
            go_wp2_with (first | (go_at_call 47; (with_reducible refine (clevisref01_clean.calls k1 a1_0 (fun k_ => some k_ = (.slice Ao115 x310001_1.length co115 : Value).ownBlock) _ _ x310001_1 t186 t187 _ ?side1 A107.out).mono ?_); (case side1 => exact Kd.R_V (Kd.R_tight rfl (Kd.R_types (Kd.R_types (Kd.R_types (Kd.R_types (HO_310001.out) BK302.out (by decide)) BK303.out (by decide)) BK304.out (by decide)) BK309.out (by decide)))); rintro e w116 ⟨v188, rfl, ho0, hb⟩; have n0_ := Aside0.mk (Kd.R_below (by (with_reducible repeat (first | apply Kd.R_alloc | apply Kd.R_drewN | apply Kd.R_drew)); exact HO_310001.out) hb); have n1_ := Aside0.mk (Kd.V_lower (Kd.V_mono (ok' := fun k_ => (w.heap.size ≤ k_) ∧ k_ ≠ gb302 ∧ k_ ≠ gb303 ∧ k_ ≠ gb304 ∧ k_ ≠ gb309) ho0 (fun k_ hk_ => ⟨Or.elim hk_ (fun hs_ => ((Kd.R_types (Kd.R_types (Kd.R_types (Kd.R_types (HO_310001.out) BK302.out (by decide)) BK303.out (by decide)) BK304.out (by decide)) BK309.out (by decide)).1 k_ hs_.symm).1.1.1.1) (fun hn_ => (Nat.le_trans (below_size (by repeat (first | (with_reducible first | exact HB.out | apply below_alloc | apply pw_below_drewN | apply below_drew1 | refine below_set ?_ GE302.out | refine below_set ?_ GE303.out | refine below_set ?_ GE304.out | refine below_set ?_ GE309.out) | exact HB.out))) hn_)), Or.elim hk_ (fun hs_ => ((Kd.R_types (Kd.R_types (Kd.R_types (Kd.R_types (HO_310001.out) BK302.out (by decide)) BK303.out (by decide)) BK304.out (by decide)) BK309.out (by decide)).1 k_ hs_.symm).1.1.1.2) (fun hn_ => (Kd.freshB (g := gb302) (o := .cells #[.bool a1_0, .slice A1_1 l1_1.length c1_1] 32 (0, 0)) (by (with_reducible repeat (first | refine blk_drewN ?_ _ | refine blk_drew ?_ | refine blk_alloc ?_ _)); exact BK302.out) k_ hn_)), Or.elim hk_ (fun hs_ => ((Kd.R_types (Kd.R_types (Kd.R_types (Kd.R_types (HO_310001.out) BK302.out (by decide)) BK303.out (by decide)) BK304.out (by decide)) BK309.out (by decide)).1 k_ hs_.symm).1.1.2) (fun hn_ => (Kd.freshB (g := gb303) (o := .cells #[.bool a0_0, .slice A0_1 l0_1.length c0_1] 32 (0, 0)) (by (with_reducible repeat (first | refine blk_drewN ?_ _ | refine blk_drew ?_ | refine blk_alloc ?_ _)); exact BK303.out) k_ hn_)), Or.elim hk_ (fun hs_ => ((Kd.R_types (Kd.R_types (Kd.R_types (Kd.R_types (HO_310001.out) BK302.out (by decide)) BK303.out (by decide)) BK304.out (by decide)) BK309.out (by decide)).1 k_ hs_.symm).1.2) (fun hn_ => (Kd.freshB (g := gb304) (o := .cells #[.bool false, .slice none 0 0] 32 (0, 0)) (by (with_reducible repeat (first | refine blk_drewN ?_ _ | refine blk_drew ?_ | refine blk_alloc ?_ _)); exact BK304.out) k_ hn_)), Or.elim hk_ (fun hs_ => ((Kd.R_types (Kd.R_types (Kd.R_types (Kd.R_types (HO_310001.out) BK302.out (by decide)) BK303.out (by decide)) BK304.out (by decide)) BK309.out (by decide)).1 k_ hs_.symm).2) (fun hn_ => (Kd.freshB (g := gb309) (o := .cells #[.bool a1_0, .slice Ao115 x310001_1.length co115] 32 (0, 0)) (by (with_reducible repeat (first | refine blk_drewN ?_ _ | refine blk_drew ?_ | refine blk_alloc ?_ _)); exact BK309.out) k_ hn_))⟩)) (below_size (by repeat (first | (with_reducible first | exact HB.out | apply below_alloc | apply pw_below_drewN | apply below_drew1 | refine below_set ?_ GE302.out | refine below_set ?_ GE303.out | refine below_set ?_ GE304.out | refine below_set ?_ GE309.out) | exact HB.out)))); have n2_ := Aside0.mk (blk_below (g := gb302) (o := .cells #[.bool a1_0, .slice A1_1 l1_1.length c1_1] 32 (0, 0)) (by (with_reducible repeat (first | refine blk_drewN ?_ _ | refine blk_drew ?_ | refine blk_alloc ?_ _)); exact BK302.out) hb); have n3_ := Aside0.mk (blk_below (g := gb303) (o := .cells #[.bool a0_0, .slice A0_1 l0_1.length c0_1] 32 (0, 0)) (by (with_reducible repeat (first | refine blk_drewN ?_ _ | refine blk_drew ?_ | refine blk_alloc ?_ _)); exact BK303.out) hb); have n4_ := Aside0.mk (blk_below (g := gb304) (o := .cells #[.bool false, .slice none 0 0] 32 (0, 0)) (by (with_reducible repeat (first | refine blk_drewN ?_ _ | refine blk_drew ?_ | refine blk_alloc ?_ _)); exact BK304.out) hb); have n5_ := Aside0.mk (blk_below (g := gb309) (o := .cells #[.bool a1_0, .slice Ao115 x310001_1.length co115] 32 (0, 0)) (by (with_reducible repeat (first | refine blk_drewN ?_ _ | refine blk_drew ?_ | refine blk_alloc ?_ _)); exact BK309.out) hb); have n6_ := Aside0.mk (below_step (by repeat (first | (with_reducible first | exact HB.out | apply below_alloc | apply pw_below_drewN | apply below_drew1 | refine below_set ?_ GE302.out | refine below_set ?_ GE303.out | refine below_set ?_ GE304.out | refine below_set ?_ GE309.out) | exact HB.out)) hb); clear HO_310001; clear BK302; clear BK303; clear BK304; clear BK309; clear HB; have HO_310001 := n0_; have HO189 := n1_; have BK302 := n2_; have BK303 := n3_; have BK304 := n4_; have BK309 := n5_; have HB := n6_; clear n0_ n1_ n2_ n3_ n4_ n5_ n6_; (try clear hb); (try clear hb2); (try clear hk); (try clear hi); (try clear ho0); have hnb117 := NB304_303.out; have hnc117 := NB303_304.out; have hcz118_0 : w116.cell? ⟨gb304, 0, none⟩ = some (.bool false) := (blk_cell BK304.out 0).trans rfl; have hcz118_1 : w116.cell? ⟨gb304, 1, none⟩ = some (.slice none 0 0) := (blk_cell BK304.out 1).trans rfl; have hfz118_0 := blk_frozen BK304.out 0; have hfz118_1 := blk_frozen BK304.out 1; obtain ⟨Ao119, co119, eo119⟩ := Kd.V_slice HO189.out; subst eo119))
            refine bodyPost_ret (results_cell_row rfl _ _ gb304 32 #[.bool t186, .slice Ao119 t187.length co119] (0, 0) _ rfl (by (with_reducible repeat (first | refine blk_drewN ?_ _ | refine blk_drew ?_ | refine blk_alloc ?_ _)); refine blk_put (cs := #[.bool t186, .slice none 0 0]) ?_ 1 _ rfl; (with_reducible repeat (first | refine blk_drewN ?_ _ | refine blk_drew ?_ | refine blk_alloc ?_ _)); refine blk_put (cs := #[.bool false, .slice none 0 0]) ?_ 0 _ rfl; (with_reducible repeat (first | refine blk_drewN ?_ _ | refine blk_drew ?_ | refine blk_alloc ?_ _)); exact BK304.out) Try.underlying32 rfl (by kernel_rfl)) rfl ?_
            exact ⟨_, by first | rfl | (simp [errW_none, errW_some] <;> rfl) | (simp [*, errW_none, errW_some] <;> rfl), by (with_reducible repeat (first | apply Kd.V_alloc | apply Kd.V_drewN | apply Kd.V_drew)); exact Kd.V_mono (Kd.V_far (p := ⟨gb304, 1, none⟩) (Kd.V_far (p := ⟨gb304, 0, none⟩) (Kd.V_mono HO189.out (fun k_ hk => (⟨hk, hk.2.2.2.1⟩ : _ ∧ k_ ≠ gb304))) (fun _ hk => hk.2) (.bool t186)) (fun _ hk => hk.2) (.slice Ao119 t187.length co119)) (fun _ hk => hk.1.1), by repeat (first | (with_reducible first | exact HB.out | apply below_alloc | apply pw_below_drewN | apply below_drew1 | refine below_set ?_ GE302.out | refine below_set ?_ GE303.out | refine below_set ?_ GE304.out | refine below_set ?_ GE309.out) | exact HB.out)⟩
    · rw [if_neg c63] at H
      have c63b0 : decide (t185 < 0) = false := decide_eq_false c63
      clear c63
      have H' := Aside0.mk H
      clear H
      go_enter Try.func21, Try.ntmps21
      go_wp2_with (first | ((with_reducible refine gate_dst (N := 2) rfl ?_); (try (refine gate_guard (by rfl) ?_; dsimp only)); refine box_event ?hg (N := 2) ?hd (cs := #[.bool a0_0, .slice A0_1 l0_1.length c0_1]) (t := 32) ?hr ?_; (case hd => rfl); (case hg => rfl); (case hr => first | (go_simp; done) | (go_simp; rfl)); intro gb302 hg w120 hbox hb; have n0_ := Aside0.mk (below_step (by repeat (first | (with_reducible first | exact HB.out | apply below_alloc | apply pw_below_drewN | apply below_drew1) | exact HB.out)) hb); have n1_ := Aside0.mk (hbox); have n2_ := Aside0.mk ((by rw [hg]; exact (below_size (by repeat (first | (with_reducible first | exact HB.out | apply below_alloc | apply pw_below_drewN | apply below_drew1) | exact HB.out))) : w.heap.size ≤ gb302)); have n3_ := Aside0.mk ((by rw [hg]; exact (below_size (by repeat (first | (with_reducible first | exact HB.out | apply below_alloc | apply pw_below_drewN | apply below_drew1) | exact HB.out))) : w.heap.size ≤ gb302)); clear HB; have HB := n0_; have BK302 := n1_; have GW302 := n2_; have GE302 := n3_; clear n0_ n1_ n2_ n3_; clear hb hbox hg) | ((with_reducible refine gate_dst (N := 3) rfl ?_); (try (refine gate_guard (by rfl) ?_; dsimp only)); refine box_event ?hg (N := 3) ?hd (cs := #[.bool a1_0, .slice A1_1 l1_1.length c1_1]) (t := 32) ?hr ?_; (case hd => rfl); (case hg => rfl); (case hr => first | (go_simp; done) | (go_simp; rfl)); intro gb303 hg w121 hbox hb; have n0_ := Aside0.mk (blk_below (g := gb302) (o := .cells #[.bool a0_0, .slice A0_1 l0_1.length c0_1] 32 (0, 0)) (by (with_reducible repeat (first | refine blk_drewN ?_ _ | refine blk_drew ?_ | refine blk_alloc ?_ _)); exact BK302.out) hb); have n1_ := Aside0.mk (below_step (by repeat (first | (with_reducible first | exact HB.out | apply below_alloc | apply pw_below_drewN | apply below_drew1 | refine below_set ?_ GE302.out) | exact HB.out)) hb); have n2_ := Aside0.mk (hbox); have n3_ := Aside0.mk ((by rw [hg]; exact (below_size (by repeat (first | (with_reducible first | exact HB.out | apply below_alloc | apply pw_below_drewN | apply below_drew1 | refine below_set ?_ GE302.out) | exact HB.out))) : w.heap.size ≤ gb303)); have n4_ := Aside0.mk ((by rw [hg]; exact (below_size (by repeat (first | (with_reducible first | exact HB.out | apply below_alloc | apply pw_below_drewN | apply below_drew1 | refine below_set ?_ GE302.out) | exact HB.out))) : w.heap.size ≤ gb303)); have n5_ := Aside0.mk ((by rw [hg]; exact Nat.ne_of_lt (blk_lt (g := gb302) (o := .cells #[.bool a0_0, .slice A0_1 l0_1.length c0_1] 32 (0, 0)) (by (with_reducible repeat (first | refine blk_drewN ?_ _ | refine blk_drew ?_ | refine blk_alloc ?_ _)); exact BK302.out)) : gb302 ≠ gb303)); have n6_ := Aside0.mk ((by rw [hg]; exact Nat.ne_of_gt (blk_lt (g := gb302) (o := .cells #[.bool a0_0, .slice A0_1 l0_1.length c0_1] 32 (0, 0)) (by (with_reducible repeat (first | refine blk_drewN ?_ _ | refine blk_drew ?_ | refine blk_alloc ?_ _)); exact BK302.out)) : gb303 ≠ gb302)); clear BK302; clear HB; have BK302 := n0_; have HB := n1_; have BK303 := n2_; have GW303 := n3_; have GE303 := n4_; have NB302_303 := n5_; have NB303_302 := n6_; clear n0_ n1_ n2_ n3_ n4_ n5_ n6_; clear hb hbox hg) | ((with_reducible refine gate_dst (N := 4) rfl ?_); (try (refine gate_guard (by rfl) ?_; dsimp only)); refine box_event ?hg (N := 4) ?hd (cs := #[.bool false, .slice none 0 0]) (t := 32) ?hr ?_; (case hd => rfl); (case hg => rfl); (case hr => first | (go_simp; done) | (go_simp; rfl)); intro gb304 hg w122 hbox hb; have n0_ := Aside0.mk (blk_below (g := gb302) (o := .cells #[.bool a0_0, .slice A0_1 l0_1.length c0_1] 32 (0, 0)) (by (with_reducible repeat (first | refine blk_drewN ?_ _ | refine blk_drew ?_ | refine blk_alloc ?_ _)); exact BK302.out) hb); have n1_ := Aside0.mk (blk_below (g := gb303) (o := .cells #[.bool a1_0, .slice A1_1 l1_1.length c1_1] 32 (0, 0)) (by (with_reducible repeat (first | refine blk_drewN ?_ _ | refine blk_drew ?_ | refine blk_alloc ?_ _)); exact BK303.out) hb); have n2_ := Aside0.mk (below_step (by repeat (first | (with_reducible first | exact HB.out | apply below_alloc | apply pw_below_drewN | apply below_drew1 | refine below_set ?_ GE302.out | refine below_set ?_ GE303.out) | exact HB.out)) hb); have n3_ := Aside0.mk (hbox); have n4_ := Aside0.mk ((by rw [hg]; exact (below_size (by repeat (first | (with_reducible first | exact HB.out | apply below_alloc | apply pw_below_drewN | apply below_drew1 | refine below_set ?_ GE302.out | refine below_set ?_ GE303.out) | exact HB.out))) : w.heap.size ≤ gb304)); have n5_ := Aside0.mk ((by rw [hg]; exact (below_size (by repeat (first | (with_reducible first | exact HB.out | apply below_alloc | apply pw_below_drewN | apply below_drew1 | refine below_set ?_ GE302.out | refine below_set ?_ GE303.out) | exact HB.out))) : w.heap.size ≤ gb304)); have n6_ := Aside0.mk ((by rw [hg]; exact Nat.ne_of_lt (blk_lt (g := gb302) (o := .cells #[.bool a0_0, .slice A0_1 l0_1.length c0_1] 32 (0, 0)) (by (with_reducible repeat (first | refine blk_drewN ?_ _ | refine blk_drew ?_ | refine blk_alloc ?_ _)); exact BK302.out)) : gb302 ≠ gb304)); have n7_ := Aside0.mk ((by rw [hg]; exact Nat.ne_of_gt (blk_lt (g := gb302) (o := .cells #[.bool a0_0, .slice A0_1 l0_1.length c0_1] 32 (0, 0)) (by (with_reducible repeat (first | refine blk_drewN ?_ _ | refine blk_drew ?_ | refine blk_alloc ?_ _)); exact BK302.out)) : gb304 ≠ gb302)); have n8_ := Aside0.mk ((by rw [hg]; exact Nat.ne_of_lt (blk_lt (g := gb303) (o := .cells #[.bool a1_0, .slice A1_1 l1_1.length c1_1] 32 (0, 0)) (by (with_reducible repeat (first | refine blk_drewN ?_ _ | refine blk_drew ?_ | refine blk_alloc ?_ _)); exact BK303.out)) : gb303 ≠ gb304)); have n9_ := Aside0.mk ((by rw [hg]; exact Nat.ne_of_gt (blk_lt (g := gb303) (o := .cells #[.bool a1_0, .slice A1_1 l1_1.length c1_1] 32 (0, 0)) (by (with_reducible repeat (first | refine blk_drewN ?_ _ | refine blk_drew ?_ | refine blk_alloc ?_ _)); exact BK303.out)) : gb304 ≠ gb303)); clear BK302; clear BK303; clear HB; have BK302 := n0_; have BK303 := n1_; have HB := n2_; have BK304 := n3_; have GW304 := n4_; have GE304 := n5_; have NB302_304 := n6_; have NB304_302 := n7_; have NB303_304 := n8_; have NB304_303 := n9_; clear n0_ n1_ n2_ n3_ n4_ n5_ n6_ n7_ n8_ n9_; clear hb hbox hg; have hnb123 := NB302_303.out; have hnc123 := NB303_302.out; have hnb124 := NB302_304.out; have hnc124 := NB304_302.out; have hcz125_0 : w122.cell? ⟨gb302, 0, none⟩ = some (.bool a0_0) := (blk_cell BK302.out 0).trans rfl; have hcz125_1 : w122.cell? ⟨gb302, 1, none⟩ = some (.slice A0_1 l0_1.length c0_1) := (blk_cell BK302.out 1).trans rfl; have hfz125_0 := blk_frozen BK302.out 0; have hfz125_1 := blk_frozen BK302.out 1; have hnb126 := NB303_304.out; have hnc126 := NB304_303.out; have hcz127_0 : w122.cell? ⟨gb303, 0, none⟩ = some (.bool a1_0) := (blk_cell BK303.out 0).trans rfl; have hcz127_1 : w122.cell? ⟨gb303, 1, none⟩ = some (.slice A1_1 l1_1.length c1_1) := (blk_cell BK303.out 1).trans rfl; have hfz127_0 := blk_frozen BK303.out 0; have hfz127_1 := blk_frozen BK303.out 1) | (go_at_call 42; (with_reducible refine (clevisref01_size.calls k _ _ l0_1 _ _ l1_1 t185 _ ?side1 ?side2 ?side3 ?side4 A62.out).mono ?_); (case side1 => repeat (first | exact (Kd.C_below HR0_1.out HB.out) | (with_reducible refine Kd.C_alloc ?_ _) | (with_reducible refine Kd.C_drewN ?_ _) | (with_reducible refine Kd.C_drew ?_))); (case side2 => exact HC0_1.out); (case side3 => repeat (first | exact (Kd.C_below HR1_1.out HB.out) | (with_reducible refine Kd.C_alloc ?_ _) | (with_reducible refine Kd.C_drewN ?_ _) | (with_reducible refine Kd.C_drew ?_))); (case side4 => exact HC1_1.out); rintro e w' ⟨rfl, ⟨nd, rfl⟩⟩; (try first | exact ⟨rfl, _, World.drewN_drewN _ _ _⟩ | exact ⟨rfl, _, Eq.trans (World.drewN_drewN _ _ _) (congrArg (World.drewN _) (Nat.add_assoc _ _ _))⟩)) | ((with_reducible refine gate_dst (N := 9) rfl ?_); (try (refine gate_guard (by rfl) ?_; dsimp only)); refine box_event ?hg (N := 9) ?hd (cs := #[.bool false, .slice none 0 0]) (t := 32) ?hr ?_; (case hd => rfl); (case hg => rfl); (case hr => first | (go_simp; done) | (go_simp; rfl)); intro gb309 hg w128 hbox hb; have n0_ := Aside0.mk (blk_below (g := gb302) (o := .cells #[.bool a0_0, .slice A0_1 l0_1.length c0_1] 32 (0, 0)) (by (with_reducible repeat (first | refine blk_drewN ?_ _ | refine blk_drew ?_ | refine blk_alloc ?_ _)); exact BK302.out) hb); have n1_ := Aside0.mk (blk_below (g := gb303) (o := .cells #[.bool a1_0, .slice A1_1 l1_1.length c1_1] 32 (0, 0)) (by (with_reducible repeat (first | refine blk_drewN ?_ _ | refine blk_drew ?_ | refine blk_alloc ?_ _)); exact BK303.out) hb); have n2_ := Aside0.mk (blk_below (g := gb304) (o := .cells #[.bool false, .slice none 0 0] 32 (0, 0)) (by (with_reducible repeat (first | refine blk_drewN ?_ _ | refine blk_drew ?_ | refine blk_alloc ?_ _)); exact BK304.out) hb); have n3_ := Aside0.mk (below_step (by repeat (first | (with_reducible first | exact HB.out | apply below_alloc | apply pw_below_drewN | apply below_drew1 | refine below_set ?_ GE302.out | refine below_set ?_ GE303.out | refine below_set ?_ GE304.out) | exact HB.out)) hb); have n4_ := Aside0.mk (hbox); have n5_ := Aside0.mk ((by rw [hg]; exact (below_size (by repeat (first | (with_reducible first | exact HB.out | apply below_alloc | apply pw_below_drewN | apply below_drew1 | refine below_set ?_ GE302.out | refine below_set ?_ GE303.out | refine below_set ?_ GE304.out) | exact HB.out))) : w.heap.size ≤ gb309)); have n6_ := Aside0.mk ((by rw [hg]; exact (below_size (by repeat (first | (with_reducible first | exact HB.out | apply below_alloc | apply pw_below_drewN | apply below_drew1 | refine below_set ?_ GE302.out | refine below_set ?_ GE303.out | refine below_set ?_ GE304.out) | exact HB.out))) : w.heap.size ≤ gb309)); have n7_ := Aside0.mk ((by rw [hg]; exact Nat.ne_of_lt (blk_lt (g := gb302) (o := .cells #[.bool a0_0, .slice A0_1 l0_1.length c0_1] 32 (0, 0)) (by (with_reducible repeat (first | refine blk_drewN ?_ _ | refine blk_drew ?_ | refine blk_alloc ?_ _)); exact BK302.out)) : gb302 ≠ gb309)); have n8_ := Aside0.mk ((by rw [hg]; exact Nat.ne_of_gt (blk_lt (g := gb302) (o := .cells #[.bool a0_0, .slice A0_1 l0_1.length c0_1] 32 (0, 0)) (by (with_reducible repeat (first | refine blk_drewN ?_ _ | refine blk_drew ?_ | refine blk_alloc ?_ _)); exact BK302.out)) : gb309 ≠ gb302)); have n9_ := Aside0.mk ((by rw [hg]; exact Nat.ne_of_lt (blk_lt (g := gb303) (o := .cells #[.bool a1_0, .slice A1_1 l1_1.length c1_1] 32 (0, 0)) (by (with_reducible repeat (first | refine blk_drewN ?_ _ | refine blk_drew ?_ | refine blk_alloc ?_ _)); exact BK303.out)) : gb303 ≠ gb309)); have n10_ := Aside0.mk ((by rw [hg]; exact Nat.ne_of_gt (blk_lt (g := gb303) (o := .cells #[.bool a1_0, .slice A1_1 l1_1.length c1_1] 32 (0, 0)) (by (with_reducible repeat (first | refine blk_drewN ?_ _ | refine blk_drew ?_ | refine blk_alloc ?_ _)); exact BK303.out)) : gb309 ≠ gb303)); have n11_ := Aside0.mk ((by rw [hg]; exact Nat.ne_of_lt (blk_lt (g := gb304) (o := .cells #[.bool false, .slice none 0 0] 32 (0, 0)) (by (with_reducible repeat (first | refine blk_drewN ?_ _ | refine blk_drew ?_ | refine blk_alloc ?_ _)); exact BK304.out)) : gb304 ≠ gb309)); have n12_ := Aside0.mk ((by rw [hg]; exact Nat.ne_of_gt (blk_lt (g := gb304) (o := .cells #[.bool false, .slice none 0 0] 32 (0, 0)) (by (with_reducible repeat (first | refine blk_drewN ?_ _ | refine blk_drew ?_ | refine blk_alloc ?_ _)); exact BK304.out)) : gb309 ≠ gb304)); clear BK302; clear BK303; clear BK304; clear HB; have BK302 := n0_; have BK303 := n1_; have BK304 := n2_; have HB := n3_; have BK309 := n4_; have GW309 := n5_; have GE309 := n6_; have NB302_309 := n7_; have NB309_302 := n8_; have NB303_309 := n9_; have NB309_303 := n10_; have NB304_309 := n11_; have NB309_304 := n12_; clear n0_ n1_ n2_ n3_ n4_ n5_ n6_ n7_ n8_ n9_ n10_ n11_ n12_; clear hb hbox hg; have hnb129 := NB309_302.out; have hnc129 := NB302_309.out; have hnb130 := NB309_303.out; have hnc130 := NB303_309.out; have hnb131 := NB309_304.out; have hnc131 := NB304_309.out; have hcz132_0 : w128.cell? ⟨gb309, 0, none⟩ = some (.bool false) := (blk_cell BK309.out 0).trans rfl; have hcz132_1 : w128.cell? ⟨gb309, 1, none⟩ = some (.slice none 0 0) := (blk_cell BK309.out 1).trans rfl; have hfz132_0 := blk_frozen BK309.out 0; have hfz132_1 := blk_frozen BK309.out 1))
      (try simp only [Act.put, List.setIfInBounds_toArray, List.set_cons_zero, List.set_cons_succ])
      go_loopg [10, 11] k (fun kq v10 v11 w' => ∃ (x10_1 : Int) (x11_1 : Int) (x310001_1 : List Int) (u310001 : Value), v10 = .int .i64 x10_1 ∧ v11 = .int .i64 x11_1 ∧ Aside0 (clevisref01_Add.l102 kq x10_1 x11_1 a0_0 l0_1 a1_0 l1_1 a0_0 x310001_1 = some (r1, r2)) ∧ Aside0 (kq ≤ k) ∧ Aside0 (Kd.R (Kd.int .i64) 3 w' w.heap.size (fun k_ => (w.heap.size ≤ k_)) u310001 x310001_1) ∧ Aside0 (w'.heap[gb302]? = some (.cells #[.bool a0_0, (.slice A0_1 l0_1.length c0_1)] 32 (0, 0))) ∧ Aside0 (w'.heap[gb303]? = some (.cells #[.bool a1_0, (.slice A1_1 l1_1.length c1_1)] 32 (0, 0))) ∧ Aside0 (w'.heap[gb304]? = some (.cells #[.bool false, (.slice none 0 0)] 32 (0, 0))) ∧ Aside0 (w'.heap[gb309]? = some (.cells #[.bool a0_0, u310001] 32 (0, 0))) ∧ Aside0 (Below w.heap.size w w'))
      case atStart => exact ⟨(0), (0), (([] : List Int)), (.slice none 0 0), (by first | rfl | (simp; done) | (simp [*]; done)), (by first | rfl | (simp; done) | (simp [*]; done)), H', ⟨Nat.le_refl _⟩, ⟨by first | exact Kd.R_nil _ _ _ _ _ | exact Kd.N_nil _ _ _ _ _ | exact Kd.V_nil _ _ _ _ _ | exact Kd.Q_nil _ _ _ _ _ | exact Kd.S_nil _ _ _ _ _⟩, ⟨by (with_reducible repeat (first | refine blk_drewN ?_ _ | refine blk_drew ?_ | refine blk_alloc ?_ _)); refine blk_far ?_ NB302_309.out _; (with_reducible repeat (first | refine blk_drewN ?_ _ | refine blk_drew ?_ | refine blk_alloc ?_ _)); refine blk_far ?_ NB302_309.out _; (with_reducible repeat (first | refine blk_drewN ?_ _ | refine blk_drew ?_ | refine blk_alloc ?_ _)); exact BK302.out⟩, ⟨by (with_reducible repeat (first | refine blk_drewN ?_ _ | refine blk_drew ?_ | refine blk_alloc ?_ _)); refine blk_far ?_ NB303_309.out _; (with_reducible repeat (first | refine blk_drewN ?_ _ | refine blk_drew ?_ | refine blk_alloc ?_ _)); refine blk_far ?_ NB303_309.out _; (with_reducible repeat (first | refine blk_drewN ?_ _ | refine blk_drew ?_ | refine blk_alloc ?_ _)); exact BK303.out⟩, ⟨by (with_reducible repeat (first | refine blk_drewN ?_ _ | refine blk_drew ?_ | refine blk_alloc ?_ _)); refine blk_far ?_ NB304_309.out _; (with_reducible repeat (first | refine blk_drewN ?_ _ | refine blk_drew ?_ | refine blk_alloc ?_ _)); refine blk_far ?_ NB304_309.out _; (with_reducible repeat (first | refine blk_drewN ?_ _ | refine blk_drew ?_ | refine blk_alloc ?_ _)); exact BK304.out⟩, ⟨by (with_reducible repeat (first | refine blk_drewN ?_ _ | refine blk_drew ?_ | refine blk_alloc ?_ _)); refine blk_put (cs := #[.bool a0_0, .slice none 0 0]) ?_ 1 _ rfl; (with_reducible repeat (first | refine blk_drewN ?_ _ | refine blk_drew ?_ | refine blk_alloc ?_ _)); refine blk_put (cs := #[.bool false, .slice none 0 0]) ?_ 0 _ rfl; (with_reducible repeat (first | refine blk_drewN ?_ _ | refine blk_drew ?_ | refine blk_alloc ?_ _)); exact BK309.out⟩, ⟨by repeat (first | (with_reducible first | exact HB.out | apply below_alloc | apply pw_below_drewN | apply below_drew1 | refine below_set ?_ GE302.out | refine below_set ?_ GE303.out | refine below_set ?_ GE304.out | refine below_set ?_ GE309.out) | exact HB.out)⟩⟩
      case round =>
        clear H'
        try clear c1
        try clear c2
        try clear p2
        try clear c3
        try clear c3b0
        try clear c3b1
        try clear c3b2
        try clear c4
        try clear c5
        try clear c6
        try clear p6
        try clear c7
        try clear c8
        try clear c9
        try clear c10
        try clear c11
        try clear c12
        try clear c13
        try clear c14
        try clear c15
        try clear c18
        try clear c18b0
        try clear c19
        try clear c20
        try clear c21
        try clear c23
        try clear c24
        try clear c25
        try clear c27
        try clear c28
        try clear c30
        try clear c33
        try clear c34
        try clear c35
        try clear c36
        try clear c38
        try clear c39
        try clear c41
        try clear c46
        try clear c48
        try clear c49
        try clear c50
        try clear c58
        try clear c59
        try clear c63
        try clear c63b0
        try clear p64
        try clear c67
        try clear c68
        try clear c70
        try clear c73
        try clear c74
        try clear c75
        try clear c77
        try clear c77b0
        try clear c80
        try clear c80b0
        try clear c80b1
        try clear c81
        try clear c82
        try clear c83
        try clear c84
        try clear c86
        try clear c87
        try clear c89
        try clear c94
        try clear c95
        try clear c96
        try clear c97
        try clear c99
        try clear c100
        try clear c102
        try clear c108
        try clear c109
        try clear c110
        try clear c112
        try clear c113
        try clear c117
        try clear c123
        try clear c124
        try clear c126
        try clear c129
        try clear c130
        try clear c131
        try clear hcz101_0
        try clear hcz101_1
        try clear hcz103_0
        try clear hcz103_1
        try clear hcz106_0
        try clear hcz106_1
        try clear hcz111_0
        try clear hcz111_1
        try clear hcz114_0
        try clear hcz114_1
        try clear hcz118_0
        try clear hcz118_1
        try clear hcz11_0
        try clear hcz11_1
        try clear hcz125_0
        try clear hcz125_1
        try clear hcz127_0
        try clear hcz127_1
        try clear hcz132_0
        try clear hcz132_1
        try clear hcz16_0
        try clear hcz16_1
        try clear hcz22_0
        try clear hcz22_1
        try clear hcz26_0
        try clear hcz26_1
        try clear hcz29_0
        try clear hcz29_1
        try clear hcz37_0
        try clear hcz37_1
        try clear hcz40_0
        try clear hcz40_1
        try clear hcz42_0
        try clear hcz42_1
        try clear hcz45_0
        try clear hcz45_1
        try clear hcz51_0
        try clear hcz51_1
        try clear hcz54_0
        try clear hcz54_1
        try clear hcz56_0
        try clear hcz56_1
        try clear hcz60_0
        try clear hcz60_1
        try clear hcz69_0
        try clear hcz69_1
        try clear hcz71_0
        try clear hcz71_1
        try clear hcz76_0
        try clear hcz76_1
        try clear hcz85_0
        try clear hcz85_1
        try clear hcz88_0
        try clear hcz88_1
        try clear hcz90_0
        try clear hcz90_1
        try clear hcz93_0
        try clear hcz93_1
        try clear hcz98_0
        try clear hcz98_1
        try clear hcz9_0
        try clear hcz9_1
        try clear hfz101_0
        try clear hfz101_1
        try clear hfz103_0
        try clear hfz103_1
        try clear hfz106_0
        try clear hfz106_1
        try clear hfz111_0
        try clear hfz111_1
        try clear hfz114_0
        try clear hfz114_1
        try clear hfz118_0
        try clear hfz118_1
        try clear hfz11_0
        try clear hfz11_1
        try clear hfz125_0
        try clear hfz125_1
        try clear hfz127_0
        try clear hfz127_1
        try clear hfz132_0
        try clear hfz132_1
        try clear hfz16_0
        try clear hfz16_1
        try clear hfz22_0
        try clear hfz22_1
        try clear hfz26_0
        try clear hfz26_1
        try clear hfz29_0
        try clear hfz29_1
        try clear hfz37_0
        try clear hfz37_1
        try clear hfz40_0
        try clear hfz40_1
        try clear hfz42_0
        try clear hfz42_1
        try clear hfz45_0
        try clear hfz45_1
        try clear hfz51_0
        try clear hfz51_1
        try clear hfz54_0
        try clear hfz54_1
        try clear hfz56_0
        try clear hfz56_1
        try clear hfz60_0
        try clear hfz60_1
        try clear hfz69_0
        try clear hfz69_1
        try clear hfz71_0
        try clear hfz71_1
        try clear hfz76_0
        try clear hfz76_1
        try clear hfz85_0
        try clear hfz85_1
        try clear hfz88_0
        try clear hfz88_1
        try clear hfz90_0
        try clear hfz90_1
        try clear hfz93_0
        try clear hfz93_1
        try clear hfz98_0
        try clear hfz98_1
        try clear hfz9_0
        try clear hfz9_1
        try clear p2
        try clear p6
        try clear p64
        obtain ⟨x10_1, x11_1, x310001_1, u310001, rfl, rfl, HA, HK1, HO_310001, BK302, BK303, BK304, BK309, HB⟩ := hrel
        cases gk with
        | zero => exact absurd HA.out (by simp [clevisref01_Add.l102])
        | succ k1 =>
          have H := HA.out
          clear HA
          simp only [clevisref01_Add.l102] at H
          by_cases c133 : x11_1 < (l0_1.length : Int)
          · rw [if_pos c133] at H
            have c133b0 : decide (x11_1 < (l0_1.length : Int)) = true := decide_eq_true c133
            clear c133
            replace H := Option.bind_eq_some_iff.mp H
            obtain ⟨t202, A1340, H⟩ := H
            replace H : ((clevisref01_at.f l1_1 x11_1).bind fun t203 => (if (wrap64 ((wrap64 (t202 - t203)) - x10_1)) < 0 then (if x310001_1.length < 17592186044416 then (clevisref01_Add.l102 k1 1 (wrap64 (x11_1 + 1)) a0_0 l0_1 a1_0 l1_1 a0_0 (x310001_1 ++ [wrap64 ((wrap64 ((wrap64 (t202 - t203)) - x10_1)) + 65536)])) else (none)) else (if x310001_1.length < 17592186044416 then (clevisref01_Add.l102 k1 0 (wrap64 (x11_1 + 1)) a0_0 l0_1 a1_0 l1_1 a0_0 (x310001_1 ++ [wrap64 ((wrap64 (t202 - t203)) - x10_1)])) else (none)))) = some (r1, r2) := H
            have A134 := Aside0.mk A1340
            clear A1340
            replace H := Option.bind_eq_some_iff.mp H
            obtain ⟨t203, A1350, H⟩ := H
            replace H : (if (wrap64 ((wrap64 (t202 - t203)) - x10_1)) < 0 then (if x310001_1.length < 17592186044416 then (clevisref01_Add.l102 k1 1 (wrap64 (x11_1 + 1)) a0_0 l0_1 a1_0 l1_1 a0_0 (x310001_1 ++ [wrap64 ((wrap64 ((wrap64 (t202 - t203)) - x10_1)) + 65536)])) else (none)) else (if x310001_1.length < 17592186044416 then (clevisref01_Add.l102 k1 0 (wrap64 (x11_1 + 1)) a0_0 l0_1 a1_0 l1_1 a0_0 (x310001_1 ++ [wrap64 ((wrap64 (t202 - t203)) - x10_1)])) else (none))) = some (r1, r2) := H
            have A135 := Aside0.mk A1350
            clear A1350
            by_cases c136 : (wrap64 ((wrap64 (t202 - t203)) - x10_1)) < 0
            · rw [if_pos c136] at H
              have c136b0 : decide ((wrap64 ((wrap64 (t202 - t203)) - x10_1)) < 0) = true := decide_eq_true c136
              (try (have c136b1 : decide ((IntKind.i64.wrap ((IntKind.i64.wrap (t202 - t203)) - x10_1)) < 0) = true := by first | exact (decide_eq_true c136) | (simp only [i64_w]; exact (decide_eq_true c136))))
              clear c136
              by_cases c137 : x310001_1.length < 17592186044416
              · rw [if_pos c137] at H
                have LMc137 := Aside0.mk c137
                clear c137
                obtain ⟨y204, hy204⟩ : ∃ y_ : List Int, y_ = (x310001_1 ++ [wrap64 ((wrap64 ((wrap64 (t202 - t203)) - x10_1)) + 65536)]) := ⟨_, rfl⟩
                replace H : (clevisref01_Add.l102 k1 1 (wrap64 (x11_1 + 1)) a0_0 l0_1 a1_0 l1_1 a0_0 y204) = some (r1, r2) := by first | (rw [hy204]; with_reducible exact H) | (have H2_ := (Option.bind_some _ _).symm.trans H; rw [hy204]; with_reducible exact H2_) | (have H2_ := (Option.bind_some _ _).symm.trans H; with_reducible exact H2_) | with_reducible exact H | (rw [hy204]; exact H) | exact H
                have Ny204 := Aside0.mk hy204
                clear hy204
                have H' := Aside0.mk H
                clear H
                have hnb138 := NB302_303.out
                have hnc138 := NB303_302.out
                have hnb139 := NB302_304.out
                have hnc139 := NB304_302.out
                have hnb140 := NB302_309.out
                have hnc140 := NB309_302.out
                have hcz141_0 : wr.cell? ⟨gb302, 0, none⟩ = some (.bool a0_0) := (blk_cell BK302.out 0).trans rfl
                have hcz141_1 : wr.cell? ⟨gb302, 1, none⟩ = some (.slice A0_1 l0_1.length c0_1) := (blk_cell BK302.out 1).trans rfl
                have hfz141_0 := blk_frozen BK302.out 0
                have hfz141_1 := blk_frozen BK302.out 1
                go_wp2_with (first | (go_at_call 54; (with_reducible refine (clevisref01_at.calls _ _ l0_1 x11_1 t202 _ ?side1 ?side2 A134.out).mono ?_); (case side1 => repeat (first | exact (Kd.C_below HR0_1.out HB.out) | (with_reducible refine Kd.C_alloc ?_ _) | (with_reducible refine Kd.C_drewN ?_ _) | (with_reducible refine Kd.C_drew ?_))); (case side2 => exact HC0_1.out); rintro e w' ⟨rfl, ⟨nd, rfl⟩⟩; (try first | exact ⟨rfl, _, World.drewN_drewN _ _ _⟩ | exact ⟨rfl, _, Eq.trans (World.drewN_drewN _ _ _) (congrArg (World.drewN _) (Nat.add_assoc _ _ _))⟩); have hnb142 := NB303_304.out; have hnc142 := NB304_303.out; have hnb143 := NB303_309.out; have hnc143 := NB309_303.out; have hcz144_0 : wr.cell? ⟨gb303, 0, none⟩ = some (.bool a1_0) := (blk_cell BK303.out 0).trans rfl; have hcz144_1 : wr.cell? ⟨gb303, 1, none⟩ = some (.slice A1_1 l1_1.length c1_1) := (blk_cell BK303.out 1).trans rfl; have hfz144_0 := blk_frozen BK303.out 0; have hfz144_1 := blk_frozen BK303.out 1) | (go_at_call 54; (with_reducible refine (clevisref01_at.calls _ _ l1_1 x11_1 t203 _ ?side1 ?side2 A135.out).mono ?_); (case side1 => repeat (first | exact (Kd.C_below HR1_1.out (by repeat (first | (with_reducible first | exact HB.out | apply below_alloc | apply pw_below_drewN | apply below_drew1 | refine below_set ?_ GE302.out | refine below_set ?_ GE303.out | refine below_set ?_ GE304.out | refine below_set ?_ GE309.out) | exact HB.out))) | (with_reducible refine Kd.C_alloc ?_ _) | (with_reducible refine Kd.C_drewN ?_ _) | (with_reducible refine Kd.C_drew ?_))); (case side2 => exact HC1_1.out); rintro e w' ⟨rfl, ⟨nd, rfl⟩⟩; (try first | exact ⟨rfl, _, World.drewN_drewN _ _ _⟩ | exact ⟨rfl, _, Eq.trans (World.drewN_drewN _ _ _) (congrArg (World.drewN _) (Nat.add_assoc _ _ _))⟩); have hnb145 := NB309_304.out; have hnc145 := NB304_309.out; have hcz146_0 : wr.cell? ⟨gb309, 0, none⟩ = some (.bool a0_0) := (blk_cell BK309.out 0).trans rfl; have hcz146_1 : wr.cell? ⟨gb309, 1, none⟩ = some (u310001) := (blk_cell BK309.out 1).trans rfl; have hfz146_0 := blk_frozen BK309.out 0; have hfz146_1 := blk_frozen BK309.out 1) | ((with_reducible refine gate_builtin (b := .append) (xs := #[.tmp 97, .tmp 99]) rfl ?_); (try (refine gate_guard (by rfl) ?_; dsimp only)); at_builtin; refine Kd.R_append (Kd.int .i64) (w0 := w) w.heap.size rfl (.tmp 97) (.tmp 99) 30 3 (.int .i64 0) 8 rfl Try.underlying30 info3 rfl (by decide) (by omega) u310001 x310001_1 (wrap64 ((wrap64 ((wrap64 (t202 - t203)) - x10_1)) + 65536)) [.int .i64 (wrap64 ((wrap64 ((wrap64 (t202 - t203)) - x10_1)) + 65536))] (fun k_ => (w.heap.size ≤ k_)) (fun _ => False) rfl rfl ?aP (fun _ hk => hk.elim) ?aF ?aO ?aB ?aS ?aL ?_; (case aP => exact rfl); (case aB => exact (by repeat (first | (with_reducible first | exact HB.out | apply below_alloc | apply pw_below_drewN | apply below_drew1 | refine below_set ?_ GE302.out | refine below_set ?_ GE303.out | refine below_set ?_ GE304.out | refine below_set ?_ GE309.out) | exact HB.out))); (case aF => exact (fun k_ hk => (Nat.le_trans (below_size (by repeat (first | (with_reducible first | exact HB.out | apply below_alloc | apply pw_below_drewN | apply below_drew1 | refine below_set ?_ GE302.out | refine below_set ?_ GE303.out | refine below_set ?_ GE304.out | refine below_set ?_ GE309.out) | exact HB.out))) hk))); (case aO => exact (by (with_reducible repeat (first | apply Kd.R_alloc | apply Kd.R_drewN | apply Kd.R_drew)); exact HO_310001.out)); (case aS => exact (below_size (by repeat (first | (with_reducible first | exact HB.out | apply below_alloc | apply pw_below_drewN | apply below_drew1 | refine below_set ?_ GE302.out | refine below_set ?_ GE303.out | refine below_set ?_ GE304.out | refine below_set ?_ GE309.out) | exact HB.out)))); (case aL => have := LMc137.out; omega); intro v205 w147 ho hb hg hat; rw [← Ny204.out] at ho; have n0_ := Aside0.mk (blk_grown (g := gb302) (o := .cells #[.bool a0_0, .slice A0_1 l0_1.length c0_1] 32 (0, 0)) (by (with_reducible repeat (first | refine blk_drewN ?_ _ | refine blk_drew ?_ | refine blk_alloc ?_ _)); exact BK302.out) hg (Kd.R_ne HO_310001.out BK302.out (by decide))); have n1_ := Aside0.mk (blk_grown (g := gb303) (o := .cells #[.bool a1_0, .slice A1_1 l1_1.length c1_1] 32 (0, 0)) (by (with_reducible repeat (first | refine blk_drewN ?_ _ | refine blk_drew ?_ | refine blk_alloc ?_ _)); exact BK303.out) hg (Kd.R_ne HO_310001.out BK303.out (by decide))); have n2_ := Aside0.mk (blk_grown (g := gb304) (o := .cells #[.bool false, .slice none 0 0] 32 (0, 0)) (by (with_reducible repeat (first | refine blk_drewN ?_ _ | refine blk_drew ?_ | refine blk_alloc ?_ _)); exact BK304.out) hg (Kd.R_ne HO_310001.out BK304.out (by decide))); have n3_ := Aside0.mk (blk_grown (g := gb309) (o := .cells #[.bool a0_0, u310001] 32 (0, 0)) (by (with_reducible repeat (first | refine blk_drewN ?_ _ | refine blk_drew ?_ | refine blk_alloc ?_ _)); exact BK309.out) hg (Kd.R_ne HO_310001.out BK309.out (by decide))); have n4_ := Aside0.mk (hb); have n5_ := Aside0.mk (ho); clear BK302; clear BK303; clear BK304; clear BK309; clear HB; clear HO_310001; have BK302 := n0_; have BK303 := n1_; have BK304 := n2_; have BK309 := n3_; have HB := n4_; have HO206 := n5_; clear n0_ n1_ n2_ n3_ n4_ n5_; clear ho hb hg hat; obtain ⟨Ao148, co148, eo148⟩ := Kd.R_slice HO206.out; subst eo148; have hcz149_0 : w147.cell? ⟨gb309, 0, none⟩ = some (.bool a0_0) := (blk_cell BK309.out 0).trans rfl; have hcz149_1 : w147.cell? ⟨gb309, 1, none⟩ = some (u310001) := (blk_cell BK309.out 1).trans rfl; have hfz149_0 := blk_frozen BK309.out 0; have hfz149_1 := blk_frozen BK309.out 1))
                repeat (go_quiet (first | (go_at_call 54; (with_reducible refine (clevisref01_at.calls _ _ l0_1 x11_1 t202 _ ?side1 ?side2 A134.out).mono ?_); (case side1 => repeat (first | exact (Kd.C_below HR0_1.out HB.out) | (with_reducible refine Kd.C_alloc ?_ _) | (with_reducible refine Kd.C_drewN ?_ _) | (with_reducible refine Kd.C_drew ?_))); (case side2 => exact HC0_1.out); rintro e w' ⟨rfl, ⟨nd, rfl⟩⟩; (try first | exact ⟨rfl, _, World.drewN_drewN _ _ _⟩ | exact ⟨rfl, _, Eq.trans (World.drewN_drewN _ _ _) (congrArg (World.drewN _) (Nat.add_assoc _ _ _))⟩); have hnb142 := NB303_304.out; have hnc142 := NB304_303.out; have hnb143 := NB303_309.out; have hnc143 := NB309_303.out; have hcz144_0 : wr.cell? ⟨gb303, 0, none⟩ = some (.bool a1_0) := (blk_cell BK303.out 0).trans rfl; have hcz144_1 : wr.cell? ⟨gb303, 1, none⟩ = some (.slice A1_1 l1_1.length c1_1) := (blk_cell BK303.out 1).trans rfl; have hfz144_0 := blk_frozen BK303.out 0; have hfz144_1 := blk_frozen BK303.out 1) | (go_at_call 54; (with_reducible refine (clevisref01_at.calls _ _ l1_1 x11_1 t203 _ ?side1 ?side2 A135.out).mono ?_); (case side1 => repeat (first | exact (Kd.C_below HR1_1.out (by repeat (first | (with_reducible first | exact HB.out | apply below_alloc | apply pw_below_drewN | apply below_drew1 | refine below_set ?_ GE302.out | refine below_set ?_ GE303.out | refine below_set ?_ GE304.out | refine below_set ?_ GE309.out) | exact HB.out))) | (with_reducible refine Kd.C_alloc ?_ _) | (with_reducible refine Kd.C_drewN ?_ _) | (with_reducible refine Kd.C_drew ?_))); (case side2 => exact HC1_1.out); rintro e w' ⟨rfl, ⟨nd, rfl⟩⟩; (try first | exact ⟨rfl, _, World.drewN_drewN _ _ _⟩ | exact ⟨rfl, _, Eq.trans (World.drewN_drewN _ _ _) (congrArg (World.drewN _) (Nat.add_assoc _ _ _))⟩); have hnb145 := NB309_304.out; have hnc145 := NB304_309.out; have hcz146_0 : wr.cell? ⟨gb309, 0, none⟩ = some (.bool a0_0) := (blk_cell BK309.out 0).trans rfl; have hcz146_1 : wr.cell? ⟨gb309, 1, none⟩ = some (u310001) := (blk_cell BK309.out 1).trans rfl; have hfz146_0 := blk_frozen BK309.out 0; have hfz146_1 := blk_frozen BK309.out 1) | ((with_reducible refine gate_builtin (b := .append) (xs := #[.tmp 97, .tmp 99]) rfl ?_); (try (refine gate_guard (by rfl) ?_; dsimp only)); at_builtin; refine Kd.R_append (Kd.int .i64) (w0 := w) w.heap.size rfl (.tmp 97) (.tmp 99) 30 3 (.int .i64 0) 8 rfl Try.underlying30 info3 rfl (by decide) (by omega) u310001 x310001_1 (wrap64 ((wrap64 ((wrap64 (t202 - t203)) - x10_1)) + 65536)) [.int .i64 (wrap64 ((wrap64 ((wrap64 (t202 - t203)) - x10_1)) + 65536))] (fun k_ => (w.heap.size ≤ k_)) (fun _ => False) rfl rfl ?aP (fun _ hk => hk.elim) ?aF ?aO ?aB ?aS ?aL ?_; (case aP => exact rfl); (case aB => exact (by repeat (first | (with_reducible first | exact HB.out | apply below_alloc | apply pw_below_drewN | apply below_drew1 | refine below_set ?_ GE302.out | refine below_set ?_ GE303.out | refine below_set ?_ GE304.out | refine below_set ?_ GE309.out) | exact HB.out))); (case aF => exact (fun k_ hk => (Nat.le_trans (below_size (by repeat (first | (with_reducible first | exact HB.out | apply below_alloc | apply pw_below_drewN | apply below_drew1 | refine below_set ?_ GE302.out | refine below_set ?_ GE303.out | refine below_set ?_ GE304.out | refine below_set ?_ GE309.out) | exact HB.out))) hk))); (case aO => exact (by (with_reducible repeat (first | apply Kd.R_alloc | apply Kd.R_drewN | apply Kd.R_drew)); exact HO_310001.out)); (case aS => exact (below_size (by repeat (first | (with_reducible first | exact HB.out | apply below_alloc | apply pw_below_drewN | apply below_drew1 | refine below_set ?_ GE302.out | refine below_set ?_ GE303.out | refine below_set ?_ GE304.out | refine below_set ?_ GE309.out) | exact HB.out)))); (case aL => have := LMc137.out; omega); intro v205 w147 ho hb hg hat; rw [← Ny204.out] at ho; have n0_ := Aside0.mk (blk_grown (g := gb302) (o := .cells #[.bool a0_0, .slice A0_1 l0_1.length c0_1] 32 (0, 0)) (by (with_reducible repeat (first | refine blk_drewN ?_ _ | refine blk_drew ?_ | refine blk_alloc ?_ _)); exact BK302.out) hg (Kd.R_ne HO_310001.out BK302.out (by decide))); have n1_ := Aside0.mk (blk_grown (g := gb303) (o := .cells #[.bool a1_0, .slice A1_1 l1_1.length c1_1] 32 (0, 0)) (by (with_reducible repeat (first | refine blk_drewN ?_ _ | refine blk_drew ?_ | refine blk_alloc ?_ _)); exact BK303.out) hg (Kd.R_ne HO_310001.out BK303.out (by decide))); have n2_ := Aside0.mk (blk_grown (g := gb304) (o := .cells #[.bool false, .slice none 0 0] 32 (0, 0)) (by (with_reducible repeat (first | refine blk_drewN ?_ _ | refine blk_drew ?_ | refine blk_alloc ?_ _)); exact BK304.out) hg (Kd.R_ne HO_310001.out BK304.out (by decide))); have n3_ := Aside0.mk (blk_grown (g := gb309) (o := .cells #[.bool a0_0, u310001] 32 (0, 0)) (by (with_reducible repeat (first | refine blk_drewN ?_ _ | refine blk_drew ?_ | refine blk_alloc ?_ _)); exact BK309.out) hg (Kd.R_ne HO_310001.out BK309.out (by decide))); have n4_ := Aside0.mk (hb); have n5_ := Aside0.mk (ho); clear BK302; clear BK303; clear BK304; clear BK309; clear HB; clear HO_310001; have BK302 := n0_; have BK303 := n1_; have BK304 := n2_; have BK309 := n3_; have HB := n4_; have HO206 := n5_; clear n0_ n1_ n2_ n3_ n4_ n5_; clear ho hb hg hat; obtain ⟨Ao148, co148, eo148⟩ := Kd.R_slice HO206.out; subst eo148; have hcz149_0 : w147.cell? ⟨gb309, 0, none⟩ = some (.bool a0_0) := (blk_cell BK309.out 0).trans rfl; have hcz149_1 : w147.cell? ⟨gb309, 1, none⟩ = some (u310001) := (blk_cell BK309.out 1).trans rfl; have hfz149_0 := blk_frozen BK309.out 0; have hfz149_1 := blk_frozen BK309.out 1)); try go_wp2_with (first | (go_at_call 54; (with_reducible refine (clevisref01_at.calls _ _ l0_1 x11_1 t202 _ ?side1 ?side2 A134.out).mono ?_); (case side1 => repeat (first | exact (Kd.C_below HR0_1.out HB.out) | (with_reducible refine Kd.C_alloc ?_ _) | (with_reducible refine Kd.C_drewN ?_ _) | (with_reducible refine Kd.C_drew ?_))); (case side2 => exact HC0_1.out); rintro e w' ⟨rfl, ⟨nd, rfl⟩⟩; (try first | exact ⟨rfl, _, World.drewN_drewN _ _ _⟩ | exact ⟨rfl, _, Eq.trans (World.drewN_drewN _ _ _) (congrArg (World.drewN _) (Nat.add_assoc _ _ _))⟩); have hnb142 := NB303_304.out; have hnc142 := NB304_303.out; have hnb143 := NB303_309.out; have hnc143 := NB309_303.out; have hcz144_0 : wr.cell? ⟨gb303, 0, none⟩ = some (.bool a1_0) := (blk_cell BK303.out 0).trans rfl; have hcz144_1 : wr.cell? ⟨gb303, 1, none⟩ = some (.slice A1_1 l1_1.length c1_1) := (blk_cell BK303.out 1).trans rfl; have hfz144_0 := blk_frozen BK303.out 0; have hfz144_1 := blk_frozen BK303.out 1) | (go_at_call 54; (with_reducible refine (clevisref01_at.calls _ _ l1_1 x11_1 t203 _ ?side1 ?side2 A135.out).mono ?_); (case side1 => repeat (first | exact (Kd.C_below HR1_1.out (by repeat (first | (with_reducible first | exact HB.out | apply below_alloc | apply pw_below_drewN | apply below_drew1 | refine below_set ?_ GE302.out | refine below_set ?_ GE303.out | refine below_set ?_ GE304.out | refine below_set ?_ GE309.out) | exact HB.out))) | (with_reducible refine Kd.C_alloc ?_ _) | (with_reducible refine Kd.C_drewN ?_ _) | (with_reducible refine Kd.C_drew ?_))); (case side2 => exact HC1_1.out); rintro e w' ⟨rfl, ⟨nd, rfl⟩⟩; (try first | exact ⟨rfl, _, World.drewN_drewN _ _ _⟩ | exact ⟨rfl, _, Eq.trans (World.drewN_drewN _ _ _) (congrArg (World.drewN _) (Nat.add_assoc _ _ _))⟩); have hnb145 := NB309_304.out; have hnc145 := NB304_309.out; have hcz146_0 : wr.cell? ⟨gb309, 0, none⟩ = some (.bool a0_0) := (blk_cell BK309.out 0).trans rfl; have hcz146_1 : wr.cell? ⟨gb309, 1, none⟩ = some (u310001) := (blk_cell BK309.out 1).trans rfl; have hfz146_0 := blk_frozen BK309.out 0; have hfz146_1 := blk_frozen BK309.out 1) | ((with_reducible refine gate_builtin (b := .append) (xs := #[.tmp 97, .tmp 99]) rfl ?_); (try (refine gate_guard (by rfl) ?_; dsimp only)); at_builtin; refine Kd.R_append (Kd.int .i64) (w0 := w) w.heap.size rfl (.tmp 97) (.tmp 99) 30 3 (.int .i64 0) 8 rfl Try.underlying30 info3 rfl (by decide) (by omega) u310001 x310001_1 (wrap64 ((wrap64 ((wrap64 (t202 - t203)) - x10_1)) + 65536)) [.int .i64 (wrap64 ((wrap64 ((wrap64 (t202 - t203)) - x10_1)) + 65536))] (fun k_ => (w.heap.size ≤ k_)) (fun _ => False) rfl rfl ?aP (fun _ hk => hk.elim) ?aF ?aO ?aB ?aS ?aL ?_; (case aP => exact rfl); (case aB => exact (by repeat (first | (with_reducible first | exact HB.out | apply below_alloc | apply pw_below_drewN | apply below_drew1 | refine below_set ?_ GE302.out | refine below_set ?_ GE303.out | refine below_set ?_ GE304.out | refine below_set ?_ GE309.out) | exact HB.out))); (case aF => exact (fun k_ hk => (Nat.le_trans (below_size (by repeat (first | (with_reducible first | exact HB.out | apply below_alloc | apply pw_below_drewN | apply below_drew1 | refine below_set ?_ GE302.out | refine below_set ?_ GE303.out | refine below_set ?_ GE304.out | refine below_set ?_ GE309.out) | exact HB.out))) hk))); (case aO => exact (by (with_reducible repeat (first | apply Kd.R_alloc | apply Kd.R_drewN | apply Kd.R_drew)); exact HO_310001.out)); (case aS => exact (below_size (by repeat (first | (with_reducible first | exact HB.out | apply below_alloc | apply pw_below_drewN | apply below_drew1 | refine below_set ?_ GE302.out | refine below_set ?_ GE303.out | refine below_set ?_ GE304.out | refine below_set ?_ GE309.out) | exact HB.out)))); (case aL => have := LMc137.out; omega); intro v205 w147 ho hb hg hat; rw [← Ny204.out] at ho; have n0_ := Aside0.mk (blk_grown (g := gb302) (o := .cells #[.bool a0_0, .slice A0_1 l0_1.length c0_1] 32 (0, 0)) (by (with_reducible repeat (first | refine blk_drewN ?_ _ | refine blk_drew ?_ | refine blk_alloc ?_ _)); exact BK302.out) hg (Kd.R_ne HO_310001.out BK302.out (by decide))); have n1_ := Aside0.mk (blk_grown (g := gb303) (o := .cells #[.bool a1_0, .slice A1_1 l1_1.length c1_1] 32 (0, 0)) (by (with_reducible repeat (first | refine blk_drewN ?_ _ | refine blk_drew ?_ | refine blk_alloc ?_ _)); exact BK303.out) hg (Kd.R_ne HO_310001.out BK303.out (by decide))); have n2_ := Aside0.mk (blk_grown (g := gb304) (o := .cells #[.bool false, .slice none 0 0] 32 (0, 0)) (by (with_reducible repeat (first | refine blk_drewN ?_ _ | refine blk_drew ?_ | refine blk_alloc ?_ _)); exact BK304.out) hg (Kd.R_ne HO_310001.out BK304.out (by decide))); have n3_ := Aside0.mk (blk_grown (g := gb309) (o := .cells #[.bool a0_0, u310001] 32 (0, 0)) (by (with_reducible repeat (first | refine blk_drewN ?_ _ | refine blk_drew ?_ | refine blk_alloc ?_ _)); exact BK309.out) hg (Kd.R_ne HO_310001.out BK309.out (by decide))); have n4_ := Aside0.mk (hb); have n5_ := Aside0.mk (ho); clear BK302; clear BK303; clear BK304; clear BK309; clear HB; clear HO_310001; have BK302 := n0_; have BK303 := n1_; have BK304 := n2_; have BK309 := n3_; have HB := n4_; have HO206 := n5_; clear n0_ n1_ n2_ n3_ n4_ n5_; clear ho hb hg hat; obtain ⟨Ao148, co148, eo148⟩ := Kd.R_slice HO206.out; subst eo148; have hcz149_0 : w147.cell? ⟨gb309, 0, none⟩ = some (.bool a0_0) := (blk_cell BK309.out 0).trans rfl; have hcz149_1 : w147.cell? ⟨gb309, 1, none⟩ = some (u310001) := (blk_cell BK309.out 1).trans rfl; have hfz149_0 := blk_frozen BK309.out 0; have hfz149_1 := blk_frozen BK309.out 1)))
                go_roundg k1
                case measure => have := HK1.out; omega
                case rel => exact ⟨(1), (wrap64 (x11_1 + 1)), (y204), (.slice Ao148 y204.length co148), (by first | rfl | (simp; done) | (simp [*]; done)), (by first | rfl | (simp; done) | (simp [*]; done)), H', ⟨by have := HK1.out; omega⟩, ⟨by (with_reducible repeat (first | apply Kd.R_alloc | apply Kd.R_drewN | apply Kd.R_drew)); exact Kd.R_mono (Kd.R_far (p := ⟨gb309, 1, none⟩) (Kd.R_types HO206.out BK309.out (by decide)) (fun _ hk => hk.2) (.slice Ao148 y204.length co148)) (fun _ hk => hk.1)⟩, ⟨by (with_reducible repeat (first | refine blk_drewN ?_ _ | refine blk_drew ?_ | refine blk_alloc ?_ _)); refine blk_far ?_ NB302_309.out _; (with_reducible repeat (first | refine blk_drewN ?_ _ | refine blk_drew ?_ | refine blk_alloc ?_ _)); exact BK302.out⟩, ⟨by (with_reducible repeat (first | refine blk_drewN ?_ _ | refine blk_drew ?_ | refine blk_alloc ?_ _)); refine blk_far ?_ NB303_309.out _; (with_reducible repeat (first | refine blk_drewN ?_ _ | refine blk_drew ?_ | refine blk_alloc ?_ _)); exact BK303.out⟩, ⟨by (with_reducible repeat (first | refine blk_drewN ?_ _ | refine blk_drew ?_ | refine blk_alloc ?_ _)); refine blk_far ?_ NB304_309.out _; (with_reducible repeat (first | refine blk_drewN ?_ _ | refine blk_drew ?_ | refine blk_alloc ?_ _)); exact BK304.out⟩, ⟨by (with_reducible repeat (first | refine blk_drewN ?_ _ | refine blk_drew ?_ | refine blk_alloc ?_ _)); refine blk_put (cs := #[.bool a0_0, u310001]) ?_ 1 _ rfl; (with_reducible repeat (first | refine blk_drewN ?_ _ | refine blk_drew ?_ | refine blk_alloc ?_ _)); exact BK309.out⟩, ⟨by repeat (first | (with_reducible first | exact HB.out | apply below_alloc | apply pw_below_drewN | apply below_drew1 | refine below_set ?_ GE302.out | refine below_set ?_ GE303.out | refine below_set ?_ GE304.out | refine below_set ?_ GE309.out) | exact HB.out)⟩⟩
              · rw [if_neg c137] at H
                exact absurd H (by simp)
            · rw [if_neg c136] at H
              have c136b0 : decide ((wrap64 ((wrap64 (t202 - t203)) - x10_1)) < 0) = false := decide_eq_false c136
              (try (have c136b1 : decide ((IntKind.i64.wrap ((IntKind.i64.wrap (t202 - t203)) - x10_1)) < 0) = false := by first | exact (decide_eq_false c136) | (simp only [i64_w]; exact (decide_eq_false c136))))
              clear c136
              by_cases c150 : x310001_1.length < 17592186044416
              · rw [if_pos c150] at H
                have LMc150 := Aside0.mk c150
                clear c150
                obtain ⟨y207, hy207⟩ : ∃ y_ : List Int, y_ = (x310001_1 ++ [wrap64 ((wrap64 (t202 - t203)) - x10_1)]) := ⟨_, rfl⟩
                replace H : (clevisref01_Add.l102 k1 0 (wrap64 (x11_1 + 1)) a0_0 l0_1 a1_0 l1_1 a0_0 y207) = some (r1, r2) := by first | (rw [hy207]; with_reducible exact H) | (have H2_ := (Option.bind_some _ _).symm.trans H; rw [hy207]; with_reducible exact H2_) | (have H2_ := (Option.bind_some _ _).symm.trans H; with_reducible exact H2_) | with_reducible exact H | (rw [hy207]; exact H) | exact H
                have Ny207 := Aside0.mk hy207
                clear hy207
                have H' := Aside0.mk H
                clear H
                have hnb151 := NB302_303.out
                have hnc151 := NB303_302.out
                have hnb152 := NB302_304.out
                have hnc152 := NB304_302.out
                have hnb153 := NB302_309.out
                have hnc153 := NB309_302.out
                have hcz154_0 : wr.cell? ⟨gb302, 0, none⟩ = some (.bool a0_0) := (blk_cell BK302.out 0).trans rfl
                have hcz154_1 : wr.cell? ⟨gb302, 1, none⟩ = some (.slice A0_1 l0_1.length c0_1) := (blk_cell BK302.out 1).trans rfl
                have hfz154_0 := blk_frozen BK302.out 0
                have hfz154_1 := blk_frozen BK302.out 1
                go_wp2_with (first | (go_at_call 54; (with_reducible refine (clevisref01_at.calls _ _ l0_1 x11_1 t202 _ ?side1 ?side2 A134.out).mono ?_); (case side1 => repeat (first | exact (Kd.C_below HR0_1.out HB.out) | (with_reducible refine Kd.C_alloc ?_ _) | (with_reducible refine Kd.C_drewN ?_ _) | (with_reducible refine Kd.C_drew ?_))); (case side2 => exact HC0_1.out); rintro e w' ⟨rfl, ⟨nd, rfl⟩⟩; (try first | exact ⟨rfl, _, World.drewN_drewN _ _ _⟩ | exact ⟨rfl, _, Eq.trans (World.drewN_drewN _ _ _) (congrArg (World.drewN _) (Nat.add_assoc _ _ _))⟩); have hnb155 := NB303_304.out; have hnc155 := NB304_303.out; have hnb156 := NB303_309.out; have hnc156 := NB309_303.out; have hcz157_0 : wr.cell? ⟨gb303, 0, none⟩ = some (.bool a1_0) := (blk_cell BK303.out 0).trans rfl; have hcz157_1 : wr.cell? ⟨gb303, 1, none⟩ = some (.slice A1_1 l1_1.length c1_1) := (blk_cell BK303.out 1).trans rfl; have hfz157_0 := blk_frozen BK303.out 0; have hfz157_1 := blk_frozen BK303.out 1) | (go_at_call 54; (with_reducible refine (clevisref01_at.calls _ _ l1_1 x11_1 t203 _ ?side1 ?side2 A135.out).mono ?_); (case side1 => repeat (first | exact (Kd.C_below HR1_1.out (by repeat (first | (with_reducible first | exact HB.out | apply below_alloc | apply pw_below_drewN | apply below_drew1 | refine below_set ?_ GE302.out | refine below_set ?_ GE303.out | refine below_set ?_ GE304.out | refine below_set ?_ GE309.out) | exact HB.out))) | (with_reducible refine Kd.C_alloc ?_ _) | (with_reducible refine Kd.C_drewN ?_ _) | (with_reducible refine Kd.C_drew ?_))); (case side2 => exact HC1_1.out); rintro e w' ⟨rfl, ⟨nd, rfl⟩⟩; (try first | exact ⟨rfl, _, World.drewN_drewN _ _ _⟩ | exact ⟨rfl, _, Eq.trans (World.drewN_drewN _ _ _) (congrArg (World.drewN _) (Nat.add_assoc _ _ _))⟩); have hnb158 := NB309_304.out; have hnc158 := NB304_309.out; have hcz159_0 : wr.cell? ⟨gb309, 0, none⟩ = some (.bool a0_0) := (blk_cell BK309.out 0).trans rfl; have hcz159_1 : wr.cell? ⟨gb309, 1, none⟩ = some (u310001) := (blk_cell BK309.out 1).trans rfl; have hfz159_0 := blk_frozen BK309.out 0; have hfz159_1 := blk_frozen BK309.out 1) | ((with_reducible refine gate_builtin (b := .append) (xs := #[.tmp 97, .tmp 99]) rfl ?_); (try (refine gate_guard (by rfl) ?_; dsimp only)); at_builtin; refine Kd.R_append (Kd.int .i64) (w0 := w) w.heap.size rfl (.tmp 97) (.tmp 99) 30 3 (.int .i64 0) 8 rfl Try.underlying30 info3 rfl (by decide) (by omega) u310001 x310001_1 (wrap64 ((wrap64 (t202 - t203)) - x10_1)) [.int .i64 (wrap64 ((wrap64 (t202 - t203)) - x10_1))] (fun k_ => (w.heap.size ≤ k_)) (fun _ => False) rfl rfl ?aP (fun _ hk => hk.elim) ?aF ?aO ?aB ?aS ?aL ?_; (case aP => exact rfl); (case aB => exact (by repeat (first | (with_reducible first | exact HB.out | apply below_alloc | apply pw_below_drewN | apply below_drew1 | refine below_set ?_ GE302.out | refine below_set ?_ GE303.out | refine below_set ?_ GE304.out | refine below_set ?_ GE309.out) | exact HB.out))); (case aF => exact (fun k_ hk => (Nat.le_trans (below_size (by repeat (first | (with_reducible first | exact HB.out | apply below_alloc | apply pw_below_drewN | apply below_drew1 | refine below_set ?_ GE302.out | refine below_set ?_ GE303.out | refine below_set ?_ GE304.out | refine below_set ?_ GE309.out) | exact HB.out))) hk))); (case aO => exact (by (with_reducible repeat (first | apply Kd.R_alloc | apply Kd.R_drewN | apply Kd.R_drew)); exact HO_310001.out)); (case aS => exact (below_size (by repeat (first | (with_reducible first | exact HB.out | apply below_alloc | apply pw_below_drewN | apply below_drew1 | refine below_set ?_ GE302.out | refine below_set ?_ GE303.out | refine below_set ?_ GE304.out | refine below_set ?_ GE309.out) | exact HB.out)))); (case aL => have := LMc150.out; omega); intro v208 w160 ho hb hg hat; rw [← Ny207.out] at ho; have n0_ := Aside0.mk (blk_grown (g := gb302) (o := .cells #[.bool a0_0, .slice A0_1 l0_1.length c0_1] 32 (0, 0)) (by (with_reducible repeat (first | refine blk_drewN ?_ _ | refine blk_drew ?_ | refine blk_alloc ?_ _)); exact BK302.out) hg (Kd.R_ne HO_310001.out BK302.out (by decide))); have n1_ := Aside0.mk (blk_grown (g := gb303) (o := .cells #[.bool a1_0, .slice A1_1 l1_1.length c1_1] 32 (0, 0)) (by (with_reducible repeat (first | refine blk_drewN ?_ _ | refine blk_drew ?_ | refine blk_alloc ?_ _)); exact BK303.out) hg (Kd.R_ne HO_310001.out BK303.out (by decide))); have n2_ := Aside0.mk (blk_grown (g := gb304) (o := .cells #[.bool false, .slice none 0 0] 32 (0, 0)) (by (with_reducible repeat (first | refine blk_drewN ?_ _ | refine blk_drew ?_ | refine blk_alloc ?_ _)); exact BK304.out) hg (Kd.R_ne HO_310001.out BK304.out (by decide))); have n3_ := Aside0.mk (blk_grown (g := gb309) (o := .cells #[.bool a0_0, u310001] 32 (0, 0)) (by (with_reducible repeat (first | refine blk_drewN ?_ _ | refine blk_drew ?_ | refine blk_alloc ?_ _)); exact BK309.out) hg (Kd.R_ne HO_310001.out BK309.out (by decide))); have n4_ := Aside0.mk (hb); have n5_ := Aside0.mk (ho); clear BK302; clear BK303; clear BK304; clear BK309; clear HB; clear HO_310001; have BK302 := n0_; have BK303 := n1_; have BK304 := n2_; have BK309 := n3_; have HB := n4_; have HO209 := n5_; clear n0_ n1_ n2_ n3_ n4_ n5_; clear ho hb hg hat; obtain ⟨Ao161, co161, eo161⟩ := Kd.R_slice HO209.out; subst eo161; have hcz162_0 : w160.cell? ⟨gb309, 0, none⟩ = some (.bool a0_0) := (blk_cell BK309.out 0).trans rfl; have hcz162_1 : w160.cell? ⟨gb309, 1, none⟩ = some (u310001) := (blk_cell BK309.out 1).trans rfl; have hfz162_0 := blk_frozen BK309.out 0; have hfz162_1 := blk_frozen BK309.out 1))
                repeat (go_quiet (first | (go_at_call 54; (with_reducible refine (clevisref01_at.calls _ _ l0_1 x11_1 t202 _ ?side1 ?side2 A134.out).mono ?_); (case side1 => repeat (first | exact (Kd.C_below HR0_1.out HB.out) | (with_reducible refine Kd.C_alloc ?_ _) | (with_reducible refine Kd.C_drewN ?_ _) | (with_reducible refine Kd.C_drew ?_))); (case side2 => exact HC0_1.out); rintro e w' ⟨rfl, ⟨nd, rfl⟩⟩; (try first | exact ⟨rfl, _, World.drewN_drewN _ _ _⟩ | exact ⟨rfl, _, Eq.trans (World.drewN_drewN _ _ _) (congrArg (World.drewN _) (Nat.add_assoc _ _ _))⟩); have hnb155 := NB303_304.out; have hnc155 := NB304_303.out; have hnb156 := NB303_309.out; have hnc156 := NB309_303.out; have hcz157_0 : wr.cell? ⟨gb303, 0, none⟩ = some (.bool a1_0) := (blk_cell BK303.out 0).trans rfl; have hcz157_1 : wr.cell? ⟨gb303, 1, none⟩ = some (.slice A1_1 l1_1.length c1_1) := (blk_cell BK303.out 1).trans rfl; have hfz157_0 := blk_frozen BK303.out 0; have hfz157_1 := blk_frozen BK303.out 1) | (go_at_call 54; (with_reducible refine (clevisref01_at.calls _ _ l1_1 x11_1 t203 _ ?side1 ?side2 A135.out).mono ?_); (case side1 => repeat (first | exact (Kd.C_below HR1_1.out (by repeat (first | (with_reducible first | exact HB.out | apply below_alloc | apply pw_below_drewN | apply below_drew1 | refine below_set ?_ GE302.out | refine below_set ?_ GE303.out | refine below_set ?_ GE304.out | refine below_set ?_ GE309.out) | exact HB.out))) | (with_reducible refine Kd.C_alloc ?_ _) | (with_reducible refine Kd.C_drewN ?_ _) | (with_reducible refine Kd.C_drew ?_))); (case side2 => exact HC1_1.out); rintro e w' ⟨rfl, ⟨nd, rfl⟩⟩; (try first | exact ⟨rfl, _, World.drewN_drewN _ _ _⟩ | exact ⟨rfl, _, Eq.trans (World.drewN_drewN _ _ _) (congrArg (World.drewN _) (Nat.add_assoc _ _ _))⟩); have hnb158 := NB309_304.out; have hnc158 := NB304_309.out; have hcz159_0 : wr.cell? ⟨gb309, 0, none⟩ = some (.bool a0_0) := (blk_cell BK309.out 0).trans rfl; have hcz159_1 : wr.cell? ⟨gb309, 1, none⟩ = some (u310001) := (blk_cell BK309.out 1).trans rfl; have hfz159_0 := blk_frozen BK309.out 0; have hfz159_1 := blk_frozen BK309.out 1) | ((with_reducible refine gate_builtin (b := .append) (xs := #[.tmp 97, .tmp 99]) rfl ?_); (try (refine gate_guard (by rfl) ?_; dsimp only)); at_builtin; refine Kd.R_append (Kd.int .i64) (w0 := w) w.heap.size rfl (.tmp 97) (.tmp 99) 30 3 (.int .i64 0) 8 rfl Try.underlying30 info3 rfl (by decide) (by omega) u310001 x310001_1 (wrap64 ((wrap64 (t202 - t203)) - x10_1)) [.int .i64 (wrap64 ((wrap64 (t202 - t203)) - x10_1))] (fun k_ => (w.heap.size ≤ k_)) (fun _ => False) rfl rfl ?aP (fun _ hk => hk.elim) ?aF ?aO ?aB ?aS ?aL ?_; (case aP => exact rfl); (case aB => exact (by repeat (first | (with_reducible first | exact HB.out | apply below_alloc | apply pw_below_drewN | apply below_drew1 | refine below_set ?_ GE302.out | refine below_set ?_ GE303.out | refine below_set ?_ GE304.out | refine below_set ?_ GE309.out) | exact HB.out))); (case aF => exact (fun k_ hk => (Nat.le_trans (below_size (by repeat (first | (with_reducible first | exact HB.out | apply below_alloc | apply pw_below_drewN | apply below_drew1 | refine below_set ?_ GE302.out | refine below_set ?_ GE303.out | refine below_set ?_ GE304.out | refine below_set ?_ GE309.out) | exact HB.out))) hk))); (case aO => exact (by (with_reducible repeat (first | apply Kd.R_alloc | apply Kd.R_drewN | apply Kd.R_drew)); exact HO_310001.out)); (case aS => exact (below_size (by repeat (first | (with_reducible first | exact HB.out | apply below_alloc | apply pw_below_drewN | apply below_drew1 | refine below_set ?_ GE302.out | refine below_set ?_ GE303.out | refine below_set ?_ GE304.out | refine below_set ?_ GE309.out) | exact HB.out)))); (case aL => have := LMc150.out; omega); intro v208 w160 ho hb hg hat; rw [← Ny207.out] at ho; have n0_ := Aside0.mk (blk_grown (g := gb302) (o := .cells #[.bool a0_0, .slice A0_1 l0_1.length c0_1] 32 (0, 0)) (by (with_reducible repeat (first | refine blk_drewN ?_ _ | refine blk_drew ?_ | refine blk_alloc ?_ _)); exact BK302.out) hg (Kd.R_ne HO_310001.out BK302.out (by decide))); have n1_ := Aside0.mk (blk_grown (g := gb303) (o := .cells #[.bool a1_0, .slice A1_1 l1_1.length c1_1] 32 (0, 0)) (by (with_reducible repeat (first | refine blk_drewN ?_ _ | refine blk_drew ?_ | refine blk_alloc ?_ _)); exact BK303.out) hg (Kd.R_ne HO_310001.out BK303.out (by decide))); have n2_ := Aside0.mk (blk_grown (g := gb304) (o := .cells #[.bool false, .slice none 0 0] 32 (0, 0)) (by (with_reducible repeat (first | refine blk_drewN ?_ _ | refine blk_drew ?_ | refine blk_alloc ?_ _)); exact BK304.out) hg (Kd.R_ne HO_310001.out BK304.out (by decide))); have n3_ := Aside0.mk (blk_grown (g := gb309) (o := .cells #[.bool a0_0, u310001] 32 (0, 0)) (by (with_reducible repeat (first | refine blk_drewN ?_ _ | refine blk_drew ?_ | refine blk_alloc ?_ _)); exact BK309.out) hg (Kd.R_ne HO_310001.out BK309.out (by decide))); have n4_ := Aside0.mk (hb); have n5_ := Aside0.mk (ho); clear BK302; clear BK303; clear BK304; clear BK309; clear HB; clear HO_310001; have BK302 := n0_; have BK303 := n1_; have BK304 := n2_; have BK309 := n3_; have HB := n4_; have HO209 := n5_; clear n0_ n1_ n2_ n3_ n4_ n5_; clear ho hb hg hat; obtain ⟨Ao161, co161, eo161⟩ := Kd.R_slice HO209.out; subst eo161; have hcz162_0 : w160.cell? ⟨gb309, 0, none⟩ = some (.bool a0_0) := (blk_cell BK309.out 0).trans rfl; have hcz162_1 : w160.cell? ⟨gb309, 1, none⟩ = some (u310001) := (blk_cell BK309.out 1).trans rfl; have hfz162_0 := blk_frozen BK309.out 0; have hfz162_1 := blk_frozen BK309.out 1)); try go_wp2_with (first | (go_at_call 54; (with_reducible refine (clevisref01_at.calls _ _ l0_1 x11_1 t202 _ ?side1 ?side2 A134.out).mono ?_); (case side1 => repeat (first | exact (Kd.C_below HR0_1.out HB.out) | (with_reducible refine Kd.C_alloc ?_ _) | (with_reducible refine Kd.C_drewN ?_ _) | (with_reducible refine Kd.C_drew ?_))); (case side2 => exact HC0_1.out); rintro e w' ⟨rfl, ⟨nd, rfl⟩⟩; (try first | exact ⟨rfl, _, World.drewN_drewN _ _ _⟩ | exact ⟨rfl, _, Eq.trans (World.drewN_drewN _ _ _) (congrArg (World.drewN _) (Nat.add_assoc _ _ _))⟩); have hnb155 := NB303_304.out; have hnc155 := NB304_303.out; have hnb156 := NB303_309.out; have hnc156 := NB309_303.out; have hcz157_0 : wr.cell? ⟨gb303, 0, none⟩ = some (.bool a1_0) := (blk_cell BK303.out 0).trans rfl; have hcz157_1 : wr.cell? ⟨gb303, 1, none⟩ = some (.slice A1_1 l1_1.length c1_1) := (blk_cell BK303.out 1).trans rfl; have hfz157_0 := blk_frozen BK303.out 0; have hfz157_1 := blk_frozen BK303.out 1) | (go_at_call 54; (with_reducible refine (clevisref01_at.calls _ _ l1_1 x11_1 t203 _ ?side1 ?side2 A135.out).mono ?_); (case side1 => repeat (first | exact (Kd.C_below HR1_1.out (by repeat (first | (with_reducible first | exact HB.out | apply below_alloc | apply pw_below_drewN | apply below_drew1 | refine below_set ?_ GE302.out | refine below_set ?_ GE303.out | refine below_set ?_ GE304.out | refine below_set ?_ GE309.out) | exact HB.out))) | (with_reducible refine Kd.C_alloc ?_ _) | (with_reducible refine Kd.C_drewN ?_ _) | (with_reducible refine Kd.C_drew ?_))); (case side2 => exact HC1_1.out); rintro e w' ⟨rfl, ⟨nd, rfl⟩⟩; (try first | exact ⟨rfl, _, World.drewN_drewN _ _ _⟩ | exact ⟨rfl, _, Eq.trans (World.drewN_drewN _ _ _) (congrArg (World.drewN _) (Nat.add_assoc _ _ _))⟩); have hnb158 := NB309_304.out; have hnc158 := NB304_309.out; have hcz159_0 : wr.cell? ⟨gb309, 0, none⟩ = some (.bool a0_0) := (blk_cell BK309.out 0).trans rfl; have hcz159_1 : wr.cell? ⟨gb309, 1, none⟩ = some (u310001) := (blk_cell BK309.out 1).trans rfl; have hfz159_0 := blk_frozen BK309.out 0; have hfz159_1 := blk_frozen BK309.out 1) | ((with_reducible refine gate_builtin (b := .append) (xs := #[.tmp 97, .tmp 99]) rfl ?_); (try (refine gate_guard (by rfl) ?_; dsimp only)); at_builtin; refine Kd.R_append (Kd.int .i64) (w0 := w) w.heap.size rfl (.tmp 97) (.tmp 99) 30 3 (.int .i64 0) 8 rfl Try.underlying30 info3 rfl (by decide) (by omega) u310001 x310001_1 (wrap64 ((wrap64 (t202 - t203)) - x10_1)) [.int .i64 (wrap64 ((wrap64 (t202 - t203)) - x10_1))] (fun k_ => (w.heap.size ≤ k_)) (fun _ => False) rfl rfl ?aP (fun _ hk => hk.elim) ?aF ?aO ?aB ?aS ?aL ?_; (case aP => exact rfl); (case aB => exact (by repeat (first | (with_reducible first | exact HB.out | apply below_alloc | apply pw_below_drewN | apply below_drew1 | refine below_set ?_ GE302.out | refine below_set ?_ GE303.out | refine below_set ?_ GE304.out | refine below_set ?_ GE309.out) | exact HB.out))); (case aF => exact (fun k_ hk => (Nat.le_trans (below_size (by repeat (first | (with_reducible first | exact HB.out | apply below_alloc | apply pw_below_drewN | apply below_drew1 | refine below_set ?_ GE302.out | refine below_set ?_ GE303.out | refine below_set ?_ GE304.out | refine below_set ?_ GE309.out) | exact HB.out))) hk))); (case aO => exact (by (with_reducible repeat (first | apply Kd.R_alloc | apply Kd.R_drewN | apply Kd.R_drew)); exact HO_310001.out)); (case aS => exact (below_size (by repeat (first | (with_reducible first | exact HB.out | apply below_alloc | apply pw_below_drewN | apply below_drew1 | refine below_set ?_ GE302.out | refine below_set ?_ GE303.out | refine below_set ?_ GE304.out | refine below_set ?_ GE309.out) | exact HB.out)))); (case aL => have := LMc150.out; omega); intro v208 w160 ho hb hg hat; rw [← Ny207.out] at ho; have n0_ := Aside0.mk (blk_grown (g := gb302) (o := .cells #[.bool a0_0, .slice A0_1 l0_1.length c0_1] 32 (0, 0)) (by (with_reducible repeat (first | refine blk_drewN ?_ _ | refine blk_drew ?_ | refine blk_alloc ?_ _)); exact BK302.out) hg (Kd.R_ne HO_310001.out BK302.out (by decide))); have n1_ := Aside0.mk (blk_grown (g := gb303) (o := .cells #[.bool a1_0, .slice A1_1 l1_1.length c1_1] 32 (0, 0)) (by (with_reducible repeat (first | refine blk_drewN ?_ _ | refine blk_drew ?_ | refine blk_alloc ?_ _)); exact BK303.out) hg (Kd.R_ne HO_310001.out BK303.out (by decide))); have n2_ := Aside0.mk (blk_grown (g := gb304) (o := .cells #[.bool false, .slice none 0 0] 32 (0, 0)) (by (with_reducible repeat (first | refine blk_drewN ?_ _ | refine blk_drew ?_ | refine blk_alloc ?_ _)); exact BK304.out) hg (Kd.R_ne HO_310001.out BK304.out (by decide))); have n3_ := Aside0.mk (blk_grown (g := gb309) (o := .cells #[.bool a0_0, u310001] 32 (0, 0)) (by (with_reducible repeat (first | refine blk_drewN ?_ _ | refine blk_drew ?_ | refine blk_alloc ?_ _)); exact BK309.out) hg (Kd.R_ne HO_310001.out BK309.out (by decide))); have n4_ := Aside0.mk (hb); have n5_ := Aside0.mk (ho); clear BK302; clear BK303; clear BK304; clear BK309; clear HB; clear HO_310001; have BK302 := n0_; have BK303 := n1_; have BK304 := n2_; have BK309 := n3_; have HB := n4_; have HO209 := n5_; clear n0_ n1_ n2_ n3_ n4_ n5_; clear ho hb hg hat; obtain ⟨Ao161, co161, eo161⟩ := Kd.R_slice HO209.out; subst eo161; have hcz162_0 : w160.cell? ⟨gb309, 0, none⟩ = some (.bool a0_0) := (blk_cell BK309.out 0).trans rfl; have hcz162_1 : w160.cell? ⟨gb309, 1, none⟩ = some (u310001) := (blk_cell BK309.out 1).trans rfl; have hfz162_0 := blk_frozen BK309.out 0; have hfz162_1 := blk_frozen BK309.out 1)))
                go_roundg k1
                case measure => have := HK1.out; omega
                case rel => exact ⟨(0), (wrap64 (x11_1 + 1)), (y207), (.slice Ao161 y207.length co161), (by first | rfl | (simp; done) | (simp [*]; done)), (by first | rfl | (simp; done) | (simp [*]; done)), H', ⟨by have := HK1.out; omega⟩, ⟨by (with_reducible repeat (first | apply Kd.R_alloc | apply Kd.R_drewN | apply Kd.R_drew)); exact Kd.R_mono (Kd.R_far (p := ⟨gb309, 1, none⟩) (Kd.R_types HO209.out BK309.out (by decide)) (fun _ hk => hk.2) (.slice Ao161 y207.length co161)) (fun _ hk => hk.1)⟩, ⟨by (with_reducible repeat (first | refine blk_drewN ?_ _ | refine blk_drew ?_ | refine blk_alloc ?_ _)); refine blk_far ?_ NB302_309.out _; (with_reducible repeat (first | refine blk_drewN ?_ _ | refine blk_drew ?_ | refine blk_alloc ?_ _)); exact BK302.out⟩, ⟨by (with_reducible repeat (first | refine blk_drewN ?_ _ | refine blk_drew ?_ | refine blk_alloc ?_ _)); refine blk_far ?_ NB303_309.out _; (with_reducible repeat (first | refine blk_drewN ?_ _ | refine blk_drew ?_ | refine blk_alloc ?_ _)); exact BK303.out⟩, ⟨by (with_reducible repeat (first | refine blk_drewN ?_ _ | refine blk_drew ?_ | refine blk_alloc ?_ _)); refine blk_far ?_ NB304_309.out _; (with_reducible repeat (first | refine blk_drewN ?_ _ | refine blk_drew ?_ | refine blk_alloc ?_ _)); exact BK304.out⟩, ⟨by (with_reducible repeat (first | refine blk_drewN ?_ _ | refine blk_drew ?_ | refine blk_alloc ?_ _)); refine blk_put (cs := #[.bool a0_0, u310001]) ?_ 1 _ rfl; (with_reducible repeat (first | refine blk_drewN ?_ _ | refine blk_drew ?_ | refine blk_alloc ?_ _)); exact BK309.out⟩, ⟨by repeat (first | (with_reducible first | exact HB.out | apply below_alloc | apply pw_below_drewN | apply below_drew1 | refine below_set ?_ GE302.out | refine below_set ?_ GE303.out | refine below_set ?_ GE304.out | refine below_set ?_ GE309.out) | exact HB.out)⟩⟩
              · rw [if_neg c150] at H
                exact absurd H (by simp)
          · rw [if_neg c133] at H
            have c133b0 : decide (x11_1 < (l0_1.length : Int)) = false := decide_eq_false c133
            clear c133
            replace H := Option.bind_eq_some_iff.mp H
            obtain ⟨⟨t198, t199⟩, A1630, H⟩ := H
            replace H : (some (t198, t199)) = some (r1, r2) := H
            have A163 := Aside0.mk A1630
            clear A1630
            simp only [Option.some.injEq, Prod.mk.injEq] at H
            obtain ⟨rfl, rfl⟩ := H
            have hnb164 := NB302_303.out
            have hnc164 := NB303_302.out
            have hnb165 := NB302_304.out
            have hnc165 := NB304_302.out
            have hnb166 := NB302_309.out
            have hnc166 := NB309_302.out
            have hcz167_0 : wr.cell? ⟨gb302, 0, none⟩ = some (.bool a0_0) := (blk_cell BK302.out 0).trans rfl
            have hcz167_1 : wr.cell? ⟨gb302, 1, none⟩ = some (.slice A0_1 l0_1.length c0_1) := (blk_cell BK302.out 1).trans rfl
            have hfz167_0 := blk_frozen BK302.out 0
            have hfz167_1 := blk_frozen BK302.out 1
            have hnb168 := NB309_303.out
            have hnc168 := NB303_309.out
            have hnb169 := NB309_304.out
            have hnc169 := NB304_309.out
            have hcz170_0 : wr.cell? ⟨gb309, 0, none⟩ = some (.bool a0_0) := (blk_cell BK309.out 0).trans rfl
            have hcz170_1 : wr.cell? ⟨gb309, 1, none⟩ = some (u310001) := (blk_cell BK309.out 1).trans rfl
            have hfz170_0 := blk_frozen BK309.out 0
            have hfz170_1 := blk_frozen BK309.out 1
            obtain ⟨Ao171, co171, eo171⟩ := Kd.R_slice HO_310001.out
            subst eo171
            go_wp2_with (first | (go_at_call 47; (with_reducible refine (clevisref01_clean.calls k1 a0_0 (fun k_ => some k_ = (.slice Ao171 x310001_1.length co171 : Value).ownBlock) _ _ x310001_1 t198 t199 _ ?side1 A163.out).mono ?_); (case side1 => exact Kd.R_V (Kd.R_tight rfl (Kd.R_types (Kd.R_types (Kd.R_types (Kd.R_types (HO_310001.out) BK302.out (by decide)) BK303.out (by decide)) BK304.out (by decide)) BK309.out (by decide)))); rintro e w172 ⟨v200, rfl, ho0, hb⟩; have n0_ := Aside0.mk (Kd.R_below (by (with_reducible repeat (first | apply Kd.R_alloc | apply Kd.R_drewN | apply Kd.R_drew)); exact HO_310001.out) hb); have n1_ := Aside0.mk (Kd.V_lower (Kd.V_mono (ok' := fun k_ => (w.heap.size ≤ k_) ∧ k_ ≠ gb302 ∧ k_ ≠ gb303 ∧ k_ ≠ gb304 ∧ k_ ≠ gb309) ho0 (fun k_ hk_ => ⟨Or.elim hk_ (fun hs_ => ((Kd.R_types (Kd.R_types (Kd.R_types (Kd.R_types (HO_310001.out) BK302.out (by decide)) BK303.out (by decide)) BK304.out (by decide)) BK309.out (by decide)).1 k_ hs_.symm).1.1.1.1) (fun hn_ => (Nat.le_trans (below_size (by repeat (first | (with_reducible first | exact HB.out | apply below_alloc | apply pw_below_drewN | apply below_drew1 | refine below_set ?_ GE302.out | refine below_set ?_ GE303.out | refine below_set ?_ GE304.out | refine below_set ?_ GE309.out) | exact HB.out))) hn_)), Or.elim hk_ (fun hs_ => ((Kd.R_types (Kd.R_types (Kd.R_types (Kd.R_types (HO_310001.out) BK302.out (by decide)) BK303.out (by decide)) BK304.out (by decide)) BK309.out (by decide)).1 k_ hs_.symm).1.1.1.2) (fun hn_ => (Kd.freshB (g := gb302) (o := .cells #[.bool a0_0, .slice A0_1 l0_1.length c0_1] 32 (0, 0)) (by (with_reducible repeat (first | refine blk_drewN ?_ _ | refine blk_drew ?_ | refine blk_alloc ?_ _)); exact BK302.out) k_ hn_)), Or.elim hk_ (fun hs_ => ((Kd.R_types (Kd.R_types (Kd.R_types (Kd.R_types (HO_310001.out) BK302.out (by decide)) BK303.out (by decide)) BK304.out (by decide)) BK309.out (by decide)).1 k_ hs_.symm).1.1.2) (fun hn_ => (Kd.freshB (g := gb303) (o := .cells #[.bool a1_0, .slice A1_1 l1_1.length c1_1] 32 (0, 0)) (by (with_reducible repeat (first | refine blk_drewN ?_ _ | refine blk_drew ?_ | refine blk_alloc ?_ _)); exact BK303.out) k_ hn_)), Or.elim hk_ (fun hs_ => ((Kd.R_types (Kd.R_types (Kd.R_types (Kd.R_types (HO_310001.out) BK302.out (by decide)) BK303.out (by decide)) BK304.out (by decide)) BK309.out (by decide)).1 k_ hs_.symm).1.2) (fun hn_ => (Kd.freshB (g := gb304) (o := .cells #[.bool false, .slice none 0 0] 32 (0, 0)) (by (with_reducible repeat (first | refine blk_drewN ?_ _ | refine blk_drew ?_ | refine blk_alloc ?_ _)); exact BK304.out) k_ hn_)), Or.elim hk_ (fun hs_ => ((Kd.R_types (Kd.R_types (Kd.R_types (Kd.R_types (HO_310001.out) BK302.out (by decide)) BK303.out (by decide)) BK304.out (by decide)) BK309.out (by decide)).1 k_ hs_.symm).2) (fun hn_ => (Kd.freshB (g := gb309) (o := .cells #[.bool a0_0, .slice Ao171 x310001_1.length co171] 32 (0, 0)) (by (with_reducible repeat (first | refine blk_drewN ?_ _ | refine blk_drew ?_ | refine blk_alloc ?_ _)); exact BK309.out) k_ hn_))⟩)) (below_size (by repeat (first | (with_reducible first | exact HB.out | apply below_alloc | apply pw_below_drewN | apply below_drew1 | refine below_set ?_ GE302.out | refine below_set ?_ GE303.out | refine below_set ?_ GE304.out | refine below_set ?_ GE309.out) | exact HB.out)))); have n2_ := Aside0.mk (blk_below (g := gb302) (o := .cells #[.bool a0_0, .slice A0_1 l0_1.length c0_1] 32 (0, 0)) (by (with_reducible repeat (first | refine blk_drewN ?_ _ | refine blk_drew ?_ | refine blk_alloc ?_ _)); exact BK302.out) hb); have n3_ := Aside0.mk (blk_below (g := gb303) (o := .cells #[.bool a1_0, .slice A1_1 l1_1.length c1_1] 32 (0, 0)) (by (with_reducible repeat (first | refine blk_drewN ?_ _ | refine blk_drew ?_ | refine blk_alloc ?_ _)); exact BK303.out) hb); have n4_ := Aside0.mk (blk_below (g := gb304) (o := .cells #[.bool false, .slice none 0 0] 32 (0, 0)) (by (with_reducible repeat (first | refine blk_drewN ?_ _ | refine blk_drew ?_ | refine blk_alloc ?_ _)); exact BK304.out) hb); have n5_ := Aside0.mk (blk_below (g := gb309) (o := .cells #[.bool a0_0, .slice Ao171 x310001_1.length co171] 32 (0, 0)) (by (with_reducible repeat (first | refine blk_drewN ?_ _ | refine blk_drew ?_ | refine blk_alloc ?_ _)); exact BK309.out) hb); have n6_ := Aside0.mk (below_step (by repeat (first | (with_reducible first | exact HB.out | apply below_alloc | apply pw_below_drewN | apply below_drew1 | refine below_set ?_ GE302.out | refine below_set ?_ GE303.out | refine below_set ?_ GE304.out | refine below_set ?_ GE309.out) | exact HB.out)) hb); clear HO_310001; clear BK302; clear BK303; clear BK304; clear BK309; clear HB; have HO_310001 := n0_; have HO201 := n1_; have BK302 := n2_; have BK303 := n3_; have BK304 := n4_; have BK309 := n5_; have HB := n6_; clear n0_ n1_ n2_ n3_ n4_ n5_ n6_; (try clear hb); (try clear hb2); (try clear hk); (try clear hi); (try clear ho0); have hnb173 := NB304_303.out; have hnc173 := NB303_304.out; have hcz174_0 : w172.cell? ⟨gb304, 0, none⟩ = some (.bool false) := (blk_cell BK304.out 0).trans rfl; have hcz174_1 : w172.cell? ⟨gb304, 1, none⟩ = some (.slice none 0 0) := (blk_cell BK304.out 1).trans rfl; have hfz174_0 := blk_frozen BK304.out 0; have hfz174_1 := blk_frozen BK304.out 1; obtain ⟨Ao175, co175, eo175⟩ := Kd.V_slice HO201.out; subst eo175))
            refine bodyPost_ret (results_cell_row rfl _ _ gb304 32 #[.bool t198, .slice Ao175 t199.length co175] (0, 0) _ rfl (by (with_reducible repeat (first | refine blk_drewN ?_ _ | refine blk_drew ?_ | refine blk_alloc ?_ _)); refine blk_put (cs := #[.bool t198, .slice none 0 0]) ?_ 1 _ rfl; (with_reducible repeat (first | refine blk_drewN ?_ _ | refine blk_drew ?_ | refine blk_alloc ?_ _)); refine blk_put (cs := #[.bool false, .slice none 0 0]) ?_ 0 _ rfl; (with_reducible repeat (first | refine blk_drewN ?_ _ | refine blk_drew ?_ | refine blk_alloc ?_ _)); exact BK304.out) Try.underlying32 rfl (by kernel_rfl)) rfl ?_
            exact ⟨_, by first | rfl | (simp [errW_none, errW_some] <;> rfl) | (simp [*, errW_none, errW_some] <;> rfl), by (with_reducible repeat (first | apply Kd.V_alloc | apply Kd.V_drewN | apply Kd.V_drew)); exact Kd.V_mono (Kd.V_far (p := ⟨gb304, 1, none⟩) (Kd.V_far (p := ⟨gb304, 0, none⟩) (Kd.V_mono HO201.out (fun k_ hk => (⟨hk, hk.2.2.2.1⟩ : _ ∧ k_ ≠ gb304))) (fun _ hk => hk.2) (.bool t198)) (fun _ hk => hk.2) (.slice Ao175 t199.length co175)) (fun _ hk => hk.1.1), by repeat (first | (with_reducible first | exact HB.out | apply below_alloc | apply pw_below_drewN | apply below_drew1 | refine below_set ?_ GE302.out | refine below_set ?_ GE303.out | refine below_set ?_ GE304.out | refine below_set ?_ GE309.out) | exact HB.out)⟩
end Go.Proofs.Ytjbcigiffihjaaa.Fx
end
section
namespace Go.Proofs.Ytjbcigiffihjaaa.Fc
set_option linter.unusedSimpArgs false
set_option linter.unusedVariables false
open Go Go.RowKit Go.Proofs.Ytjbcigiffihjaaa.Fx Go.Proofs.YtjbcigiffihjaaaW.PrintWords Go.Proofs.Ytjbcigiffihjaaa.Fv
theorem w64 {n : Int} (h0 : -9223372036854775808 ≤ n) (h1 : n ≤ 9223372036854775807) : wrap64 n = n := by unfold wrap64; omega
theorem rd_at (d : List Int) (i : Nat) : rd d (i : Int) = d.getD i 0 := by unfold rd; rw [Int.toNat_natCast]
theorem getLast_getD (d : List Int) (h : d ≠ []) : d.getLast h = d.getD (d.length - 1) 0 := by
  have hl : 0 < d.length := List.length_pos_iff.2 h
  rw [List.getLast_eq_getElem, List.getD_eq_getElem?_getD, List.getElem?_eq_getElem (by omega)]
  rfl
theorem clean (neg : Bool) : ∀ (n : Nat) (d : List Int), d.length = n → n ≤ 1000000 → Ds d → ∃ K d', (∀ e, clevisref01_clean.f (K + e) neg d = some (if d' = [] then false else neg, d')) ∧ V d' = V d ∧ Ds d' ∧ Top d' ∧ d'.length ≤ d.length
  | 0, d, hn, hl, hd => by
    have e0 : d = [] := List.eq_nil_of_length_eq_zero hn
    subst e0
    refine ⟨1, [], fun e => ?_, rfl, hd, fun h => absurd rfl h, Nat.le_refl _⟩
    unfold clevisref01_clean.f
    rw [show 1 + e = e + 1 by omega, clevisref01_clean.l0]
    simp
  | n + 1, d, hn, hl, hd => by
    have hne : d ≠ [] := fun e => by rw [e] at hn; simp at hn
    have hw : wrap64 ((d.length : Int) - 1) = ((n : Nat) : Int) := by rw [hn]; unfold wrap64; omega
    by_cases h0 : d.getD n 0 = 0
    · have hlt : (d.take n).length = n := by rw [List.length_take]; omega
      obtain ⟨K, d', h1, h2, h3, h4, h5⟩ := clean neg n (d.take n) hlt (by omega) (hd.take n)
      refine ⟨K + 1, d', fun e => ?_, ?_, h3, h4, by omega⟩
      · have h6 := h1 e
        unfold clevisref01_clean.f at h6 ⊢
        rw [show K + 1 + e = (K + e) + 1 by omega, clevisref01_clean.l0, hw, rd_at, if_pos (by omega), if_pos (by omega), if_pos (by omega), if_pos h0, if_pos (by omega), Int.toNat_natCast]
        exact h6
      · rw [h2]
        have h7 := V_take_succ d n
        rw [h0, List.take_of_length_le (by omega)] at h7
        omega
    · refine ⟨1, d, fun e => ?_, rfl, hd, fun h => ?_, Nat.le_refl _⟩
      · unfold clevisref01_clean.f
        rw [show 1 + e = e + 1 by omega, clevisref01_clean.l0, hw, rd_at, if_pos (by omega), if_pos (by omega), if_pos (by omega), if_neg h0, if_neg (by omega), if_neg hne]
      · rw [getLast_getD d h, hn, Nat.add_sub_cancel]
        exact h0
theorem clean_good (neg : Bool) (d : List Int) (hd : Ds d) (hl : d.length ≤ 1000000) (v : Int) (hv : val neg d = v) : ∃ K n' d', (∀ e, clevisref01_clean.f (K + e) neg d = some (n', d')) ∧ Nm v n' d' ∧ d'.length ≤ d.length := by
  obtain ⟨K, d', h1, h2, h3, h4, h5⟩ := clean neg d.length d rfl hl hd
  refine ⟨K, _, d', h1, ⟨h3, h4, fun h => ?_, ?_, by omega⟩, h5⟩
  · intro e
    rw [if_pos e] at h
    cases h
  · rw [← hv]
    unfold val
    by_cases e : d' = []
    · rw [if_pos e]
      have h6 : V d = 0 := by rw [← h2, e]; rfl
      rw [h6, e]
      simp [V]
    · rw [if_neg e, h2]
theorem size_l0 (a b : List Int) (ha : Ds a) (hb : Ds b) (hl : a.length = b.length) (hl2 : a.length ≤ 1000000) : ∀ i : Nat, i ≤ a.length → ∃ K, ∀ e, clevisref01_size.l0 (K + e) a b ((i : Int) - 1) = some (sgn (V (a.take i)) (V (b.take i)))
  | 0, _ => ⟨1, fun e => by
    rw [show 1 + e = e + 1 by omega, clevisref01_size.l0, if_neg (by omega)]
    simp [sgn]⟩
  | i + 1, h => by
    obtain ⟨K, hK⟩ := size_l0 a b ha hb hl hl2 i (by omega)
    refine ⟨K + 1, fun e => ?_⟩
    have hx : ((i + 1 : Nat) : Int) - 1 = (i : Int) := by omega
    have hva := V_take_succ a i
    have hvb := V_take_succ b i
    have la := take_lt ha i
    have lb := take_lt hb i
    have na := V_nonneg (ha.take i)
    have nb := V_nonneg (hb.take i)
    have hB := B_pos i
    rw [show K + 1 + e = (K + e) + 1 by omega, clevisref01_size.l0, hx, rd_at, rd_at, if_pos (by omega), if_pos (by omega), if_pos (by omega), if_pos (by omega)]
    have key : ∀ p q : Int, p < q → B i * p + B i ≤ B i * q := fun p q h => by
      have h1 : B i * (p + 1) ≤ B i * q := Int.mul_le_mul_of_nonneg_left (by omega) (by omega)
      rw [Int.mul_add, Int.mul_one] at h1
      exact h1
    rcases Int.lt_trichotomy (a.getD i 0) (b.getD i 0) with q | q | q
    · have k1 := key _ _ q
      rw [if_pos q, hva, hvb]
      unfold sgn
      rw [if_pos (by omega)]
    · rw [if_neg (by omega), if_neg (by omega), w64 (by omega) (by omega), hK e, hva, hvb, q]
      generalize B i * b.getD i 0 = z
      unfold sgn
      congr 1
      (repeat' split)
      all_goals omega
    · have k1 := key _ _ q
      rw [if_neg (by omega), if_pos (by omega), hva, hvb]
      unfold sgn
      rw [if_neg (by omega), if_pos (by omega)]
theorem size_f (a b : List Int) (ha : Ds a) (hb : Ds b) (hta : Top a) (htb : Top b) (hla : a.length ≤ 1000000) (hlb : b.length ≤ 1000000) : ∃ K, ∀ e, clevisref01_size.f (K + e) a b = some (sgn (V a) (V b)) := by
  by_cases hl : a.length = b.length
  · obtain ⟨K, hK⟩ := size_l0 a b ha hb hl hla a.length (Nat.le_refl _)
    refine ⟨K, fun e => ?_⟩
    unfold clevisref01_size.f
    rw [if_pos (by omega), w64 (by omega) (by omega), hK e, List.take_length, hl, List.take_length]
  · refine ⟨0, fun e => ?_⟩
    unfold clevisref01_size.f
    rw [if_neg (by omega)]
    by_cases h : a.length < b.length
    · have h1 : ¬ V b ≤ V a := fun q => by have := len_le hb htb ha q; omega
      rw [if_pos (by omega)]
      unfold sgn
      rw [if_pos (by omega)]
    · have h1 : ¬ V a ≤ V b := fun q => by have := len_le ha hta hb q; omega
      rw [if_neg (by omega)]
      unfold sgn
      rw [if_neg (by omega), if_pos (by omega)]
theorem Compare_f {a b : Int} {na nb : Bool} {da db : List Int} (ha : Nm a na da) (hb : Nm b nb db) : ∃ K, ∀ e, clevisref01_Compare.f (K + e) na da nb db = some (sgn a b) := by
  obtain ⟨K, hK⟩ := size_f da db ha.ds hb.ds ha.top hb.top ha.len hb.len
  have va := ha.val
  have vb := hb.val
  unfold val at va vb
  refine ⟨K, fun e => ?_⟩
  unfold clevisref01_Compare.f
  cases na <;> cases nb
  · rw [if_neg (by simp), hK e, Option.bind_some, if_neg (by simp)]
    simp at va vb
    rw [va, vb]
  · have h1 := ha.pos rfl
    have h2 := hb.zero rfl
    rw [if_pos (by simp), if_neg (by simp)]
    unfold sgn
    rw [if_neg (by omega), if_pos (by omega)]
  · have h1 := hb.pos rfl
    have h2 := ha.zero rfl
    rw [if_pos (by simp), if_pos rfl]
    unfold sgn
    rw [if_pos (by omega)]
  · rw [if_neg (by simp), hK e, Option.bind_some, if_pos rfl]
    simp at va vb
    have e1 : V da = -a := by omega
    have e2 : V db = -b := by omega
    rw [e1, e2]
    have e3 : ∀ x : Int, x = -1 ∨ x = 0 ∨ x = 1 → wrap64 (-x) = -x := fun x h => w64 (by omega) (by omega)
    have e4 : sgn (-a) (-b) = -1 ∨ sgn (-a) (-b) = 0 ∨ sgn (-a) (-b) = 1 := by
      unfold sgn
      (repeat' split)
      all_goals omega
    rw [e3 _ e4]
    unfold sgn
    congr 1
    (repeat' split)
    all_goals omega
theorem Neg_f {a : Int} {na : Bool} {da : List Int} (ha : Nm a na da) : ∃ K n d, (∀ e, clevisref01_Neg.f (K + e) na da = some (n, d)) ∧ Nm (-a) n d ∧ d.length ≤ da.length := by
  have va := ha.val
  unfold val at va
  cases na
  · obtain ⟨K, n, d, h1, h2, h3⟩ := clean_good true da ha.ds ha.len (-a) (by unfold val; simp at va; simp; omega)
    refine ⟨K, n, d, fun e => ?_, h2, h3⟩
    unfold clevisref01_Neg.f
    rw [if_neg (by simp), h1 e]
    rfl
  · obtain ⟨K, n, d, h1, h2, h3⟩ := clean_good false da ha.ds ha.len (-a) (by unfold val; simp at va; simp; omega)
    refine ⟨K, n, d, fun e => ?_, h2, h3⟩
    unfold clevisref01_Neg.f
    rw [if_pos rfl, h1 e]
    rfl
end Go.Proofs.Ytjbcigiffihjaaa.Fc
end
section
namespace Go.Proofs.Ytjbcigiffihjaaa.Fc
set_option linter.unusedSimpArgs false
set_option linter.unusedVariables false
open Go Go.RowKit Go.Proofs.Ytjbcigiffihjaaa.Fx Go.Proofs.YtjbcigiffihjaaaW.PrintWords Go.Proofs.Ytjbcigiffihjaaa.Fv
theorem at_f (d : List Int) (i : Nat) : clevisref01_at.f d (i : Int) = some (d.getD i 0) := by
  unfold clevisref01_at.f
  by_cases h : i < d.length
  · rw [if_pos (by omega), if_pos (by omega), rd_at]
  · rw [if_neg (by omega), List.getD_eq_getElem?_getD, List.getElem?_eq_none (by omega)]
    rfl
end Go.Proofs.Ytjbcigiffihjaaa.Fc
end
section
namespace Go.Proofs.Ytjbcigiffihjaaa.Fc
set_option linter.unusedSimpArgs false
set_option linter.unusedVariables false
open Go Go.RowKit Go.Proofs.Ytjbcigiffihjaaa.Fx Go.Proofs.YtjbcigiffihjaaaW.PrintWords Go.Proofs.Ytjbcigiffihjaaa.Fv
theorem sub_l102 (a b : List Int) (ha : Ds a) (hb : Ds b) (hla : a.length ≤ 900000) (hlb : b.length ≤ a.length) (hle : V b ≤ V a) (na nb no : Bool) : ∀ (n i : Nat) (less : Int) (out : List Int), i + n = a.length → 0 ≤ less → less ≤ 1 → out.length = i → Ds out → V out - B i * less = V (a.take i) - V (b.take i) →
    ∃ K n' d', (∀ e, clevisref01_Add.l102 (K + e) less (i : Int) na a nb b no out = some (n', d')) ∧ Nm (if no = true then -(V a - V b) else V a - V b) n' d' ∧ d'.length ≤ a.length
  | 0, i, less, out, hi, h0, h1, ho, hd, hv => by
    have e1 : a.take i = a := List.take_of_length_le (by omega)
    have e2 : b.take i = b := List.take_of_length_le (by omega)
    rw [e1, e2] at hv
    have hlt := V_lt hd
    rw [ho] at hlt
    have hz : less = 0 := by
      rcases (show less = 0 ∨ less = 1 by omega) with q | q
      · exact q
      · rw [q] at hv; omega
    subst hz
    have hvo : V out = V a - V b := by omega
    obtain ⟨K, n', d', k1, k2, k3⟩ := clean_good no out hd (by omega) _ rfl
    refine ⟨K + 1, n', d', fun e => ?_, ?_, by omega⟩
    · rw [show K + 1 + e = (K + e) + 1 by omega, clevisref01_Add.l102, if_neg (by omega), k1 e]
      rfl
    · unfold val at k2
      rw [hvo] at k2
      exact k2
  | n + 1, i, less, out, hi, h0, h1, ho, hd, hv => by
    have pa := ha.at i
    have pb := hb.at i
    unfold Dg at pa pb
    have va := V_take_succ a i
    have vb := V_take_succ b i
    have hw : wrap64 ((i : Int) + 1) = ((i + 1 : Nat) : Int) := by unfold wrap64; omega
    have hBs := B_succ i
    generalize hp : a.getD i 0 = p at *
    generalize hq : b.getD i 0 = q at *
    have step : ∀ (dig less' : Int), dig - 65536 * less' = p - q - less → B i * dig - B (i + 1) * less' = B i * p - B i * q - B i * less := by
      intro dig less' h
      have h2 : B i * (dig - 65536 * less') = B i * (p - q - less) := by rw [h]
      rw [Int.mul_sub, Int.mul_sub, Int.mul_sub, ← Int.mul_assoc] at h2
      rw [hBs, Int.mul_comm 65536 (B i)]
      exact h2
    by_cases hs : p - q - less < 0
    · have k := sub_l102 a b ha hb hla hlb hle na nb no n (i + 1) 1 (out ++ [p - q - less + 65536]) (by omega) (by omega) (by omega) (by simp [ho]) (hd.snoc ⟨by omega, by omega⟩) (by
        have h3 := step (p - q - less + 65536) 1 (by omega)
        rw [V_snoc, ho]
        omega)
      obtain ⟨K, n', d', k1, k2, k3⟩ := k
      clear va vb hBs hv step
      refine ⟨K + 1, n', d', fun e => ?_, k2, k3⟩
      rw [show K + 1 + e = (K + e) + 1 by omega, clevisref01_Add.l102, if_pos (by omega), at_f, at_f, Option.bind_some, Option.bind_some, hp, hq, w64 (n := p - q) (by omega) (by omega), w64 (n := p - q - less) (by omega) (by omega), if_pos hs, if_pos (by omega), w64 (n := p - q - less + 65536) (by omega) (by omega), hw]
      exact k1 e
    · have k := sub_l102 a b ha hb hla hlb hle na nb no n (i + 1) 0 (out ++ [p - q - less]) (by omega) (by omega) (by omega) (by simp [ho]) (hd.snoc ⟨by omega, by omega⟩) (by
        have h3 := step (p - q - less) 0 (by omega)
        rw [V_snoc, ho]
        omega)
      obtain ⟨K, n', d', k1, k2, k3⟩ := k
      clear va vb hBs hv step
      refine ⟨K + 1, n', d', fun e => ?_, k2, k3⟩
      rw [show K + 1 + e = (K + e) + 1 by omega, clevisref01_Add.l102, if_pos (by omega), at_f, at_f, Option.bind_some, Option.bind_some, hp, hq, w64 (n := p - q) (by omega) (by omega), w64 (n := p - q - less) (by omega) (by omega), if_neg hs, if_pos (by omega), hw]
      exact k1 e
end Go.Proofs.Ytjbcigiffihjaaa.Fc
end
section
namespace Go.Proofs.Ytjbcigiffihjaaa.Fc
set_option linter.unusedSimpArgs false
set_option linter.unusedVariables false
open Go Go.RowKit Go.Proofs.Ytjbcigiffihjaaa.Fx Go.Proofs.YtjbcigiffihjaaaW.PrintWords Go.Proofs.Ytjbcigiffihjaaa.Fv
theorem sub_l1 (a b : List Int) (ha : Ds a) (hb : Ds b) (hla : a.length ≤ 900000) (hlb : b.length ≤ a.length) (hle : V b ≤ V a) (na nb no : Bool) : ∀ (n i : Nat) (less : Int) (out : List Int), i + n = a.length → 0 ≤ less → less ≤ 1 → out.length = i → Ds out → V out - B i * less = V (a.take i) - V (b.take i) →
    ∃ K n' d', (∀ e, clevisref01_Add.l1 (K + e) less (i : Int) na a nb b no out = some (n', d')) ∧ Nm (if no = true then -(V a - V b) else V a - V b) n' d' ∧ d'.length ≤ a.length
  | 0, i, less, out, hi, h0, h1, ho, hd, hv => by
    have e1 : a.take i = a := List.take_of_length_le (by omega)
    have e2 : b.take i = b := List.take_of_length_le (by omega)
    rw [e1, e2] at hv
    have hlt := V_lt hd
    rw [ho] at hlt
    have hz : less = 0 := by
      rcases (show less = 0 ∨ less = 1 by omega) with q | q
      · exact q
      · rw [q] at hv; omega
    subst hz
    have hvo : V out = V a - V b := by omega
    obtain ⟨K, n', d', k1, k2, k3⟩ := clean_good no out hd (by omega) _ rfl
    refine ⟨K + 1, n', d', fun e => ?_, ?_, by omega⟩
    · rw [show K + 1 + e = (K + e) + 1 by omega, clevisref01_Add.l1, if_neg (by omega), k1 e]
      rfl
    · unfold val at k2
      rw [hvo] at k2
      exact k2
  | n + 1, i, less, out, hi, h0, h1, ho, hd, hv => by
    have pa := ha.at i
    have pb := hb.at i
    unfold Dg at pa pb
    have va := V_take_succ a i
    have vb := V_take_succ b i
    have hw : wrap64 ((i : Int) + 1) = ((i + 1 : Nat) : Int) := by unfold wrap64; omega
    have hBs := B_succ i
    generalize hp : a.getD i 0 = p at *
    generalize hq : b.getD i 0 = q at *
    have step : ∀ (dig less' : Int), dig - 65536 * less' = p - q - less → B i * dig - B (i + 1) * less' = B i * p - B i * q - B i * less := by
      intro dig less' h
      have h2 : B i * (dig - 65536 * less') = B i * (p - q - less) := by rw [h]
      rw [Int.mul_sub, Int.mul_sub, Int.mul_sub, ← Int.mul_assoc] at h2
      rw [hBs, Int.mul_comm 65536 (B i)]
      exact h2
    by_cases hs : p - q - less < 0
    · have k := sub_l1 a b ha hb hla hlb hle na nb no n (i + 1) 1 (out ++ [p - q - less + 65536]) (by omega) (by omega) (by omega) (by simp [ho]) (hd.snoc ⟨by omega, by omega⟩) (by
        have h3 := step (p - q - less + 65536) 1 (by omega)
        rw [V_snoc, ho]
        omega)
      obtain ⟨K, n', d', k1, k2, k3⟩ := k
      clear va vb hBs hv step
      refine ⟨K + 1, n', d', fun e => ?_, k2, k3⟩
      rw [show K + 1 + e = (K + e) + 1 by omega, clevisref01_Add.l1, if_pos (by omega), at_f, at_f, Option.bind_some, Option.bind_some, hp, hq, w64 (n := p - q) (by omega) (by omega), w64 (n := p - q - less) (by omega) (by omega), if_pos hs, if_pos (by omega), w64 (n := p - q - less + 65536) (by omega) (by omega), hw]
      exact k1 e
    · have k := sub_l1 a b ha hb hla hlb hle na nb no n (i + 1) 0 (out ++ [p - q - less]) (by omega) (by omega) (by omega) (by simp [ho]) (hd.snoc ⟨by omega, by omega⟩) (by
        have h3 := step (p - q - less) 0 (by omega)
        rw [V_snoc, ho]
        omega)
      obtain ⟨K, n', d', k1, k2, k3⟩ := k
      clear va vb hBs hv step
      refine ⟨K + 1, n', d', fun e => ?_, k2, k3⟩
      rw [show K + 1 + e = (K + e) + 1 by omega, clevisref01_Add.l1, if_pos (by omega), at_f, at_f, Option.bind_some, Option.bind_some, hp, hq, w64 (n := p - q) (by omega) (by omega), w64 (n := p - q - less) (by omega) (by omega), if_neg hs, if_pos (by omega), hw]
      exact k1 e
end Go.Proofs.Ytjbcigiffihjaaa.Fc
end
section
namespace Go.Proofs.Ytjbcigiffihjaaa.Fc
set_option linter.unusedSimpArgs false
set_option linter.unusedVariables false
open Go Go.RowKit Go.Proofs.Ytjbcigiffihjaaa.Fx Go.Proofs.YtjbcigiffihjaaaW.PrintWords Go.Proofs.Ytjbcigiffihjaaa.Fv
theorem add_l0 (a b : List Int) (ha : Ds a) (hb : Ds b) (hla : a.length ≤ 900000) (hlb : b.length ≤ 900000) (na nb no : Bool) : ∀ (n i : Nat) (more : Int) (out : List Int), i + n = max a.length b.length → 0 ≤ more → more ≤ 1 → out.length = i → Ds out → V out + B i * more = V (a.take i) + V (b.take i) →
    ∃ K n' d', (∀ e, clevisref01_Add.l0 (K + e) more (i : Int) na a nb b no out = some (n', d')) ∧ Nm (if no = true then -(V a + V b) else V a + V b) n' d' ∧ d'.length ≤ max a.length b.length + 1
  | 0, i, more, out, hi, h0, h1, ho, hd, hv => by
    have e1 : a.take i = a := List.take_of_length_le (by omega)
    have e2 : b.take i = b := List.take_of_length_le (by omega)
    rw [e1, e2] at hv
    have hvo : V (out ++ [more]) = V a + V b := by rw [V_snoc, ho]; exact hv
    have hlo : (out ++ [more]).length = i + 1 := by simp [ho]
    obtain ⟨K, n', d', k1, k2, k3⟩ := clean_good no (out ++ [more]) (hd.snoc ⟨h0, by omega⟩) (by omega) _ rfl
    refine ⟨K + 2, n', d', fun e => ?_, ?_, by omega⟩
    · rw [show K + 2 + e = (K + e + 1) + 1 by omega, clevisref01_Add.l0, if_neg (by omega), decide_eq_false (by omega), clevisref01_Add.j1, if_neg (by simp), if_pos (by omega), k1 e]
      rfl
    · unfold val at k2
      rw [hvo] at k2
      exact k2
  | n + 1, i, more, out, hi, h0, h1, ho, hd, hv => by
    have pa := ha.at i
    have pb := hb.at i
    unfold Dg at pa pb
    have va := V_take_succ a i
    have vb := V_take_succ b i
    have hw : wrap64 ((i : Int) + 1) = ((i + 1 : Nat) : Int) := by unfold wrap64; omega
    have hBs := B_succ i
    generalize hp : a.getD i 0 = p at *
    generalize hq : b.getD i 0 = q at *
    have step : ∀ (dig more' : Int), dig + 65536 * more' = p + q + more → B i * dig + B (i + 1) * more' = B i * p + B i * q + B i * more := by
      intro dig more' h
      have h2 : B i * (dig + 65536 * more') = B i * (p + q + more) := by rw [h]
      rw [Int.mul_add, Int.mul_add, Int.mul_add, ← Int.mul_assoc] at h2
      rw [hBs, Int.mul_comm 65536 (B i)]
      exact h2
    have hs : 0 ≤ p + q + more := by omega
    have k := add_l0 a b ha hb hla hlb na nb no n (i + 1) ((p + q + more) / 65536) (out ++ [(p + q + more) % 65536]) (by omega) (by omega) (by omega) (by simp [ho]) (hd.snoc ⟨by omega, by omega⟩) (by
      have h3 := step ((p + q + more) % 65536) ((p + q + more) / 65536) (by omega)
      rw [V_snoc, ho]
      omega)
    obtain ⟨K, n', d', k1, k2, k3⟩ := k
    clear va vb hBs hv step
    refine ⟨K + 2, n', d', fun e => ?_, k2, k3⟩
    have hj : clevisref01_Add.j1 (K + e + 1) more (i : Int) true na a nb b no out = some (n', d') := by
      rw [clevisref01_Add.j1, if_pos rfl, at_f, at_f, Option.bind_some, Option.bind_some, hp, hq, w64 (n := p + q) (by omega) (by omega), w64 (n := p + q + more) (by omega) (by omega), if_pos (by omega), Int.tdiv_eq_ediv_of_nonneg hs, Int.tmod_eq_emod_of_nonneg hs, w64 (n := (p + q + more) / 65536) (by omega) (by omega), hw]
      exact k1 e
    rw [show K + 2 + e = (K + e + 1) + 1 by omega, clevisref01_Add.l0]
    by_cases h : (i : Int) < (a.length : Int)
    · rw [if_pos h, hj]
    · rw [if_neg h, decide_eq_true (by omega), hj]
end Go.Proofs.Ytjbcigiffihjaaa.Fc
end
section
namespace Go.Proofs.Ytjbcigiffihjaaa.Fc
set_option linter.unusedSimpArgs false
set_option linter.unusedVariables false
open Go Go.RowKit Go.Proofs.Ytjbcigiffihjaaa.Fx Go.Proofs.YtjbcigiffihjaaaW.PrintWords Go.Proofs.Ytjbcigiffihjaaa.Fv
theorem Add_f {x y : Int} {na nb : Bool} {a b : List Int} (ha : Nm x na a) (hb : Nm y nb b) (hla : a.length ≤ 900000) (hlb : b.length ≤ 900000) : ∃ K n d, (∀ e, clevisref01_Add.f (K + e) na a nb b = some (n, d)) ∧ Nm (x + y) n d ∧ d.length ≤ max a.length b.length + 1 := by
  have vx := ha.val
  have vy := hb.val
  unfold val at vx vy
  have hba := V_nonneg ha.ds
  have hbb := V_nonneg hb.ds
  by_cases hs : na = nb
  · subst hs
    obtain ⟨K, n, d, k1, k2, k3⟩ := add_l0 a b ha.ds hb.ds hla hlb na na na (max a.length b.length) 0 0 [] (by omega) (by omega) (by omega) rfl Ds.nil (by simp [V])
    refine ⟨K, n, d, fun e => ?_, ?_, k3⟩
    · unfold clevisref01_Add.f
      rw [if_pos (by simp)]
      exact k1 e
    · have : (if na = true then -(V a + V b) else V a + V b) = x + y := by
        cases na <;> simp at vx vy ⊢ <;> omega
      rw [this] at k2
      exact k2
  · have hne : ¬ (na == nb) = true := by simpa using hs
    obtain ⟨K0, hK0⟩ := size_f a b ha.ds hb.ds ha.top hb.top (by omega) (by omega)
    by_cases hlt : V a < V b
    · have hll : a.length ≤ b.length := len_le ha.ds ha.top hb.ds (by omega)
      obtain ⟨K, n, d, k1, k2, k3⟩ := sub_l1 b a hb.ds ha.ds hlb hll (by omega) nb na nb b.length 0 0 [] (by omega) (by omega) (by omega) rfl Ds.nil (by simp [V])
      refine ⟨K0 + K, n, d, fun e => ?_, ?_, by omega⟩
      · unfold clevisref01_Add.f
        rw [if_neg hne, show K0 + K + e = K0 + (K + e) by omega, hK0, Option.bind_some, if_pos (by unfold sgn; rw [if_pos hlt]; decide), show K0 + (K + e) = K + (K0 + e) by omega]
        exact k1 (K0 + e)
      · have : (if nb = true then -(V b - V a) else V b - V a) = x + y := by
          cases na <;> cases nb <;> simp at vx vy hs ⊢ <;> omega
        rw [this] at k2
        exact k2
    · have hll : b.length ≤ a.length := len_le hb.ds hb.top ha.ds (by omega)
      obtain ⟨K, n, d, k1, k2, k3⟩ := sub_l102 a b ha.ds hb.ds hla hll (by omega) na nb na a.length 0 0 [] (by omega) (by omega) (by omega) rfl Ds.nil (by simp [V])
      refine ⟨K0 + K, n, d, fun e => ?_, ?_, by omega⟩
      · unfold clevisref01_Add.f
        rw [if_neg hne, show K0 + K + e = K0 + (K + e) by omega, hK0, Option.bind_some, if_neg (by unfold sgn; rw [if_neg hlt]; split <;> decide), show K0 + (K + e) = K + (K0 + e) by omega]
        exact k1 (K0 + e)
      · have : (if na = true then -(V a - V b) else V a - V b) = x + y := by
          cases na <;> cases nb <;> simp at vx vy hs ⊢ <;> omega
        rw [this] at k2
        exact k2
end Go.Proofs.Ytjbcigiffihjaaa.Fc
end
section
namespace Go.Proofs.Ytjbcigiffihjaaa.Fc
set_option linter.unusedSimpArgs false
set_option linter.unusedVariables false
open Go Go.RowKit Go.Proofs.Ytjbcigiffihjaaa.Fx Go.Proofs.YtjbcigiffihjaaaW.PrintWords Go.Proofs.Ytjbcigiffihjaaa.Fv
theorem V_set (d : List Int) (i : Nat) (x : Int) (h : i < d.length) : V (d.set i x) = V d + B i * (x - d.getD i 0) := by
  have h1 : d = d.take i ++ d.getD i 0 :: d.drop (i + 1) := by
    rw [List.getD_eq_getElem?_getD, List.getElem?_eq_getElem h, Option.getD_some, ← List.drop_eq_getElem_cons h, List.take_append_drop]
  have h2 : d.set i x = d.take i ++ x :: d.drop (i + 1) := by rw [List.set_eq_take_append_cons_drop, if_pos h]
  have h3 : V d = V (d.take i ++ d.getD i 0 :: d.drop (i + 1)) := by rw [← h1]
  rw [h2, h3, V_append, V_append, List.length_take, Nat.min_eq_left (by omega)]
  simp only [V]
  rw [Int.mul_add, Int.mul_add, Int.mul_sub]
  omega
theorem Ds.set {d : List Int} (h : Ds d) (i : Nat) {x : Int} (hx : Dg x) : Ds (d.set i x) := fun y hy => by
  rcases List.mem_or_eq_of_mem_set hy with q | q
  · exact h y q
  · rw [q]; exact hx
section
variable (a b : List Int) (ha : Ds a) (hb : Ds b) (hla : a.length ≤ 400000) (hlb : b.length ≤ 400000) (na nb no : Bool) (P : Bool × List Int → Prop)
include ha hb hla hlb
end
end Go.Proofs.Ytjbcigiffihjaaa.Fc
end
section
namespace Go.Proofs.Ytjbcigiffihjaaa.Fc
set_option linter.unusedSimpArgs false
set_option linter.unusedVariables false
open Go Go.RowKit Go.Proofs.Ytjbcigiffihjaaa.Fx Go.Proofs.YtjbcigiffihjaaaW.PrintWords Go.Proofs.Ytjbcigiffihjaaa.Fv
theorem V_zeros : ∀ n, V (List.replicate n 0) = 0
  | 0 => rfl
  | n + 1 => by rw [List.replicate_succ]; simp only [V]; rw [V_zeros n]; omega
end Go.Proofs.Ytjbcigiffihjaaa.Fc
end
section
namespace Go.Proofs.Ytjbcigiffihjaaa.Fx
open Go.RowKit Go.Proofs.YtjbcigiffihjaaaW.PrintWords Go.Proofs.YtjbcigiffihjaaaW.PrintLast Go.Proofs.YtjbcigiffihjaaaW.PrintMore
attribute [local go_sem] max2_int min2_int max_two min_two max_three min_three max_four min_four   -- for this text's walks alone
set_option linter.unusedVariables false
set_option linter.unusedSimpArgs false
attribute [local go_sem] run_add64_any
def clevisref01_power.f (k : Nat) (a0 : Int) (a1 : Int) : Option (Bool × List Int) := if 0 ≤ (wrap64 ((wrap64 (Int.tdiv a0 16)) + 1)) then (if (wrap64 ((wrap64 (Int.tdiv a0 16)) + 1) : Int).toNat ≤ 35184372088832 then ((some (List.replicate (wrap64 ((wrap64 (Int.tdiv a0 16)) + 1) : Int).toNat 0 : List Int)).bind fun y397 => (if 0 ≤ (Int.tmod a0 16) then (if 0 ≤ (wrap64 (Int.tdiv a0 16)) then (if (wrap64 (Int.tdiv a0 16)) < (y397.length : Int) then ((clevisref01_Small.f k (wrap64 (-a1))).bind fun bt401 => ((clevisref01_Add.f k false (y397.set ((wrap64 (Int.tdiv a0 16)) : Int).toNat (shl .i64 1 (Int.tmod a0 16))) bt401.1 bt401.2).bind fun bt405 => (some (bt405.1, bt405.2)))) else (none)) else (none)) else (none))) else (none)) else (none)
set_option maxHeartbeats 8000000 in
set_option maxRecDepth 100000 in
theorem clevisref01_power.calls (k : Nat) (a0 : Int) (a1 : Int) (r1 : Bool) (r2 : List Int) (w : World) (h : clevisref01_power.f k a0 a1 = some (r1, r2)) :
    Calls Try.prog 61 #[.int .i64 a0, .int .i64 a1] w fun e w' => ∃ v1_ : Value, e = .returned (.agg #[.bool r1, v1_]) ∧ Kd.V (Kd.int .i64) 3 w' w.heap.size (fun k_ => (w.heap.size ≤ k_)) v1_ r2 ∧ Below w.heap.size w w' := by
  have hu32 := Try.underlying32
  have HB := Aside0.mk (Below.refl w.heap.size w)
  have H : (if 0 ≤ (wrap64 ((wrap64 (Int.tdiv a0 16)) + 1)) then (if (wrap64 ((wrap64 (Int.tdiv a0 16)) + 1) : Int).toNat ≤ 35184372088832 then ((some (List.replicate (wrap64 ((wrap64 (Int.tdiv a0 16)) + 1) : Int).toNat 0 : List Int)).bind fun y397 => (if 0 ≤ (Int.tmod a0 16) then (if 0 ≤ (wrap64 (Int.tdiv a0 16)) then (if (wrap64 (Int.tdiv a0 16)) < (y397.length : Int) then ((clevisref01_Small.f k (wrap64 (-a1))).bind fun bt401 => ((clevisref01_Add.f k false (y397.set ((wrap64 (Int.tdiv a0 16)) : Int).toNat (shl .i64 1 (Int.tmod a0 16))) bt401.1 bt401.2).bind fun bt405 => (some (bt405.1, bt405.2)))) else (none)) else (none)) else (none))) else (none)) else (none)) = some (r1, r2) := h
  clear h
  obtain ⟨ji3, hji3⟩ : ∃ j_ : Int, (wrap64 ((wrap64 (Int.tdiv a0 16)) + 1)) = j_ := ⟨_, rfl⟩
  replace H : (if 0 ≤ (ji3) then (if (ji3 : Int).toNat ≤ 35184372088832 then ((some (List.replicate (ji3 : Int).toNat 0 : List Int)).bind fun y397 => (if 0 ≤ (Int.tmod a0 16) then (if 0 ≤ (wrap64 (Int.tdiv a0 16)) then (if (wrap64 (Int.tdiv a0 16)) < (y397.length : Int) then ((clevisref01_Small.f k (wrap64 (-a1))).bind fun bt401 => ((clevisref01_Add.f k false (y397.set ((wrap64 (Int.tdiv a0 16)) : Int).toNat (shl .i64 1 (Int.tmod a0 16))) bt401.1 bt401.2).bind fun bt405 => (some (bt405.1, bt405.2)))) else (none)) else (none)) else (none))) else (none)) else (none)) = some (r1, r2) := by first | (rw [hji3] at H; exact H) | (simp only [hji3] at H ⊢; exact H)
  have hji3w : (IntKind.i64.wrap ((wrap64 (Int.tdiv a0 16)) + 1)) = ji3 := (i64_w _).trans hji3
  by_cases c4 : 0 ≤ (ji3)
  · rw [if_pos c4] at H
    have c4b0 := eq_true c4
    have c4b1 : decide (0 ≤ (ji3)) = true := decide_eq_true c4
    clear c4
    by_cases c5 : (ji3 : Int).toNat ≤ 35184372088832
    · rw [if_pos c5] at H
      have c5b0 := eq_true c5
      have c5b1 : decide ((ji3 : Int).toNat ≤ 35184372088832) = true := decide_eq_true c5
      clear c5
      obtain ⟨y397, hy397⟩ : ∃ y_ : List Int, y_ = (List.replicate (ji3 : Int).toNat 0) := ⟨_, rfl⟩
      replace H : (if 0 ≤ (Int.tmod a0 16) then (if 0 ≤ (wrap64 (Int.tdiv a0 16)) then (if (wrap64 (Int.tdiv a0 16)) < (y397.length : Int) then ((clevisref01_Small.f k (wrap64 (-a1))).bind fun bt401 => ((clevisref01_Add.f k false (y397.set ((wrap64 (Int.tdiv a0 16)) : Int).toNat (shl .i64 1 (Int.tmod a0 16))) bt401.1 bt401.2).bind fun bt405 => (some (bt405.1, bt405.2)))) else (none)) else (none)) else (none)) = some (r1, r2) := by first | (rw [hy397]; with_reducible exact H) | (have H2_ := (Option.bind_some _ _).symm.trans H; rw [hy397]; with_reducible exact H2_) | (have H2_ := (Option.bind_some _ _).symm.trans H; with_reducible exact H2_) | with_reducible exact H | (rw [hy397]; exact H) | exact H
      have Ny397 := Aside0.mk hy397
      clear hy397
      obtain ⟨ji6, hji6⟩ : ∃ j_ : Int, (Int.tmod a0 16) = j_ := ⟨_, rfl⟩
      replace H : (if 0 ≤ (ji6) then (if 0 ≤ (wrap64 (Int.tdiv a0 16)) then (if (wrap64 (Int.tdiv a0 16)) < (y397.length : Int) then ((clevisref01_Small.f k (wrap64 (-a1))).bind fun bt401 => ((clevisref01_Add.f k false (y397.set ((wrap64 (Int.tdiv a0 16)) : Int).toNat (shl .i64 1 (ji6))) bt401.1 bt401.2).bind fun bt405 => (some (bt405.1, bt405.2)))) else (none)) else (none)) else (none)) = some (r1, r2) := by first | (rw [hji6] at H; exact H) | (simp only [hji6] at H ⊢; exact H)
      by_cases c7 : 0 ≤ (ji6)
      · rw [if_pos c7] at H
        have c7b0 := eq_true c7
        have c7b1 : decide (0 ≤ (ji6)) = true := decide_eq_true c7
        clear c7
        obtain ⟨ji8, hji8⟩ : ∃ j_ : Int, (shl .i64 1 (ji6)) = j_ := ⟨_, rfl⟩
        replace H : (if 0 ≤ (wrap64 (Int.tdiv a0 16)) then (if (wrap64 (Int.tdiv a0 16)) < (y397.length : Int) then ((clevisref01_Small.f k (wrap64 (-a1))).bind fun bt401 => ((clevisref01_Add.f k false (y397.set ((wrap64 (Int.tdiv a0 16)) : Int).toNat (ji8)) bt401.1 bt401.2).bind fun bt405 => (some (bt405.1, bt405.2)))) else (none)) else (none)) = some (r1, r2) := by first | (rw [hji8] at H; exact H) | (simp only [hji8] at H ⊢; exact H)
        have hji8_ : (IntKind.i64.wrap (1 * 2 ^ min (ji6).toNat 64)) = ji8 := hji8
        have hji8z : (ji6) ≤ 64 → (IntKind.i64.wrap (1 * 2 ^ (ji6).toNat)) = ji8 := shl_small hji8
        have hji8u : (IntKind.i64.wrap (2 ^ min (ji6).toNat 64)) = ji8 := by have h_ := hji8_; rw [Int.one_mul] at h_; exact h_
        have hji8v : (ji6) ≤ 64 → (IntKind.i64.wrap (2 ^ (ji6).toNat)) = ji8 := fun hle_ => by have h_ := hji8z hle_; rw [Int.one_mul] at h_; exact h_
        have hji8y : (wrap64 (1 * 2 ^ min (ji6).toNat 64)) = ji8 := (i64_w _).symm.trans hji8_
        have hji8x : (ji6) ≤ 64 → (wrap64 (1 * 2 ^ (ji6).toNat)) = ji8 := fun h_ => (i64_w _).symm.trans (hji8z h_)
        obtain ⟨ji9, hji9⟩ : ∃ j_ : Int, (wrap64 (Int.tdiv a0 16)) = j_ := ⟨_, rfl⟩
        replace H : (if 0 ≤ (ji9) then (if (ji9) < (y397.length : Int) then ((clevisref01_Small.f k (wrap64 (-a1))).bind fun bt401 => ((clevisref01_Add.f k false (y397.set ((ji9) : Int).toNat (ji8)) bt401.1 bt401.2).bind fun bt405 => (some (bt405.1, bt405.2)))) else (none)) else (none)) = some (r1, r2) := by first | (rw [hji9] at H; exact H) | (simp only [hji9] at H ⊢; exact H)
        (try (have hji3_ji9 : (wrap64 (ji9 + 1)) = ji3 := by rw [← hji9]; exact hji3))
        (try (have hji3_ji9w : (IntKind.i64.wrap (ji9 + 1)) = ji3 := (i64_w _).trans hji3_ji9))
        have hji9w : (IntKind.i64.wrap (Int.tdiv a0 16)) = ji9 := (i64_w _).trans hji9
        by_cases c10 : 0 ≤ (ji9)
        · rw [if_pos c10] at H
          have c10b0 : decide (0 ≤ (ji9)) = true := decide_eq_true c10
          clear c10
          by_cases c11 : (ji9) < (y397.length : Int)
          · rw [if_pos c11] at H
            have c11b0 : decide ((ji9) < (y397.length : Int)) = true := decide_eq_true c11
            clear c11
            obtain ⟨y400, hy400⟩ : ∃ y_ : List Int, y_ = (y397.set ((ji9) : Int).toNat (ji8)) := ⟨_, rfl⟩
            replace H : ((clevisref01_Small.f k (wrap64 (-a1))).bind fun bt401 => ((clevisref01_Add.f k false y400 bt401.1 bt401.2).bind fun bt405 => (some (bt405.1, bt405.2)))) = some (r1, r2) := by first | (rw [hy400]; with_reducible exact H) | (have H2_ := (Option.bind_some _ _).symm.trans H; rw [hy400]; with_reducible exact H2_) | (have H2_ := (Option.bind_some _ _).symm.trans H; with_reducible exact H2_) | with_reducible exact H | (rw [hy400]; exact H) | exact H
            have Ny400 := Aside0.mk hy400
            clear hy400
            replace H := Option.bind_eq_some_iff.mp H
            obtain ⟨⟨t401, t402⟩, A130, H⟩ := H
            replace H : ((clevisref01_Add.f k false y400 t401 t402).bind fun bt405 => (some (bt405.1, bt405.2))) = some (r1, r2) := H
            have A13 := Aside0.mk A130
            clear A130
            replace H := Option.bind_eq_some_iff.mp H
            obtain ⟨⟨t405, t406⟩, A140, H⟩ := H
            replace H : (some (t405, t406)) = some (r1, r2) := H
            have A14 := Aside0.mk A140
            clear A140
            simp only [Option.some.injEq, Prod.mk.injEq] at H
            obtain ⟨rfl, rfl⟩ := H
            go_enter Try.func61, Try.ntmps61
            go_wp2_with (first | ((with_reducible refine gate_dst (N := 4) rfl ?_); refine box_event ?hg (N := 4) ?hd (cs := #[.bool false, .slice none 0 0]) (t := 32) ?hr ?_; (case hd => rfl); (case hg => rfl); (case hr => first | (go_simp; done) | (go_simp; rfl)); intro gb304 hg w15 hbox hb; have n0_ := Aside0.mk (below_step (by repeat (first | (with_reducible first | exact HB.out | apply below_alloc | apply pw_below_drewN | apply below_drew1) | exact HB.out)) hb); have n1_ := Aside0.mk (hbox); have n2_ := Aside0.mk ((by rw [hg]; exact (below_size (by repeat (first | (with_reducible first | exact HB.out | apply below_alloc | apply pw_below_drewN | apply below_drew1) | exact HB.out))) : w.heap.size ≤ gb304)); have n3_ := Aside0.mk ((by rw [hg]; exact (below_size (by repeat (first | (with_reducible first | exact HB.out | apply below_alloc | apply pw_below_drewN | apply below_drew1) | exact HB.out))) : w.heap.size ≤ gb304)); clear HB; have HB := n0_; have BK304 := n1_; have GW304 := n2_; have GE304 := n3_; clear n0_ n1_ n2_ n3_; clear hb hbox hg) | ((with_reducible refine gate_dst (N := 9) rfl ?_); refine Kd.R_make (Kd.int .i64) _ 3 rfl (N := 9) rfl 30 _ _ rfl ji3 rfl rfl Try.underlying30 (.int .i64 0) 8 info3 rfl (by decide) (by omega) 0 (ok := fun _ => True) (okp := fun _ => True) rfl (fun _ hk => hk) trivial (of_decide_eq_true (by first | (with_reducible assumption) | assumption)) (Nat.le_trans (Nat.mul_le_mul_right _ (of_decide_eq_true (by first | (with_reducible assumption) | assumption) : ji3.toNat ≤ 35184372088832)) (by omega)) (Below.refl _ _) (Nat.le_refl _) ?_; intro v398 w16 ho17 hb hg_ hnew_; clear hg_ hnew_; (first | rw [← Ny397.out] at ho17 | (simp only [Int.reduceToNat] at ho17; rw [← Ny397.out] at ho17)); have n0_ := Aside0.mk (Kd.R_lower (Kd.R_newM (M := fun k_ => (w.heap.size ≤ k_)) ho17 (below_size (by repeat (first | (with_reducible first | exact HB.out | apply below_alloc | apply pw_below_drewN | apply below_drew1 | refine below_set ?_ GE304.out) | exact HB.out))) (fun k_ h_ => h_)) (below_size (by repeat (first | (with_reducible first | exact HB.out | apply below_alloc | apply pw_below_drewN | apply below_drew1 | refine below_set ?_ GE304.out) | exact HB.out)))); have n1_ := Aside0.mk (blk_below (g := gb304) (o := .cells #[.bool false, .slice none 0 0] 32 (0, 0)) (by (with_reducible repeat (first | refine blk_drewN ?_ _ | refine blk_drew ?_ | refine blk_alloc ?_ _)); exact BK304.out) hb); have n2_ := Aside0.mk (below_step (by repeat (first | (with_reducible first | exact HB.out | apply below_alloc | apply pw_below_drewN | apply below_drew1 | refine below_set ?_ GE304.out) | exact HB.out)) hb); clear BK304; clear HB; have HO399 := n0_; have BK304 := n1_; have HB := n2_; clear n0_ n1_ n2_; clear hb ho17; have p12 : 0 ≤ ((ji9) : Int) := of_decide_eq_true (by first | (with_reducible assumption) | assumption); have q12 : ((ji9) : Int) < ((y397.length : Int) : Int) := of_decide_eq_true (by first | (with_reducible assumption) | assumption); obtain ⟨go12, co12, eo12, gb12, gl12, cl12, HG12⟩ := Kd.R_form HO399.out (by omega); (first | cases eo12 | (injection eo12 with ea_ en_ ec_; (first | subst ea_ | (injection ea_ with ea_; subst ea_)); subst ec_; clear en_)); have GB12 := Aside0.mk gb12; have GG12 := Aside0.mk HG12; clear gb12 gl12 HG12; obtain ⟨hx12_0, hf12_0⟩ := Kd.R_celln 0 HO399.out ((ji9) : Int) p12 q12; replace p12 := eq_true p12; replace q12 := eq_true q12; have n_ := Aside0.mk (Kd.R_mono (ok' := (fun k_ => (w.heap.size ≤ k_))) HO399.out (fun k_ hk => hk.1)); clear HO399; have HO399 := n_; clear n_; obtain ⟨hy18_, hz18_⟩ := Kd.R_celln 0 HO399.out ((ji9) : Int) (of_decide_eq_true (by first | (with_reducible assumption) | assumption)) (of_decide_eq_true (by first | (with_reducible assumption) | assumption)); have HP18 := Kd.R_putg HO399.out ((ji9) : Int) ji8) | ((with_reducible refine gate_store (t := 3) (p := 16) rfl ?_); (first | (refine store_event (t := 3) (p := 16) (v := ?vo_w19) (w1 := (w16.setCell ⟨go12, ((ji9) : Int).toNat, none⟩ (.int .i64 ji8))) ?hg ?ho ?hn ?hr ?_; (case ho => rfl); (case hg => rfl); (case hn => rfl); (case hr => first | (go_simp; done) | (go_simp; rfl)); intro w19 hw) | (refine store_event (t := 3) (p := 16) (v := ?vo_w19) (w1 := ((w16.drewN ?ndq_w19).setCell ⟨go12, ((ji9) : Int).toNat, none⟩ (.int .i64 ji8))) ?hg ?ho ?hn ?hr ?_; (case ho => rfl); (case hg => rfl); (case hn => rfl); (case hr => first | (go_simp; done) | (go_simp; rfl)); intro w19 hw; rw [sd_eq] at hw)); have hg : w16.grownBy w19 (some go12) := (by rw [hw]; first | (with_reducible exact HP18.2) | (exact grown_dn (HP18.2) _) | (exact pw_below_drewN (HP18.2) _) | (exact Kd.R_drewN (HP18.2) _) | exact HP18.2); have hp_ : Kd.R (Kd.int .i64) 3 w19 w.heap.size (fun k_ => (w.heap.size ≤ k_)) (.slice (some ⟨go12, 0, none⟩) y397.length co12) y400 := (by rw [hw, Ny400.out]; first | (with_reducible exact HP18.1) | (exact grown_dn (HP18.1) _) | (exact pw_below_drewN (HP18.1) _) | (exact Kd.R_drewN (HP18.1) _) | exact HP18.1); clear HP18; have n0_ := Aside0.mk (blk_grown (g := gb304) (o := .cells #[.bool false, .slice none 0 0] 32 (0, 0)) (by (with_reducible repeat (first | refine blk_drewN ?_ _ | refine blk_drew ?_ | refine blk_alloc ?_ _)); exact BK304.out) hg (Kd.R_ne HO399.out BK304.out (by decide))); have n1_ := Aside0.mk (hp_); have n2_ := Aside0.mk ((by rw [hw]; first | (with_reducible exact below_set (HB.out) GB12.out) | (exact grown_dn (below_set (HB.out) GB12.out) _) | (exact pw_below_drewN (below_set (HB.out) GB12.out) _) | (exact Kd.R_drewN (below_set (HB.out) GB12.out) _) | exact below_set (HB.out) GB12.out : Below w.heap.size w w19)); clear BK304; clear HO399; clear HB; have BK304 := n0_; have HO399 := n1_; have HB := n2_; clear n0_ n1_ n2_; clear hg hw hp_) | ((with_reducible refine gate_callee (f := 41) rfl ?_); refine goesL_ (some 21) rfl rfl Try.func41 (by kernel_rfl) rfl #[.int .i64 (wrap64 (-a1))] rfl (by (try simp only [List.map_toArray, List.map_cons, List.map_nil]); first | done | rfl | (simp only [List.length_drop, List.length_take]; rfl)) ?_; (with_reducible refine (clevisref01_Small.calls k (wrap64 (-a1)) t401 t402 _ A13.out).mono ?_); rintro e w20 ⟨v403, rfl, ho0, hb⟩; refine ⟨_, rfl, ?_⟩; have n0_ := Aside0.mk (Kd.R_below (by (with_reducible repeat (first | apply Kd.R_alloc | apply Kd.R_drewN | apply Kd.R_drew)); exact HO399.out) hb); have n1_ := Aside0.mk (Kd.V_lower (Kd.V_mono (ok' := fun k_ => (w.heap.size ≤ k_) ∧ some k_ ≠ (.slice (some ⟨go12, 0, none⟩) y397.length co12 : Value).ownBlock ∧ k_ ≠ gb304) ho0 (fun k_ hk_ => ⟨(Nat.le_trans (below_size (by repeat (first | (with_reducible first | exact HB.out | apply below_alloc | apply pw_below_drewN | apply below_drew1 | refine below_set ?_ GE304.out) | exact HB.out))) hk_), (Kd.fresh' (Kd.R_lt (by (with_reducible repeat (first | apply Kd.R_alloc | apply Kd.R_drewN | apply Kd.R_drew)); exact HO399.out)) k_ hk_), (Kd.freshB (g := gb304) (o := .cells #[.bool false, .slice none 0 0] 32 (0, 0)) (by (with_reducible repeat (first | refine blk_drewN ?_ _ | refine blk_drew ?_ | refine blk_alloc ?_ _)); exact BK304.out) k_ hk_)⟩)) (below_size (by repeat (first | (with_reducible first | exact HB.out | apply below_alloc | apply pw_below_drewN | apply below_drew1 | refine below_set ?_ GE304.out) | exact HB.out)))); have n2_ := Aside0.mk (blk_below (g := gb304) (o := .cells #[.bool false, .slice none 0 0] 32 (0, 0)) (by (with_reducible repeat (first | refine blk_drewN ?_ _ | refine blk_drew ?_ | refine blk_alloc ?_ _)); exact BK304.out) hb); have n3_ := Aside0.mk (below_step (by repeat (first | (with_reducible first | exact HB.out | apply below_alloc | apply pw_below_drewN | apply below_drew1 | refine below_set ?_ GE304.out) | exact HB.out)) hb); clear HO399; clear BK304; clear HB; have HO399 := n0_; have HO404 := n1_; have BK304 := n2_; have HB := n3_; clear n0_ n1_ n2_ n3_; (try clear hb); (try clear hb2); (try clear hk); (try clear hi); (try clear ho0); obtain ⟨Ao21, co21, eo21⟩ := Kd.V_slice HO404.out; subst eo21) | ((with_reducible refine gate_callee (f := 21) rfl ?_); refine goesL_ (some 22) rfl rfl Try.func21 (by kernel_rfl) rfl #[.agg #[.bool false, .slice (some ⟨go12, 0, none⟩) y400.length co12], .agg #[.bool t401, .slice Ao21 t402.length co21]] rfl (by (try simp only [List.map_toArray, List.map_cons, List.map_nil]); first | done | (rw [show y400.length = y397.length from (Kd.R_reads' HO399.out).1.symm] <;> rfl) | rfl | (simp only [List.length_drop, List.length_take]; rfl)) ?_; (with_reducible refine (clevisref01_Add.calls k false _ _ y400 t401 _ _ t402 t405 t406 _ ?side1 ?side2 ?side3 ?side4 A14.out).mono ?_); (case side1 => repeat (first | exact (Kd.R_reads' HO399.out).2.2 | (with_reducible refine Kd.C_alloc ?_ _) | (with_reducible refine Kd.C_drewN ?_ _) | (with_reducible refine Kd.C_drew ?_))); (case side2 => rw [show y400.length = y397.length from (Kd.R_reads' HO399.out).1.symm]; exact (Kd.R_reads' HO399.out).2.1); (case side3 => repeat (first | exact (Kd.V_reads' HO404.out).2.2 | (with_reducible refine Kd.C_alloc ?_ _) | (with_reducible refine Kd.C_drewN ?_ _) | (with_reducible refine Kd.C_drew ?_))); (case side4 => exact (Kd.V_reads' HO404.out).2.1); rintro e w22 ⟨v407, rfl, ho0, hb⟩; refine ⟨_, rfl, ?_⟩; have n0_ := Aside0.mk (Kd.R_below (by (with_reducible repeat (first | apply Kd.R_alloc | apply Kd.R_drewN | apply Kd.R_drew)); exact HO399.out) hb); have n1_ := Aside0.mk (Kd.V_below (by (with_reducible repeat (first | apply Kd.V_alloc | apply Kd.V_drewN | apply Kd.V_drew)); exact HO404.out) hb); have n2_ := Aside0.mk (Kd.V_lower (Kd.V_mono (ok' := fun k_ => (w.heap.size ≤ k_) ∧ some k_ ≠ (.slice (some ⟨go12, 0, none⟩) y397.length co12 : Value).ownBlock ∧ k_ ≠ gb304) ho0 (fun k_ hk_ => ⟨(Nat.le_trans (below_size (by repeat (first | (with_reducible first | exact HB.out | apply below_alloc | apply pw_below_drewN | apply below_drew1 | refine below_set ?_ GE304.out) | exact HB.out))) hk_), (Kd.fresh' (Kd.R_lt (by (with_reducible repeat (first | apply Kd.R_alloc | apply Kd.R_drewN | apply Kd.R_drew)); exact HO399.out)) k_ hk_), (Kd.freshB (g := gb304) (o := .cells #[.bool false, .slice none 0 0] 32 (0, 0)) (by (with_reducible repeat (first | refine blk_drewN ?_ _ | refine blk_drew ?_ | refine blk_alloc ?_ _)); exact BK304.out) k_ hk_)⟩)) (below_size (by repeat (first | (with_reducible first | exact HB.out | apply below_alloc | apply pw_below_drewN | apply below_drew1 | refine below_set ?_ GE304.out) | exact HB.out)))); have n3_ := Aside0.mk (blk_below (g := gb304) (o := .cells #[.bool false, .slice none 0 0] 32 (0, 0)) (by (with_reducible repeat (first | refine blk_drewN ?_ _ | refine blk_drew ?_ | refine blk_alloc ?_ _)); exact BK304.out) hb); have n4_ := Aside0.mk (below_step (by repeat (first | (with_reducible first | exact HB.out | apply below_alloc | apply pw_below_drewN | apply below_drew1 | refine below_set ?_ GE304.out) | exact HB.out)) hb); clear HO399; clear HO404; clear BK304; clear HB; have HO399 := n0_; have HO404 := n1_; have HO408 := n2_; have BK304 := n3_; have HB := n4_; clear n0_ n1_ n2_ n3_ n4_; (try clear hb); (try clear hb2); (try clear hk); (try clear hi); (try clear ho0); have hcz23_0 : w22.cell? ⟨gb304, 0, none⟩ = some (.bool false) := (blk_cell BK304.out 0).trans rfl; have hcz23_1 : w22.cell? ⟨gb304, 1, none⟩ = some (.slice none 0 0) := (blk_cell BK304.out 1).trans rfl; have hfz23_0 := blk_frozen BK304.out 0; have hfz23_1 := blk_frozen BK304.out 1; obtain ⟨Ao24, co24, eo24⟩ := Kd.V_slice HO408.out; subst eo24))
            refine bodyPost_ret (results_cell_row rfl _ _ gb304 32 #[.bool t405, .slice Ao24 t406.length co24] (0, 0) _ rfl (by (with_reducible repeat (first | refine blk_drewN ?_ _ | refine blk_drew ?_ | refine blk_alloc ?_ _)); refine blk_put (cs := #[.bool t405, .slice none 0 0]) ?_ 1 _ rfl; (with_reducible repeat (first | refine blk_drewN ?_ _ | refine blk_drew ?_ | refine blk_alloc ?_ _)); refine blk_put (cs := #[.bool false, .slice none 0 0]) ?_ 0 _ rfl; (with_reducible repeat (first | refine blk_drewN ?_ _ | refine blk_drew ?_ | refine blk_alloc ?_ _)); exact BK304.out) Try.underlying32 rfl (by kernel_rfl)) rfl ?_
            exact ⟨_, by first | rfl | (simp [errW_none, errW_some] <;> rfl) | (simp only [← hji3, ← hji6, ← hji8, ← hji9]; first | rfl | (simp [errW_none, errW_some] <;> rfl)) | (simp [*, errW_none, errW_some] <;> rfl), by (with_reducible repeat (first | apply Kd.V_alloc | apply Kd.V_drewN | apply Kd.V_drew)); exact Kd.V_mono (Kd.V_far (p := ⟨gb304, 1, none⟩) (Kd.V_far (p := ⟨gb304, 0, none⟩) (Kd.V_mono HO408.out (fun k_ hk => (⟨hk, hk.2.2⟩ : _ ∧ k_ ≠ gb304))) (fun _ hk => hk.2) (.bool t405)) (fun _ hk => hk.2) (.slice Ao24 t406.length co24)) (fun _ hk => hk.1.1), by repeat (first | (with_reducible first | exact HB.out | apply below_alloc | apply pw_below_drewN | apply below_drew1 | refine below_set ?_ GE304.out) | exact HB.out)⟩
          · rw [if_neg c11] at H
            exact absurd H (by simp)
        · rw [if_neg c10] at H
          exact absurd H (by simp)
      · rw [if_neg c7] at H
        exact absurd H (by simp)
    · rw [if_neg c5] at H
      exact absurd H (by simp)
  · rw [if_neg c4] at H
    exact absurd H (by simp)
end Go.Proofs.Ytjbcigiffihjaaa.Fx
end
section
namespace Go.Proofs.Ytjbcigiffihjaaa.Fx
open Go.RowKit Go.Proofs.YtjbcigiffihjaaaW.PrintWords Go.Proofs.YtjbcigiffihjaaaW.PrintLast Go.Proofs.YtjbcigiffihjaaaW.PrintMore
attribute [local go_sem] max2_int min2_int max_two min_two max_three min_three max_four min_four   -- for this text's walks alone
set_option linter.unusedVariables false
set_option linter.unusedSimpArgs false
attribute [local go_sem] run_add64_any
def fixed_Minus.f (a0_0 a0_1 a1_0 a1_1 : Int) : Option (Int × Int × Int) :=
  (fixed_long_add.f 0 0 0 a0_0 a0_1).bind fun x1 => (fixed_long_add.f x1.1 x1.2.1 x1.2.2 (Go.bits .xor .i64 (-1) a1_0) (Go.bits .xor .u64 18446744073709551615 a1_1)).bind fun x2 =>
    (fixed_long_add.f x2.1 x2.2.1 x2.2.2 0 1).bind fun x3 => longWide x3
set_option maxHeartbeats 1000000 in
theorem fixed_Minus.calls (a0_0 a0_1 a1_0 a1_1 : Int) (r1 r2 r3 : Int) (w : World) (h : fixed_Minus.f a0_0 a0_1 a1_0 a1_1 = some (r1, r2, r3)) :
    Calls Try.prog 18 #[.agg #[.int .i64 a0_0, .int .u64 a0_1], .agg #[.int .i64 a1_0, .int .u64 a1_1]] w fun e w' => e = .returned (.tuple #[.agg #[.int .i64 r1, .int .u64 r2], .int .i64 r3]) ∧ Below w.heap.size w w' := by
  unfold fixed_Minus.f at h
  obtain ⟨⟨x1, x2, x3⟩, h1, h⟩ := Option.bind_eq_some_iff.mp h
  obtain ⟨⟨y1, y2, y3⟩, h2, h⟩ := Option.bind_eq_some_iff.mp h
  obtain ⟨⟨z1, z2, z3⟩, h3, h⟩ := Option.bind_eq_some_iff.mp h
  have H1 := Aside0.mk h1
  have H2 := Aside0.mk h2
  have H3 := Aside0.mk h3
  have H := Aside0.mk h
  clear h h1 h2 h3
  go_enter Try.func18, Try.ntmps18
  go_wp2_with fail
  refine (fixed_long_add.walkf (w.heap.size + 3) _ _ _ _ _ _ _ _ _ H1.out ?c10 ?c11 ?c12 ?f10 ?f11 ?f12 ?g1).mono ?_
  case c10 => go_simp
  case c11 => go_simp
  case c12 => go_simp
  case f10 => go_simp
  case f11 => go_simp
  case f12 => go_simp
  case g1 => go_simp
  rintro e w' ⟨rfl, rfl⟩
  go_wp2_with fail
  refine (fixed_long_add.walkf (w.heap.size + 3) _ _ _ _ _ _ _ _ _ H2.out ?c20 ?c21 ?c22 ?f20 ?f21 ?f22 ?g2).mono ?_
  case c20 => go_simp
  case c21 => go_simp
  case c22 => go_simp
  case f20 => go_simp
  case f21 => go_simp
  case f22 => go_simp
  case g2 => go_simp
  rintro e w' ⟨rfl, rfl⟩
  go_wp2_with fail
  refine (fixed_long_add.walkf (w.heap.size + 3) _ _ _ _ _ _ _ _ _ H3.out ?c30 ?c31 ?c32 ?f30 ?f31 ?f32 ?g3).mono ?_
  case c30 => go_simp
  case c31 => go_simp
  case c32 => go_simp
  case f30 => go_simp
  case f31 => go_simp
  case f32 => go_simp
  case g3 => go_simp
  rintro e w' ⟨rfl, rfl⟩
  go_wp2_with fail
  refine (fixed_long_wide.walk (w.heap.size + 3) z1 z2 z3 _ ?w0 ?w1 ?w2 ?w3).mono ?_
  case w0 => go_simp
  case w1 => go_simp
  case w2 => go_simp
  case w3 => go_simp
  rintro e w' ⟨rfl, rfl⟩
  go_wp2_with fail
  refine (fixed_fits.calls _ _ _ _ _ _ _ H.out).mono ?_
  rintro e w' ⟨rfl, hb⟩
  obtain ⟨hc, _⟩ := bcell hb
  have hB := Aside0.mk hb
  clear hb
  go_wp2
  refine bodyPost_ret (v := .tuple #[.agg #[.int .i64 r1, .int .u64 r2], .int .i64 r3]) (by simp [results, Try.results18, go_sem, hc]) rfl ⟨rfl, ?_⟩
  refine below_set (below_set (below_weaken ?_ ?_ hB.out) (by omega)) (by omega)
  · repeat (first | exact Below.refl _ _ | apply below_drew1 | apply below_alloc)
  · simp; omega
end Go.Proofs.Ytjbcigiffihjaaa.Fx
end
section
namespace Go.Proofs.Ytjbcigiffihjaaa.Fx
open Go.RowKit Go.Proofs.YtjbcigiffihjaaaW.PrintWords Go.Proofs.YtjbcigiffihjaaaW.PrintLast Go.Proofs.YtjbcigiffihjaaaW.PrintMore
attribute [local go_sem] max2_int min2_int max_two min_two max_three min_three max_four min_four   -- for this text's walks alone
set_option linter.unusedVariables false
set_option linter.unusedSimpArgs false
attribute [local go_sem] run_add64_any
def fixed_Opposite.f (a0_0 : Int) (a0_1 : Int) : Option (Int × Int × Int) := (fixed_Minus.f 0 0 a0_0 a0_1).bind fun bt449 => (some (bt449.1, bt449.2.1, bt449.2.2))
set_option maxHeartbeats 8000000 in
set_option maxRecDepth 100000 in
theorem fixed_Opposite.calls (a0_0 : Int) (a0_1 : Int) (r1 : Int) (r2 : Int) (r3 : Int) (w : World) (h : fixed_Opposite.f a0_0 a0_1 = some (r1, r2, r3)) :
    Calls Try.prog 19 #[.agg #[.int .i64 a0_0, .int .u64 a0_1]] w fun e w' => e = .returned (.tuple #[.agg #[.int .i64 r1, .int .u64 r2], .int .i64 r3]) ∧ Below w.heap.size w w' := by
  have hu24 := Try.underlying24
  have HB := Aside0.mk (Below.refl w.heap.size w)
  have H : ((fixed_Minus.f 0 0 a0_0 a0_1).bind fun bt449 => (some (bt449.1, bt449.2.1, bt449.2.2))) = some (r1, r2, r3) := h
  clear h
  replace H := Option.bind_eq_some_iff.mp H
  obtain ⟨⟨t449, t450, t451⟩, A20, H⟩ := H
  replace H : (some (t449, t450, t451)) = some (r1, r2, r3) := H
  have A2 := Aside0.mk A20
  clear A20
  simp only [Option.some.injEq, Prod.mk.injEq] at H
  obtain ⟨rfl, rfl, rfl⟩ := H
  go_enter Try.func19, Try.ntmps19
  go_wp2_with (first | ((with_reducible refine gate_dst (N := 1) rfl ?_); refine box_event ?hg (N := 1) ?hd (cs := #[.int .i64 a0_0, .int .u64 a0_1]) (t := 24) ?hr ?_; (case hd => rfl); (case hg => rfl); (case hr => first | (go_simp; done) | (go_simp; rfl)); intro gb301 hg w3 hbox hb; have n0_ := Aside0.mk (below_step (by repeat (first | (with_reducible first | exact HB.out | apply below_alloc | apply pw_below_drewN | apply below_drew1) | exact HB.out)) hb); have n1_ := Aside0.mk (hbox); have n2_ := Aside0.mk ((by rw [hg]; exact (below_size (by repeat (first | (with_reducible first | exact HB.out | apply below_alloc | apply pw_below_drewN | apply below_drew1) | exact HB.out))) : w.heap.size ≤ gb301)); have n3_ := Aside0.mk ((by rw [hg]; exact (below_size (by repeat (first | (with_reducible first | exact HB.out | apply below_alloc | apply pw_below_drewN | apply below_drew1) | exact HB.out))) : w.heap.size ≤ gb301)); clear HB; have HB := n0_; have BK301 := n1_; have GW301 := n2_; have GE301 := n3_; clear n0_ n1_ n2_ n3_; clear hb hbox hg) | ((with_reducible refine gate_dst (N := 2) rfl ?_); refine box_event ?hg (N := 2) ?hd (cs := #[.int .i64 0, .int .u64 0]) (t := 24) ?hr ?_; (case hd => rfl); (case hg => rfl); (case hr => first | (go_simp; done) | (go_simp; rfl)); intro gb302 hg w4 hbox hb; have n0_ := Aside0.mk (blk_below (g := gb301) (o := .cells #[.int .i64 a0_0, .int .u64 a0_1] 24 (0, 0)) (by (with_reducible repeat (first | refine blk_drewN ?_ _ | refine blk_drew ?_ | refine blk_alloc ?_ _)); exact BK301.out) hb); have n1_ := Aside0.mk (below_step (by repeat (first | (with_reducible first | exact HB.out | apply below_alloc | apply pw_below_drewN | apply below_drew1 | refine below_set ?_ GE301.out) | exact HB.out)) hb); have n2_ := Aside0.mk (hbox); have n3_ := Aside0.mk ((by rw [hg]; exact (below_size (by repeat (first | (with_reducible first | exact HB.out | apply below_alloc | apply pw_below_drewN | apply below_drew1 | refine below_set ?_ GE301.out) | exact HB.out))) : w.heap.size ≤ gb302)); have n4_ := Aside0.mk ((by rw [hg]; exact (below_size (by repeat (first | (with_reducible first | exact HB.out | apply below_alloc | apply pw_below_drewN | apply below_drew1 | refine below_set ?_ GE301.out) | exact HB.out))) : w.heap.size ≤ gb302)); have n5_ := Aside0.mk ((by rw [hg]; exact Nat.ne_of_lt (blk_lt (g := gb301) (o := .cells #[.int .i64 a0_0, .int .u64 a0_1] 24 (0, 0)) (by (with_reducible repeat (first | refine blk_drewN ?_ _ | refine blk_drew ?_ | refine blk_alloc ?_ _)); exact BK301.out)) : gb301 ≠ gb302)); have n6_ := Aside0.mk ((by rw [hg]; exact Nat.ne_of_gt (blk_lt (g := gb301) (o := .cells #[.int .i64 a0_0, .int .u64 a0_1] 24 (0, 0)) (by (with_reducible repeat (first | refine blk_drewN ?_ _ | refine blk_drew ?_ | refine blk_alloc ?_ _)); exact BK301.out)) : gb302 ≠ gb301)); clear BK301; clear HB; have BK301 := n0_; have HB := n1_; have BK302 := n2_; have GW302 := n3_; have GE302 := n4_; have NB301_302 := n5_; have NB302_301 := n6_; clear n0_ n1_ n2_ n3_ n4_ n5_ n6_; clear hb hbox hg; have hnb5 := NB301_302.out; have hnc5 := NB302_301.out; have hcz6_0 : w4.cell? ⟨gb301, 0, none⟩ = some (.int .i64 a0_0) := (blk_cell BK301.out 0).trans rfl; have hcz6_1 : w4.cell? ⟨gb301, 1, none⟩ = some (.int .u64 a0_1) := (blk_cell BK301.out 1).trans rfl; have hfz6_0 := blk_frozen BK301.out 0; have hfz6_1 := blk_frozen BK301.out 1) | ((with_reducible refine gate_callee (f := 18) rfl ?_); refine goesL_ (some 6) rfl rfl Try.func18 (by kernel_rfl) rfl #[.agg #[.int .i64 0, .int .u64 0], .agg #[.int .i64 a0_0, .int .u64 a0_1]] rfl (by (try simp only [List.map_toArray, List.map_cons, List.map_nil]); first | done | rfl | (simp only [List.length_drop, List.length_take]; rfl)) ?_; (with_reducible refine (fixed_Minus.calls 0 0 a0_0 a0_1 t449 t450 t451 _ A2.out).mono ?_); rintro e w7 ⟨rfl, hb⟩; refine ⟨_, rfl, ?_⟩; have n0_ := Aside0.mk (blk_below (g := gb301) (o := .cells #[.int .i64 a0_0, .int .u64 a0_1] 24 (0, 0)) (by (with_reducible repeat (first | refine blk_drewN ?_ _ | refine blk_drew ?_ | refine blk_alloc ?_ _)); exact BK301.out) hb); have n1_ := Aside0.mk (blk_below (g := gb302) (o := .cells #[.int .i64 0, .int .u64 0] 24 (0, 0)) (by (with_reducible repeat (first | refine blk_drewN ?_ _ | refine blk_drew ?_ | refine blk_alloc ?_ _)); exact BK302.out) hb); have n2_ := Aside0.mk (below_step (by repeat (first | (with_reducible first | exact HB.out | apply below_alloc | apply pw_below_drewN | apply below_drew1 | refine below_set ?_ GE301.out | refine below_set ?_ GE302.out) | exact HB.out)) hb); clear BK301; clear BK302; clear HB; have BK301 := n0_; have BK302 := n1_; have HB := n2_; clear n0_ n1_ n2_; (try clear hb); (try clear hb2); (try clear hk); (try clear hi); have hcz8_0 : w7.cell? ⟨gb302, 0, none⟩ = some (.int .i64 0) := (blk_cell BK302.out 0).trans rfl; have hcz8_1 : w7.cell? ⟨gb302, 1, none⟩ = some (.int .u64 0) := (blk_cell BK302.out 1).trans rfl; have hfz8_0 := blk_frozen BK302.out 0; have hfz8_1 := blk_frozen BK302.out 1))
  refine bodyPost_ret (results_ct rfl _ _ gb302 24 #[.int .i64 t449, .int .u64 t450] (0, 0) _ rfl (by (with_reducible repeat (first | refine blk_drewN ?_ _ | refine blk_drew ?_ | refine blk_alloc ?_ _)); refine blk_put (cs := #[.int .i64 t449, .int .u64 0]) ?_ 1 _ rfl; (with_reducible repeat (first | refine blk_drewN ?_ _ | refine blk_drew ?_ | refine blk_alloc ?_ _)); refine blk_put (cs := #[.int .i64 0, .int .u64 0]) ?_ 0 _ rfl; (with_reducible repeat (first | refine blk_drewN ?_ _ | refine blk_drew ?_ | refine blk_alloc ?_ _)); exact BK302.out) Try.underlying24 rfl (by kernel_rfl)) rfl ?_
  exact ⟨by first | rfl | (simp [errW_none, errW_some] <;> rfl) | (simp [*, errW_none, errW_some] <;> rfl), by repeat (first | (with_reducible first | exact HB.out | apply below_alloc | apply pw_below_drewN | apply below_drew1 | refine below_set ?_ GE301.out | refine below_set ?_ GE302.out) | exact HB.out)⟩
end Go.Proofs.Ytjbcigiffihjaaa.Fx
end
section
namespace Go.Proofs.Ytjbcigiffihjaaa.Fx
open Go.RowKit Go.Proofs.YtjbcigiffihjaaaW.PrintWords Go.Proofs.YtjbcigiffihjaaaW.PrintLast Go.Proofs.YtjbcigiffihjaaaW.PrintMore
attribute [local go_sem] max2_int min2_int max_two min_two max_three min_three max_four min_four   -- for this text's walks alone
set_option linter.unusedVariables false
set_option linter.unusedSimpArgs false
attribute [local go_sem] run_add64_any
def longAll : List S24 → Int × Int × Int → Option (Int × Int × Int)
  | [], s => some s
  | a :: l, s => (fixed_long_add.f s.1 s.2.1 s.2.2 a.f0 a.f1).bind fun t => longAll l t
def fixed_Plus.f (l0 : List S24) : Option (Int × Int × Int) := (longAll l0 (0, 0, 0)).bind longWide
theorem longAll_step {l : List S24} {k : Nat} (hk : k < l.length) {s sf : Int × Int × Int} (h : longAll (l.drop k) s = some sf) :
    ∃ r1 r2 r3, fixed_long_add.f s.1 s.2.1 s.2.2 (rd_T24 l k).f0 (rd_T24 l k).f1 = some (r1, r2, r3) ∧ longAll (l.drop (k + 1)) (r1, r2, r3) = some sf := by
  rw [List.drop_eq_getElem_cons hk, longAll] at h
  obtain ⟨⟨r1, r2, r3⟩, h1, h2⟩ := Option.bind_eq_some_iff.mp h
  have e : rd_T24 l k = l[k] := by simp [rd_T24, List.getD_eq_getElem?_getD, List.getElem?_eq_getElem hk]
  exact ⟨r1, r2, r3, by rw [e]; exact h1, h2⟩
set_option maxHeartbeats 2000000 in
theorem fixed_Plus.calls (A0 : Option Addr) (c0 : Nat) (l0 : List S24) (r1 r2 r3 : Int) (w : World) (hr0 : Kd.C k24 w A0 l0.length l0) (hc0 : l0.length ≤ c0) (h : fixed_Plus.f l0 = some (r1, r2, r3)) :
    Calls Try.prog 20 #[.slice A0 l0.length c0] w fun e w' => e = .returned (.tuple #[.agg #[.int .i64 r1, .int .u64 r2], .int .i64 r3]) ∧ Below w.heap.size w w' := by
  unfold fixed_Plus.f at h
  obtain ⟨⟨z1, z2, z3⟩, h1, h⟩ := Option.bind_eq_some_iff.mp h
  have H1 := Aside0.mk h1
  have H := Aside0.mk h
  have HR := Aside0.mk hr0
  have hmax : l0.length ≤ 9223372036854775807 := Kd.C_max hr0
  clear h h1 hr0
  go_enter Try.func20, Try.ntmps20
  go_wp2
  go_loopw [9] (fun v9 wr => ∃ (k : Nat) (s1 s2 s3 : Int), k ≤ l0.length ∧ v9 = .int .i64 k ∧ Aside0 (longAll (l0.drop k) (s1, s2, s3) = some (z1, z2, z3)) ∧ Aside0 (wr.heap[w.heap.size + 1]? = some (.cells #[.int .i64 s1, .int .u64 s2, .int .u64 s3] 82 (0, 0))) ∧ Aside0 (wr.heap[w.heap.size]? = some (.cells #[.int .i64 0, .int .u64 0] 24 (0, 0))) ∧ Aside0 (Below w.heap.size w wr)) (fun v9 _ => l0.length - (intOf v9).toNat)
  case atStart => exact ⟨0, 0, 0, 0, Nat.zero_le _, rfl, H1, ⟨by simpa using heap_alloc_new (w.alloc (.cells #[.int .i64 0, .int .u64 0] 24)) _⟩, ⟨by rw [Below.heap_alloc _ _ _ (by simp)]; exact heap_alloc_new w _⟩, ⟨below_alloc (below_alloc (Below.refl _ _) _) _⟩⟩
  case round =>
    obtain ⟨k, s1, s2, s3, hk, rfl, HA, HX, HZ, HB⟩ := hrel
    have hx := HX.out
    have hx0 : wr.cell? ⟨w.heap.size + 1, 0, none⟩ = some (.int .i64 s1) := (blk_cell hx 0).trans rfl
    have hx1 : wr.cell? ⟨w.heap.size + 1, 1, none⟩ = some (.int .u64 s2) := (blk_cell hx 1).trans rfl
    have hx2 : wr.cell? ⟨w.heap.size + 1, 2, none⟩ = some (.int .u64 s3) := (blk_cell hx 2).trans rfl
    have hf0 := blk_frozen hx 0
    have hf1 := blk_frozen hx 1
    have hf2 := blk_frozen hx 2
    have hlt : w.heap.size + 1 < wr.heap.size := blk_lt hx
    clear hx
    by_cases hkl : k < l0.length
    · obtain ⟨r1', r2', r3', ha, hn⟩ := longAll_step hkl HA.out
      have HAd := Aside0.mk ha
      have HAn := Aside0.mk hn
      clear ha hn
      obtain ⟨ad, rfl, he0, he1⟩ := at_T24 (Kd.C_below HR.out HB.out) (k : Int) (by omega) (by omega)
      simp only [Int.toNat_natCast] at he0 he1
      go_wp2_with (go_at_call 51; refine (fixed_long_add.walkf (w.heap.size + 1) s1 s2 s3 _ _ r1' r2' r3' _ HAd.out ?c0 ?c1 ?c2 ?f0 ?f1 ?f2 ?g).mono ?_; (case c0 => go_simp); (case c1 => go_simp); (case c2 => go_simp); (case f0 => go_simp); (case f1 => go_simp); (case f2 => go_simp); (case g => (simp; omega)); rintro e w' ⟨rfl, rfl⟩)
      go_roundw
      case rel =>
        refine ⟨k + 1, r1', r2', r3', by omega, by go_num, HAn, ⟨?_⟩, ⟨?_⟩, ⟨?_⟩⟩
        · refine blk_drew (blk_drew (blk_drew (blk_alloc (blk_alloc ?_ _) _)))
          exact blk_put (blk_put (blk_put HX.out 2 _ rfl) 1 _ rfl) 0 _ rfl
        · refine blk_drew (blk_drew (blk_drew (blk_alloc (blk_alloc ?_ _) _)))
          exact blk_far (blk_far (blk_far HZ.out (by simp) _) (by simp) _) (by simp) _
        · exact below_drew1 (below_drew1 (below_drew1 (below_alloc (below_alloc (below_set (below_set (below_set HB.out (by omega)) (by omega)) (by omega)) _) _)))
      case measure => simp [intOf]; omega
    · obtain rfl : k = l0.length := by omega
      have e : longAll (l0.drop l0.length) (s1, s2, s3) = some (s1, s2, s3) := by rw [List.drop_length]; rfl
      have hh := Option.some.inj (e.symm.trans HA.out)
      simp only [Prod.mk.injEq] at hh
      obtain ⟨rfl, rfl, rfl⟩ := hh
      have hz := HZ.out
      have hz0 : wr.cell? ⟨w.heap.size, 0, none⟩ = some (.int .i64 0) := (blk_cell hz 0).trans rfl
      have hz1 : wr.cell? ⟨w.heap.size, 1, none⟩ = some (.int .u64 0) := (blk_cell hz 1).trans rfl
      have hy0 := blk_frozen hz 0
      have hy1 := blk_frozen hz 1
      have hlz : w.heap.size < wr.heap.size := blk_lt hz
      clear hz e
      go_wp2_with fail
      refine (fixed_long_wide.walk (w.heap.size + 1) s1 s2 s3 _ hx0 hx1 hx2 hlt).mono ?_
      rintro e w' ⟨rfl, rfl⟩
      go_wp2_with fail
      refine (fixed_fits.calls _ _ _ _ _ _ _ H.out).mono ?_
      rintro e w' ⟨rfl, hb⟩
      have hall : Below wr.heap.size wr w' := below_weaken (by repeat (first | exact Below.refl _ _ | apply below_drew1 | apply below_alloc)) (by simp; omega) hb
      have q0 := pw_cell_below hall hz0
      have q1 := pw_cell_below hall hz1
      have y0 := (hall.frozen (p := ⟨w.heap.size, 0, none⟩) hlz).trans hy0
      have y1 := (hall.frozen (p := ⟨w.heap.size, 1, none⟩) hlz).trans hy1
      have hs := hall.size
      have hB := Aside0.mk (below_weaken HB.out HB.out.size hall)
      clear hb hall hx0 hx1 hx2 hz0 hz1 hf0 hf1 hf2 hy0 hy1
      go_wp2
      refine bodyPost_ret (v := .tuple #[.agg #[.int .i64 r1, .int .u64 r2], .int .i64 r3]) (by simp [results, Try.results20, go_sem, q0, q1]) rfl ⟨rfl, ?_⟩
      exact below_set (below_set hB.out (Nat.le_refl _)) (Nat.le_refl _)
end Go.Proofs.Ytjbcigiffihjaaa.Fx
end
section
namespace Go.Proofs.Ytjbcigiffihjaaa.Fx
open Go.RowKit Go.Proofs.YtjbcigiffihjaaaW.PrintWords Go.Proofs.YtjbcigiffihjaaaW.PrintLast Go.Proofs.YtjbcigiffihjaaaW.PrintMore
attribute [local go_sem] max2_int min2_int max_two min_two max_three min_three max_four min_four   -- for this text's walks alone
set_option linter.unusedVariables false
set_option linter.unusedSimpArgs false
attribute [local go_sem] run_add64_any
def fixed_size.f (a0 : Int) : Option (Int) := if a0 < 0 then (some (IntKind.u64.wrap (-(IntKind.u64.wrap (a0))))) else (some (IntKind.u64.wrap (a0)))
set_option maxHeartbeats 8000000 in
set_option maxRecDepth 100000 in
theorem fixed_size.calls (a0 : Int) (r : Int) (w : World) (h : fixed_size.f a0 = some r) :
    Calls Try.prog 35 #[.int .i64 a0] w fun e w' => e = .returned (.int .u64 r) ∧ Drawn0 w w' := by
  have H : (if a0 < 0 then (some (IntKind.u64.wrap (-(IntKind.u64.wrap (a0))))) else (some (IntKind.u64.wrap (a0)))) = some r := h
  clear h
  by_cases c2 : a0 < 0
  · rw [if_pos c2] at H
    have c2b0 : decide (a0 < 0) = true := decide_eq_true c2
    clear c2
    obtain rfl := Option.some.inj H
    go_enter Try.func35, Try.ntmps35
    go_wp2
    go_ret
    exact ⟨by first | rfl | (simp; done) | (simp [*]; done), by repeat (first | exact Drawn0.refl _ | apply Drawn0.step)⟩
  · rw [if_neg c2] at H
    have c2b0 : decide (a0 < 0) = false := decide_eq_false c2
    clear c2
    obtain rfl := Option.some.inj H
    go_enter Try.func35, Try.ntmps35
    go_wp2
    go_ret
    exact ⟨by first | rfl | (simp; done) | (simp [*]; done), by repeat (first | exact Drawn0.refl _ | apply Drawn0.step)⟩
end Go.Proofs.Ytjbcigiffihjaaa.Fx
end
