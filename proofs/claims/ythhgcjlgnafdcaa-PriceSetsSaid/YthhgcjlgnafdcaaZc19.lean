/- Texts of this seat, put together (Zc19). -/
import Derived.Test.YthhgcjlgnafdcaaZc2
import Derived.Test.YthhgcjlgnafdcaaZc9
section
namespace Go.Proofs.Ythhgcjlgnafdcaa.Px
open Go.RowKit Go.Proofs.YthhgcjlgnafdcaaW.PrintWords Go.Proofs.YthhgcjlgnafdcaaW.PrintLast Go.Proofs.YthhgcjlgnafdcaaW.PrintMore
attribute [local go_sem] max2_int min2_int max_two min_two max_three min_three max_four min_four   -- for this text's walks alone
set_option linter.unusedVariables false
set_option linter.unusedSimpArgs false
attribute [local go_sem] run_add64_any
def note_Sorted.l0 : Nat → List (S79) → Int → Option (Bool)
 | 0, _, _ => none
 | k + 1, x0, x3 => if x3 < (x0.length : Int) then (if 0 ≤ (wrap64 (x3 - 1)) then (if (wrap64 (x3 - 1)) < (x0.length : Int) then (if 0 ≤ x3 then (if ((Op.bytesLess (((rd_T79 x0 (wrap64 (x3 - 1))).f0).toList) (((rd_T79 x0 x3).f0).toList)) = true) then (note_Sorted.l0 k x0 (wrap64 (x3 + 1))) else (some false)) else (none)) else (none)) else (none)) else (some true)
def note_Sorted.f (k : Nat) (l0 : List (S79)) : Option (Bool) := note_Sorted.l0 k l0 1
set_option maxHeartbeats 8000000 in
set_option maxRecDepth 100000 in
theorem note_Sorted.calls (k : Nat) (A0 : Option Addr) (c0 : Nat) (l0 : List (S79)) (r : Bool) (w : World) (hr0 : Kd.C k79 w A0 l0.length l0) (hc0 : l0.length ≤ c0) (h : note_Sorted.f k l0 = some r) :
  Calls Try.prog 84 #[.slice A0 l0.length c0] w fun e w' => e = .returned (.bool r) ∧ Drawn0 w w' := by
 have HR0 := A_ hr0
 have HC0 := A_ hc0
 clear hr0 hc0
 have H : (note_Sorted.l0 k l0 1) = some r := h
 clear h
 have H' := A_ H
 clear H
 go_enter Try.func84, Try.ntmps84
 go_wp2
 repeat (go_quiet (fail); try go_wp2)
 (try simp only [Act.put, sA_, sZ_, sS_])
 go_loopg [3] k (fun kq v3 w' => ∃ (x3_1 : Int), v3 = .int .i64 x3_1 ∧ Aside0 (note_Sorted.l0 kq l0 x3_1 = some r) ∧ Aside0 (kq ≤ k) ∧ Drawn0 w w')
 case atStart => exact ⟨(1), (by first | rfl | (simp; done) | (simp [*]; done)), H', ⟨Nat.le_refl _⟩, by repeat (first | exact Drawn0.refl _ | apply Drawn0.step)⟩
 case round =>
  clear H'
  obtain ⟨x3_1, rfl, HA, HK1, ⟨m1, rfl⟩⟩ := hrel
  cases gk with
  | zero => exact absurd HA.out (by simp [note_Sorted.l0])
  | succ k1 =>
   have H := HA.out
   clear HA
   simp only [note_Sorted.l0] at H
   by_cases c2 : x3_1 < (l0.length : Int)
   ·
    rw [if_pos c2] at H
    have c2b0 : decide (x3_1 < (l0.length : Int)) = true := decide_eq_true c2
    clear c2
    obtain ⟨ji3, hji3⟩ : ∃ j_ : Int, (wrap64 (x3_1 - 1)) = j_ := ⟨_, rfl⟩
    replace H : (if 0 ≤ (ji3) then (if (ji3) < (l0.length : Int) then (if 0 ≤ x3_1 then (if ((Op.bytesLess (((rd_T79 l0 (ji3)).f0).toList) (((rd_T79 l0 x3_1).f0).toList)) = true) then (note_Sorted.l0 k1 l0 (wrap64 (x3_1 + 1))) else (some false)) else (none)) else (none)) else (none)) = some r := by first | (rw [hji3] at H; exact H) | (simp only [hji3] at H ⊢; exact H)
    have hji3w : (IntKind.i64.wrap (x3_1 - 1)) = ji3 := (i64_w _).trans hji3
    by_cases c4 : 0 ≤ (ji3)
    ·
     rw [if_pos c4] at H
     have c4b0 : decide (0 ≤ (ji3)) = true := decide_eq_true c4
     clear c4
     by_cases c5 : (ji3) < (l0.length : Int)
     ·
      rw [if_pos c5] at H
      have c5b0 : decide ((ji3) < (l0.length : Int)) = true := decide_eq_true c5
      clear c5
      by_cases c6 : 0 ≤ x3_1
      ·
       rw [if_pos c6] at H
       have c6b0 : decide (0 ≤ x3_1) = true := decide_eq_true c6
       clear c6
       by_cases c7 : ((Op.bytesLess (((rd_T79 l0 (ji3)).f0).toList) (((rd_T79 l0 x3_1).f0).toList)) = true)
       ·
        rw [if_pos c7] at H
        have c7b0 : (Op.bytesLess (((rd_T79 l0 (ji3)).f0).toList) (((rd_T79 l0 x3_1).f0).toList)) = true := c7
        clear c7
        have H' := A_ H
        clear H
        have p176 : 0 ≤ ((ji3) : Int) := od_ (by first | (with_reducible assumption) | assumption)
        have q176 : (ji3) < (l0.length : Int) := od_ (by first | (with_reducible assumption) | assumption)
        obtain ⟨ad176, e176, hx176_0, hx176_1⟩ := at_T79 HR0.out (ji3) p176 q176
        cases e176
        replace p176 := eq_true p176
        replace q176 := eq_true q176
        have p177 : 0 ≤ (x3_1 : Int) := od_ (by first | (with_reducible assumption) | assumption)
        have q177 : x3_1 < (l0.length : Int) := od_ (by first | (with_reducible assumption) | assumption)
        obtain ⟨ad177, e177, hx177_0, hx177_1⟩ := at_T79 HR0.out x3_1 p177 q177
        obtain rfl : ad176 = ad177 := (by injection e177)
        replace p177 := eq_true p177
        replace q177 := eq_true q177
        go_wp2
        repeat (go_quiet (fail); try go_wp2)
        go_roundg k1
        case measure => have := HK1.out; omega
        case rel => exact ⟨(wrap64 (x3_1 + 1)), (by first | rfl | (simp; done) | (simp [*]; done)), H', ⟨by have := HK1.out; omega⟩, by repeat (first | exact Drawn0.refl _ | apply Drawn0.step)⟩
       ·
        rw [if_neg c7] at H
        have c7b0 : (Op.bytesLess (((rd_T79 l0 (ji3)).f0).toList) (((rd_T79 l0 x3_1).f0).toList)) = false := by simpa using c7
        clear c7
        obtain rfl := Option.some.inj H
        have p176 : 0 ≤ ((ji3) : Int) := od_ (by first | (with_reducible assumption) | assumption)
        have q176 : (ji3) < (l0.length : Int) := od_ (by first | (with_reducible assumption) | assumption)
        obtain ⟨ad176, e176, hx176_0, hx176_1⟩ := at_T79 HR0.out (ji3) p176 q176
        cases e176
        replace p176 := eq_true p176
        replace q176 := eq_true q176
        have p177 : 0 ≤ (x3_1 : Int) := od_ (by first | (with_reducible assumption) | assumption)
        have q177 : x3_1 < (l0.length : Int) := od_ (by first | (with_reducible assumption) | assumption)
        obtain ⟨ad177, e177, hx177_0, hx177_1⟩ := at_T79 HR0.out x3_1 p177 q177
        obtain rfl : ad176 = ad177 := (by injection e177)
        replace p177 := eq_true p177
        replace q177 := eq_true q177
        go_wp2
        repeat (go_quiet (fail); try go_wp2)
        go_ret
        exact ⟨by first | rfl | (simp; done) | (simp only [← hji3] <;> (first | rfl | simp)) | (simp [*]; done), by repeat (first | exact Drawn0.refl _ | apply Drawn0.step)⟩
      ·
       rw [if_neg c6] at H
       exact absurd H (by simp)
     ·
      rw [if_neg c5] at H
      exact absurd H (by simp)
    ·
     rw [if_neg c4] at H
     exact absurd H (by simp)
   ·
    rw [if_neg c2] at H
    have c2b0 : decide (x3_1 < (l0.length : Int)) = false := decide_eq_false c2
    clear c2
    obtain rfl := Option.some.inj H
    go_wp2
    repeat (go_quiet (fail); try go_wp2)
    go_ret
    exact ⟨by first | rfl | (simp; done) | (simp [*]; done), by repeat (first | exact Drawn0.refl _ | apply Drawn0.step)⟩
end Go.Proofs.Ythhgcjlgnafdcaa.Px
end
section
namespace Go.Proofs.Ythhgcjlgnafdcaa.Px
open Go.RowKit Go.Proofs.YthhgcjlgnafdcaaW.PrintWords Go.Proofs.YthhgcjlgnafdcaaW.PrintLast Go.Proofs.YthhgcjlgnafdcaaW.PrintMore
attribute [local go_sem] max2_int min2_int max_two min_two max_three min_three max_four min_four   -- for this text's walks alone
set_option linter.unusedVariables false
set_option linter.unusedSimpArgs false
attribute [local go_sem] run_add64_any
attribute [local go_sem high] eqA71
mutual
def clevisref17_Same.j0 : Nat → Bool → List (S71) → Int → Int → List (S71) → Int → Int → Option (Bool)
 | 0, _, _, _, _, _, _, _ => none
 | k + 1, x26, x303000, x303001, x303002, x304000, x304001, x304002 => if x26 = true then (some false) else (clevisref17_Same.l0 k 0 x303000 x303001 x303002 x304000 x304001 x304002)
def clevisref17_Same.l0 : Nat → Int → List (S71) → Int → Int → List (S71) → Int → Int → Option (Bool)
 | 0, _, _, _, _, _, _, _ => none
 | k + 1, x5, x303000, x303001, x303002, x304000, x304001, x304002 => if x5 < (x303000.length : Int) then (if 0 ≤ x5 then (if x5 < (x304000.length : Int) then (if (!((((rd_T71 x303000 x5).f0).toList) == (((rd_T71 x304000 x5).f0).toList)) || (!(((rd_T71 x303000 x5).f1) == ((rd_T71 x304000 x5).f1)))) = true then (some false) else (clevisref17_Same.l0 k (wrap64 (x5 + 1)) x303000 x303001 x303002 x304000 x304001 x304002)) else (none)) else (none)) else (some true)
end
def clevisref17_Same.f (k : Nat) (l0_0 : List (S71)) (a0_1 : Int) (a0_2 : Int) (l1_0 : List (S71)) (a1_1 : Int) (a1_2 : Int) : Option (Bool) := if a0_1 = a1_1 then (if a0_2 = a1_2 then (clevisref17_Same.j0 k ((l0_0.length : Int) != (l1_0.length : Int)) l0_0 a0_1 a0_2 l1_0 a1_1 a1_2) else (clevisref17_Same.j0 k true l0_0 a0_1 a0_2 l1_0 a1_1 a1_2)) else (clevisref17_Same.j0 k true l0_0 a0_1 a0_2 l1_0 a1_1 a1_2)
set_option maxHeartbeats 8000000 in
set_option maxRecDepth 100000 in
theorem clevisref17_Same.calls (k : Nat) (A0_0 : Option Addr) (c0_0 : Nat) (l0_0 : List (S71)) (a0_1 : Int) (a0_2 : Int) (A1_0 : Option Addr) (c1_0 : Nat) (l1_0 : List (S71)) (a1_1 : Int) (a1_2 : Int) (r : Bool) (w : World) (hr0_0 : Kd.C k71 w A0_0 l0_0.length l0_0) (hc0_0 : l0_0.length ≤ c0_0) (hr1_0 : Kd.C k71 w A1_0 l1_0.length l1_0) (hc1_0 : l1_0.length ≤ c1_0) (h : clevisref17_Same.f k l0_0 a0_1 a0_2 l1_0 a1_1 a1_2 = some r) :
  Calls Try.prog 32 #[.agg #[.slice A0_0 l0_0.length c0_0, .int .i64 a0_1, .int .u64 a0_2], .agg #[.slice A1_0 l1_0.length c1_0, .int .i64 a1_1, .int .u64 a1_2]] w fun e w' => e = .returned (.bool r) ∧ Below w.heap.size w w' := by
 have hu41 := Try.underlying41
 have hu71 := Try.underlying71
 have HR0_0 := A_ hr0_0
 have HC0_0 := A_ hc0_0
 clear hr0_0 hc0_0
 have HR1_0 := A_ hr1_0
 have HC1_0 := A_ hc1_0
 clear hr1_0 hc1_0
 have HB := A_ (Below.refl w.heap.size w)
 have H : (if a0_1 = a1_1 then (if a0_2 = a1_2 then (clevisref17_Same.j0 k ((l0_0.length : Int) != (l1_0.length : Int)) l0_0 a0_1 a0_2 l1_0 a1_1 a1_2) else (clevisref17_Same.j0 k true l0_0 a0_1 a0_2 l1_0 a1_1 a1_2)) else (clevisref17_Same.j0 k true l0_0 a0_1 a0_2 l1_0 a1_1 a1_2)) = some r := h
 clear h
 have HC3 := A_ H
 clear H
 go_enter Try.func32, Try.ntmps32
 go_upto_region 1 with (first | ((with_reducible refine gate_dst (N := 2) rfl ?_); (try (refine gate_guard (by rfl) ?_; dsimp only)); refine box_event ?hg (N := 2) ?hd (cs := #[.slice A0_0 l0_0.length c0_0, .int .i64 a0_1, .int .u64 a0_2]) (t := 41) ?hr ?_; (case hd => rfl); (case hg => rfl); (case hr => first | (go_simp; done) | (go_simp; rfl)); intro gb302 hg w4 hbox hb; have n0_ := A_ (bs_ bw_ hb); have n1_ := A_ (hbox); have n2_ := A_ ((by rw [hg]; exact (bz_ bw_) : w.heap.size ≤ gb302)); have n3_ := A_ ((by rw [hg]; exact (bz_ bw_) : w.heap.size ≤ gb302)); clear HB; have HB := n0_; have BK302 := n1_; have GW302 := n2_; have GE302 := n3_; clear n0_ n1_ n2_ n3_; clear hb hbox hg) | ((with_reducible refine gate_dst (N := 3) rfl ?_); (try (refine gate_guard (by rfl) ?_; dsimp only)); refine box_event ?hg (N := 3) ?hd (cs := #[.slice A1_0 l1_0.length c1_0, .int .i64 a1_1, .int .u64 a1_2]) (t := 41) ?hr ?_; (case hd => rfl); (case hg => rfl); (case hr => first | (go_simp; done) | (go_simp; rfl)); intro gb303 hg w5 hbox hb; have n0_ := A_ (kb_ BK302 hb); have n1_ := A_ (bs_ bw_ hb); have n2_ := A_ (hbox); have n3_ := A_ ((by rw [hg]; exact (bz_ bw_) : w.heap.size ≤ gb303)); have n4_ := A_ ((by rw [hg]; exact (bz_ bw_) : w.heap.size ≤ gb303)); have n5_ := A_ ((by rw [hg]; exact nl_ (lt_ BK302) : gb302 ≠ gb303)); have n6_ := A_ ((by rw [hg]; exact ng_ (lt_ BK302) : gb303 ≠ gb302)); clear BK302; clear HB; have BK302 := n0_; have HB := n1_; have BK303 := n2_; have GW303 := n3_; have GE303 := n4_; have NB302_303 := n5_; have NB303_302 := n6_; clear n0_ n1_ n2_ n3_ n4_ n5_ n6_; clear hb hbox hg))
 repeat (go_quiet (first | ((with_reducible refine gate_dst (N := 2) rfl ?_); (try (refine gate_guard (by rfl) ?_; dsimp only)); refine box_event ?hg (N := 2) ?hd (cs := #[.slice A0_0 l0_0.length c0_0, .int .i64 a0_1, .int .u64 a0_2]) (t := 41) ?hr ?_; (case hd => rfl); (case hg => rfl); (case hr => first | (go_simp; done) | (go_simp; rfl)); intro gb302 hg w4 hbox hb; have n0_ := A_ (bs_ bw_ hb); have n1_ := A_ (hbox); have n2_ := A_ ((by rw [hg]; exact (bz_ bw_) : w.heap.size ≤ gb302)); have n3_ := A_ ((by rw [hg]; exact (bz_ bw_) : w.heap.size ≤ gb302)); clear HB; have HB := n0_; have BK302 := n1_; have GW302 := n2_; have GE302 := n3_; clear n0_ n1_ n2_ n3_; clear hb hbox hg) | ((with_reducible refine gate_dst (N := 3) rfl ?_); (try (refine gate_guard (by rfl) ?_; dsimp only)); refine box_event ?hg (N := 3) ?hd (cs := #[.slice A1_0 l1_0.length c1_0, .int .i64 a1_1, .int .u64 a1_2]) (t := 41) ?hr ?_; (case hd => rfl); (case hg => rfl); (case hr => first | (go_simp; done) | (go_simp; rfl)); intro gb303 hg w5 hbox hb; have n0_ := A_ (kb_ BK302 hb); have n1_ := A_ (bs_ bw_ hb); have n2_ := A_ (hbox); have n3_ := A_ ((by rw [hg]; exact (bz_ bw_) : w.heap.size ≤ gb303)); have n4_ := A_ ((by rw [hg]; exact (bz_ bw_) : w.heap.size ≤ gb303)); have n5_ := A_ ((by rw [hg]; exact nl_ (lt_ BK302) : gb302 ≠ gb303)); have n6_ := A_ ((by rw [hg]; exact ng_ (lt_ BK302) : gb303 ≠ gb302)); clear BK302; clear HB; have BK302 := n0_; have HB := n1_; have BK303 := n2_; have GW303 := n3_; have GE303 := n4_; have NB302_303 := n5_; have NB303_302 := n6_; clear n0_ n1_ n2_ n3_ n4_ n5_ n6_; clear hb hbox hg)); go_upto_region 1 with (first | ((with_reducible refine gate_dst (N := 2) rfl ?_); (try (refine gate_guard (by rfl) ?_; dsimp only)); refine box_event ?hg (N := 2) ?hd (cs := #[.slice A0_0 l0_0.length c0_0, .int .i64 a0_1, .int .u64 a0_2]) (t := 41) ?hr ?_; (case hd => rfl); (case hg => rfl); (case hr => first | (go_simp; done) | (go_simp; rfl)); intro gb302 hg w4 hbox hb; have n0_ := A_ (bs_ bw_ hb); have n1_ := A_ (hbox); have n2_ := A_ ((by rw [hg]; exact (bz_ bw_) : w.heap.size ≤ gb302)); have n3_ := A_ ((by rw [hg]; exact (bz_ bw_) : w.heap.size ≤ gb302)); clear HB; have HB := n0_; have BK302 := n1_; have GW302 := n2_; have GE302 := n3_; clear n0_ n1_ n2_ n3_; clear hb hbox hg) | ((with_reducible refine gate_dst (N := 3) rfl ?_); (try (refine gate_guard (by rfl) ?_; dsimp only)); refine box_event ?hg (N := 3) ?hd (cs := #[.slice A1_0 l1_0.length c1_0, .int .i64 a1_1, .int .u64 a1_2]) (t := 41) ?hr ?_; (case hd => rfl); (case hg => rfl); (case hr => first | (go_simp; done) | (go_simp; rfl)); intro gb303 hg w5 hbox hb; have n0_ := A_ (kb_ BK302 hb); have n1_ := A_ (bs_ bw_ hb); have n2_ := A_ (hbox); have n3_ := A_ ((by rw [hg]; exact (bz_ bw_) : w.heap.size ≤ gb303)); have n4_ := A_ ((by rw [hg]; exact (bz_ bw_) : w.heap.size ≤ gb303)); have n5_ := A_ ((by rw [hg]; exact nl_ (lt_ BK302) : gb302 ≠ gb303)); have n6_ := A_ ((by rw [hg]; exact ng_ (lt_ BK302) : gb303 ≠ gb302)); clear BK302; clear HB; have BK302 := n0_; have HB := n1_; have BK303 := n2_; have GW303 := n3_; have GE303 := n4_; have NB302_303 := n5_; have NB303_302 := n6_; clear n0_ n1_ n2_ n3_ n4_ n5_ n6_; clear hb hbox hg)))
 (try simp only [Act.put, sA_, sZ_, sS_])
 go_cut [26] (fun v26 wc => ∃ (kq : Nat) (x26_2 : Bool), v26 = .bool x26_2 ∧ Aside0 (clevisref17_Same.j0 kq x26_2 l0_0 a0_1 a0_2 l1_0 a1_1 a1_2 = some r) ∧ Aside0 (kq ≤ k) ∧ Aside0 (wc.heap[gb302]? = some (.cells #[(.slice A0_0 l0_0.length c0_0), .int .i64 a0_1, .int .u64 a0_2] 41 (0, 0))) ∧ Aside0 (wc.heap[gb303]? = some (.cells #[(.slice A1_0 l1_0.length c1_0), .int .i64 a1_1, .int .u64 a1_2] 41 (0, 0))) ∧ Aside0 (Below w.heap.size w wc))
 case first =>
  have H := HC3.out
  clear HC3
  by_cases c6 : a0_1 = a1_1
  ·
   rw [if_pos c6] at H
   have c6b0 : (a0_1 == a1_1) = true := q1_ c6
   have c6b1 : (a0_1 != a1_1) = false := q3_ c6
   clear c6
   (first | rw [c6b0] | (simp only [i64_w, i32_w]; rw [c6b0]) | skip)
   by_cases c7 : a0_2 = a1_2
   ·
    rw [if_pos c7] at H
    have c7b0 : (a0_2 == a1_2) = true := q1_ c7
    have c7b1 : (a0_2 != a1_2) = false := q3_ c7
    clear c7
    have H' := A_ H
    clear H
    have hnb8 := NB302_303.out
    have hnc8 := NB303_302.out
    have hcz9_0 : w5.cell? ⟨gb302, 0, none⟩ = some (.slice A0_0 l0_0.length c0_0) := (bc_ BK302.out 0).trans rfl
    have hcz9_1 : w5.cell? ⟨gb302, 1, none⟩ = some (.int .i64 a0_1) := (bc_ BK302.out 1).trans rfl
    have hcz9_2 : w5.cell? ⟨gb302, 2, none⟩ = some (.int .u64 a0_2) := (bc_ BK302.out 2).trans rfl
    have hfz9_0 := bf_ BK302.out 0
    have hfz9_1 := bf_ BK302.out 1
    have hfz9_2 := bf_ BK302.out 2
    have hcz10_0 : w5.cell? ⟨gb303, 0, none⟩ = some (.slice A1_0 l1_0.length c1_0) := (bc_ BK303.out 0).trans rfl
    have hcz10_1 : w5.cell? ⟨gb303, 1, none⟩ = some (.int .i64 a1_1) := (bc_ BK303.out 1).trans rfl
    have hcz10_2 : w5.cell? ⟨gb303, 2, none⟩ = some (.int .u64 a1_2) := (bc_ BK303.out 2).trans rfl
    have hfz10_0 := bf_ BK303.out 0
    have hfz10_1 := bf_ BK303.out 1
    have hfz10_2 := bf_ BK303.out 2
    go_wp2
    repeat (go_quiet (fail); try go_wp2)
    go_meet
    case rel => exact ⟨_, (((l0_0.length : Int) != (l1_0.length : Int))), (by first | rfl | (simp; done) | (simp [*]; done)), H', ⟨by first | omega | exact Nat.le_refl _⟩, ⟨bk_⟩, ⟨bk_⟩, ⟨bw_⟩⟩
   ·
    rw [if_neg c7] at H
    have c7b0 : (a0_2 == a1_2) = false := q4_ c7
    have c7b1 : (a0_2 != a1_2) = true := q2_ c7
    have H' := A_ H
    clear H
    have hnb11 := NB302_303.out
    have hnc11 := NB303_302.out
    have hcz12_0 : w5.cell? ⟨gb302, 0, none⟩ = some (.slice A0_0 l0_0.length c0_0) := (bc_ BK302.out 0).trans rfl
    have hcz12_1 : w5.cell? ⟨gb302, 1, none⟩ = some (.int .i64 a0_1) := (bc_ BK302.out 1).trans rfl
    have hcz12_2 : w5.cell? ⟨gb302, 2, none⟩ = some (.int .u64 a0_2) := (bc_ BK302.out 2).trans rfl
    have hfz12_0 := bf_ BK302.out 0
    have hfz12_1 := bf_ BK302.out 1
    have hfz12_2 := bf_ BK302.out 2
    have hcz13_0 : w5.cell? ⟨gb303, 0, none⟩ = some (.slice A1_0 l1_0.length c1_0) := (bc_ BK303.out 0).trans rfl
    have hcz13_1 : w5.cell? ⟨gb303, 1, none⟩ = some (.int .i64 a1_1) := (bc_ BK303.out 1).trans rfl
    have hcz13_2 : w5.cell? ⟨gb303, 2, none⟩ = some (.int .u64 a1_2) := (bc_ BK303.out 2).trans rfl
    have hfz13_0 := bf_ BK303.out 0
    have hfz13_1 := bf_ BK303.out 1
    have hfz13_2 := bf_ BK303.out 2
    go_wp2
    repeat (go_quiet (fail); try go_wp2)
    go_meet
    case rel => exact ⟨_, (true), (by first | rfl | (simp; done) | (simp [*]; done)), H', ⟨by first | omega | exact Nat.le_refl _⟩, ⟨bk_⟩, ⟨bk_⟩, ⟨bw_⟩⟩
  ·
   rw [if_neg c6] at H
   have c6b0 : (a0_1 == a1_1) = false := q4_ c6
   have c6b1 : (a0_1 != a1_1) = true := q2_ c6
   (first | rw [c6b0] | (simp only [i64_w, i32_w]; rw [c6b0]) | skip)
   have H' := A_ H
   clear H
   have hnb14 := NB302_303.out
   have hnc14 := NB303_302.out
   have hcz15_0 : w5.cell? ⟨gb302, 0, none⟩ = some (.slice A0_0 l0_0.length c0_0) := (bc_ BK302.out 0).trans rfl
   have hcz15_1 : w5.cell? ⟨gb302, 1, none⟩ = some (.int .i64 a0_1) := (bc_ BK302.out 1).trans rfl
   have hcz15_2 : w5.cell? ⟨gb302, 2, none⟩ = some (.int .u64 a0_2) := (bc_ BK302.out 2).trans rfl
   have hfz15_0 := bf_ BK302.out 0
   have hfz15_1 := bf_ BK302.out 1
   have hfz15_2 := bf_ BK302.out 2
   have hcz16_0 : w5.cell? ⟨gb303, 0, none⟩ = some (.slice A1_0 l1_0.length c1_0) := (bc_ BK303.out 0).trans rfl
   have hcz16_1 : w5.cell? ⟨gb303, 1, none⟩ = some (.int .i64 a1_1) := (bc_ BK303.out 1).trans rfl
   have hcz16_2 : w5.cell? ⟨gb303, 2, none⟩ = some (.int .u64 a1_2) := (bc_ BK303.out 2).trans rfl
   have hfz16_0 := bf_ BK303.out 0
   have hfz16_1 := bf_ BK303.out 1
   have hfz16_2 := bf_ BK303.out 2
   go_wp2
   repeat (go_quiet (fail); try go_wp2)
   go_meet
   case rel => exact ⟨_, (true), (by first | rfl | (simp; done) | (simp [*]; done)), H', ⟨by first | omega | exact Nat.le_refl _⟩, ⟨bk_⟩, ⟨bk_⟩, ⟨bw_⟩⟩
 case rest =>
  clear HC3
  try clear c1
  try clear p2
  try clear c3
  try clear c6
  try clear c6b0
  try clear c6b1
  try clear c7
  try clear c7b0
  try clear c7b1
  try clear c8
  try clear c11
  try clear c14
  try clear hcz10_0
  try clear hcz10_1
  try clear hcz10_2
  try clear hcz12_0
  try clear hcz12_1
  try clear hcz12_2
  try clear hcz13_0
  try clear hcz13_1
  try clear hcz13_2
  try clear hcz15_0
  try clear hcz15_1
  try clear hcz15_2
  try clear hcz16_0
  try clear hcz16_1
  try clear hcz16_2
  try clear hcz9_0
  try clear hcz9_1
  try clear hcz9_2
  try clear hfz10_0
  try clear hfz10_1
  try clear hfz10_2
  try clear hfz12_0
  try clear hfz12_1
  try clear hfz12_2
  try clear hfz13_0
  try clear hfz13_1
  try clear hfz13_2
  try clear hfz15_0
  try clear hfz15_1
  try clear hfz15_2
  try clear hfz16_0
  try clear hfz16_1
  try clear hfz16_2
  try clear hfz9_0
  try clear hfz9_1
  try clear hfz9_2
  obtain ⟨kq, x26_2, rfl, HA, HJ2, BK302, BK303, HB⟩ := hcut
  cases kq with
  | zero => exact absurd HA.out (by simp [clevisref17_Same.j0])
  | succ kj2 =>
   have H := HA.out
   clear HA
   simp only [clevisref17_Same.j0] at H
   by_cases c17 : x26_2 = true
   ·
    subst c17
    have H1 : (some false) = some r := by rw [if_pos rfl] at H; exact H
    clear H
    have H := H1
    clear H1
    obtain rfl := Option.some.inj H
    go_wp2
    repeat (go_quiet (fail); try go_wp2)
    go_ret
    exact ⟨by first | rfl | (simp [errW_none, errW_some] <;> rfl) | (simp [*, errW_none, errW_some] <;> rfl), bw_⟩
   ·
    replace c17 := Bool.eq_false_iff.mpr c17
    subst c17
    have H1 : (clevisref17_Same.l0 kj2 0 l0_0 a0_1 a0_2 l1_0 a1_1 a1_2) = some r := by rw [if_neg (show ¬ (false = true) by decide)] at H; exact H
    clear H
    have H := H1
    clear H1
    have H' := A_ H
    clear H
    go_wp2
    repeat (go_quiet (fail); try go_wp2)
    (try simp only [Act.put, sA_, sZ_, sS_])
    go_loopg [5] kj2 (fun kq v5 w' => ∃ (x5_2 : Int), v5 = .int .i64 x5_2 ∧ Aside0 (clevisref17_Same.l0 kq x5_2 l0_0 a0_1 a0_2 l1_0 a1_1 a1_2 = some r) ∧ Aside0 (kq ≤ kj2) ∧ Aside0 (w'.heap[gb302]? = some (.cells #[(.slice A0_0 l0_0.length c0_0), .int .i64 a0_1, .int .u64 a0_2] 41 (0, 0))) ∧ Aside0 (w'.heap[gb303]? = some (.cells #[(.slice A1_0 l1_0.length c1_0), .int .i64 a1_1, .int .u64 a1_2] 41 (0, 0))) ∧ Aside0 (Below w.heap.size w w'))
    case atStart => exact ⟨(0), (by first | rfl | (simp; done) | (simp [*]; done)), H', ⟨Nat.le_refl _⟩, ⟨bk_⟩, ⟨bk_⟩, ⟨bw_⟩⟩
    case round =>
     clear H'
     try clear c1
     try clear p2
     try clear c3
     try clear c6
     try clear c6b0
     try clear c6b1
     try clear c7
     try clear c7b0
     try clear c7b1
     try clear c8
     try clear c11
     try clear c14
     try clear c17
     try clear hcz10_0
     try clear hcz10_1
     try clear hcz10_2
     try clear hcz12_0
     try clear hcz12_1
     try clear hcz12_2
     try clear hcz13_0
     try clear hcz13_1
     try clear hcz13_2
     try clear hcz15_0
     try clear hcz15_1
     try clear hcz15_2
     try clear hcz16_0
     try clear hcz16_1
     try clear hcz16_2
     try clear hcz9_0
     try clear hcz9_1
     try clear hcz9_2
     try clear hfz10_0
     try clear hfz10_1
     try clear hfz10_2
     try clear hfz12_0
     try clear hfz12_1
     try clear hfz12_2
     try clear hfz13_0
     try clear hfz13_1
     try clear hfz13_2
     try clear hfz15_0
     try clear hfz15_1
     try clear hfz15_2
     try clear hfz16_0
     try clear hfz16_1
     try clear hfz16_2
     try clear hfz9_0
     try clear hfz9_1
     try clear hfz9_2
     try clear p2
     obtain ⟨x5_2, rfl, HA, HK2, BK302, BK303, HB⟩ := hrel
     cases gk with
     | zero => exact absurd HA.out (by simp [clevisref17_Same.l0])
     | succ k2 =>
      have H := HA.out
      clear HA
      simp only [clevisref17_Same.l0] at H
      by_cases c18 : x5_2 < (l0_0.length : Int)
      ·
       rw [if_pos c18] at H
       have c18b0 : decide (x5_2 < (l0_0.length : Int)) = true := decide_eq_true c18
       clear c18
       by_cases c19 : 0 ≤ x5_2
       ·
        rw [if_pos c19] at H
        have c19b0 : decide (0 ≤ x5_2) = true := decide_eq_true c19
        clear c19
        by_cases c20 : x5_2 < (l1_0.length : Int)
        ·
         rw [if_pos c20] at H
         have c20b0 : decide (x5_2 < (l1_0.length : Int)) = true := decide_eq_true c20
         clear c20
         by_cases c21 : (!((((rd_T71 l0_0 x5_2).f0).toList) == (((rd_T71 l1_0 x5_2).f0).toList)) || (!(((rd_T71 l0_0 x5_2).f1) == ((rd_T71 l1_0 x5_2).f1)))) = true
         ·
          rw [if_pos c21] at H
          have c21b0 : (!((((rd_T71 l0_0 x5_2).f0).toList) == (((rd_T71 l1_0 x5_2).f0).toList)) || (!(((rd_T71 l0_0 x5_2).f1) == ((rd_T71 l1_0 x5_2).f1)))) = true := c21
          clear c21
          obtain rfl := Option.some.inj H
          have hnb22 := NB302_303.out
          have hnc22 := NB303_302.out
          have hcz23_0 : wr.cell? ⟨gb302, 0, none⟩ = some (.slice A0_0 l0_0.length c0_0) := (bc_ BK302.out 0).trans rfl
          have hcz23_1 : wr.cell? ⟨gb302, 1, none⟩ = some (.int .i64 a0_1) := (bc_ BK302.out 1).trans rfl
          have hcz23_2 : wr.cell? ⟨gb302, 2, none⟩ = some (.int .u64 a0_2) := (bc_ BK302.out 2).trans rfl
          have hfz23_0 := bf_ BK302.out 0
          have hfz23_1 := bf_ BK302.out 1
          have hfz23_2 := bf_ BK302.out 2
          have p183 : 0 ≤ (x5_2 : Int) := od_ (by first | (with_reducible assumption) | assumption)
          have q183 : x5_2 < (l0_0.length : Int) := od_ (by first | (with_reducible assumption) | assumption)
          obtain ⟨ad183, e183, hx183_0, hx183_1⟩ := at_T71 HR0_0.out x5_2 p183 q183
          cases e183
          replace hx183_0 := (HB.out.cell (World.block_lt_of_cell? w _ hx183_0)).trans hx183_0
          replace hx183_1 := (HB.out.cell (World.block_lt_of_cell? w _ hx183_1)).trans hx183_1
          replace p183 := eq_true p183
          replace q183 := eq_true q183
          have hcz24_0 : wr.cell? ⟨gb303, 0, none⟩ = some (.slice A1_0 l1_0.length c1_0) := (bc_ BK303.out 0).trans rfl
          have hcz24_1 : wr.cell? ⟨gb303, 1, none⟩ = some (.int .i64 a1_1) := (bc_ BK303.out 1).trans rfl
          have hcz24_2 : wr.cell? ⟨gb303, 2, none⟩ = some (.int .u64 a1_2) := (bc_ BK303.out 2).trans rfl
          have hfz24_0 := bf_ BK303.out 0
          have hfz24_1 := bf_ BK303.out 1
          have hfz24_2 := bf_ BK303.out 2
          have p184 : 0 ≤ (x5_2 : Int) := od_ (by first | (with_reducible assumption) | assumption)
          have q184 : x5_2 < (l1_0.length : Int) := od_ (by first | (with_reducible assumption) | assumption)
          obtain ⟨ad184, e184, hx184_0, hx184_1⟩ := at_T71 HR1_0.out x5_2 p184 q184
          cases e184
          replace hx184_0 := (HB.out.cell (World.block_lt_of_cell? w _ hx184_0)).trans hx184_0
          replace hx184_1 := (HB.out.cell (World.block_lt_of_cell? w _ hx184_1)).trans hx184_1
          replace p184 := eq_true p184
          replace q184 := eq_true q184
          go_wp2
          repeat (go_quiet (fail); try go_wp2)
          go_ret
          exact ⟨by first | rfl | (simp [errW_none, errW_some] <;> rfl) | (simp [*, errW_none, errW_some] <;> rfl), bw_⟩
         ·
          rw [if_neg c21] at H
          have c21b0 : (!((((rd_T71 l0_0 x5_2).f0).toList) == (((rd_T71 l1_0 x5_2).f0).toList)) || (!(((rd_T71 l0_0 x5_2).f1) == ((rd_T71 l1_0 x5_2).f1)))) = false := by simpa using c21
          clear c21
          have H' := A_ H
          clear H
          have hnb25 := NB302_303.out
          have hnc25 := NB303_302.out
          have hcz26_0 : wr.cell? ⟨gb302, 0, none⟩ = some (.slice A0_0 l0_0.length c0_0) := (bc_ BK302.out 0).trans rfl
          have hcz26_1 : wr.cell? ⟨gb302, 1, none⟩ = some (.int .i64 a0_1) := (bc_ BK302.out 1).trans rfl
          have hcz26_2 : wr.cell? ⟨gb302, 2, none⟩ = some (.int .u64 a0_2) := (bc_ BK302.out 2).trans rfl
          have hfz26_0 := bf_ BK302.out 0
          have hfz26_1 := bf_ BK302.out 1
          have hfz26_2 := bf_ BK302.out 2
          have p183 : 0 ≤ (x5_2 : Int) := od_ (by first | (with_reducible assumption) | assumption)
          have q183 : x5_2 < (l0_0.length : Int) := od_ (by first | (with_reducible assumption) | assumption)
          obtain ⟨ad183, e183, hx183_0, hx183_1⟩ := at_T71 HR0_0.out x5_2 p183 q183
          cases e183
          replace hx183_0 := (HB.out.cell (World.block_lt_of_cell? w _ hx183_0)).trans hx183_0
          replace hx183_1 := (HB.out.cell (World.block_lt_of_cell? w _ hx183_1)).trans hx183_1
          replace p183 := eq_true p183
          replace q183 := eq_true q183
          have hcz27_0 : wr.cell? ⟨gb303, 0, none⟩ = some (.slice A1_0 l1_0.length c1_0) := (bc_ BK303.out 0).trans rfl
          have hcz27_1 : wr.cell? ⟨gb303, 1, none⟩ = some (.int .i64 a1_1) := (bc_ BK303.out 1).trans rfl
          have hcz27_2 : wr.cell? ⟨gb303, 2, none⟩ = some (.int .u64 a1_2) := (bc_ BK303.out 2).trans rfl
          have hfz27_0 := bf_ BK303.out 0
          have hfz27_1 := bf_ BK303.out 1
          have hfz27_2 := bf_ BK303.out 2
          have p184 : 0 ≤ (x5_2 : Int) := od_ (by first | (with_reducible assumption) | assumption)
          have q184 : x5_2 < (l1_0.length : Int) := od_ (by first | (with_reducible assumption) | assumption)
          obtain ⟨ad184, e184, hx184_0, hx184_1⟩ := at_T71 HR1_0.out x5_2 p184 q184
          cases e184
          replace hx184_0 := (HB.out.cell (World.block_lt_of_cell? w _ hx184_0)).trans hx184_0
          replace hx184_1 := (HB.out.cell (World.block_lt_of_cell? w _ hx184_1)).trans hx184_1
          replace p184 := eq_true p184
          replace q184 := eq_true q184
          go_wp2
          repeat (go_quiet (fail); try go_wp2)
          go_roundg k2
          case measure => have := HJ2.out; have := HK2.out; omega
          case rel => exact ⟨(wrap64 (x5_2 + 1)), (by first | rfl | (simp; done) | (simp [*]; done)), H', ⟨by have := HJ2.out; have := HK2.out; omega⟩, ⟨bk_⟩, ⟨bk_⟩, ⟨bw_⟩⟩
        ·
         rw [if_neg c20] at H
         exact absurd H (by simp)
       ·
        rw [if_neg c19] at H
        exact absurd H (by simp)
      ·
       rw [if_neg c18] at H
       have c18b0 : decide (x5_2 < (l0_0.length : Int)) = false := decide_eq_false c18
       clear c18
       obtain rfl := Option.some.inj H
       have hnb28 := NB302_303.out
       have hnc28 := NB303_302.out
       have hcz29_0 : wr.cell? ⟨gb302, 0, none⟩ = some (.slice A0_0 l0_0.length c0_0) := (bc_ BK302.out 0).trans rfl
       have hcz29_1 : wr.cell? ⟨gb302, 1, none⟩ = some (.int .i64 a0_1) := (bc_ BK302.out 1).trans rfl
       have hcz29_2 : wr.cell? ⟨gb302, 2, none⟩ = some (.int .u64 a0_2) := (bc_ BK302.out 2).trans rfl
       have hfz29_0 := bf_ BK302.out 0
       have hfz29_1 := bf_ BK302.out 1
       have hfz29_2 := bf_ BK302.out 2
       go_wp2
       repeat (go_quiet (fail); try go_wp2)
       go_ret
       exact ⟨by first | rfl | (simp [errW_none, errW_some] <;> rfl) | (simp [*, errW_none, errW_some] <;> rfl), bw_⟩
end Go.Proofs.Ythhgcjlgnafdcaa.Px
end
