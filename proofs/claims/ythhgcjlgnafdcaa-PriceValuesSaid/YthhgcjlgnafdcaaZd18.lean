/- Texts of this seat, put together (Zd18). -/
import Derived.Test.YthhgcjlgnafdcaaZd2
import Derived.Test.YthhgcjlgnafdcaaZd8
section
namespace Go.Proofs.Ythhgcjlgnafdcaa.Px
open Go.RowKit Go.Proofs.YthhgcjlgnafdcaaW.PrintWords Go.Proofs.YthhgcjlgnafdcaaW.PrintLast Go.Proofs.YthhgcjlgnafdcaaW.PrintMore
attribute [local go_sem] max2_int min2_int max_two min_two max_three min_three max_four min_four   -- for this text's walks alone
set_option linter.unusedVariables false
set_option linter.unusedSimpArgs false
attribute [local go_sem] run_add64_any
def note_Sorted.l0 : Nat → List (S79) → Int → Option (Bool)
 | 0, _, _ => none
 | k + 1, x0, x3 => if x3 < (x0.length : Int) then (if 0 ≤ (wrap64 (x3 - 1)) then (if (wrap64 (x3 - 1)) < (x0.length : Int) then (if 0 ≤ x3 then (if ((Op.bytesLess (((rd_T79 x0 (wrap64 (x3 - 1))).f0).toList) (((rd_T79 x0 x3).f0).toList)) = true) then (note_Sorted.l0 k x0 (wrap64 (x3 + 1))) else (some false)) else (none)) else (none)) else (none)) else (some true)
def note_Sorted.f (k : Nat) (l0 : List (S79)) : Option (Bool) := note_Sorted.l0 k l0 1
set_option maxHeartbeats 8000000 in
set_option maxRecDepth 100000 in
theorem note_Sorted.calls (k : Nat) (A0 : Option Addr) (c0 : Nat) (l0 : List (S79)) (r : Bool) (w : World) (hr0 : Kd.C k79 w A0 l0.length l0) (hc0 : l0.length ≤ c0) (h : note_Sorted.f k l0 = some r) :
  Calls Try.prog 84 #[.slice A0 l0.length c0] w fun e w' => e = .returned (.bool r) ∧ Drawn0 w w' := by
 have HR0 := A_ hr0
 have HC0 := A_ hc0
 clear hr0 hc0
 have H : (note_Sorted.l0 k l0 1) = some r := h
 clear h
 have H' := A_ H
 clear H
 go_enter Try.func84, Try.ntmps84
 go_wp2
 repeat (go_quiet (fail); try go_wp2)
 (try simp only [Act.put, sA_, sZ_, sS_])
 go_loopg [3] k (fun kq v3 w' => ∃ (x3_1 : Int), v3 = .int .i64 x3_1 ∧ Aside0 (note_Sorted.l0 kq l0 x3_1 = some r) ∧ Aside0 (kq ≤ k) ∧ Drawn0 w w')
 case atStart => exact ⟨(1), (by first | rfl | (simp; done) | (simp [*]; done)), H', ⟨Nat.le_refl _⟩, by repeat (first | exact Drawn0.refl _ | apply Drawn0.step)⟩
 case round =>
  clear H'
  obtain ⟨x3_1, rfl, HA, HK1, ⟨m1, rfl⟩⟩ := hrel
  cases gk with
  | zero => exact absurd HA.out (by simp [note_Sorted.l0])
  | succ k1 =>
   have H := HA.out
   clear HA
   simp only [note_Sorted.l0] at H
   by_cases c2 : x3_1 < (l0.length : Int)
   ·
    rw [if_pos c2] at H
    have c2b0 : decide (x3_1 < (l0.length : Int)) = true := decide_eq_true c2
    clear c2
    obtain ⟨ji3, hji3⟩ : ∃ j_ : Int, (wrap64 (x3_1 - 1)) = j_ := ⟨_, rfl⟩
    replace H : (if 0 ≤ (ji3) then (if (ji3) < (l0.length : Int) then (if 0 ≤ x3_1 then (if ((Op.bytesLess (((rd_T79 l0 (ji3)).f0).toList) (((rd_T79 l0 x3_1).f0).toList)) = true) then (note_Sorted.l0 k1 l0 (wrap64 (x3_1 + 1))) else (some false)) else (none)) else (none)) else (none)) = some r := by first | (rw [hji3] at H; exact H) | (simp only [hji3] at H ⊢; exact H)
    have hji3w : (IntKind.i64.wrap (x3_1 - 1)) = ji3 := (i64_w _).trans hji3
    by_cases c4 : 0 ≤ (ji3)
    ·
     rw [if_pos c4] at H
     have c4b0 : decide (0 ≤ (ji3)) = true := decide_eq_true c4
     clear c4
     by_cases c5 : (ji3) < (l0.length : Int)
     ·
      rw [if_pos c5] at H
      have c5b0 : decide ((ji3) < (l0.length : Int)) = true := decide_eq_true c5
      clear c5
      by_cases c6 : 0 ≤ x3_1
      ·
       rw [if_pos c6] at H
       have c6b0 : decide (0 ≤ x3_1) = true := decide_eq_true c6
       clear c6
       by_cases c7 : ((Op.bytesLess (((rd_T79 l0 (ji3)).f0).toList) (((rd_T79 l0 x3_1).f0).toList)) = true)
       ·
        rw [if_pos c7] at H
        have c7b0 : (Op.bytesLess (((rd_T79 l0 (ji3)).f0).toList) (((rd_T79 l0 x3_1).f0).toList)) = true := c7
        clear c7
        have H' := A_ H
        clear H
        have p176 : 0 ≤ ((ji3) : Int) := od_ (by first | (with_reducible assumption) | assumption)
        have q176 : (ji3) < (l0.length : Int) := od_ (by first | (with_reducible assumption) | assumption)
        obtain ⟨ad176, e176, hx176_0, hx176_1⟩ := at_T79 HR0.out (ji3) p176 q176
        cases e176
        replace p176 := eq_true p176
        replace q176 := eq_true q176
        have p177 : 0 ≤ (x3_1 : Int) := od_ (by first | (with_reducible assumption) | assumption)
        have q177 : x3_1 < (l0.length : Int) := od_ (by first | (with_reducible assumption) | assumption)
        obtain ⟨ad177, e177, hx177_0, hx177_1⟩ := at_T79 HR0.out x3_1 p177 q177
        obtain rfl : ad176 = ad177 := (by injection e177)
        replace p177 := eq_true p177
        replace q177 := eq_true q177
        go_wp2
        repeat (go_quiet (fail); try go_wp2)
        go_roundg k1
        case measure => have := HK1.out; omega
        case rel => exact ⟨(wrap64 (x3_1 + 1)), (by first | rfl | (simp; done) | (simp [*]; done)), H', ⟨by have := HK1.out; omega⟩, by repeat (first | exact Drawn0.refl _ | apply Drawn0.step)⟩
       ·
        rw [if_neg c7] at H
        have c7b0 : (Op.bytesLess (((rd_T79 l0 (ji3)).f0).toList) (((rd_T79 l0 x3_1).f0).toList)) = false := by simpa using c7
        clear c7
        obtain rfl := Option.some.inj H
        have p176 : 0 ≤ ((ji3) : Int) := od_ (by first | (with_reducible assumption) | assumption)
        have q176 : (ji3) < (l0.length : Int) := od_ (by first | (with_reducible assumption) | assumption)
        obtain ⟨ad176, e176, hx176_0, hx176_1⟩ := at_T79 HR0.out (ji3) p176 q176
        cases e176
        replace p176 := eq_true p176
        replace q176 := eq_true q176
        have p177 : 0 ≤ (x3_1 : Int) := od_ (by first | (with_reducible assumption) | assumption)
        have q177 : x3_1 < (l0.length : Int) := od_ (by first | (with_reducible assumption) | assumption)
        obtain ⟨ad177, e177, hx177_0, hx177_1⟩ := at_T79 HR0.out x3_1 p177 q177
        obtain rfl : ad176 = ad177 := (by injection e177)
        replace p177 := eq_true p177
        replace q177 := eq_true q177
        go_wp2
        repeat (go_quiet (fail); try go_wp2)
        go_ret
        exact ⟨by first | rfl | (simp; done) | (simp only [← hji3] <;> (first | rfl | simp)) | (simp [*]; done), by repeat (first | exact Drawn0.refl _ | apply Drawn0.step)⟩
      ·
       rw [if_neg c6] at H
       exact absurd H (by simp)
     ·
      rw [if_neg c5] at H
      exact absurd H (by simp)
    ·
     rw [if_neg c4] at H
     exact absurd H (by simp)
   ·
    rw [if_neg c2] at H
    have c2b0 : decide (x3_1 < (l0.length : Int)) = false := decide_eq_false c2
    clear c2
    obtain rfl := Option.some.inj H
    go_wp2
    repeat (go_quiet (fail); try go_wp2)
    go_ret
    exact ⟨by first | rfl | (simp; done) | (simp [*]; done), by repeat (first | exact Drawn0.refl _ | apply Drawn0.step)⟩
end Go.Proofs.Ythhgcjlgnafdcaa.Px
end
section
namespace Go.Proofs.Ythhgcjlgnafdcaa.Px
open Go.RowKit Go.Proofs.YthhgcjlgnafdcaaW.PrintWords Go.Proofs.YthhgcjlgnafdcaaW.PrintLast Go.Proofs.YthhgcjlgnafdcaaW.PrintMore
attribute [local go_sem] max2_int min2_int max_two min_two max_three min_three max_four min_four   -- for this text's walks alone
set_option linter.unusedVariables false
set_option linter.unusedSimpArgs false
attribute [local go_sem] run_add64_any
def clevisref17_Right.l0 : Nat → Int → List (S71) → Int → Int → Option (Bool)
 | 0, _, _, _, _ => none
 | k + 1, x3, x302000, x302001, x302002 => if x3 < (x302000.length : Int) then (if 0 ≤ x3 then (if ((rd_T71 x302000 x3).f1) = 0 then (some false) else (if (((rd_T71 x302000 x3).f0).size : Int) = 0 then (some false) else (if x3 > 0 then (if 0 ≤ (wrap64 (x3 - 1)) then (if (wrap64 (x3 - 1)) < (x302000.length : Int) then (if ((Op.bytesLess (((rd_T71 x302000 (wrap64 (x3 - 1))).f0).toList) (((rd_T71 x302000 x3).f0).toList)) = true) then (clevisref17_Right.l0 k (wrap64 (x3 + 1)) x302000 x302001 x302002) else (some false)) else (none)) else (none)) else (clevisref17_Right.l0 k (wrap64 (x3 + 1)) x302000 x302001 x302002)))) else (none)) else (some true)
def clevisref17_Right.f (k : Nat) (l0_0 : List (S71)) (a0_1 : Int) (a0_2 : Int) : Option (Bool) := clevisref17_Right.l0 k 0 l0_0 a0_1 a0_2
set_option maxHeartbeats 8000000 in
set_option maxRecDepth 100000 in
theorem clevisref17_Right.calls (k : Nat) (A0_0 : Option Addr) (c0_0 : Nat) (l0_0 : List (S71)) (a0_1 : Int) (a0_2 : Int) (r : Bool) (w : World) (hr0_0 : Kd.C k71 w A0_0 l0_0.length l0_0) (hc0_0 : l0_0.length ≤ c0_0) (h : clevisref17_Right.f k l0_0 a0_1 a0_2 = some r) :
  Calls Try.prog 24 #[.agg #[.slice A0_0 l0_0.length c0_0, .int .i64 a0_1, .int .u64 a0_2]] w fun e w' => e = .returned (.bool r) ∧ Below w.heap.size w w' := by
 have hu41 := Try.underlying41
 have HR0_0 := A_ hr0_0
 have HC0_0 := A_ hc0_0
 clear hr0_0 hc0_0
 have HB := A_ (Below.refl w.heap.size w)
 have H : (clevisref17_Right.l0 k 0 l0_0 a0_1 a0_2) = some r := h
 clear h
 have H' := A_ H
 clear H
 go_enter Try.func24, Try.ntmps24
 go_wp2_with (first | ((with_reducible refine gate_dst (N := 1) rfl ?_); (try (refine gate_guard (by rfl) ?_; dsimp only)); refine box_event ?hg (N := 1) ?hd (cs := #[.slice A0_0 l0_0.length c0_0, .int .i64 a0_1, .int .u64 a0_2]) (t := 41) ?hr ?_; (case hd => rfl); (case hg => rfl); (case hr => first | (go_simp; done) | (go_simp; rfl)); intro gb301 hg w2 hbox hb; have n0_ := A_ (bs_ bw_ hb); have n1_ := A_ (hbox); have n2_ := A_ ((by rw [hg]; exact (bz_ bw_) : w.heap.size ≤ gb301)); have n3_ := A_ ((by rw [hg]; exact (bz_ bw_) : w.heap.size ≤ gb301)); clear HB; have HB := n0_; have BK301 := n1_; have GW301 := n2_; have GE301 := n3_; clear n0_ n1_ n2_ n3_; clear hb hbox hg))
 repeat (go_quiet (first | ((with_reducible refine gate_dst (N := 1) rfl ?_); (try (refine gate_guard (by rfl) ?_; dsimp only)); refine box_event ?hg (N := 1) ?hd (cs := #[.slice A0_0 l0_0.length c0_0, .int .i64 a0_1, .int .u64 a0_2]) (t := 41) ?hr ?_; (case hd => rfl); (case hg => rfl); (case hr => first | (go_simp; done) | (go_simp; rfl)); intro gb301 hg w2 hbox hb; have n0_ := A_ (bs_ bw_ hb); have n1_ := A_ (hbox); have n2_ := A_ ((by rw [hg]; exact (bz_ bw_) : w.heap.size ≤ gb301)); have n3_ := A_ ((by rw [hg]; exact (bz_ bw_) : w.heap.size ≤ gb301)); clear HB; have HB := n0_; have BK301 := n1_; have GW301 := n2_; have GE301 := n3_; clear n0_ n1_ n2_ n3_; clear hb hbox hg)); try go_wp2_with (first | ((with_reducible refine gate_dst (N := 1) rfl ?_); (try (refine gate_guard (by rfl) ?_; dsimp only)); refine box_event ?hg (N := 1) ?hd (cs := #[.slice A0_0 l0_0.length c0_0, .int .i64 a0_1, .int .u64 a0_2]) (t := 41) ?hr ?_; (case hd => rfl); (case hg => rfl); (case hr => first | (go_simp; done) | (go_simp; rfl)); intro gb301 hg w2 hbox hb; have n0_ := A_ (bs_ bw_ hb); have n1_ := A_ (hbox); have n2_ := A_ ((by rw [hg]; exact (bz_ bw_) : w.heap.size ≤ gb301)); have n3_ := A_ ((by rw [hg]; exact (bz_ bw_) : w.heap.size ≤ gb301)); clear HB; have HB := n0_; have BK301 := n1_; have GW301 := n2_; have GE301 := n3_; clear n0_ n1_ n2_ n3_; clear hb hbox hg)))
 (try simp only [Act.put, sA_, sZ_, sS_])
 go_loopg [3] k (fun kq v3 w' => ∃ (x3_1 : Int), v3 = .int .i64 x3_1 ∧ Aside0 (clevisref17_Right.l0 kq x3_1 l0_0 a0_1 a0_2 = some r) ∧ Aside0 (kq ≤ k) ∧ Aside0 (w'.heap[gb301]? = some (.cells #[(.slice A0_0 l0_0.length c0_0), .int .i64 a0_1, .int .u64 a0_2] 41 (0, 0))) ∧ Aside0 (Below w.heap.size w w'))
 case atStart => exact ⟨(0), (by first | rfl | (simp; done) | (simp [*]; done)), H', ⟨Nat.le_refl _⟩, ⟨bk_⟩, ⟨bw_⟩⟩
 case round =>
  clear H'
  try clear c2
  try clear p2
  obtain ⟨x3_1, rfl, HA, HK1, BK301, HB⟩ := hrel
  cases gk with
  | zero => exact absurd HA.out (by simp [clevisref17_Right.l0])
  | succ k1 =>
   have H := HA.out
   clear HA
   simp only [clevisref17_Right.l0] at H
   by_cases c3 : x3_1 < (l0_0.length : Int)
   ·
    rw [if_pos c3] at H
    have c3b0 : decide (x3_1 < (l0_0.length : Int)) = true := decide_eq_true c3
    clear c3
    by_cases c4 : 0 ≤ x3_1
    ·
     rw [if_pos c4] at H
     have c4b0 : decide (0 ≤ x3_1) = true := decide_eq_true c4
     clear c4
     by_cases c5 : ((rd_T71 l0_0 x3_1).f1) = 0
     ·
      rw [if_pos c5] at H
      have c5b0 : (((rd_T71 l0_0 x3_1).f1) == 0) = true := q1_ c5
      have c5b1 : (((rd_T71 l0_0 x3_1).f1) != 0) = false := q3_ c5
      clear c5
      obtain rfl := Option.some.inj H
      have hcz6_0 : wr.cell? ⟨gb301, 0, none⟩ = some (.slice A0_0 l0_0.length c0_0) := (bc_ BK301.out 0).trans rfl
      have hcz6_1 : wr.cell? ⟨gb301, 1, none⟩ = some (.int .i64 a0_1) := (bc_ BK301.out 1).trans rfl
      have hcz6_2 : wr.cell? ⟨gb301, 2, none⟩ = some (.int .u64 a0_2) := (bc_ BK301.out 2).trans rfl
      have hfz6_0 := bf_ BK301.out 0
      have hfz6_1 := bf_ BK301.out 1
      have hfz6_2 := bf_ BK301.out 2
      have p179 : 0 ≤ (x3_1 : Int) := od_ (by first | (with_reducible assumption) | assumption)
      have q179 : x3_1 < (l0_0.length : Int) := od_ (by first | (with_reducible assumption) | assumption)
      obtain ⟨ad179, e179, hx179_0, hx179_1⟩ := at_T71 HR0_0.out x3_1 p179 q179
      cases e179
      replace hx179_0 := (HB.out.cell (World.block_lt_of_cell? w _ hx179_0)).trans hx179_0
      replace hx179_1 := (HB.out.cell (World.block_lt_of_cell? w _ hx179_1)).trans hx179_1
      replace p179 := eq_true p179
      replace q179 := eq_true q179
      go_wp2
      repeat (go_quiet (fail); try go_wp2)
      go_ret
      exact ⟨by first | rfl | (simp [errW_none, errW_some] <;> rfl) | (simp [*, errW_none, errW_some] <;> rfl), bw_⟩
     ·
      rw [if_neg c5] at H
      have c5b0 : (((rd_T71 l0_0 x3_1).f1) == 0) = false := q4_ c5
      have c5b1 : (((rd_T71 l0_0 x3_1).f1) != 0) = true := q2_ c5
      by_cases c7 : (((rd_T71 l0_0 x3_1).f0).size : Int) = 0
      ·
       rw [if_pos c7] at H
       have c7b0 : ((((rd_T71 l0_0 x3_1).f0).size : Int) == 0) = true := q1_ c7
       have c7b1 : ((((rd_T71 l0_0 x3_1).f0).size : Int) != 0) = false := q3_ c7
       clear c7
       obtain rfl := Option.some.inj H
       have hcz8_0 : wr.cell? ⟨gb301, 0, none⟩ = some (.slice A0_0 l0_0.length c0_0) := (bc_ BK301.out 0).trans rfl
       have hcz8_1 : wr.cell? ⟨gb301, 1, none⟩ = some (.int .i64 a0_1) := (bc_ BK301.out 1).trans rfl
       have hcz8_2 : wr.cell? ⟨gb301, 2, none⟩ = some (.int .u64 a0_2) := (bc_ BK301.out 2).trans rfl
       have hfz8_0 := bf_ BK301.out 0
       have hfz8_1 := bf_ BK301.out 1
       have hfz8_2 := bf_ BK301.out 2
       have p179 : 0 ≤ (x3_1 : Int) := od_ (by first | (with_reducible assumption) | assumption)
       have q179 : x3_1 < (l0_0.length : Int) := od_ (by first | (with_reducible assumption) | assumption)
       obtain ⟨ad179, e179, hx179_0, hx179_1⟩ := at_T71 HR0_0.out x3_1 p179 q179
       cases e179
       replace hx179_0 := (HB.out.cell (World.block_lt_of_cell? w _ hx179_0)).trans hx179_0
       replace hx179_1 := (HB.out.cell (World.block_lt_of_cell? w _ hx179_1)).trans hx179_1
       replace p179 := eq_true p179
       replace q179 := eq_true q179
       have p180 : 0 ≤ (x3_1 : Int) := od_ (by first | (with_reducible assumption) | assumption)
       have q180 : x3_1 < (l0_0.length : Int) := od_ (by first | (with_reducible assumption) | assumption)
       obtain ⟨ad180, e180, hx180_0, hx180_1⟩ := at_T71 HR0_0.out x3_1 p180 q180
       obtain rfl : ad179 = ad180 := (by injection e180)
       replace hx180_0 := (HB.out.cell (World.block_lt_of_cell? w _ hx180_0)).trans hx180_0
       replace hx180_1 := (HB.out.cell (World.block_lt_of_cell? w _ hx180_1)).trans hx180_1
       replace p180 := eq_true p180
       replace q180 := eq_true q180
       go_wp2
       repeat (go_quiet (fail); try go_wp2)
       go_ret
       exact ⟨by first | rfl | (simp [errW_none, errW_some] <;> rfl) | (simp [*, errW_none, errW_some] <;> rfl), bw_⟩
      ·
       rw [if_neg c7] at H
       have c7b0 : ((((rd_T71 l0_0 x3_1).f0).size : Int) == 0) = false := q4_ c7
       have c7b1 : ((((rd_T71 l0_0 x3_1).f0).size : Int) != 0) = true := q2_ c7
       by_cases c9 : x3_1 > 0
       ·
        rw [if_pos c9] at H
        have c9b0 : decide (0 < x3_1) = true := decide_eq_true c9
        clear c9
        obtain ⟨ji10, hji10⟩ : ∃ j_ : Int, (wrap64 (x3_1 - 1)) = j_ := ⟨_, rfl⟩
        replace H : (if 0 ≤ (ji10) then (if (ji10) < (l0_0.length : Int) then (if ((Op.bytesLess (((rd_T71 l0_0 (ji10)).f0).toList) (((rd_T71 l0_0 x3_1).f0).toList)) = true) then (clevisref17_Right.l0 k1 (wrap64 (x3_1 + 1)) l0_0 a0_1 a0_2) else (some false)) else (none)) else (none)) = some r := by first | (rw [hji10] at H; exact H) | (simp only [hji10] at H ⊢; exact H)
        have hji10w : (IntKind.i64.wrap (x3_1 - 1)) = ji10 := (i64_w _).trans hji10
        by_cases c11 : 0 ≤ (ji10)
        ·
         rw [if_pos c11] at H
         have c11b0 : decide (0 ≤ (ji10)) = true := decide_eq_true c11
         clear c11
         by_cases c12 : (ji10) < (l0_0.length : Int)
         ·
          rw [if_pos c12] at H
          have c12b0 : decide ((ji10) < (l0_0.length : Int)) = true := decide_eq_true c12
          clear c12
          by_cases c13 : ((Op.bytesLess (((rd_T71 l0_0 (ji10)).f0).toList) (((rd_T71 l0_0 x3_1).f0).toList)) = true)
          ·
           rw [if_pos c13] at H
           have c13b0 : (Op.bytesLess (((rd_T71 l0_0 (ji10)).f0).toList) (((rd_T71 l0_0 x3_1).f0).toList)) = true := c13
           clear c13
           have H' := A_ H
           clear H
           have hcz14_0 : wr.cell? ⟨gb301, 0, none⟩ = some (.slice A0_0 l0_0.length c0_0) := (bc_ BK301.out 0).trans rfl
           have hcz14_1 : wr.cell? ⟨gb301, 1, none⟩ = some (.int .i64 a0_1) := (bc_ BK301.out 1).trans rfl
           have hcz14_2 : wr.cell? ⟨gb301, 2, none⟩ = some (.int .u64 a0_2) := (bc_ BK301.out 2).trans rfl
           have hfz14_0 := bf_ BK301.out 0
           have hfz14_1 := bf_ BK301.out 1
           have hfz14_2 := bf_ BK301.out 2
           have p179 : 0 ≤ (x3_1 : Int) := od_ (by first | (with_reducible assumption) | assumption)
           have q179 : x3_1 < (l0_0.length : Int) := od_ (by first | (with_reducible assumption) | assumption)
           obtain ⟨ad179, e179, hx179_0, hx179_1⟩ := at_T71 HR0_0.out x3_1 p179 q179
           cases e179
           replace hx179_0 := (HB.out.cell (World.block_lt_of_cell? w _ hx179_0)).trans hx179_0
           replace hx179_1 := (HB.out.cell (World.block_lt_of_cell? w _ hx179_1)).trans hx179_1
           replace p179 := eq_true p179
           replace q179 := eq_true q179
           have p180 : 0 ≤ (x3_1 : Int) := od_ (by first | (with_reducible assumption) | assumption)
           have q180 : x3_1 < (l0_0.length : Int) := od_ (by first | (with_reducible assumption) | assumption)
           obtain ⟨ad180, e180, hx180_0, hx180_1⟩ := at_T71 HR0_0.out x3_1 p180 q180
           obtain rfl : ad179 = ad180 := (by injection e180)
           replace hx180_0 := (HB.out.cell (World.block_lt_of_cell? w _ hx180_0)).trans hx180_0
           replace hx180_1 := (HB.out.cell (World.block_lt_of_cell? w _ hx180_1)).trans hx180_1
           replace p180 := eq_true p180
           replace q180 := eq_true q180
           have p181 : 0 ≤ ((ji10) : Int) := od_ (by first | (with_reducible assumption) | assumption)
           have q181 : (ji10) < (l0_0.length : Int) := od_ (by first | (with_reducible assumption) | assumption)
           obtain ⟨ad181, e181, hx181_0, hx181_1⟩ := at_T71 HR0_0.out (ji10) p181 q181
           obtain rfl : ad179 = ad181 := (by injection e181)
           replace hx181_0 := (HB.out.cell (World.block_lt_of_cell? w _ hx181_0)).trans hx181_0
           replace hx181_1 := (HB.out.cell (World.block_lt_of_cell? w _ hx181_1)).trans hx181_1
           replace p181 := eq_true p181
           replace q181 := eq_true q181
           have p182 : 0 ≤ (x3_1 : Int) := od_ (by first | (with_reducible assumption) | assumption)
           have q182 : x3_1 < (l0_0.length : Int) := od_ (by first | (with_reducible assumption) | assumption)
           obtain ⟨ad182, e182, hx182_0, hx182_1⟩ := at_T71 HR0_0.out x3_1 p182 q182
           obtain rfl : ad179 = ad182 := (by injection e182)
           replace hx182_0 := (HB.out.cell (World.block_lt_of_cell? w _ hx182_0)).trans hx182_0
           replace hx182_1 := (HB.out.cell (World.block_lt_of_cell? w _ hx182_1)).trans hx182_1
           replace p182 := eq_true p182
           replace q182 := eq_true q182
           go_wp2
           repeat (go_quiet (fail); try go_wp2)
           go_roundg k1
           case measure => have := HK1.out; omega
           case rel => exact ⟨(wrap64 (x3_1 + 1)), (by first | rfl | (simp; done) | (simp [*]; done)), H', ⟨by have := HK1.out; omega⟩, ⟨bk_⟩, ⟨bw_⟩⟩
          ·
           rw [if_neg c13] at H
           have c13b0 : (Op.bytesLess (((rd_T71 l0_0 (ji10)).f0).toList) (((rd_T71 l0_0 x3_1).f0).toList)) = false := by simpa using c13
           clear c13
           obtain rfl := Option.some.inj H
           have hcz15_0 : wr.cell? ⟨gb301, 0, none⟩ = some (.slice A0_0 l0_0.length c0_0) := (bc_ BK301.out 0).trans rfl
           have hcz15_1 : wr.cell? ⟨gb301, 1, none⟩ = some (.int .i64 a0_1) := (bc_ BK301.out 1).trans rfl
           have hcz15_2 : wr.cell? ⟨gb301, 2, none⟩ = some (.int .u64 a0_2) := (bc_ BK301.out 2).trans rfl
           have hfz15_0 := bf_ BK301.out 0
           have hfz15_1 := bf_ BK301.out 1
           have hfz15_2 := bf_ BK301.out 2
           have p179 : 0 ≤ (x3_1 : Int) := od_ (by first | (with_reducible assumption) | assumption)
           have q179 : x3_1 < (l0_0.length : Int) := od_ (by first | (with_reducible assumption) | assumption)
           obtain ⟨ad179, e179, hx179_0, hx179_1⟩ := at_T71 HR0_0.out x3_1 p179 q179
           cases e179
           replace hx179_0 := (HB.out.cell (World.block_lt_of_cell? w _ hx179_0)).trans hx179_0
           replace hx179_1 := (HB.out.cell (World.block_lt_of_cell? w _ hx179_1)).trans hx179_1
           replace p179 := eq_true p179
           replace q179 := eq_true q179
           have p180 : 0 ≤ (x3_1 : Int) := od_ (by first | (with_reducible assumption) | assumption)
           have q180 : x3_1 < (l0_0.length : Int) := od_ (by first | (with_reducible assumption) | assumption)
           obtain ⟨ad180, e180, hx180_0, hx180_1⟩ := at_T71 HR0_0.out x3_1 p180 q180
           obtain rfl : ad179 = ad180 := (by injection e180)
           replace hx180_0 := (HB.out.cell (World.block_lt_of_cell? w _ hx180_0)).trans hx180_0
           replace hx180_1 := (HB.out.cell (World.block_lt_of_cell? w _ hx180_1)).trans hx180_1
           replace p180 := eq_true p180
           replace q180 := eq_true q180
           have p181 : 0 ≤ ((ji10) : Int) := od_ (by first | (with_reducible assumption) | assumption)
           have q181 : (ji10) < (l0_0.length : Int) := od_ (by first | (with_reducible assumption) | assumption)
           obtain ⟨ad181, e181, hx181_0, hx181_1⟩ := at_T71 HR0_0.out (ji10) p181 q181
           obtain rfl : ad179 = ad181 := (by injection e181)
           replace hx181_0 := (HB.out.cell (World.block_lt_of_cell? w _ hx181_0)).trans hx181_0
           replace hx181_1 := (HB.out.cell (World.block_lt_of_cell? w _ hx181_1)).trans hx181_1
           replace p181 := eq_true p181
           replace q181 := eq_true q181
           have p182 : 0 ≤ (x3_1 : Int) := od_ (by first | (with_reducible assumption) | assumption)
           have q182 : x3_1 < (l0_0.length : Int) := od_ (by first | (with_reducible assumption) | assumption)
           obtain ⟨ad182, e182, hx182_0, hx182_1⟩ := at_T71 HR0_0.out x3_1 p182 q182
           obtain rfl : ad179 = ad182 := (by injection e182)
           replace hx182_0 := (HB.out.cell (World.block_lt_of_cell? w _ hx182_0)).trans hx182_0
           replace hx182_1 := (HB.out.cell (World.block_lt_of_cell? w _ hx182_1)).trans hx182_1
           replace p182 := eq_true p182
           replace q182 := eq_true q182
           go_wp2
           repeat (go_quiet (fail); try go_wp2)
           go_ret
           exact ⟨by first | rfl | (simp [errW_none, errW_some] <;> rfl) | (simp only [← hji10]; first | rfl | (simp [errW_none, errW_some] <;> rfl)) | (simp [*, errW_none, errW_some] <;> rfl), bw_⟩
         ·
          rw [if_neg c12] at H
          exact absurd H (by simp)
        ·
         rw [if_neg c11] at H
         exact absurd H (by simp)
       ·
        rw [if_neg c9] at H
        have c9b0 : decide (0 < x3_1) = false := decide_eq_false c9
        clear c9
        have H' := A_ H
        clear H
        have hcz16_0 : wr.cell? ⟨gb301, 0, none⟩ = some (.slice A0_0 l0_0.length c0_0) := (bc_ BK301.out 0).trans rfl
        have hcz16_1 : wr.cell? ⟨gb301, 1, none⟩ = some (.int .i64 a0_1) := (bc_ BK301.out 1).trans rfl
        have hcz16_2 : wr.cell? ⟨gb301, 2, none⟩ = some (.int .u64 a0_2) := (bc_ BK301.out 2).trans rfl
        have hfz16_0 := bf_ BK301.out 0
        have hfz16_1 := bf_ BK301.out 1
        have hfz16_2 := bf_ BK301.out 2
        have p179 : 0 ≤ (x3_1 : Int) := od_ (by first | (with_reducible assumption) | assumption)
        have q179 : x3_1 < (l0_0.length : Int) := od_ (by first | (with_reducible assumption) | assumption)
        obtain ⟨ad179, e179, hx179_0, hx179_1⟩ := at_T71 HR0_0.out x3_1 p179 q179
        cases e179
        replace hx179_0 := (HB.out.cell (World.block_lt_of_cell? w _ hx179_0)).trans hx179_0
        replace hx179_1 := (HB.out.cell (World.block_lt_of_cell? w _ hx179_1)).trans hx179_1
        replace p179 := eq_true p179
        replace q179 := eq_true q179
        have p180 : 0 ≤ (x3_1 : Int) := od_ (by first | (with_reducible assumption) | assumption)
        have q180 : x3_1 < (l0_0.length : Int) := od_ (by first | (with_reducible assumption) | assumption)
        obtain ⟨ad180, e180, hx180_0, hx180_1⟩ := at_T71 HR0_0.out x3_1 p180 q180
        obtain rfl : ad179 = ad180 := (by injection e180)
        replace hx180_0 := (HB.out.cell (World.block_lt_of_cell? w _ hx180_0)).trans hx180_0
        replace hx180_1 := (HB.out.cell (World.block_lt_of_cell? w _ hx180_1)).trans hx180_1
        replace p180 := eq_true p180
        replace q180 := eq_true q180
        go_wp2
        repeat (go_quiet (fail); try go_wp2)
        go_roundg k1
        case measure => have := HK1.out; omega
        case rel => exact ⟨(wrap64 (x3_1 + 1)), (by first | rfl | (simp; done) | (simp [*]; done)), H', ⟨by have := HK1.out; omega⟩, ⟨bk_⟩, ⟨bw_⟩⟩
    ·
     rw [if_neg c4] at H
     exact absurd H (by simp)
   ·
    rw [if_neg c3] at H
    have c3b0 : decide (x3_1 < (l0_0.length : Int)) = false := decide_eq_false c3
    clear c3
    obtain rfl := Option.some.inj H
    have hcz17_0 : wr.cell? ⟨gb301, 0, none⟩ = some (.slice A0_0 l0_0.length c0_0) := (bc_ BK301.out 0).trans rfl
    have hcz17_1 : wr.cell? ⟨gb301, 1, none⟩ = some (.int .i64 a0_1) := (bc_ BK301.out 1).trans rfl
    have hcz17_2 : wr.cell? ⟨gb301, 2, none⟩ = some (.int .u64 a0_2) := (bc_ BK301.out 2).trans rfl
    have hfz17_0 := bf_ BK301.out 0
    have hfz17_1 := bf_ BK301.out 1
    have hfz17_2 := bf_ BK301.out 2
    go_wp2
    repeat (go_quiet (fail); try go_wp2)
    go_ret
    exact ⟨by first | rfl | (simp [errW_none, errW_some] <;> rfl) | (simp [*, errW_none, errW_some] <;> rfl), bw_⟩
end Go.Proofs.Ythhgcjlgnafdcaa.Px
end
section
namespace Go.Proofs.Ythhgcjlgnafdcaa.Px
open Go.RowKit Go.Proofs.YthhgcjlgnafdcaaW.PrintWords Go.Proofs.YthhgcjlgnafdcaaW.PrintLast Go.Proofs.YthhgcjlgnafdcaaW.PrintMore
attribute [local go_sem] max2_int min2_int max_two min_two max_three min_three max_four min_four   -- for this text's walks alone
set_option linter.unusedVariables false
set_option linter.unusedSimpArgs false
attribute [local go_sem] run_add64_any
def clevislaw17_To.l0 : Nat → Int → List (S71) → Int → Int → List (S79) → Int → Int → Option ((List (S79)) × Int × Int)
 | 0, _, _, _, _, _, _, _ => none
 | k + 1, x4, x302000, x302001, x302002, x304000, x304001, x304002 => if x4 < (x302000.length : Int) then (if x4 < 30 then (if 0 ≤ x4 then (if x304000.length < 5864062014805 then (clevislaw17_To.l0 k (wrap64 (x4 + 1)) x302000 x302001 x302002 (x304000 ++ [(⟨(rd_T71 x302000 x4).f0, (rd_T71 x302000 x4).f1⟩ : S79)]) x304001 x304002) else (none)) else (none)) else (some (x304000, x304001, x304002))) else (some (x304000, x304001, x304002))
def clevislaw17_To.f (k : Nat) (l0_0 : List (S71)) (a0_1 : Int) (a0_2 : Int) : Option ((List (S79)) × Int × Int) := clevislaw17_To.l0 k 0 l0_0 a0_1 a0_2 ([] : List (S79)) a0_1 a0_2
def clevislaw17_To.T5 : Bool × List (List Nat × List Nat) := (true, [([], []), ([0], [0]), ([], []), ([2], [2]), ([], []), ([3, 4], [3, 4]), ([5], [5]), ([6], [6]), ([], []), ([8], [8]), ([], []), ([9, 10], [9, 10]), ([11], [11]), ([12], [12]), ([7, 13], [7, 13]), ([14], [14]), ([1, 15], [1, 15]), ([0, 1, 2, 3, 4, 5, 6, 7, 8, 9, 10, 11, 12, 13, 14, 15, 16], []), ([17, 16, 16, 0, 1, 2, 3, 4, 5, 6, 7, 8, 9, 10, 11, 12, 13, 14, 15, 16], [16, 17])])
def clevislaw17_To.B5 : List Nat := [0, 1, 0, 4, 0, 28, 60, 124, 0, 256, 0, 1792, 3840, 7936, 16380, 32764, 65535, 131071, 262143]
theorem clevislaw17_To.tab5 : rtab .any (opsOf Try.f19 5) = clevislaw17_To.T5 := by kernel_rfl
theorem clevislaw17_To.bits5 : waitsOk clevislaw17_To.T5.2 clevislaw17_To.B5 = true := by kernel_rfl
set_option maxHeartbeats 8000000 in
set_option maxRecDepth 100000 in
theorem clevislaw17_To.calls (k : Nat) (A0_0 : Option Addr) (c0_0 : Nat) (l0_0 : List (S71)) (a0_1 : Int) (a0_2 : Int) (r1 : List (S79)) (r2 : Int) (r3 : Int) (w : World) (hr0_0 : Kd.C k71 w A0_0 l0_0.length l0_0) (hc0_0 : l0_0.length ≤ c0_0) (h : clevislaw17_To.f k l0_0 a0_1 a0_2 = some (r1, r2, r3)) :
  Calls Try.prog 19 #[.agg #[.slice A0_0 l0_0.length c0_0, .int .i64 a0_1, .int .u64 a0_2]] w fun e w' => ∃ v0_ : Value, e = .returned (.agg #[v0_, .int .i64 r2, .int .u64 r3]) ∧ Kd.R k79 79 w' w.heap.size (fun _ => True) v0_ r1 ∧ Below w.heap.size w w' := by
 have hu41 := Try.underlying41
 have hu45 := Try.underlying45
 have hu43 := Try.underlying43
 have hu79 := Try.underlying79
 have HR0_0 := A_ hr0_0
 have HC0_0 := A_ hc0_0
 clear hr0_0 hc0_0
 have HB := A_ (Below.refl w.heap.size w)
 have H : (clevislaw17_To.l0 k 0 l0_0 a0_1 a0_2 ([] : List (S79)) a0_1 a0_2) = some (r1, r2, r3) := h
 clear h
 have H' := A_ H
 clear H
 go_enter Try.func19, Try.ntmps19
 go_wp2_with (first | ((with_reducible refine gate_dst (N := 1) rfl ?_); refine box_event ?hg (N := 1) ?hd (cs := #[.slice A0_0 l0_0.length c0_0, .int .i64 a0_1, .int .u64 a0_2]) (t := 41) ?hr ?_; (case hd => rfl); (case hg => rfl); (case hr => first | (go_simp; done) | (go_simp; rfl)); intro gb301 hg w2 hbox hb; have n0_ := A_ (bs_ bw_ hb); have n1_ := A_ (hbox); have n2_ := A_ ((by rw [hg]; exact (bz_ bw_) : w.heap.size ≤ gb301)); have n3_ := A_ ((by rw [hg]; exact (bz_ bw_) : w.heap.size ≤ gb301)); clear HB; have HB := n0_; have BK301 := n1_; have GW301 := n2_; have GE301 := n3_; clear n0_ n1_ n2_ n3_; clear hb hbox hg) | ((with_reducible refine gate_dst (N := 2) rfl ?_); refine box_event ?hg (N := 2) ?hd (cs := #[.slice none 0 0, .int .i64 0, .int .u64 0]) (t := 45) ?hr ?_; (case hd => rfl); (case hg => rfl); (case hr => first | (go_simp; done) | (go_simp; rfl)); intro gb302 hg w3 hbox hb; have n0_ := A_ (kb_ BK301 hb); have n1_ := A_ (bs_ bw_ hb); have n2_ := A_ (hbox); have n3_ := A_ ((by rw [hg]; exact (bz_ bw_) : w.heap.size ≤ gb302)); have n4_ := A_ ((by rw [hg]; exact (bz_ bw_) : w.heap.size ≤ gb302)); have n5_ := A_ ((by rw [hg]; exact nl_ (lt_ BK301) : gb301 ≠ gb302)); have n6_ := A_ ((by rw [hg]; exact ng_ (lt_ BK301) : gb302 ≠ gb301)); clear BK301; clear HB; have BK301 := n0_; have HB := n1_; have BK302 := n2_; have GW302 := n3_; have GE302 := n4_; have NB301_302 := n5_; have NB302_301 := n6_; clear n0_ n1_ n2_ n3_ n4_ n5_ n6_; clear hb hbox hg; have hnb4 := NB301_302.out; have hnc4 := NB302_301.out; have hcz5_0 : w3.cell? ⟨gb301, 0, none⟩ = some (.slice A0_0 l0_0.length c0_0) := (bc_ BK301.out 0).trans rfl; have hcz5_1 : w3.cell? ⟨gb301, 1, none⟩ = some (.int .i64 a0_1) := (bc_ BK301.out 1).trans rfl; have hcz5_2 : w3.cell? ⟨gb301, 2, none⟩ = some (.int .u64 a0_2) := (bc_ BK301.out 2).trans rfl; have hfz5_0 := bf_ BK301.out 0; have hfz5_1 := bf_ BK301.out 1; have hfz5_2 := bf_ BK301.out 2) | ((with_reducible refine gate_dst (N := 3) rfl ?_); refine box_event ?hg (N := 3) ?hd (cs := #[.slice none 0 0, .int .i64 0, .int .u64 0]) (t := 45) ?hr ?_; (case hd => rfl); (case hg => rfl); (case hr => first | (go_simp; done) | (go_simp; rfl)); intro gb303 hg w6 hbox hb; have n0_ := A_ (kb_ BK301 hb); have n1_ := A_ (kb_ BK302 hb); have n2_ := A_ (bs_ bw_ hb); have n3_ := A_ (hbox); have n4_ := A_ ((by rw [hg]; exact (bz_ bw_) : w.heap.size ≤ gb303)); have n5_ := A_ ((by rw [hg]; exact (bz_ bw_) : w.heap.size ≤ gb303)); have n6_ := A_ ((by rw [hg]; exact nl_ (lt_ BK301) : gb301 ≠ gb303)); have n7_ := A_ ((by rw [hg]; exact ng_ (lt_ BK301) : gb303 ≠ gb301)); have n8_ := A_ ((by rw [hg]; exact nl_ (lt_ BK302) : gb302 ≠ gb303)); have n9_ := A_ ((by rw [hg]; exact ng_ (lt_ BK302) : gb303 ≠ gb302)); clear BK301; clear BK302; clear HB; have BK301 := n0_; have BK302 := n1_; have HB := n2_; have BK303 := n3_; have GW303 := n4_; have GE303 := n5_; have NB301_303 := n6_; have NB303_301 := n7_; have NB302_303 := n8_; have NB303_302 := n9_; clear n0_ n1_ n2_ n3_ n4_ n5_ n6_ n7_ n8_ n9_; clear hb hbox hg; have hnb7 := NB303_301.out; have hnc7 := NB301_303.out; have hnb8 := NB303_302.out; have hnc8 := NB302_303.out; have hcz9_0 : w6.cell? ⟨gb303, 0, none⟩ = some (.slice none 0 0) := (bc_ BK303.out 0).trans rfl; have hcz9_1 : w6.cell? ⟨gb303, 1, none⟩ = some (.int .i64 0) := (bc_ BK303.out 1).trans rfl; have hcz9_2 : w6.cell? ⟨gb303, 2, none⟩ = some (.int .u64 0) := (bc_ BK303.out 2).trans rfl; have hfz9_0 := bf_ BK303.out 0; have hfz9_1 := bf_ BK303.out 1; have hfz9_2 := bf_ BK303.out 2))
 (try simp only [Act.put, sA_, sZ_, sS_])
 go_loopg [4] k (fun kq v4 w' => ∃ (x4_1 : Int) (x304000_1 : List (S79)) (u304000 : Value), v4 = .int .i64 x4_1 ∧ Aside0 (clevislaw17_To.l0 kq x4_1 l0_0 a0_1 a0_2 x304000_1 a0_1 a0_2 = some (r1, r2, r3)) ∧ Aside0 (kq ≤ k) ∧ Aside0 (Kd.R k79 79 w' w.heap.size (fun _ => True) u304000 x304000_1) ∧ Aside0 (w'.heap[gb301]? = some (.cells #[(.slice A0_0 l0_0.length c0_0), .int .i64 a0_1, .int .u64 a0_2] 41 (0, 0))) ∧ Aside0 (w'.heap[gb302]? = some (.cells #[(.slice none 0 0), .int .i64 0, .int .u64 0] 45 (0, 0))) ∧ Aside0 (w'.heap[gb303]? = some (.cells #[u304000, .int .i64 a0_1, .int .u64 a0_2] 45 (0, 0))) ∧ Aside0 (Below w.heap.size w w'))
 case atStart => exact ⟨(0), (([] : List (S79))), (.slice none 0 0), (by first | rfl | (simp; done) | (simp [*]; done)), H', ⟨Nat.le_refl _⟩, ⟨by first | exact Kd.R_nil _ _ _ _ _ | exact Kd.N_nil _ _ _ _ _ | exact Kd.V_nil _ _ _ _ _ | exact Kd.Q_nil _ _ _ _ _ | exact Kd.S_nil _ _ _ _ _⟩, ⟨bk_⟩, ⟨bk_⟩, ⟨by (with_reducible repeat (first | refine bn_ ?_ _ | refine bd_ ?_ | refine ba_ ?_ _)); refine bp_ (cs := #[.slice none 0 0, .int .i64 a0_1, .int .u64 0]) ?_ 2 _ rfl; (with_reducible repeat (first | refine bn_ ?_ _ | refine bd_ ?_ | refine ba_ ?_ _)); refine bp_ (cs := #[.slice none 0 0, .int .i64 0, .int .u64 0]) ?_ 1 _ rfl; (with_reducible repeat (first | refine bn_ ?_ _ | refine bd_ ?_ | refine ba_ ?_ _)); refine bp_ (cs := #[.slice none 0 0, .int .i64 0, .int .u64 0]) ?_ 0 _ rfl; (with_reducible repeat (first | refine bn_ ?_ _ | refine bd_ ?_ | refine ba_ ?_ _)); exact BK303.out⟩, ⟨bw_⟩⟩
 case round =>
  clear H'
  try clear c1
  try clear p2
  try clear c4
  try clear c7
  try clear c8
  try clear hcz5_0
  try clear hcz5_1
  try clear hcz5_2
  try clear hcz9_0
  try clear hcz9_1
  try clear hcz9_2
  try clear hfz5_0
  try clear hfz5_1
  try clear hfz5_2
  try clear hfz9_0
  try clear hfz9_1
  try clear hfz9_2
  obtain ⟨x4_1, x304000_1, u304000, rfl, HA, HK1, HO_304000, BK301, BK302, BK303, HB⟩ := hrel
  cases gk with
  | zero => exact absurd HA.out (by simp [clevislaw17_To.l0])
  | succ k1 =>
   have H := HA.out
   clear HA
   simp only [clevislaw17_To.l0] at H
   by_cases c10 : x4_1 < (l0_0.length : Int)
   ·
    rw [if_pos c10] at H
    have c10b0 : decide (x4_1 < (l0_0.length : Int)) = true := decide_eq_true c10
    clear c10
    by_cases c11 : x4_1 < 30
    ·
     rw [if_pos c11] at H
     have c11b0 : decide (x4_1 < 30) = true := decide_eq_true c11
     clear c11
     by_cases c12 : 0 ≤ x4_1
     ·
      rw [if_pos c12] at H
      have c12b0 : decide (0 ≤ x4_1) = true := decide_eq_true c12
      clear c12
      by_cases c13 : x304000_1.length < 5864062014805
      ·
       rw [if_pos c13] at H
       have LMc13 := A_ c13
       clear c13
       obtain ⟨y201, hy201⟩ : ∃ y_ : List (S79), y_ = (x304000_1 ++ [(⟨(rd_T71 l0_0 x4_1).f0, (rd_T71 l0_0 x4_1).f1⟩ : S79)]) := ⟨_, rfl⟩
       replace H : (clevislaw17_To.l0 k1 (wrap64 (x4_1 + 1)) l0_0 a0_1 a0_2 y201 a0_1 a0_2) = some (r1, r2, r3) := by first | (rw [hy201]; with_reducible exact H) | (have H2_ := (Option.bind_some _ _).symm.trans H; rw [hy201]; with_reducible exact H2_) | (have H2_ := (Option.bind_some _ _).symm.trans H; with_reducible exact H2_) | with_reducible exact H | (rw [hy201]; exact H) | exact H
       have Ny201 := A_ hy201
       clear hy201
       have H' := A_ H
       clear H
       have hnb14 := NB301_302.out
       have hnc14 := NB302_301.out
       have hnb15 := NB301_303.out
       have hnc15 := NB303_301.out
       have hcz16_0 : wr.cell? ⟨gb301, 0, none⟩ = some (.slice A0_0 l0_0.length c0_0) := (bc_ BK301.out 0).trans rfl
       have hcz16_1 : wr.cell? ⟨gb301, 1, none⟩ = some (.int .i64 a0_1) := (bc_ BK301.out 1).trans rfl
       have hcz16_2 : wr.cell? ⟨gb301, 2, none⟩ = some (.int .u64 a0_2) := (bc_ BK301.out 2).trans rfl
       have hfz16_0 := bf_ BK301.out 0
       have hfz16_1 := bf_ BK301.out 1
       have hfz16_2 := bf_ BK301.out 2
       try go_wp2
       have n0_ := A_ (Kd.R_drew HO_304000.out)
       have n1_ := A_ (bd_ BK301.out)
       have n2_ := A_ (bd_ BK302.out)
       have n3_ := A_ (bd_ BK303.out)
       have n4_ := A_ (b1_ HB.out)
       clear HO_304000
       clear BK301
       clear BK302
       clear BK303
       clear HB
       have HO_304000 := n0_
       have BK301 := n1_
       have BK302 := n2_
       have BK303 := n3_
       have HB := n4_
       clear n0_ n1_ n2_ n3_ n4_
       have p199 : 0 ≤ (x4_1 : Int) := od_ (by first | (with_reducible assumption) | assumption)
       have q199 : x4_1 < (l0_0.length : Int) := od_ (by first | (with_reducible assumption) | assumption)
       obtain ⟨ad199, e199, hx199_0, hx199_1⟩ := at_T71 HR0_0.out x4_1 p199 q199
       have hw199_1 := hx199_1
       have hw199_0 := hx199_0
       cases e199
       replace hx199_0 := (HB.out.cell (World.block_lt_of_cell? w _ hx199_0)).trans hx199_0
       replace hx199_1 := (HB.out.cell (World.block_lt_of_cell? w _ hx199_1)).trans hx199_1
       replace p199 := eq_true p199
       replace q199 := eq_true q199
       have p200 : 0 ≤ (x4_1 : Int) := od_ (by first | (with_reducible assumption) | assumption)
       have q200 : x4_1 < (l0_0.length : Int) := od_ (by first | (with_reducible assumption) | assumption)
       obtain ⟨ad200, e200, hx200_0, hx200_1⟩ := at_T71 HR0_0.out x4_1 p200 q200
       have hw200_1 := hx200_1
       have hw200_0 := hx200_0
       obtain rfl : ad199 = ad200 := (by injection e200)
       replace hx200_0 := (HB.out.cell (World.block_lt_of_cell? w _ hx200_0)).trans hx200_0
       replace hx200_1 := (HB.out.cell (World.block_lt_of_cell? w _ hx200_1)).trans hx200_1
       replace p200 := eq_true p200
       replace q200 := eq_true q200
       refine start_ (n := 19) (S := fun w' => w'.cell? ⟨gb303, 0, none⟩ = some (u304000) ∧ w'.cell? ⟨gb303, 1, none⟩ = some (.int .i64 a0_1) ∧ w'.cell? ⟨gb303, 2, none⟩ = some (.int .u64 a0_2) ∧ w'.cell? ⟨gb301, 0, none⟩ = some (.slice (some ad199) l0_0.length c0_0) ∧ w'.cell? ⟨gb301, 1, none⟩ = some (.int .i64 a0_1) ∧ w'.cell? ⟨gb301, 2, none⟩ = some (.int .u64 a0_2) ∧ w'.cell? (ad199.add ((x4_1).toNat * 2)) = some (.string ((rd_T71 l0_0 x4_1).f0)) ∧ w'.cell? ⟨(ad199.add ((x4_1).toNat * 2)).block, (ad199.add ((x4_1).toNat * 2)).off + 1, none⟩ = some (.int .i64 ((rd_T71 l0_0 x4_1).f1)) ∧ w'.cell? (ad199.add ((x4_1).toNat * 2)) = some (.string ((rd_T71 l0_0 x4_1).f0)) ∧ w'.cell? ⟨(ad199.add ((x4_1).toNat * 2)).block, (ad199.add ((x4_1).toNat * 2)).off + 1, none⟩ = some (.int .i64 ((rd_T71 l0_0 x4_1).f1))) (ds := [18]) #[false, false, false, false, false, false, false, false, false, false, false, false, false, false, false, false, false, false, false] (by kernel_rfl) rfl rfl ⟨(bc_ BK303.out 0).trans rfl, (bc_ BK303.out 1).trans rfl, (bc_ BK303.out 2).trans rfl, (bc_ BK301.out 0).trans rfl, (bc_ BK301.out 1).trans rfl, (bc_ BK301.out 2).trans rfl, ((HB.out.cell (World.block_lt_of_cell? w _ hw199_0)).trans hw199_0), ((HB.out.cell (World.block_lt_of_cell? w _ hw199_1)).trans hw199_1), ((HB.out.cell (World.block_lt_of_cell? w _ hw200_0)).trans hw200_0), ((HB.out.cell (World.block_lt_of_cell? w _ hw200_1)).trans hw200_1)⟩ (fun hHeld => ?_); refine with_tabW clevislaw17_To.tab5 clevislaw17_To.bits5 (fun HT_ HW_ => ?_)
       generalize wr.drew = w17 at HO_304000 BK301 BK302 BK303 HB hx199_0 hx199_1 hx200_0 hx200_1 hHeld ⊢
       refine pure_ (i := 0) (N := some 22) (v := ?_) (a' := ?_) #[true, false, false, false, false, false, false, false, false, false, false, false, false, false, false, false, false, false, false] rfl rfl (any_of HT_.out (by kernel_rfl)) (fun _ _ _ h => h) (Or.inl ⟨by rfl, ?_⟩) ?_ ?_
       rotate_left
       ·
        intro w'
        go_simp
        with_reducible rfl
       rotate_left
       ·
        simp only [Act.put, sA_, sZ_, sS_, i64_w, i32_w]
        rfl
       refine pure_ (i := 2) (N := some 24) (v := ?_) (a' := ?_) #[true, false, true, false, false, false, false, false, false, false, false, false, false, false, false, false, false, false, false] rfl rfl (any_of HT_.out (by kernel_rfl)) (fun _ _ _ h => h) (Or.inl ⟨by rfl, ?_⟩) ?_ ?_
       rotate_left
       ·
        intro w'
        go_simp
        with_reducible rfl
       rotate_left
       ·
        simp only [Act.put, sA_, sZ_, sS_, i64_w, i32_w]
        rfl
       refine pure_ (i := 4) (N := some 26) (v := ?_) (a' := ?_) #[true, false, true, false, true, false, false, false, false, false, false, false, false, false, false, false, false, false, false] rfl rfl (any_of HT_.out (by kernel_rfl)) (fun _ _ _ h => h) (Or.inl ⟨by rfl, ?_⟩) ?_ ?_
       rotate_left
       ·
        intro w'
        go_simp
        with_reducible rfl
       rotate_left
       ·
        simp only [Act.put, sA_, sZ_, sS_, i64_w, i32_w]
        rfl
       refine pure_ (i := 8) (N := some 30) (v := ?_) (a' := ?_) #[true, false, true, false, true, false, false, false, true, false, false, false, false, false, false, false, false, false, false] rfl rfl (any_of HT_.out (by kernel_rfl)) (fun _ _ _ h => h) (Or.inl ⟨by rfl, ?_⟩) ?_ ?_
       rotate_left
       ·
        intro w'
        go_simp
        with_reducible rfl
       rotate_left
       ·
        simp only [Act.put, sA_, sZ_, sS_, i64_w, i32_w]
        rfl
       refine pure_ (i := 10) (N := some 32) (v := ?_) (a' := ?_) #[true, false, true, false, true, false, false, false, true, false, true, false, false, false, false, false, false, false, false] rfl rfl (any_of HT_.out (by kernel_rfl)) (fun _ _ _ h => h) (Or.inl ⟨by rfl, ?_⟩) ?_ ?_
       rotate_left
       ·
        intro w'
        go_simp
        with_reducible rfl
       rotate_left
       ·
        simp only [Act.put, sA_, sZ_, sS_, i64_w, i32_w]
        rfl
       refine take_ (i := 1) (N := some 23) (v := ?_) (a' := ?_) #[true, true, true, false, true, false, false, false, true, false, true, false, false, false, false, false, false, false, false] rfl rfl (take_ofW HT_.out HW_.out (by kernel_rfl)) (fun _ _ _ h => h) (Or.inl ⟨by rfl, ?_⟩) hHeld ?_ ?_
       rotate_left
       ·
        rintro w' ⟨s0, s1, s2, s3, s4, s5, s6, s7, s8, s9⟩
        go_simp
        with_reducible rfl
       rotate_left
       ·
        simp only [Act.put, sA_, sZ_, sS_, i64_w, i32_w]
        rfl
       refine take_ (i := 3) (N := some 25) (v := ?_) (a' := ?_) #[true, true, true, true, true, false, false, false, true, false, true, false, false, false, false, false, false, false, false] rfl rfl (take_ofW HT_.out HW_.out (by kernel_rfl)) (fun _ _ _ h => h) (Or.inl ⟨by rfl, ?_⟩) hHeld ?_ ?_
       rotate_left
       ·
        rintro w' ⟨s0, s1, s2, s3, s4, s5, s6, s7, s8, s9⟩
        go_simp
        with_reducible rfl
       rotate_left
       ·
        simp only [Act.put, sA_, sZ_, sS_, i64_w, i32_w]
        rfl
       refine pure_ (i := 5) (N := some 27) (v := ?_) (a' := ?_) #[true, true, true, true, true, true, false, false, true, false, true, false, false, false, false, false, false, false, false] rfl rfl (any_of HT_.out (by kernel_rfl)) (fun _ _ _ h => h) (Or.inl ⟨by rfl, ?_⟩) ?_ ?_
       rotate_left
       ·
        intro w'
        go_simp
        with_reducible rfl
       rotate_left
       ·
        simp only [Act.put, sA_, sZ_, sS_, i64_w, i32_w]
        rfl
       refine pure_ (i := 6) (N := some 28) (v := ?_) (a' := ?_) #[true, true, true, true, true, true, true, false, true, false, true, false, false, false, false, false, false, false, false] rfl rfl (any_of HT_.out (by kernel_rfl)) (fun _ _ _ h => h) (Or.inl ⟨by rfl, ?_⟩) ?_ ?_
       rotate_left
       ·
        intro w'
        go_simp
        with_reducible rfl
       rotate_left
       ·
        simp only [Act.put, sA_, sZ_, sS_, i64_w, i32_w]
        rfl
       refine take_ (i := 7) (N := some 29) (v := ?_) (a' := ?_) #[true, true, true, true, true, true, true, true, true, false, true, false, false, false, false, false, false, false, false] rfl rfl (take_ofW HT_.out HW_.out (by kernel_rfl)) (fun _ _ _ h => h) (Or.inl ⟨by rfl, ?_⟩) hHeld ?_ ?_
       rotate_left
       ·
        rintro w' ⟨s0, s1, s2, s3, s4, s5, s6, s7, s8, s9⟩
        go_simp
        with_reducible rfl
       rotate_left
       ·
        simp only [Act.put, sA_, sZ_, sS_, i64_w, i32_w]
        rfl
       refine take_ (i := 9) (N := some 31) (v := ?_) (a' := ?_) #[true, true, true, true, true, true, true, true, true, true, true, false, false, false, false, false, false, false, false] rfl rfl (take_ofW HT_.out HW_.out (by kernel_rfl)) (fun _ _ _ h => h) (Or.inl ⟨by rfl, ?_⟩) hHeld ?_ ?_
       rotate_left
       ·
        rintro w' ⟨s0, s1, s2, s3, s4, s5, s6, s7, s8, s9⟩
        go_simp
        with_reducible rfl
       rotate_left
       ·
        simp only [Act.put, sA_, sZ_, sS_, i64_w, i32_w]
        rfl
       refine pure_ (i := 11) (N := some 33) (v := ?_) (a' := ?_) #[true, true, true, true, true, true, true, true, true, true, true, true, false, false, false, false, false, false, false] rfl rfl (any_of HT_.out (by kernel_rfl)) (fun _ _ _ h => h) (Or.inl ⟨by rfl, ?_⟩) ?_ ?_
       rotate_left
       ·
        intro w'
        go_simp
        with_reducible rfl
       rotate_left
       ·
        simp only [Act.put, sA_, sZ_, sS_, i64_w, i32_w]
        rfl
       refine pure_ (i := 12) (N := some 34) (v := ?_) (a' := ?_) #[true, true, true, true, true, true, true, true, true, true, true, true, true, false, false, false, false, false, false] rfl rfl (any_of HT_.out (by kernel_rfl)) (fun _ _ _ h => h) (Or.inl ⟨by rfl, ?_⟩) ?_ ?_
       rotate_left
       ·
        intro w'
        go_simp
        with_reducible rfl
       rotate_left
       ·
        simp only [Act.put, sA_, sZ_, sS_, i64_w, i32_w]
        rfl
       refine take_ (i := 13) (N := some 35) (v := ?_) (a' := ?_) #[true, true, true, true, true, true, true, true, true, true, true, true, true, true, false, false, false, false, false] rfl rfl (take_ofW HT_.out HW_.out (by kernel_rfl)) (fun _ _ _ h => h) (Or.inl ⟨by rfl, ?_⟩) hHeld ?_ ?_
       rotate_left
       ·
        rintro w' ⟨s0, s1, s2, s3, s4, s5, s6, s7, s8, s9⟩
        go_simp
        with_reducible rfl
       rotate_left
       ·
        simp only [Act.put, sA_, sZ_, sS_, i64_w, i32_w]
        rfl
       refine pure_ (i := 14) (N := some 36) (v := ?_) (a' := ?_) #[true, true, true, true, true, true, true, true, true, true, true, true, true, true, true, false, false, false, false] rfl rfl (any_of HT_.out (by kernel_rfl)) (fun _ _ _ h => h) (Or.inl ⟨by rfl, ?_⟩) ?_ ?_
       rotate_left
       ·
        intro w'
        go_simp
        with_reducible rfl
       rotate_left
       ·
        simp only [Act.put, sA_, sZ_, sS_, i64_w, i32_w]
        rfl
       refine one_ (i := 15) (N := some 37) #[true, true, true, true, true, true, true, true, true, true, true, true, true, true, true, true, false, false, false] rfl rfl (one_of HT_.out (by kernel_rfl)) (by decide) (fun K hK => ?_)
       refine value_ (w1 := ?_) (v := ?_) (by rfl) rfl ?_ ?_
       rotate_left 2
       ·
        go_simp
        constructor
        ·
         rfl
        ·
         rfl
       refine hK.out _ _ ⟨(bc_ (ba_ BK303.out _) 0).trans rfl, (bc_ (ba_ BK303.out _) 1).trans rfl, (bc_ (ba_ BK303.out _) 2).trans rfl, (bc_ (ba_ BK301.out _) 0).trans rfl, (bc_ (ba_ BK301.out _) 1).trans rfl, (bc_ (ba_ BK301.out _) 2).trans rfl, (World.cell?_alloc_lt _ _ _ (World.block_lt_of_cell? _ _ (((HB.out.cell (World.block_lt_of_cell? w _ hw199_0)).trans hw199_0)))).trans (((HB.out.cell (World.block_lt_of_cell? w _ hw199_0)).trans hw199_0)), (World.cell?_alloc_lt _ _ _ (World.block_lt_of_cell? _ _ (((HB.out.cell (World.block_lt_of_cell? w _ hw199_1)).trans hw199_1)))).trans (((HB.out.cell (World.block_lt_of_cell? w _ hw199_1)).trans hw199_1)), (World.cell?_alloc_lt _ _ _ (World.block_lt_of_cell? _ _ (((HB.out.cell (World.block_lt_of_cell? w _ hw200_0)).trans hw200_0)))).trans (((HB.out.cell (World.block_lt_of_cell? w _ hw200_0)).trans hw200_0)), (World.cell?_alloc_lt _ _ _ (World.block_lt_of_cell? _ _ (((HB.out.cell (World.block_lt_of_cell? w _ hw200_1)).trans hw200_1)))).trans (((HB.out.cell (World.block_lt_of_cell? w _ hw200_1)).trans hw200_1))⟩ (fun hHeld => ?_)
       clear hK K
       refine norm_ (a' := ?_) ?_ ?_
       rotate_left
       ·
        show Act.put _ (some 37) _ = _
        simp only [Act.put, sA_, sZ_, sS_, i64_w, i32_w]
        rfl
       refine one_ (i := 16) (N := some 38) #[true, true, true, true, true, true, true, true, true, true, true, true, true, true, true, true, true, false, false] rfl rfl (one_of HT_.out (by kernel_rfl)) (by decide) (fun K hK => ?_)
       refine Kd.R_append_step k79 (w0 := w) w.heap.size (by rfl) (.tmp 23) (.tmp 37) 23 79 (.agg #[(.string ⟨#[]⟩), (.int .i64 0)]) 24 rfl Try.underlying23 info79 rfl (by decide) (by omega) u304000 x304000_1 (⟨(rd_T71 l0_0 x4_1).f0, (rd_T71 l0_0 x4_1).f1⟩ : S79) [.string ((rd_T71 l0_0 x4_1).f0), .int .i64 ((rd_T71 l0_0 x4_1).f1)] (fun _ => True) (fun _ => False) rfl rfl ?aP (fun _ hk => hk.elim) ?aF ?aO ?aB ?aS ?aL ?_
       (case aP => exact k79_mkM _ _ _ (⟨(rd_T71 l0_0 x4_1).f0, (rd_T71 l0_0 x4_1).f1⟩ : S79))
       (case aB => exact bw_)
       (case aF => exact (fun _ _ => trivial))
       (case aO => exact (by (with_reducible repeat (first | apply Kd.R_alloc | apply Kd.R_drewN | apply Kd.R_drew)); exact HO_304000.out))
       (case aS => exact (bz_ bw_))
       (case aL => have := LMc13.out; omega)
       intro v202 w18 ho hb hg hat
       rw [← Ny201.out] at ho
       have n0_ := A_ (blk_grown (g := gb301) (o := .cells #[.slice (some ad199) l0_0.length c0_0, .int .i64 a0_1, .int .u64 a0_2] 41 (0, 0)) bk_ hg (Kd.R_ne HO_304000.out BK301.out (by decide)))
       have n1_ := A_ (blk_grown (g := gb302) (o := .cells #[.slice none 0 0, .int .i64 0, .int .u64 0] 45 (0, 0)) bk_ hg (Kd.R_ne HO_304000.out BK302.out (by decide)))
       have n2_ := A_ (blk_grown (g := gb303) (o := .cells #[u304000, .int .i64 a0_1, .int .u64 a0_2] 45 (0, 0)) bk_ hg (Kd.R_ne HO_304000.out BK303.out (by decide)))
       have n3_ := A_ (hb)
       have n4_ := A_ (ho)
       clear BK301
       clear BK302
       clear BK303
       clear HB
       clear HO_304000
       have BK301 := n0_
       have BK302 := n1_
       have BK303 := n2_
       have HB := n3_
       have HO203 := n4_
       clear n0_ n1_ n2_ n3_ n4_
       clear ho hb hg hat
       obtain ⟨Ao19, co19, eo19⟩ := Kd.R_slice HO203.out
       (first | subst eo19 | (injection eo19 with f1_ f2_ f3_; have f4_ := f1_.symm; have f5_ := f3_.symm; clear f1_ f2_ f3_; subst f4_; subst f5_))
       refine hK.out _ _ ⟨(bc_ BK303.out 0).trans rfl, (bc_ BK303.out 1).trans rfl, (bc_ BK303.out 2).trans rfl, (bc_ BK301.out 0).trans rfl, (bc_ BK301.out 1).trans rfl, (bc_ BK301.out 2).trans rfl, ((HB.out.cell (World.block_lt_of_cell? w _ hw199_0)).trans hw199_0), ((HB.out.cell (World.block_lt_of_cell? w _ hw199_1)).trans hw199_1), ((HB.out.cell (World.block_lt_of_cell? w _ hw200_0)).trans hw200_0), ((HB.out.cell (World.block_lt_of_cell? w _ hw200_1)).trans hw200_1)⟩ (fun hHeld => ?_)
       clear hK K
       refine norm_ (a' := ?_) ?_ ?_
       rotate_left
       ·
        show Act.put _ (some 38) _ = _
        simp only [Act.put, sA_, sZ_, sS_, i64_w, i32_w]
        rfl
       refine pure_ (i := 17) (N := some 39) (v := ?_) (a' := ?_) #[true, true, true, true, true, true, true, true, true, true, true, true, true, true, true, true, true, true, false] rfl rfl (any_of HT_.out (by kernel_rfl)) (fun _ _ _ h => h) (Or.inl ⟨by rfl, ?_⟩) ?_ ?_
       rotate_left
       ·
        intro w'
        go_simp
        with_reducible rfl
       rotate_left
       ·
        simp only [Act.put, sA_, sZ_, sS_, i64_w, i32_w]
        rfl
       refine last_ (i := 18) (N := none) #[true, true, true, true, true, true, true, true, true, true, true, true, true, true, true, true, true, true, true] rfl rfl (one_of HT_.out (by kernel_rfl)) (by decide) (fun K hK => ?_)
       have hs20 : w18.cell? ⟨gb303, 0, none⟩ = some (u304000) := (bc_ BK303.out 0).trans rfl
       have hfs20 := bf_ BK303.out 0
       have hns20_0 := NB301_303.out
       have hns20_1 := NB302_303.out
       have hms20_0 := NB303_301.out
       have hms20_1 := NB303_302.out
       refine skip_ (w1 := ?_) (by rfl) rfl ?_ ?_
       rotate_left
       ·
        go_simp
        rfl
       refine hK.out _ _ ?_
       clear hK K
       refine done_ (done_of HT_.out (by kernel_rfl)) ?_
       try go_wp2
       go_roundg k1
       case measure => have := HK1.out; omega
       case rel => exact ⟨(wrap64 (x4_1 + 1)), (y201), (.slice Ao19 y201.length co19), (by first | rfl | (simp; done) | (simp [*]; done)), H', ⟨by have := HK1.out; omega⟩, ⟨by (with_reducible repeat (first | apply Kd.R_alloc | apply Kd.R_drewN | apply Kd.R_drew)); exact Kd.R_mono (Kd.R_far (p := ⟨gb303, 0, none⟩) (Kd.R_types HO203.out BK303.out (by decide)) (fun _ hk => hk.2) (.slice Ao19 y201.length co19)) (fun _ hk => trivial)⟩, ⟨bk_⟩, ⟨bk_⟩, ⟨by (with_reducible repeat (first | refine bn_ ?_ _ | refine bd_ ?_ | refine ba_ ?_ _)); refine bp_ (cs := #[u304000, .int .i64 a0_1, .int .u64 a0_2]) ?_ 0 _ rfl; (with_reducible repeat (first | refine bn_ ?_ _ | refine bd_ ?_ | refine ba_ ?_ _)); exact BK303.out⟩, ⟨bw_⟩⟩
      ·
       rw [if_neg c13] at H
       exact absurd H (by simp)
     ·
      rw [if_neg c12] at H
      exact absurd H (by simp)
    ·
     rw [if_neg c11] at H
     have c11b0 : decide (x4_1 < 30) = false := decide_eq_false c11
     clear c11
     simp only [Option.some.injEq, Prod.mk.injEq] at H
     obtain ⟨rfl, rfl, rfl⟩ := H
     have hnb21 := NB301_302.out
     have hnc21 := NB302_301.out
     have hnb22 := NB301_303.out
     have hnc22 := NB303_301.out
     have hcz23_0 : wr.cell? ⟨gb301, 0, none⟩ = some (.slice A0_0 l0_0.length c0_0) := (bc_ BK301.out 0).trans rfl
     have hcz23_1 : wr.cell? ⟨gb301, 1, none⟩ = some (.int .i64 a0_1) := (bc_ BK301.out 1).trans rfl
     have hcz23_2 : wr.cell? ⟨gb301, 2, none⟩ = some (.int .u64 a0_2) := (bc_ BK301.out 2).trans rfl
     have hfz23_0 := bf_ BK301.out 0
     have hfz23_1 := bf_ BK301.out 1
     have hfz23_2 := bf_ BK301.out 2
     have hnb24 := NB303_302.out
     have hnc24 := NB302_303.out
     have hcz25_0 : wr.cell? ⟨gb303, 0, none⟩ = some (u304000) := (bc_ BK303.out 0).trans rfl
     have hcz25_1 : wr.cell? ⟨gb303, 1, none⟩ = some (.int .i64 a0_1) := (bc_ BK303.out 1).trans rfl
     have hcz25_2 : wr.cell? ⟨gb303, 2, none⟩ = some (.int .u64 a0_2) := (bc_ BK303.out 2).trans rfl
     have hfz25_0 := bf_ BK303.out 0
     have hfz25_1 := bf_ BK303.out 1
     have hfz25_2 := bf_ BK303.out 2
     obtain ⟨Ao26, co26, eo26⟩ := Kd.R_slice HO_304000.out
     subst eo26
     have hcz27_0 : wr.cell? ⟨gb302, 0, none⟩ = some (.slice none 0 0) := (bc_ BK302.out 0).trans rfl
     have hcz27_1 : wr.cell? ⟨gb302, 1, none⟩ = some (.int .i64 0) := (bc_ BK302.out 1).trans rfl
     have hcz27_2 : wr.cell? ⟨gb302, 2, none⟩ = some (.int .u64 0) := (bc_ BK302.out 2).trans rfl
     have hfz27_0 := bf_ BK302.out 0
     have hfz27_1 := bf_ BK302.out 1
     have hfz27_2 := bf_ BK302.out 2
     go_wp2
     refine bodyPost_ret (results_cell_row rfl _ _ gb302 45 #[.slice Ao26 x304000_1.length co26, .int .i64 a0_1, .int .u64 a0_2] (0, 0) _ rfl (by (with_reducible repeat (first | refine bn_ ?_ _ | refine bd_ ?_ | refine ba_ ?_ _)); refine bp_ (cs := #[.slice Ao26 x304000_1.length co26, .int .i64 a0_1, .int .u64 0]) ?_ 2 _ rfl; (with_reducible repeat (first | refine bn_ ?_ _ | refine bd_ ?_ | refine ba_ ?_ _)); refine bp_ (cs := #[.slice Ao26 x304000_1.length co26, .int .i64 0, .int .u64 0]) ?_ 1 _ rfl; (with_reducible repeat (first | refine bn_ ?_ _ | refine bd_ ?_ | refine ba_ ?_ _)); refine bp_ (cs := #[.slice none 0 0, .int .i64 0, .int .u64 0]) ?_ 0 _ rfl; (with_reducible repeat (first | refine bn_ ?_ _ | refine bd_ ?_ | refine ba_ ?_ _)); exact BK302.out) Try.underlying45 rfl (by kernel_rfl)) rfl ?_
     exact ⟨_, by first | rfl | (simp [errW_none, errW_some] <;> rfl) | (simp [*, errW_none, errW_some] <;> rfl), by (with_reducible repeat (first | apply Kd.R_alloc | apply Kd.R_drewN | apply Kd.R_drew)); exact Kd.R_mono (Kd.R_far (p := ⟨gb302, 2, none⟩) (Kd.R_far (p := ⟨gb302, 1, none⟩) (Kd.R_far (p := ⟨gb302, 0, none⟩) (Kd.R_types HO_304000.out BK302.out (by decide)) (fun _ hk => hk.2) (.slice Ao26 x304000_1.length co26)) (fun _ hk => hk.2) (.int .i64 a0_1)) (fun _ hk => hk.2) (.int .u64 a0_2)) (fun _ hk => trivial), bw_⟩
   ·
    rw [if_neg c10] at H
    have c10b0 : decide (x4_1 < (l0_0.length : Int)) = false := decide_eq_false c10
    clear c10
    simp only [Option.some.injEq, Prod.mk.injEq] at H
    obtain ⟨rfl, rfl, rfl⟩ := H
    have hnb28 := NB301_302.out
    have hnc28 := NB302_301.out
    have hnb29 := NB301_303.out
    have hnc29 := NB303_301.out
    have hcz30_0 : wr.cell? ⟨gb301, 0, none⟩ = some (.slice A0_0 l0_0.length c0_0) := (bc_ BK301.out 0).trans rfl
    have hcz30_1 : wr.cell? ⟨gb301, 1, none⟩ = some (.int .i64 a0_1) := (bc_ BK301.out 1).trans rfl
    have hcz30_2 : wr.cell? ⟨gb301, 2, none⟩ = some (.int .u64 a0_2) := (bc_ BK301.out 2).trans rfl
    have hfz30_0 := bf_ BK301.out 0
    have hfz30_1 := bf_ BK301.out 1
    have hfz30_2 := bf_ BK301.out 2
    have hnb31 := NB303_302.out
    have hnc31 := NB302_303.out
    have hcz32_0 : wr.cell? ⟨gb303, 0, none⟩ = some (u304000) := (bc_ BK303.out 0).trans rfl
    have hcz32_1 : wr.cell? ⟨gb303, 1, none⟩ = some (.int .i64 a0_1) := (bc_ BK303.out 1).trans rfl
    have hcz32_2 : wr.cell? ⟨gb303, 2, none⟩ = some (.int .u64 a0_2) := (bc_ BK303.out 2).trans rfl
    have hfz32_0 := bf_ BK303.out 0
    have hfz32_1 := bf_ BK303.out 1
    have hfz32_2 := bf_ BK303.out 2
    obtain ⟨Ao33, co33, eo33⟩ := Kd.R_slice HO_304000.out
    subst eo33
    have hcz34_0 : wr.cell? ⟨gb302, 0, none⟩ = some (.slice none 0 0) := (bc_ BK302.out 0).trans rfl
    have hcz34_1 : wr.cell? ⟨gb302, 1, none⟩ = some (.int .i64 0) := (bc_ BK302.out 1).trans rfl
    have hcz34_2 : wr.cell? ⟨gb302, 2, none⟩ = some (.int .u64 0) := (bc_ BK302.out 2).trans rfl
    have hfz34_0 := bf_ BK302.out 0
    have hfz34_1 := bf_ BK302.out 1
    have hfz34_2 := bf_ BK302.out 2
    go_wp2
    refine bodyPost_ret (results_cell_row rfl _ _ gb302 45 #[.slice Ao33 x304000_1.length co33, .int .i64 a0_1, .int .u64 a0_2] (0, 0) _ rfl (by (with_reducible repeat (first | refine bn_ ?_ _ | refine bd_ ?_ | refine ba_ ?_ _)); refine bp_ (cs := #[.slice Ao33 x304000_1.length co33, .int .i64 a0_1, .int .u64 0]) ?_ 2 _ rfl; (with_reducible repeat (first | refine bn_ ?_ _ | refine bd_ ?_ | refine ba_ ?_ _)); refine bp_ (cs := #[.slice Ao33 x304000_1.length co33, .int .i64 0, .int .u64 0]) ?_ 1 _ rfl; (with_reducible repeat (first | refine bn_ ?_ _ | refine bd_ ?_ | refine ba_ ?_ _)); refine bp_ (cs := #[.slice none 0 0, .int .i64 0, .int .u64 0]) ?_ 0 _ rfl; (with_reducible repeat (first | refine bn_ ?_ _ | refine bd_ ?_ | refine ba_ ?_ _)); exact BK302.out) Try.underlying45 rfl (by kernel_rfl)) rfl ?_
    exact ⟨_, by first | rfl | (simp [errW_none, errW_some] <;> rfl) | (simp [*, errW_none, errW_some] <;> rfl), by (with_reducible repeat (first | apply Kd.R_alloc | apply Kd.R_drewN | apply Kd.R_drew)); exact Kd.R_mono (Kd.R_far (p := ⟨gb302, 2, none⟩) (Kd.R_far (p := ⟨gb302, 1, none⟩) (Kd.R_far (p := ⟨gb302, 0, none⟩) (Kd.R_types HO_304000.out BK302.out (by decide)) (fun _ hk => hk.2) (.slice Ao33 x304000_1.length co33)) (fun _ hk => hk.2) (.int .i64 a0_1)) (fun _ hk => hk.2) (.int .u64 a0_2)) (fun _ hk => trivial), bw_⟩
end Go.Proofs.Ythhgcjlgnafdcaa.Px
end
section
namespace Go.Proofs.Ythhgcjlgnafdcaa.Px
open Go.RowKit Go.Proofs.YthhgcjlgnafdcaaW.PrintWords Go.Proofs.YthhgcjlgnafdcaaW.PrintLast Go.Proofs.YthhgcjlgnafdcaaW.PrintMore
attribute [local go_sem] max2_int min2_int max_two min_two max_three min_three max_four min_four   -- for this text's walks alone
set_option linter.unusedVariables false
set_option linter.unusedSimpArgs false
attribute [local go_sem] run_add64_any
def clevislaw17_Of.l0 : Nat → Int → List (S79) → Int → Int → List (S71) → Int → Int → Option ((List (S71)) × Int × Int)
 | 0, _, _, _, _, _, _, _ => none
 | k + 1, x4, x302000, x302001, x302002, x304000, x304001, x304002 => if x4 < (x302000.length : Int) then (if 0 ≤ x4 then (if x304000.length < 5864062014805 then (clevislaw17_Of.l0 k (wrap64 (x4 + 1)) x302000 x302001 x302002 (x304000 ++ [(⟨(rd_T79 x302000 x4).f0, (rd_T79 x302000 x4).f1⟩ : S71)]) x304001 x304002) else (none)) else (none)) else (some (x304000, x304001, x304002))
def clevislaw17_Of.f (k : Nat) (l0_0 : List (S79)) (a0_1 : Int) (a0_2 : Int) : Option ((List (S71)) × Int × Int) := clevislaw17_Of.l0 k 0 l0_0 a0_1 a0_2 ([] : List (S71)) a0_1 a0_2
def clevislaw17_Of.T5 : Bool × List (List Nat × List Nat) := (true, [([], []), ([0], [0]), ([], []), ([2], [2]), ([], []), ([3, 4], [3, 4]), ([5], [5]), ([6], [6]), ([], []), ([8], [8]), ([], []), ([9, 10], [9, 10]), ([11], [11]), ([12], [12]), ([7, 13], [7, 13]), ([14], [14]), ([1, 15], [1, 15]), ([0, 1, 2, 3, 4, 5, 6, 7, 8, 9, 10, 11, 12, 13, 14, 15, 16], []), ([17, 16, 16, 0, 1, 2, 3, 4, 5, 6, 7, 8, 9, 10, 11, 12, 13, 14, 15, 16], [16, 17])])
def clevislaw17_Of.B5 : List Nat := [0, 1, 0, 4, 0, 28, 60, 124, 0, 256, 0, 1792, 3840, 7936, 16380, 32764, 65535, 131071, 262143]
theorem clevislaw17_Of.tab5 : rtab .any (opsOf Try.f25 5) = clevislaw17_Of.T5 := by kernel_rfl
theorem clevislaw17_Of.bits5 : waitsOk clevislaw17_Of.T5.2 clevislaw17_Of.B5 = true := by kernel_rfl
set_option maxHeartbeats 8000000 in
set_option maxRecDepth 100000 in
theorem clevislaw17_Of.calls (k : Nat) (A0_0 : Option Addr) (c0_0 : Nat) (l0_0 : List (S79)) (a0_1 : Int) (a0_2 : Int) (r1 : List (S71)) (r2 : Int) (r3 : Int) (w : World) (hr0_0 : Kd.C k79 w A0_0 l0_0.length l0_0) (hc0_0 : l0_0.length ≤ c0_0) (h : clevislaw17_Of.f k l0_0 a0_1 a0_2 = some (r1, r2, r3)) :
  Calls Try.prog 25 #[.agg #[.slice A0_0 l0_0.length c0_0, .int .i64 a0_1, .int .u64 a0_2]] w fun e w' => ∃ v0_ : Value, e = .returned (.agg #[v0_, .int .i64 r2, .int .u64 r3]) ∧ Kd.R k71 71 w' w.heap.size (fun _ => True) v0_ r1 ∧ Below w.heap.size w w' := by
 have hu45 := Try.underlying45
 have hu41 := Try.underlying41
 have hu71 := Try.underlying71
 have HR0_0 := A_ hr0_0
 have HC0_0 := A_ hc0_0
 clear hr0_0 hc0_0
 have HB := A_ (Below.refl w.heap.size w)
 have H : (clevislaw17_Of.l0 k 0 l0_0 a0_1 a0_2 ([] : List (S71)) a0_1 a0_2) = some (r1, r2, r3) := h
 clear h
 have H' := A_ H
 clear H
 go_enter Try.func25, Try.ntmps25
 go_wp2_with (first | ((with_reducible refine gate_dst (N := 1) rfl ?_); refine box_event ?hg (N := 1) ?hd (cs := #[.slice A0_0 l0_0.length c0_0, .int .i64 a0_1, .int .u64 a0_2]) (t := 45) ?hr ?_; (case hd => rfl); (case hg => rfl); (case hr => first | (go_simp; done) | (go_simp; rfl)); intro gb301 hg w2 hbox hb; have n0_ := A_ (bs_ bw_ hb); have n1_ := A_ (hbox); have n2_ := A_ ((by rw [hg]; exact (bz_ bw_) : w.heap.size ≤ gb301)); have n3_ := A_ ((by rw [hg]; exact (bz_ bw_) : w.heap.size ≤ gb301)); clear HB; have HB := n0_; have BK301 := n1_; have GW301 := n2_; have GE301 := n3_; clear n0_ n1_ n2_ n3_; clear hb hbox hg) | ((with_reducible refine gate_dst (N := 2) rfl ?_); refine box_event ?hg (N := 2) ?hd (cs := #[.slice none 0 0, .int .i64 0, .int .u64 0]) (t := 41) ?hr ?_; (case hd => rfl); (case hg => rfl); (case hr => first | (go_simp; done) | (go_simp; rfl)); intro gb302 hg w3 hbox hb; have n0_ := A_ (kb_ BK301 hb); have n1_ := A_ (bs_ bw_ hb); have n2_ := A_ (hbox); have n3_ := A_ ((by rw [hg]; exact (bz_ bw_) : w.heap.size ≤ gb302)); have n4_ := A_ ((by rw [hg]; exact (bz_ bw_) : w.heap.size ≤ gb302)); have n5_ := A_ ((by rw [hg]; exact nl_ (lt_ BK301) : gb301 ≠ gb302)); have n6_ := A_ ((by rw [hg]; exact ng_ (lt_ BK301) : gb302 ≠ gb301)); clear BK301; clear HB; have BK301 := n0_; have HB := n1_; have BK302 := n2_; have GW302 := n3_; have GE302 := n4_; have NB301_302 := n5_; have NB302_301 := n6_; clear n0_ n1_ n2_ n3_ n4_ n5_ n6_; clear hb hbox hg; have hnb4 := NB301_302.out; have hnc4 := NB302_301.out; have hcz5_0 : w3.cell? ⟨gb301, 0, none⟩ = some (.slice A0_0 l0_0.length c0_0) := (bc_ BK301.out 0).trans rfl; have hcz5_1 : w3.cell? ⟨gb301, 1, none⟩ = some (.int .i64 a0_1) := (bc_ BK301.out 1).trans rfl; have hcz5_2 : w3.cell? ⟨gb301, 2, none⟩ = some (.int .u64 a0_2) := (bc_ BK301.out 2).trans rfl; have hfz5_0 := bf_ BK301.out 0; have hfz5_1 := bf_ BK301.out 1; have hfz5_2 := bf_ BK301.out 2) | ((with_reducible refine gate_dst (N := 3) rfl ?_); refine box_event ?hg (N := 3) ?hd (cs := #[.slice none 0 0, .int .i64 0, .int .u64 0]) (t := 41) ?hr ?_; (case hd => rfl); (case hg => rfl); (case hr => first | (go_simp; done) | (go_simp; rfl)); intro gb303 hg w6 hbox hb; have n0_ := A_ (kb_ BK301 hb); have n1_ := A_ (kb_ BK302 hb); have n2_ := A_ (bs_ bw_ hb); have n3_ := A_ (hbox); have n4_ := A_ ((by rw [hg]; exact (bz_ bw_) : w.heap.size ≤ gb303)); have n5_ := A_ ((by rw [hg]; exact (bz_ bw_) : w.heap.size ≤ gb303)); have n6_ := A_ ((by rw [hg]; exact nl_ (lt_ BK301) : gb301 ≠ gb303)); have n7_ := A_ ((by rw [hg]; exact ng_ (lt_ BK301) : gb303 ≠ gb301)); have n8_ := A_ ((by rw [hg]; exact nl_ (lt_ BK302) : gb302 ≠ gb303)); have n9_ := A_ ((by rw [hg]; exact ng_ (lt_ BK302) : gb303 ≠ gb302)); clear BK301; clear BK302; clear HB; have BK301 := n0_; have BK302 := n1_; have HB := n2_; have BK303 := n3_; have GW303 := n4_; have GE303 := n5_; have NB301_303 := n6_; have NB303_301 := n7_; have NB302_303 := n8_; have NB303_302 := n9_; clear n0_ n1_ n2_ n3_ n4_ n5_ n6_ n7_ n8_ n9_; clear hb hbox hg; have hnb7 := NB303_301.out; have hnc7 := NB301_303.out; have hnb8 := NB303_302.out; have hnc8 := NB302_303.out; have hcz9_0 : w6.cell? ⟨gb303, 0, none⟩ = some (.slice none 0 0) := (bc_ BK303.out 0).trans rfl; have hcz9_1 : w6.cell? ⟨gb303, 1, none⟩ = some (.int .i64 0) := (bc_ BK303.out 1).trans rfl; have hcz9_2 : w6.cell? ⟨gb303, 2, none⟩ = some (.int .u64 0) := (bc_ BK303.out 2).trans rfl; have hfz9_0 := bf_ BK303.out 0; have hfz9_1 := bf_ BK303.out 1; have hfz9_2 := bf_ BK303.out 2))
 (try simp only [Act.put, sA_, sZ_, sS_])
 go_loopg [4] k (fun kq v4 w' => ∃ (x4_1 : Int) (x304000_1 : List (S71)) (u304000 : Value), v4 = .int .i64 x4_1 ∧ Aside0 (clevislaw17_Of.l0 kq x4_1 l0_0 a0_1 a0_2 x304000_1 a0_1 a0_2 = some (r1, r2, r3)) ∧ Aside0 (kq ≤ k) ∧ Aside0 (Kd.R k71 71 w' w.heap.size (fun _ => True) u304000 x304000_1) ∧ Aside0 (w'.heap[gb301]? = some (.cells #[(.slice A0_0 l0_0.length c0_0), .int .i64 a0_1, .int .u64 a0_2] 45 (0, 0))) ∧ Aside0 (w'.heap[gb302]? = some (.cells #[(.slice none 0 0), .int .i64 0, .int .u64 0] 41 (0, 0))) ∧ Aside0 (w'.heap[gb303]? = some (.cells #[u304000, .int .i64 a0_1, .int .u64 a0_2] 41 (0, 0))) ∧ Aside0 (Below w.heap.size w w'))
 case atStart => exact ⟨(0), (([] : List (S71))), (.slice none 0 0), (by first | rfl | (simp; done) | (simp [*]; done)), H', ⟨Nat.le_refl _⟩, ⟨by first | exact Kd.R_nil _ _ _ _ _ | exact Kd.N_nil _ _ _ _ _ | exact Kd.V_nil _ _ _ _ _ | exact Kd.Q_nil _ _ _ _ _ | exact Kd.S_nil _ _ _ _ _⟩, ⟨bk_⟩, ⟨bk_⟩, ⟨by (with_reducible repeat (first | refine bn_ ?_ _ | refine bd_ ?_ | refine ba_ ?_ _)); refine bp_ (cs := #[.slice none 0 0, .int .i64 a0_1, .int .u64 0]) ?_ 2 _ rfl; (with_reducible repeat (first | refine bn_ ?_ _ | refine bd_ ?_ | refine ba_ ?_ _)); refine bp_ (cs := #[.slice none 0 0, .int .i64 0, .int .u64 0]) ?_ 1 _ rfl; (with_reducible repeat (first | refine bn_ ?_ _ | refine bd_ ?_ | refine ba_ ?_ _)); refine bp_ (cs := #[.slice none 0 0, .int .i64 0, .int .u64 0]) ?_ 0 _ rfl; (with_reducible repeat (first | refine bn_ ?_ _ | refine bd_ ?_ | refine ba_ ?_ _)); exact BK303.out⟩, ⟨bw_⟩⟩
 case round =>
  clear H'
  try clear c2
  try clear p2
  try clear c4
  try clear c7
  try clear c8
  try clear hcz5_0
  try clear hcz5_1
  try clear hcz5_2
  try clear hcz9_0
  try clear hcz9_1
  try clear hcz9_2
  try clear hfz5_0
  try clear hfz5_1
  try clear hfz5_2
  try clear hfz9_0
  try clear hfz9_1
  try clear hfz9_2
  obtain ⟨x4_1, x304000_1, u304000, rfl, HA, HK1, HO_304000, BK301, BK302, BK303, HB⟩ := hrel
  cases gk with
  | zero => exact absurd HA.out (by simp [clevislaw17_Of.l0])
  | succ k1 =>
   have H := HA.out
   clear HA
   simp only [clevislaw17_Of.l0] at H
   by_cases c10 : x4_1 < (l0_0.length : Int)
   ·
    rw [if_pos c10] at H
    have c10b0 : decide (x4_1 < (l0_0.length : Int)) = true := decide_eq_true c10
    clear c10
    by_cases c11 : 0 ≤ x4_1
    ·
     rw [if_pos c11] at H
     have c11b0 : decide (0 ≤ x4_1) = true := decide_eq_true c11
     clear c11
     by_cases c12 : x304000_1.length < 5864062014805
     ·
      rw [if_pos c12] at H
      have LMc12 := A_ c12
      clear c12
      obtain ⟨y206, hy206⟩ : ∃ y_ : List (S71), y_ = (x304000_1 ++ [(⟨(rd_T79 l0_0 x4_1).f0, (rd_T79 l0_0 x4_1).f1⟩ : S71)]) := ⟨_, rfl⟩
      replace H : (clevislaw17_Of.l0 k1 (wrap64 (x4_1 + 1)) l0_0 a0_1 a0_2 y206 a0_1 a0_2) = some (r1, r2, r3) := by first | (rw [hy206]; with_reducible exact H) | (have H2_ := (Option.bind_some _ _).symm.trans H; rw [hy206]; with_reducible exact H2_) | (have H2_ := (Option.bind_some _ _).symm.trans H; with_reducible exact H2_) | with_reducible exact H | (rw [hy206]; exact H) | exact H
      have Ny206 := A_ hy206
      clear hy206
      have H' := A_ H
      clear H
      have hnb13 := NB301_302.out
      have hnc13 := NB302_301.out
      have hnb14 := NB301_303.out
      have hnc14 := NB303_301.out
      have hcz15_0 : wr.cell? ⟨gb301, 0, none⟩ = some (.slice A0_0 l0_0.length c0_0) := (bc_ BK301.out 0).trans rfl
      have hcz15_1 : wr.cell? ⟨gb301, 1, none⟩ = some (.int .i64 a0_1) := (bc_ BK301.out 1).trans rfl
      have hcz15_2 : wr.cell? ⟨gb301, 2, none⟩ = some (.int .u64 a0_2) := (bc_ BK301.out 2).trans rfl
      have hfz15_0 := bf_ BK301.out 0
      have hfz15_1 := bf_ BK301.out 1
      have hfz15_2 := bf_ BK301.out 2
      try go_wp2
      have n0_ := A_ (Kd.R_drew HO_304000.out)
      have n1_ := A_ (bd_ BK301.out)
      have n2_ := A_ (bd_ BK302.out)
      have n3_ := A_ (bd_ BK303.out)
      have n4_ := A_ (b1_ HB.out)
      clear HO_304000
      clear BK301
      clear BK302
      clear BK303
      clear HB
      have HO_304000 := n0_
      have BK301 := n1_
      have BK302 := n2_
      have BK303 := n3_
      have HB := n4_
      clear n0_ n1_ n2_ n3_ n4_
      have p204 : 0 ≤ (x4_1 : Int) := od_ (by first | (with_reducible assumption) | assumption)
      have q204 : x4_1 < (l0_0.length : Int) := od_ (by first | (with_reducible assumption) | assumption)
      obtain ⟨ad204, e204, hx204_0, hx204_1⟩ := at_T79 HR0_0.out x4_1 p204 q204
      have hw204_1 := hx204_1
      have hw204_0 := hx204_0
      cases e204
      replace hx204_0 := (HB.out.cell (World.block_lt_of_cell? w _ hx204_0)).trans hx204_0
      replace hx204_1 := (HB.out.cell (World.block_lt_of_cell? w _ hx204_1)).trans hx204_1
      replace p204 := eq_true p204
      replace q204 := eq_true q204
      have p205 : 0 ≤ (x4_1 : Int) := od_ (by first | (with_reducible assumption) | assumption)
      have q205 : x4_1 < (l0_0.length : Int) := od_ (by first | (with_reducible assumption) | assumption)
      obtain ⟨ad205, e205, hx205_0, hx205_1⟩ := at_T79 HR0_0.out x4_1 p205 q205
      have hw205_1 := hx205_1
      have hw205_0 := hx205_0
      obtain rfl : ad204 = ad205 := (by injection e205)
      replace hx205_0 := (HB.out.cell (World.block_lt_of_cell? w _ hx205_0)).trans hx205_0
      replace hx205_1 := (HB.out.cell (World.block_lt_of_cell? w _ hx205_1)).trans hx205_1
      replace p205 := eq_true p205
      replace q205 := eq_true q205
      refine start_ (n := 19) (S := fun w' => w'.cell? ⟨gb303, 0, none⟩ = some (u304000) ∧ w'.cell? ⟨gb303, 1, none⟩ = some (.int .i64 a0_1) ∧ w'.cell? ⟨gb303, 2, none⟩ = some (.int .u64 a0_2) ∧ w'.cell? ⟨gb301, 0, none⟩ = some (.slice (some ad204) l0_0.length c0_0) ∧ w'.cell? ⟨gb301, 1, none⟩ = some (.int .i64 a0_1) ∧ w'.cell? ⟨gb301, 2, none⟩ = some (.int .u64 a0_2) ∧ w'.cell? (ad204.add ((x4_1).toNat * 2)) = some (.string ((rd_T79 l0_0 x4_1).f0)) ∧ w'.cell? ⟨(ad204.add ((x4_1).toNat * 2)).block, (ad204.add ((x4_1).toNat * 2)).off + 1, none⟩ = some (.int .i64 ((rd_T79 l0_0 x4_1).f1)) ∧ w'.cell? (ad204.add ((x4_1).toNat * 2)) = some (.string ((rd_T79 l0_0 x4_1).f0)) ∧ w'.cell? ⟨(ad204.add ((x4_1).toNat * 2)).block, (ad204.add ((x4_1).toNat * 2)).off + 1, none⟩ = some (.int .i64 ((rd_T79 l0_0 x4_1).f1))) (ds := [18]) #[false, false, false, false, false, false, false, false, false, false, false, false, false, false, false, false, false, false, false] (by kernel_rfl) rfl rfl ⟨(bc_ BK303.out 0).trans rfl, (bc_ BK303.out 1).trans rfl, (bc_ BK303.out 2).trans rfl, (bc_ BK301.out 0).trans rfl, (bc_ BK301.out 1).trans rfl, (bc_ BK301.out 2).trans rfl, ((HB.out.cell (World.block_lt_of_cell? w _ hw204_0)).trans hw204_0), ((HB.out.cell (World.block_lt_of_cell? w _ hw204_1)).trans hw204_1), ((HB.out.cell (World.block_lt_of_cell? w _ hw205_0)).trans hw205_0), ((HB.out.cell (World.block_lt_of_cell? w _ hw205_1)).trans hw205_1)⟩ (fun hHeld => ?_); refine with_tabW clevislaw17_Of.tab5 clevislaw17_Of.bits5 (fun HT_ HW_ => ?_)
      generalize wr.drew = w16 at HO_304000 BK301 BK302 BK303 HB hx204_0 hx204_1 hx205_0 hx205_1 hHeld ⊢
      refine pure_ (i := 0) (N := some 19) (v := ?_) (a' := ?_) #[true, false, false, false, false, false, false, false, false, false, false, false, false, false, false, false, false, false, false] rfl rfl (any_of HT_.out (by kernel_rfl)) (fun _ _ _ h => h) (Or.inl ⟨by rfl, ?_⟩) ?_ ?_
      rotate_left
      ·
       intro w'
       go_simp
       with_reducible rfl
      rotate_left
      ·
       simp only [Act.put, sA_, sZ_, sS_, i64_w, i32_w]
       rfl
      refine pure_ (i := 2) (N := some 21) (v := ?_) (a' := ?_) #[true, false, true, false, false, false, false, false, false, false, false, false, false, false, false, false, false, false, false] rfl rfl (any_of HT_.out (by kernel_rfl)) (fun _ _ _ h => h) (Or.inl ⟨by rfl, ?_⟩) ?_ ?_
      rotate_left
      ·
       intro w'
       go_simp
       with_reducible rfl
      rotate_left
      ·
       simp only [Act.put, sA_, sZ_, sS_, i64_w, i32_w]
       rfl
      refine pure_ (i := 4) (N := some 23) (v := ?_) (a' := ?_) #[true, false, true, false, true, false, false, false, false, false, false, false, false, false, false, false, false, false, false] rfl rfl (any_of HT_.out (by kernel_rfl)) (fun _ _ _ h => h) (Or.inl ⟨by rfl, ?_⟩) ?_ ?_
      rotate_left
      ·
       intro w'
       go_simp
       with_reducible rfl
      rotate_left
      ·
       simp only [Act.put, sA_, sZ_, sS_, i64_w, i32_w]
       rfl
      refine pure_ (i := 8) (N := some 27) (v := ?_) (a' := ?_) #[true, false, true, false, true, false, false, false, true, false, false, false, false, false, false, false, false, false, false] rfl rfl (any_of HT_.out (by kernel_rfl)) (fun _ _ _ h => h) (Or.inl ⟨by rfl, ?_⟩) ?_ ?_
      rotate_left
      ·
       intro w'
       go_simp
       with_reducible rfl
      rotate_left
      ·
       simp only [Act.put, sA_, sZ_, sS_, i64_w, i32_w]
       rfl
      refine pure_ (i := 10) (N := some 29) (v := ?_) (a' := ?_) #[true, false, true, false, true, false, false, false, true, false, true, false, false, false, false, false, false, false, false] rfl rfl (any_of HT_.out (by kernel_rfl)) (fun _ _ _ h => h) (Or.inl ⟨by rfl, ?_⟩) ?_ ?_
      rotate_left
      ·
       intro w'
       go_simp
       with_reducible rfl
      rotate_left
      ·
       simp only [Act.put, sA_, sZ_, sS_, i64_w, i32_w]
       rfl
      refine take_ (i := 1) (N := some 20) (v := ?_) (a' := ?_) #[true, true, true, false, true, false, false, false, true, false, true, false, false, false, false, false, false, false, false] rfl rfl (take_ofW HT_.out HW_.out (by kernel_rfl)) (fun _ _ _ h => h) (Or.inl ⟨by rfl, ?_⟩) hHeld ?_ ?_
      rotate_left
      ·
       rintro w' ⟨s0, s1, s2, s3, s4, s5, s6, s7, s8, s9⟩
       go_simp
       with_reducible rfl
      rotate_left
      ·
       simp only [Act.put, sA_, sZ_, sS_, i64_w, i32_w]
       rfl
      refine take_ (i := 3) (N := some 22) (v := ?_) (a' := ?_) #[true, true, true, true, true, false, false, false, true, false, true, false, false, false, false, false, false, false, false] rfl rfl (take_ofW HT_.out HW_.out (by kernel_rfl)) (fun _ _ _ h => h) (Or.inl ⟨by rfl, ?_⟩) hHeld ?_ ?_
      rotate_left
      ·
       rintro w' ⟨s0, s1, s2, s3, s4, s5, s6, s7, s8, s9⟩
       go_simp
       with_reducible rfl
      rotate_left
      ·
       simp only [Act.put, sA_, sZ_, sS_, i64_w, i32_w]
       rfl
      refine pure_ (i := 5) (N := some 24) (v := ?_) (a' := ?_) #[true, true, true, true, true, true, false, false, true, false, true, false, false, false, false, false, false, false, false] rfl rfl (any_of HT_.out (by kernel_rfl)) (fun _ _ _ h => h) (Or.inl ⟨by rfl, ?_⟩) ?_ ?_
      rotate_left
      ·
       intro w'
       go_simp
       with_reducible rfl
      rotate_left
      ·
       simp only [Act.put, sA_, sZ_, sS_, i64_w, i32_w]
       rfl
      refine pure_ (i := 6) (N := some 25) (v := ?_) (a' := ?_) #[true, true, true, true, true, true, true, false, true, false, true, false, false, false, false, false, false, false, false] rfl rfl (any_of HT_.out (by kernel_rfl)) (fun _ _ _ h => h) (Or.inl ⟨by rfl, ?_⟩) ?_ ?_
      rotate_left
      ·
       intro w'
       go_simp
       with_reducible rfl
      rotate_left
      ·
       simp only [Act.put, sA_, sZ_, sS_, i64_w, i32_w]
       rfl
      refine take_ (i := 7) (N := some 26) (v := ?_) (a' := ?_) #[true, true, true, true, true, true, true, true, true, false, true, false, false, false, false, false, false, false, false] rfl rfl (take_ofW HT_.out HW_.out (by kernel_rfl)) (fun _ _ _ h => h) (Or.inl ⟨by rfl, ?_⟩) hHeld ?_ ?_
      rotate_left
      ·
       rintro w' ⟨s0, s1, s2, s3, s4, s5, s6, s7, s8, s9⟩
       go_simp
       with_reducible rfl
      rotate_left
      ·
       simp only [Act.put, sA_, sZ_, sS_, i64_w, i32_w]
       rfl
      refine take_ (i := 9) (N := some 28) (v := ?_) (a' := ?_) #[true, true, true, true, true, true, true, true, true, true, true, false, false, false, false, false, false, false, false] rfl rfl (take_ofW HT_.out HW_.out (by kernel_rfl)) (fun _ _ _ h => h) (Or.inl ⟨by rfl, ?_⟩) hHeld ?_ ?_
      rotate_left
      ·
       rintro w' ⟨s0, s1, s2, s3, s4, s5, s6, s7, s8, s9⟩
       go_simp
       with_reducible rfl
      rotate_left
      ·
       simp only [Act.put, sA_, sZ_, sS_, i64_w, i32_w]
       rfl
      refine pure_ (i := 11) (N := some 30) (v := ?_) (a' := ?_) #[true, true, true, true, true, true, true, true, true, true, true, true, false, false, false, false, false, false, false] rfl rfl (any_of HT_.out (by kernel_rfl)) (fun _ _ _ h => h) (Or.inl ⟨by rfl, ?_⟩) ?_ ?_
      rotate_left
      ·
       intro w'
       go_simp
       with_reducible rfl
      rotate_left
      ·
       simp only [Act.put, sA_, sZ_, sS_, i64_w, i32_w]
       rfl
      refine pure_ (i := 12) (N := some 31) (v := ?_) (a' := ?_) #[true, true, true, true, true, true, true, true, true, true, true, true, true, false, false, false, false, false, false] rfl rfl (any_of HT_.out (by kernel_rfl)) (fun _ _ _ h => h) (Or.inl ⟨by rfl, ?_⟩) ?_ ?_
      rotate_left
      ·
       intro w'
       go_simp
       with_reducible rfl
      rotate_left
      ·
       simp only [Act.put, sA_, sZ_, sS_, i64_w, i32_w]
       rfl
      refine take_ (i := 13) (N := some 32) (v := ?_) (a' := ?_) #[true, true, true, true, true, true, true, true, true, true, true, true, true, true, false, false, false, false, false] rfl rfl (take_ofW HT_.out HW_.out (by kernel_rfl)) (fun _ _ _ h => h) (Or.inl ⟨by rfl, ?_⟩) hHeld ?_ ?_
      rotate_left
      ·
       rintro w' ⟨s0, s1, s2, s3, s4, s5, s6, s7, s8, s9⟩
       go_simp
       with_reducible rfl
      rotate_left
      ·
       simp only [Act.put, sA_, sZ_, sS_, i64_w, i32_w]
       rfl
      refine pure_ (i := 14) (N := some 33) (v := ?_) (a' := ?_) #[true, true, true, true, true, true, true, true, true, true, true, true, true, true, true, false, false, false, false] rfl rfl (any_of HT_.out (by kernel_rfl)) (fun _ _ _ h => h) (Or.inl ⟨by rfl, ?_⟩) ?_ ?_
      rotate_left
      ·
       intro w'
       go_simp
       with_reducible rfl
      rotate_left
      ·
       simp only [Act.put, sA_, sZ_, sS_, i64_w, i32_w]
       rfl
      refine one_ (i := 15) (N := some 34) #[true, true, true, true, true, true, true, true, true, true, true, true, true, true, true, true, false, false, false] rfl rfl (one_of HT_.out (by kernel_rfl)) (by decide) (fun K hK => ?_)
      refine value_ (w1 := ?_) (v := ?_) (by rfl) rfl ?_ ?_
      rotate_left 2
      ·
       go_simp
       constructor
       ·
        rfl
       ·
        rfl
      refine hK.out _ _ ⟨(bc_ (ba_ BK303.out _) 0).trans rfl, (bc_ (ba_ BK303.out _) 1).trans rfl, (bc_ (ba_ BK303.out _) 2).trans rfl, (bc_ (ba_ BK301.out _) 0).trans rfl, (bc_ (ba_ BK301.out _) 1).trans rfl, (bc_ (ba_ BK301.out _) 2).trans rfl, (World.cell?_alloc_lt _ _ _ (World.block_lt_of_cell? _ _ (((HB.out.cell (World.block_lt_of_cell? w _ hw204_0)).trans hw204_0)))).trans (((HB.out.cell (World.block_lt_of_cell? w _ hw204_0)).trans hw204_0)), (World.cell?_alloc_lt _ _ _ (World.block_lt_of_cell? _ _ (((HB.out.cell (World.block_lt_of_cell? w _ hw204_1)).trans hw204_1)))).trans (((HB.out.cell (World.block_lt_of_cell? w _ hw204_1)).trans hw204_1)), (World.cell?_alloc_lt _ _ _ (World.block_lt_of_cell? _ _ (((HB.out.cell (World.block_lt_of_cell? w _ hw205_0)).trans hw205_0)))).trans (((HB.out.cell (World.block_lt_of_cell? w _ hw205_0)).trans hw205_0)), (World.cell?_alloc_lt _ _ _ (World.block_lt_of_cell? _ _ (((HB.out.cell (World.block_lt_of_cell? w _ hw205_1)).trans hw205_1)))).trans (((HB.out.cell (World.block_lt_of_cell? w _ hw205_1)).trans hw205_1))⟩ (fun hHeld => ?_)
      clear hK K
      refine norm_ (a' := ?_) ?_ ?_
      rotate_left
      ·
       show Act.put _ (some 34) _ = _
       simp only [Act.put, sA_, sZ_, sS_, i64_w, i32_w]
       rfl
      refine one_ (i := 16) (N := some 35) #[true, true, true, true, true, true, true, true, true, true, true, true, true, true, true, true, true, false, false] rfl rfl (one_of HT_.out (by kernel_rfl)) (by decide) (fun K hK => ?_)
      refine Kd.R_append_step k71 (w0 := w) w.heap.size (by rfl) (.tmp 20) (.tmp 34) 22 71 (.agg #[(.string ⟨#[]⟩), (.int .i64 0)]) 24 rfl Try.underlying22 info71 rfl (by decide) (by omega) u304000 x304000_1 (⟨(rd_T79 l0_0 x4_1).f0, (rd_T79 l0_0 x4_1).f1⟩ : S71) [.string ((rd_T79 l0_0 x4_1).f0), .int .i64 ((rd_T79 l0_0 x4_1).f1)] (fun _ => True) (fun _ => False) rfl rfl ?aP (fun _ hk => hk.elim) ?aF ?aO ?aB ?aS ?aL ?_
      (case aP => exact k71_mkM _ _ _ (⟨(rd_T79 l0_0 x4_1).f0, (rd_T79 l0_0 x4_1).f1⟩ : S71))
      (case aB => exact bw_)
      (case aF => exact (fun _ _ => trivial))
      (case aO => exact (by (with_reducible repeat (first | apply Kd.R_alloc | apply Kd.R_drewN | apply Kd.R_drew)); exact HO_304000.out))
      (case aS => exact (bz_ bw_))
      (case aL => have := LMc12.out; omega)
      intro v207 w17 ho hb hg hat
      rw [← Ny206.out] at ho
      have n0_ := A_ (blk_grown (g := gb301) (o := .cells #[.slice (some ad204) l0_0.length c0_0, .int .i64 a0_1, .int .u64 a0_2] 45 (0, 0)) bk_ hg (Kd.R_ne HO_304000.out BK301.out (by decide)))
      have n1_ := A_ (blk_grown (g := gb302) (o := .cells #[.slice none 0 0, .int .i64 0, .int .u64 0] 41 (0, 0)) bk_ hg (Kd.R_ne HO_304000.out BK302.out (by decide)))
      have n2_ := A_ (blk_grown (g := gb303) (o := .cells #[u304000, .int .i64 a0_1, .int .u64 a0_2] 41 (0, 0)) bk_ hg (Kd.R_ne HO_304000.out BK303.out (by decide)))
      have n3_ := A_ (hb)
      have n4_ := A_ (ho)
      clear BK301
      clear BK302
      clear BK303
      clear HB
      clear HO_304000
      have BK301 := n0_
      have BK302 := n1_
      have BK303 := n2_
      have HB := n3_
      have HO208 := n4_
      clear n0_ n1_ n2_ n3_ n4_
      clear ho hb hg hat
      obtain ⟨Ao18, co18, eo18⟩ := Kd.R_slice HO208.out
      (first | subst eo18 | (injection eo18 with f1_ f2_ f3_; have f4_ := f1_.symm; have f5_ := f3_.symm; clear f1_ f2_ f3_; subst f4_; subst f5_))
      refine hK.out _ _ ⟨(bc_ BK303.out 0).trans rfl, (bc_ BK303.out 1).trans rfl, (bc_ BK303.out 2).trans rfl, (bc_ BK301.out 0).trans rfl, (bc_ BK301.out 1).trans rfl, (bc_ BK301.out 2).trans rfl, ((HB.out.cell (World.block_lt_of_cell? w _ hw204_0)).trans hw204_0), ((HB.out.cell (World.block_lt_of_cell? w _ hw204_1)).trans hw204_1), ((HB.out.cell (World.block_lt_of_cell? w _ hw205_0)).trans hw205_0), ((HB.out.cell (World.block_lt_of_cell? w _ hw205_1)).trans hw205_1)⟩ (fun hHeld => ?_)
      clear hK K
      refine norm_ (a' := ?_) ?_ ?_
      rotate_left
      ·
       show Act.put _ (some 35) _ = _
       simp only [Act.put, sA_, sZ_, sS_, i64_w, i32_w]
       rfl
      refine pure_ (i := 17) (N := some 36) (v := ?_) (a' := ?_) #[true, true, true, true, true, true, true, true, true, true, true, true, true, true, true, true, true, true, false] rfl rfl (any_of HT_.out (by kernel_rfl)) (fun _ _ _ h => h) (Or.inl ⟨by rfl, ?_⟩) ?_ ?_
      rotate_left
      ·
       intro w'
       go_simp
       with_reducible rfl
      rotate_left
      ·
       simp only [Act.put, sA_, sZ_, sS_, i64_w, i32_w]
       rfl
      refine last_ (i := 18) (N := none) #[true, true, true, true, true, true, true, true, true, true, true, true, true, true, true, true, true, true, true] rfl rfl (one_of HT_.out (by kernel_rfl)) (by decide) (fun K hK => ?_)
      have hs19 : w17.cell? ⟨gb303, 0, none⟩ = some (u304000) := (bc_ BK303.out 0).trans rfl
      have hfs19 := bf_ BK303.out 0
      have hns19_0 := NB301_303.out
      have hns19_1 := NB302_303.out
      have hms19_0 := NB303_301.out
      have hms19_1 := NB303_302.out
      refine skip_ (w1 := ?_) (by rfl) rfl ?_ ?_
      rotate_left
      ·
       go_simp
       rfl
      refine hK.out _ _ ?_
      clear hK K
      refine done_ (done_of HT_.out (by kernel_rfl)) ?_
      try go_wp2
      go_roundg k1
      case measure => have := HK1.out; omega
      case rel => exact ⟨(wrap64 (x4_1 + 1)), (y206), (.slice Ao18 y206.length co18), (by first | rfl | (simp; done) | (simp [*]; done)), H', ⟨by have := HK1.out; omega⟩, ⟨by (with_reducible repeat (first | apply Kd.R_alloc | apply Kd.R_drewN | apply Kd.R_drew)); exact Kd.R_mono (Kd.R_far (p := ⟨gb303, 0, none⟩) (Kd.R_types HO208.out BK303.out (by decide)) (fun _ hk => hk.2) (.slice Ao18 y206.length co18)) (fun _ hk => trivial)⟩, ⟨bk_⟩, ⟨bk_⟩, ⟨by (with_reducible repeat (first | refine bn_ ?_ _ | refine bd_ ?_ | refine ba_ ?_ _)); refine bp_ (cs := #[u304000, .int .i64 a0_1, .int .u64 a0_2]) ?_ 0 _ rfl; (with_reducible repeat (first | refine bn_ ?_ _ | refine bd_ ?_ | refine ba_ ?_ _)); exact BK303.out⟩, ⟨bw_⟩⟩
     ·
      rw [if_neg c12] at H
      exact absurd H (by simp)
    ·
     rw [if_neg c11] at H
     exact absurd H (by simp)
   ·
    rw [if_neg c10] at H
    have c10b0 : decide (x4_1 < (l0_0.length : Int)) = false := decide_eq_false c10
    clear c10
    simp only [Option.some.injEq, Prod.mk.injEq] at H
    obtain ⟨rfl, rfl, rfl⟩ := H
    have hnb20 := NB301_302.out
    have hnc20 := NB302_301.out
    have hnb21 := NB301_303.out
    have hnc21 := NB303_301.out
    have hcz22_0 : wr.cell? ⟨gb301, 0, none⟩ = some (.slice A0_0 l0_0.length c0_0) := (bc_ BK301.out 0).trans rfl
    have hcz22_1 : wr.cell? ⟨gb301, 1, none⟩ = some (.int .i64 a0_1) := (bc_ BK301.out 1).trans rfl
    have hcz22_2 : wr.cell? ⟨gb301, 2, none⟩ = some (.int .u64 a0_2) := (bc_ BK301.out 2).trans rfl
    have hfz22_0 := bf_ BK301.out 0
    have hfz22_1 := bf_ BK301.out 1
    have hfz22_2 := bf_ BK301.out 2
    have hnb23 := NB303_302.out
    have hnc23 := NB302_303.out
    have hcz24_0 : wr.cell? ⟨gb303, 0, none⟩ = some (u304000) := (bc_ BK303.out 0).trans rfl
    have hcz24_1 : wr.cell? ⟨gb303, 1, none⟩ = some (.int .i64 a0_1) := (bc_ BK303.out 1).trans rfl
    have hcz24_2 : wr.cell? ⟨gb303, 2, none⟩ = some (.int .u64 a0_2) := (bc_ BK303.out 2).trans rfl
    have hfz24_0 := bf_ BK303.out 0
    have hfz24_1 := bf_ BK303.out 1
    have hfz24_2 := bf_ BK303.out 2
    obtain ⟨Ao25, co25, eo25⟩ := Kd.R_slice HO_304000.out
    subst eo25
    have hcz26_0 : wr.cell? ⟨gb302, 0, none⟩ = some (.slice none 0 0) := (bc_ BK302.out 0).trans rfl
    have hcz26_1 : wr.cell? ⟨gb302, 1, none⟩ = some (.int .i64 0) := (bc_ BK302.out 1).trans rfl
    have hcz26_2 : wr.cell? ⟨gb302, 2, none⟩ = some (.int .u64 0) := (bc_ BK302.out 2).trans rfl
    have hfz26_0 := bf_ BK302.out 0
    have hfz26_1 := bf_ BK302.out 1
    have hfz26_2 := bf_ BK302.out 2
    go_wp2
    refine bodyPost_ret (results_cell_row rfl _ _ gb302 41 #[.slice Ao25 x304000_1.length co25, .int .i64 a0_1, .int .u64 a0_2] (0, 0) _ rfl (by (with_reducible repeat (first | refine bn_ ?_ _ | refine bd_ ?_ | refine ba_ ?_ _)); refine bp_ (cs := #[.slice Ao25 x304000_1.length co25, .int .i64 a0_1, .int .u64 0]) ?_ 2 _ rfl; (with_reducible repeat (first | refine bn_ ?_ _ | refine bd_ ?_ | refine ba_ ?_ _)); refine bp_ (cs := #[.slice Ao25 x304000_1.length co25, .int .i64 0, .int .u64 0]) ?_ 1 _ rfl; (with_reducible repeat (first | refine bn_ ?_ _ | refine bd_ ?_ | refine ba_ ?_ _)); refine bp_ (cs := #[.slice none 0 0, .int .i64 0, .int .u64 0]) ?_ 0 _ rfl; (with_reducible repeat (first | refine bn_ ?_ _ | refine bd_ ?_ | refine ba_ ?_ _)); exact BK302.out) Try.underlying41 rfl (by kernel_rfl)) rfl ?_
    exact ⟨_, by first | rfl | (simp [errW_none, errW_some] <;> rfl) | (simp [*, errW_none, errW_some] <;> rfl), by (with_reducible repeat (first | apply Kd.R_alloc | apply Kd.R_drewN | apply Kd.R_drew)); exact Kd.R_mono (Kd.R_far (p := ⟨gb302, 2, none⟩) (Kd.R_far (p := ⟨gb302, 1, none⟩) (Kd.R_far (p := ⟨gb302, 0, none⟩) (Kd.R_types HO_304000.out BK302.out (by decide)) (fun _ hk => hk.2) (.slice Ao25 x304000_1.length co25)) (fun _ hk => hk.2) (.int .i64 a0_1)) (fun _ hk => hk.2) (.int .u64 a0_2)) (fun _ hk => trivial), bw_⟩
end Go.Proofs.Ythhgcjlgnafdcaa.Px
end
