/- Texts of this seat, put together (ZW10). -/
import Derived.Test.YtjbcigiffihjaaaZW5
import Derived.Test.YtjbcigiffihjaaaZW7
section
namespace Go.Proofs.Ytjbcigiffihjaaa.Fx
open Go.RowKit Go.Proofs.YtjbcigiffihjaaaW.PrintWords Go.Proofs.YtjbcigiffihjaaaW.PrintLast Go.Proofs.YtjbcigiffihjaaaW.PrintMore
attribute [local go_sem] max2_int min2_int max_two min_two max_three min_three max_four min_four   -- for this text's walks alone
set_option linter.unusedVariables false
set_option linter.unusedSimpArgs false
attribute [local go_sem] run_add64_any
mutual
def fixed_Text.l0 : Nat → Int → Int → Bool → List Int → Bool → Option (ByteArray)
  | 0, _, _, _, _, _ => none
  | k + 1, x3, x4, x5, x6, x7 => if x7 = true then ((bits_Div64.f k (Int.tmod x3 10) x4 10).bind fun bt123 => (if x6.length < 140737488355328 then (fixed_Text.l0 k (IntKind.u64.wrap (Int.tdiv x3 10)) bt123.1 x5 (x6 ++ [(IntKind.u64.wrap (48 + bt123.2)) % 256]) false) else (none))) else (if x3 > 0 then ((bits_Div64.f k (Int.tmod x3 10) x4 10).bind fun bt128 => (if x6.length < 140737488355328 then (fixed_Text.l0 k (IntKind.u64.wrap (Int.tdiv x3 10)) bt128.1 x5 (x6 ++ [(IntKind.u64.wrap (48 + bt128.2)) % 256]) false) else (none))) else (if x4 > 0 then ((bits_Div64.f k (Int.tmod x3 10) x4 10).bind fun bt133 => (if x6.length < 140737488355328 then (fixed_Text.l0 k (IntKind.u64.wrap (Int.tdiv x3 10)) bt133.1 x5 (x6 ++ [(IntKind.u64.wrap (48 + bt133.2)) % 256]) false) else (none))) else (if x5 = true then (if x6.length < 140737488355328 then (fixed_Text.j1 k (x6 ++ [45])) else (none)) else (fixed_Text.j1 k x6))))
def fixed_Text.j1 : Nat → List Int → Option (ByteArray)
  | 0, _ => none
  | k + 1, x6 => fixed_Text.l1 k x6 0 (wrap64 ((x6.length : Int) - 1))
def fixed_Text.l1 : Nat → List Int → Int → Int → Option (ByteArray)
  | 0, _, _, _ => none
  | k + 1, x6, x9, x10 => if x9 < x10 then (if 0 ≤ x10 then (if x10 < (x6.length : Int) then (if 0 ≤ x9 then (if x9 < (x6.length : Int) then (fixed_Text.l1 k ((x6.set (x9 : Int).toNat (rd x6 x10)).set (x10 : Int).toNat (rd x6 x9)) (wrap64 (x9 + 1)) (wrap64 (x10 - 1))) else (none)) else (none)) else (none)) else (none)) else (some (strOfNums x6))
end
def fixed_Text.f (k : Nat) (a0_0 : Int) (a0_1 : Int) : Option (ByteArray) := (fixed_away.f a0_0 a0_1).bind fun bt120 => (fixed_Text.l0 k bt120.1 bt120.2.1 bt120.2.2 ([] : List Int) true)
def fixed_Text.T15 : Bool × List (List Nat × List Nat) := (true, [([], []), ([], []), ([], []), ([], []), ([], []), ([], []), ([4, 5], [4, 5]), ([6], [6]), ([], []), ([], []), ([8, 9], [8, 9]), ([10], [10]), ([0, 1, 0, 1, 4, 5, 6, 7, 11], [0, 1]), ([12, 7, 0, 1, 4, 5, 6, 7, 11], [7, 12]), ([2, 3, 0, 1, 2, 3, 4, 5, 6, 7, 8, 9, 10, 11, 12, 13], [2, 3]), ([14, 11, 13, 0, 1, 2, 3, 4, 5, 6, 7, 8, 9, 10, 11, 12, 13], [11, 14])])
def fixed_Text.B15 : List Nat := [0, 0, 0, 0, 0, 0, 48, 112, 0, 0, 768, 1792, 4083, 8179, 16383, 32767]
theorem fixed_Text.tab15 : rtab .any (opsOf Try.f13 15) = fixed_Text.T15 := by kernel_rfl
theorem fixed_Text.bits15 : waitsOk fixed_Text.T15.2 fixed_Text.B15 = true := by kernel_rfl
set_option maxHeartbeats 8000000 in
set_option maxRecDepth 100000 in
theorem fixed_Text.calls (k : Nat) (a0_0 : Int) (a0_1 : Int) (r : ByteArray) (w : World) (h : fixed_Text.f k a0_0 a0_1 = some r) :
    Calls Try.prog 13 #[.agg #[.int .i64 a0_0, .int .u64 a0_1]] w fun e w' => e = .returned (.string r) ∧ Below w.heap.size w w' := by
  have hu24 := Try.underlying24
  have HB := Aside0.mk (Below.refl w.heap.size w)
  have H : ((fixed_away.f a0_0 a0_1).bind fun bt120 => (fixed_Text.l0 k bt120.1 bt120.2.1 bt120.2.2 ([] : List Int) true)) = some r := h
  clear h
  replace H := Option.bind_eq_some_iff.mp H
  obtain ⟨⟨t120, t121, t122⟩, A20, H⟩ := H
  replace H : (fixed_Text.l0 k t120 t121 t122 ([] : List Int) true) = some r := H
  have A2 := Aside0.mk A20
  clear A20
  have H' := Aside0.mk H
  clear H
  go_enter Try.func13, Try.ntmps13
  go_wp2_with (first | ((with_reducible refine gate_dst (N := 1) rfl ?_); refine box_event ?hg (N := 1) ?hd (cs := #[.int .i64 a0_0, .int .u64 a0_1]) (t := 24) ?hr ?_; (case hd => rfl); (case hg => rfl); (case hr => first | (go_simp; done) | (go_simp; rfl)); intro gb301 hg w3 hbox hb; have n0_ := Aside0.mk (below_step (by repeat (first | (with_reducible first | exact HB.out | apply below_alloc | apply pw_below_drewN | apply below_drew1) | exact HB.out)) hb); have n1_ := Aside0.mk (hbox); have n2_ := Aside0.mk ((by rw [hg]; exact (below_size (by repeat (first | (with_reducible first | exact HB.out | apply below_alloc | apply pw_below_drewN | apply below_drew1) | exact HB.out))) : w.heap.size ≤ gb301)); have n3_ := Aside0.mk ((by rw [hg]; exact (below_size (by repeat (first | (with_reducible first | exact HB.out | apply below_alloc | apply pw_below_drewN | apply below_drew1) | exact HB.out))) : w.heap.size ≤ gb301)); clear HB; have HB := n0_; have BK301 := n1_; have GW301 := n2_; have GE301 := n3_; clear n0_ n1_ n2_ n3_; clear hb hbox hg; have hcz4_0 : w3.cell? ⟨gb301, 0, none⟩ = some (.int .i64 a0_0) := (blk_cell BK301.out 0).trans rfl; have hcz4_1 : w3.cell? ⟨gb301, 1, none⟩ = some (.int .u64 a0_1) := (blk_cell BK301.out 1).trans rfl; have hfz4_0 := blk_frozen BK301.out 0; have hfz4_1 := blk_frozen BK301.out 1) | ((with_reducible refine gate_callee (f := 34) rfl ?_); refine goesL_ (some 13) rfl rfl Try.func34 (by kernel_rfl) rfl #[.agg #[.int .i64 a0_0, .int .u64 a0_1]] rfl (by (try simp only [List.map_toArray, List.map_cons, List.map_nil]); first | done | rfl | (simp only [List.length_drop, List.length_take]; rfl)) ?_; (with_reducible refine (fixed_away.calls a0_0 a0_1 t120 t121 t122 _ A2.out).mono ?_); rintro e w5 ⟨rfl, hb⟩; refine ⟨_, rfl, ?_⟩; have n0_ := Aside0.mk (blk_below (g := gb301) (o := .cells #[.int .i64 a0_0, .int .u64 a0_1] 24 (0, 0)) (by (with_reducible repeat (first | refine blk_drewN ?_ _ | refine blk_drew ?_ | refine blk_alloc ?_ _)); exact BK301.out) hb); have n1_ := Aside0.mk (below_step (by repeat (first | (with_reducible first | exact HB.out | apply below_alloc | apply pw_below_drewN | apply below_drew1 | refine below_set ?_ GE301.out) | exact HB.out)) hb); clear BK301; clear HB; have BK301 := n0_; have HB := n1_; clear n0_ n1_; (try clear hb); (try clear hb2); (try clear hk); (try clear hi)))
  (try simp only [Act.put, List.setIfInBounds_toArray, List.set_cons_zero, List.set_cons_succ])
  go_loopg [3, 4, 6, 7] k (fun kq v3 v4 v6 v7 w' => ∃ (x3_1 : Int) (x4_1 : Int) (x6_1 : List Int) (x7_1 : Bool), v3 = .int .u64 x3_1 ∧ v4 = .int .u64 x4_1 ∧ v7 = .bool x7_1 ∧ Aside0 (fixed_Text.l0 kq x3_1 x4_1 t122 x6_1 x7_1 = some r) ∧ Aside0 (kq ≤ k) ∧ Aside0 (Kd.R (Kd.int .u8) 5 w' w.heap.size (fun _ => True) v6 x6_1) ∧ Aside0 (w'.heap[gb301]? = some (.cells #[.int .i64 a0_0, .int .u64 a0_1] 24 (0, 0))) ∧ Aside0 (Below w.heap.size w w'))
  case atStart => exact ⟨(t120), (t121), (([] : List Int)), (true), (by first | rfl | (simp; done) | (simp [*]; done)), (by first | rfl | (simp; done) | (simp [*]; done)), (by first | rfl | (simp; done) | (simp [*]; done)), H', ⟨Nat.le_refl _⟩, ⟨by first | exact Kd.R_nil _ _ _ _ _ | exact Kd.N_nil _ _ _ _ _ | exact Kd.V_nil _ _ _ _ _ | exact Kd.Q_nil _ _ _ _ _ | exact Kd.S_nil _ _ _ _ _⟩, ⟨by (with_reducible repeat (first | refine blk_drewN ?_ _ | refine blk_drew ?_ | refine blk_alloc ?_ _)); exact BK301.out⟩, ⟨by repeat (first | (with_reducible first | exact HB.out | apply below_alloc | apply pw_below_drewN | apply below_drew1 | refine below_set ?_ GE301.out) | exact HB.out)⟩⟩
  case round =>
    clear H'
    try clear c1
    try clear p2
    try clear c3
    try clear hcz4_0
    try clear hcz4_1
    try clear hfz4_0
    try clear hfz4_1
    obtain ⟨x3_1, x4_1, x6_1, x7_1, rfl, rfl, rfl, HA, HK1, HO_6, BK301, HB⟩ := hrel
    cases gk with
    | zero => exact absurd HA.out (by simp [fixed_Text.l0])
    | succ k1 =>
      have H := HA.out
      clear HA
      simp only [fixed_Text.l0] at H
      by_cases c6 : x7_1 = true
      · subst c6
        have H1 : ((bits_Div64.f k1 (Int.tmod x3_1 10) x4_1 10).bind fun bt123 => (if x6_1.length < 140737488355328 then (fixed_Text.l0 k1 (IntKind.u64.wrap (Int.tdiv x3_1 10)) bt123.1 t122 (x6_1 ++ [(IntKind.u64.wrap (48 + bt123.2)) % 256]) false) else (none))) = some r := by rw [if_pos rfl] at H; exact H
        clear H
        have H := H1
        clear H1
        replace H := Option.bind_eq_some_iff.mp H
        obtain ⟨⟨t123, t124⟩, A70, H⟩ := H
        replace H : (if x6_1.length < 140737488355328 then (fixed_Text.l0 k1 (IntKind.u64.wrap (Int.tdiv x3_1 10)) t123 t122 (x6_1 ++ [(IntKind.u64.wrap (48 + t124)) % 256]) false) else (none)) = some r := H
        have A7 := Aside0.mk A70
        clear A70
        by_cases c8 : x6_1.length < 140737488355328
        · rw [if_pos c8] at H
          have LMc8 := Aside0.mk c8
          clear c8
          obtain ⟨y125, hy125⟩ : ∃ y_ : List Int, y_ = (x6_1 ++ [(IntKind.u64.wrap (48 + t124)) % 256]) := ⟨_, rfl⟩
          replace H : (fixed_Text.l0 k1 (IntKind.u64.wrap (Int.tdiv x3_1 10)) t123 t122 y125 false) = some r := by first | (rw [hy125]; with_reducible exact H) | (have H2_ := (Option.bind_some _ _).symm.trans H; rw [hy125]; with_reducible exact H2_) | (have H2_ := (Option.bind_some _ _).symm.trans H; with_reducible exact H2_) | with_reducible exact H | (rw [hy125]; exact H) | exact H
          have Ny125 := Aside0.mk hy125
          clear hy125
          have H' := Aside0.mk H
          clear H
          go_wp2_with (first | ((with_reducible refine gate_callee (f := 36) rfl ?_); refine goesL_ (some 33) rfl rfl Try.func36 (by kernel_rfl) rfl #[.int .u64 (Int.tmod x3_1 10), .int .u64 x4_1, .int .u64 10] rfl (by (try simp only [List.map_toArray, List.map_cons, List.map_nil]); first | done | rfl | (simp only [List.length_drop, List.length_take]; rfl)) ?_; (with_reducible refine (bits_Div64.calls k1 (Int.tmod x3_1 10) x4_1 10 t123 t124 _ A7.out).mono ?_); rintro e w' ⟨rfl, ⟨nd, rfl⟩⟩; refine ⟨_, rfl, ?_⟩) | ((with_reducible refine gate_builtin (b := .append) (xs := #[.tmp 36, .tmp 40]) rfl ?_); at_builtin; refine Kd.R_append (Kd.int .u8) (w0 := w) w.heap.size rfl (.tmp 36) (.tmp 40) 77 5 (.int .u8 0) 1 rfl Try.underlying77 info5 rfl (by decide) (by omega) u6 x6_1 ((IntKind.u64.wrap (48 + t124)) % 256) [.int .u8 ((IntKind.u64.wrap (48 + t124)) % 256)] (fun _ => True) (fun _ => False) rfl rfl ?aP (fun _ hk => hk.elim) ?aF ?aO ?aB ?aS ?aL ?_; (case aP => exact rfl); (case aB => exact (by repeat (first | (with_reducible first | exact HB.out | apply below_alloc | apply pw_below_drewN | apply below_drew1 | refine below_set ?_ GE301.out) | exact HB.out))); (case aF => exact (fun _ _ => trivial)); (case aO => exact (by (with_reducible repeat (first | apply Kd.R_alloc | apply Kd.R_drewN | apply Kd.R_drew)); exact HO_6.out)); (case aS => exact (below_size (by repeat (first | (with_reducible first | exact HB.out | apply below_alloc | apply pw_below_drewN | apply below_drew1 | refine below_set ?_ GE301.out) | exact HB.out)))); (case aL => have := LMc8.out; omega); intro v126 w9 ho hb hg hat; rw [← Ny125.out] at ho; have n0_ := Aside0.mk (blk_grown (g := gb301) (o := .cells #[.int .i64 a0_0, .int .u64 a0_1] 24 (0, 0)) (by (with_reducible repeat (first | refine blk_drewN ?_ _ | refine blk_drew ?_ | refine blk_alloc ?_ _)); exact BK301.out) hg (Kd.R_ne HO_6.out BK301.out (by decide))); have n1_ := Aside0.mk (hb); have n2_ := Aside0.mk (ho); clear BK301; clear HB; clear HO_6; have BK301 := n0_; have HB := n1_; have HO127 := n2_; clear n0_ n1_ n2_; clear ho hb hg hat))
          go_roundg k1
          case measure => have := HK1.out; omega
          case rel => exact ⟨(IntKind.u64.wrap (Int.tdiv x3_1 10)), (t123), (y125), (false), (by first | rfl | (simp; done) | (simp [*]; done)), (by first | rfl | (simp; done) | (simp [*]; done)), (by first | rfl | (simp; done) | (simp [*]; done)), H', ⟨by have := HK1.out; omega⟩, ⟨by (with_reducible repeat (first | apply Kd.R_alloc | apply Kd.R_drewN | apply Kd.R_drew)); exact HO127.out⟩, ⟨by (with_reducible repeat (first | refine blk_drewN ?_ _ | refine blk_drew ?_ | refine blk_alloc ?_ _)); exact BK301.out⟩, ⟨by repeat (first | (with_reducible first | exact HB.out | apply below_alloc | apply pw_below_drewN | apply below_drew1 | refine below_set ?_ GE301.out) | exact HB.out)⟩⟩
        · rw [if_neg c8] at H
          exact absurd H (by simp)
      · replace c6 := Bool.eq_false_iff.mpr c6
        subst c6
        have H1 : (if x3_1 > 0 then ((bits_Div64.f k1 (Int.tmod x3_1 10) x4_1 10).bind fun bt128 => (if x6_1.length < 140737488355328 then (fixed_Text.l0 k1 (IntKind.u64.wrap (Int.tdiv x3_1 10)) bt128.1 t122 (x6_1 ++ [(IntKind.u64.wrap (48 + bt128.2)) % 256]) false) else (none))) else (if x4_1 > 0 then ((bits_Div64.f k1 (Int.tmod x3_1 10) x4_1 10).bind fun bt133 => (if x6_1.length < 140737488355328 then (fixed_Text.l0 k1 (IntKind.u64.wrap (Int.tdiv x3_1 10)) bt133.1 t122 (x6_1 ++ [(IntKind.u64.wrap (48 + bt133.2)) % 256]) false) else (none))) else (if t122 = true then (if x6_1.length < 140737488355328 then (fixed_Text.j1 k1 (x6_1 ++ [45])) else (none)) else (fixed_Text.j1 k1 x6_1)))) = some r := by rw [if_neg (show ¬ (false = true) by decide)] at H; exact H
        clear H
        have H := H1
        clear H1
        by_cases c10 : x3_1 > 0
        · rw [if_pos c10] at H
          have c10b0 : decide (0 < x3_1) = true := decide_eq_true c10
          clear c10
          replace H := Option.bind_eq_some_iff.mp H
          obtain ⟨⟨t128, t129⟩, A110, H⟩ := H
          replace H : (if x6_1.length < 140737488355328 then (fixed_Text.l0 k1 (IntKind.u64.wrap (Int.tdiv x3_1 10)) t128 t122 (x6_1 ++ [(IntKind.u64.wrap (48 + t129)) % 256]) false) else (none)) = some r := H
          have A11 := Aside0.mk A110
          clear A110
          by_cases c12 : x6_1.length < 140737488355328
          · rw [if_pos c12] at H
            have LMc12 := Aside0.mk c12
            clear c12
            obtain ⟨y130, hy130⟩ : ∃ y_ : List Int, y_ = (x6_1 ++ [(IntKind.u64.wrap (48 + t129)) % 256]) := ⟨_, rfl⟩
            replace H : (fixed_Text.l0 k1 (IntKind.u64.wrap (Int.tdiv x3_1 10)) t128 t122 y130 false) = some r := by first | (rw [hy130]; with_reducible exact H) | (have H2_ := (Option.bind_some _ _).symm.trans H; rw [hy130]; with_reducible exact H2_) | (have H2_ := (Option.bind_some _ _).symm.trans H; with_reducible exact H2_) | with_reducible exact H | (rw [hy130]; exact H) | exact H
            have Ny130 := Aside0.mk hy130
            clear hy130
            have H' := Aside0.mk H
            clear H
            go_wp2_with (first | ((with_reducible refine gate_callee (f := 36) rfl ?_); refine goesL_ (some 33) rfl rfl Try.func36 (by kernel_rfl) rfl #[.int .u64 (Int.tmod x3_1 10), .int .u64 x4_1, .int .u64 10] rfl (by (try simp only [List.map_toArray, List.map_cons, List.map_nil]); first | done | rfl | (simp only [List.length_drop, List.length_take]; rfl)) ?_; (with_reducible refine (bits_Div64.calls k1 (Int.tmod x3_1 10) x4_1 10 t128 t129 _ A11.out).mono ?_); rintro e w' ⟨rfl, ⟨nd, rfl⟩⟩; refine ⟨_, rfl, ?_⟩) | ((with_reducible refine gate_builtin (b := .append) (xs := #[.tmp 36, .tmp 40]) rfl ?_); at_builtin; refine Kd.R_append (Kd.int .u8) (w0 := w) w.heap.size rfl (.tmp 36) (.tmp 40) 77 5 (.int .u8 0) 1 rfl Try.underlying77 info5 rfl (by decide) (by omega) u6 x6_1 ((IntKind.u64.wrap (48 + t129)) % 256) [.int .u8 ((IntKind.u64.wrap (48 + t129)) % 256)] (fun _ => True) (fun _ => False) rfl rfl ?aP (fun _ hk => hk.elim) ?aF ?aO ?aB ?aS ?aL ?_; (case aP => exact rfl); (case aB => exact (by repeat (first | (with_reducible first | exact HB.out | apply below_alloc | apply pw_below_drewN | apply below_drew1 | refine below_set ?_ GE301.out) | exact HB.out))); (case aF => exact (fun _ _ => trivial)); (case aO => exact (by (with_reducible repeat (first | apply Kd.R_alloc | apply Kd.R_drewN | apply Kd.R_drew)); exact HO_6.out)); (case aS => exact (below_size (by repeat (first | (with_reducible first | exact HB.out | apply below_alloc | apply pw_below_drewN | apply below_drew1 | refine below_set ?_ GE301.out) | exact HB.out)))); (case aL => have := LMc12.out; omega); intro v131 w13 ho hb hg hat; rw [← Ny130.out] at ho; have n0_ := Aside0.mk (blk_grown (g := gb301) (o := .cells #[.int .i64 a0_0, .int .u64 a0_1] 24 (0, 0)) (by (with_reducible repeat (first | refine blk_drewN ?_ _ | refine blk_drew ?_ | refine blk_alloc ?_ _)); exact BK301.out) hg (Kd.R_ne HO_6.out BK301.out (by decide))); have n1_ := Aside0.mk (hb); have n2_ := Aside0.mk (ho); clear BK301; clear HB; clear HO_6; have BK301 := n0_; have HB := n1_; have HO132 := n2_; clear n0_ n1_ n2_; clear ho hb hg hat))
            go_roundg k1
            case measure => have := HK1.out; omega
            case rel => exact ⟨(IntKind.u64.wrap (Int.tdiv x3_1 10)), (t128), (y130), (false), (by first | rfl | (simp; done) | (simp [*]; done)), (by first | rfl | (simp; done) | (simp [*]; done)), (by first | rfl | (simp; done) | (simp [*]; done)), H', ⟨by have := HK1.out; omega⟩, ⟨by (with_reducible repeat (first | apply Kd.R_alloc | apply Kd.R_drewN | apply Kd.R_drew)); exact HO132.out⟩, ⟨by (with_reducible repeat (first | refine blk_drewN ?_ _ | refine blk_drew ?_ | refine blk_alloc ?_ _)); exact BK301.out⟩, ⟨by repeat (first | (with_reducible first | exact HB.out | apply below_alloc | apply pw_below_drewN | apply below_drew1 | refine below_set ?_ GE301.out) | exact HB.out)⟩⟩
          · rw [if_neg c12] at H
            exact absurd H (by simp)
        · rw [if_neg c10] at H
          have c10b0 : decide (0 < x3_1) = false := decide_eq_false c10
          clear c10
          by_cases c14 : x4_1 > 0
          · rw [if_pos c14] at H
            have c14b0 : decide (0 < x4_1) = true := decide_eq_true c14
            clear c14
            replace H := Option.bind_eq_some_iff.mp H
            obtain ⟨⟨t133, t134⟩, A150, H⟩ := H
            replace H : (if x6_1.length < 140737488355328 then (fixed_Text.l0 k1 (IntKind.u64.wrap (Int.tdiv x3_1 10)) t133 t122 (x6_1 ++ [(IntKind.u64.wrap (48 + t134)) % 256]) false) else (none)) = some r := H
            have A15 := Aside0.mk A150
            clear A150
            by_cases c16 : x6_1.length < 140737488355328
            · rw [if_pos c16] at H
              have LMc16 := Aside0.mk c16
              clear c16
              obtain ⟨y135, hy135⟩ : ∃ y_ : List Int, y_ = (x6_1 ++ [(IntKind.u64.wrap (48 + t134)) % 256]) := ⟨_, rfl⟩
              replace H : (fixed_Text.l0 k1 (IntKind.u64.wrap (Int.tdiv x3_1 10)) t133 t122 y135 false) = some r := by first | (rw [hy135]; with_reducible exact H) | (have H2_ := (Option.bind_some _ _).symm.trans H; rw [hy135]; with_reducible exact H2_) | (have H2_ := (Option.bind_some _ _).symm.trans H; with_reducible exact H2_) | with_reducible exact H | (rw [hy135]; exact H) | exact H
              have Ny135 := Aside0.mk hy135
              clear hy135
              have H' := Aside0.mk H
              clear H
              go_wp2_with (first | ((with_reducible refine gate_callee (f := 36) rfl ?_); refine goesL_ (some 33) rfl rfl Try.func36 (by kernel_rfl) rfl #[.int .u64 (Int.tmod x3_1 10), .int .u64 x4_1, .int .u64 10] rfl (by (try simp only [List.map_toArray, List.map_cons, List.map_nil]); first | done | rfl | (simp only [List.length_drop, List.length_take]; rfl)) ?_; (with_reducible refine (bits_Div64.calls k1 (Int.tmod x3_1 10) x4_1 10 t133 t134 _ A15.out).mono ?_); rintro e w' ⟨rfl, ⟨nd, rfl⟩⟩; refine ⟨_, rfl, ?_⟩) | ((with_reducible refine gate_builtin (b := .append) (xs := #[.tmp 36, .tmp 40]) rfl ?_); at_builtin; refine Kd.R_append (Kd.int .u8) (w0 := w) w.heap.size rfl (.tmp 36) (.tmp 40) 77 5 (.int .u8 0) 1 rfl Try.underlying77 info5 rfl (by decide) (by omega) u6 x6_1 ((IntKind.u64.wrap (48 + t134)) % 256) [.int .u8 ((IntKind.u64.wrap (48 + t134)) % 256)] (fun _ => True) (fun _ => False) rfl rfl ?aP (fun _ hk => hk.elim) ?aF ?aO ?aB ?aS ?aL ?_; (case aP => exact rfl); (case aB => exact (by repeat (first | (with_reducible first | exact HB.out | apply below_alloc | apply pw_below_drewN | apply below_drew1 | refine below_set ?_ GE301.out) | exact HB.out))); (case aF => exact (fun _ _ => trivial)); (case aO => exact (by (with_reducible repeat (first | apply Kd.R_alloc | apply Kd.R_drewN | apply Kd.R_drew)); exact HO_6.out)); (case aS => exact (below_size (by repeat (first | (with_reducible first | exact HB.out | apply below_alloc | apply pw_below_drewN | apply below_drew1 | refine below_set ?_ GE301.out) | exact HB.out)))); (case aL => have := LMc16.out; omega); intro v136 w17 ho hb hg hat; rw [← Ny135.out] at ho; have n0_ := Aside0.mk (blk_grown (g := gb301) (o := .cells #[.int .i64 a0_0, .int .u64 a0_1] 24 (0, 0)) (by (with_reducible repeat (first | refine blk_drewN ?_ _ | refine blk_drew ?_ | refine blk_alloc ?_ _)); exact BK301.out) hg (Kd.R_ne HO_6.out BK301.out (by decide))); have n1_ := Aside0.mk (hb); have n2_ := Aside0.mk (ho); clear BK301; clear HB; clear HO_6; have BK301 := n0_; have HB := n1_; have HO137 := n2_; clear n0_ n1_ n2_; clear ho hb hg hat))
              go_roundg k1
              case measure => have := HK1.out; omega
              case rel => exact ⟨(IntKind.u64.wrap (Int.tdiv x3_1 10)), (t133), (y135), (false), (by first | rfl | (simp; done) | (simp [*]; done)), (by first | rfl | (simp; done) | (simp [*]; done)), (by first | rfl | (simp; done) | (simp [*]; done)), H', ⟨by have := HK1.out; omega⟩, ⟨by (with_reducible repeat (first | apply Kd.R_alloc | apply Kd.R_drewN | apply Kd.R_drew)); exact HO137.out⟩, ⟨by (with_reducible repeat (first | refine blk_drewN ?_ _ | refine blk_drew ?_ | refine blk_alloc ?_ _)); exact BK301.out⟩, ⟨by repeat (first | (with_reducible first | exact HB.out | apply below_alloc | apply pw_below_drewN | apply below_drew1 | refine below_set ?_ GE301.out) | exact HB.out)⟩⟩
            · rw [if_neg c16] at H
              exact absurd H (by simp)
          · rw [if_neg c14] at H
            have c14b0 : decide (0 < x4_1) = false := decide_eq_false c14
            clear c14
            have HC18 := Aside0.mk H
            clear H
            go_upto_if 42 with (fail)
            go_cut [6] (fun v6 wc => ∃ (kq : Nat) (x6_17 : List Int), Aside0 (fixed_Text.j1 kq x6_17 = some r) ∧ Aside0 (kq ≤ k1) ∧ Aside0 (Kd.R (Kd.int .u8) 5 wc w.heap.size (fun _ => True) v6 x6_17) ∧ Aside0 (wc.heap[gb301]? = some (.cells #[.int .i64 a0_0, .int .u64 a0_1] 24 (0, 0))) ∧ Aside0 (Below w.heap.size w wc))
            case first =>
              have H := HC18.out
              clear HC18
              by_cases c19 : t122 = true
              · subst c19
                have H1 : (if x6_1.length < 140737488355328 then (fixed_Text.j1 k1 (x6_1 ++ [45])) else (none)) = some r := by rw [if_pos rfl] at H; exact H
                clear H
                have H := H1
                clear H1
                by_cases c20 : x6_1.length < 140737488355328
                · rw [if_pos c20] at H
                  have LMc20 := Aside0.mk c20
                  clear c20
                  obtain ⟨y138, hy138⟩ : ∃ y_ : List Int, y_ = (x6_1 ++ [45]) := ⟨_, rfl⟩
                  replace H : (fixed_Text.j1 k1 y138) = some r := by first | (rw [hy138]; with_reducible exact H) | (have H2_ := (Option.bind_some _ _).symm.trans H; rw [hy138]; with_reducible exact H2_) | (have H2_ := (Option.bind_some _ _).symm.trans H; with_reducible exact H2_) | with_reducible exact H | (rw [hy138]; exact H) | exact H
                  have Ny138 := Aside0.mk hy138
                  clear hy138
                  have H' := Aside0.mk H
                  clear H
                  go_wp2_with (first | ((with_reducible refine gate_builtin (b := .append) (xs := #[.tmp 43, .tmp 44]) rfl ?_); at_builtin; refine Kd.R_append (Kd.int .u8) (w0 := w) w.heap.size rfl (.tmp 43) (.tmp 44) 77 5 (.int .u8 0) 1 rfl Try.underlying77 info5 rfl (by decide) (by omega) u6 x6_1 45 [.int .u8 45] (fun _ => True) (fun _ => False) rfl rfl ?aP (fun _ hk => hk.elim) ?aF ?aO ?aB ?aS ?aL ?_; (case aP => exact rfl); (case aB => exact (by repeat (first | (with_reducible first | exact HB.out | apply below_alloc | apply pw_below_drewN | apply below_drew1 | refine below_set ?_ GE301.out) | exact HB.out))); (case aF => exact (fun _ _ => trivial)); (case aO => exact (by (with_reducible repeat (first | apply Kd.R_alloc | apply Kd.R_drewN | apply Kd.R_drew)); exact HO_6.out)); (case aS => exact (below_size (by repeat (first | (with_reducible first | exact HB.out | apply below_alloc | apply pw_below_drewN | apply below_drew1 | refine below_set ?_ GE301.out) | exact HB.out)))); (case aL => have := LMc20.out; omega); intro v139 w21 ho hb hg hat; rw [← Ny138.out] at ho; have n0_ := Aside0.mk (blk_grown (g := gb301) (o := .cells #[.int .i64 a0_0, .int .u64 a0_1] 24 (0, 0)) (by (with_reducible repeat (first | refine blk_drewN ?_ _ | refine blk_drew ?_ | refine blk_alloc ?_ _)); exact BK301.out) hg (Kd.R_ne HO_6.out BK301.out (by decide))); have n1_ := Aside0.mk (hb); have n2_ := Aside0.mk (ho); clear BK301; clear HB; clear HO_6; have BK301 := n0_; have HB := n1_; have HO140 := n2_; clear n0_ n1_ n2_; clear ho hb hg hat))
                  go_meet
                  case rel => exact ⟨_, (y138), H', ⟨by have := HK1.out; first | omega | exact Nat.le_refl _⟩, ⟨by (with_reducible repeat (first | apply Kd.R_alloc | apply Kd.R_drewN | apply Kd.R_drew)); exact HO140.out⟩, ⟨by (with_reducible repeat (first | refine blk_drewN ?_ _ | refine blk_drew ?_ | refine blk_alloc ?_ _)); exact BK301.out⟩, ⟨by repeat (first | (with_reducible first | exact HB.out | apply below_alloc | apply pw_below_drewN | apply below_drew1 | refine below_set ?_ GE301.out) | exact HB.out)⟩⟩
                · rw [if_neg c20] at H
                  exact absurd H (by simp)
              · replace c19 := Bool.eq_false_iff.mpr c19
                subst c19
                have H1 : (fixed_Text.j1 k1 x6_1) = some r := by rw [if_neg (show ¬ (false = true) by decide)] at H; exact H
                clear H
                have H := H1
                clear H1
                have H' := Aside0.mk H
                clear H
                go_wp2
                go_meet
                case rel => exact ⟨_, (x6_1), H', ⟨by have := HK1.out; first | omega | exact Nat.le_refl _⟩, ⟨by (with_reducible repeat (first | apply Kd.R_alloc | apply Kd.R_drewN | apply Kd.R_drew)); exact HO_6.out⟩, ⟨by (with_reducible repeat (first | refine blk_drewN ?_ _ | refine blk_drew ?_ | refine blk_alloc ?_ _)); exact BK301.out⟩, ⟨by repeat (first | (with_reducible first | exact HB.out | apply below_alloc | apply pw_below_drewN | apply below_drew1 | refine below_set ?_ GE301.out) | exact HB.out)⟩⟩
            case rest =>
              clear HC18
              try clear c1
              try clear c2
              try clear p2
              try clear c3
              try clear c6
              try clear c8
              try clear c10
              try clear c10b0
              try clear c12
              try clear c13
              try clear c14
              try clear c14b0
              try clear c16
              try clear c19
              try clear c20
              try clear hcz4_0
              try clear hcz4_1
              try clear hfz4_0
              try clear hfz4_1
              try clear p2
              obtain ⟨kq, x6_17, HA, HJ17, HO_6, BK301, HB⟩ := hcut
              cases kq with
              | zero => exact absurd HA.out (by simp [fixed_Text.j1])
              | succ kj17 =>
                have H := HA.out
                clear HA
                simp only [fixed_Text.j1] at H
                have H' := Aside0.mk H
                clear H
                obtain ⟨Ao22, co22, eo22⟩ := Kd.R_slice HO_6.out
                subst eo22
                go_wp2
                (try simp only [Act.put, List.setIfInBounds_toArray, List.set_cons_zero, List.set_cons_succ])
                go_loopg [9, 10] kj17 (fun kq v9 v10 w' => ∃ (x6_3 : List Int) (x9_3 : Int) (x10_3 : Int), v9 = .int .i64 x9_3 ∧ v10 = .int .i64 x10_3 ∧ Aside0 (fixed_Text.l1 kq x6_3 x9_3 x10_3 = some r) ∧ Aside0 (kq ≤ kj17) ∧ Aside0 (Kd.R (Kd.int .u8) 5 w' w.heap.size (fun _ => True) (.slice Ao22 x6_17.length co22) x6_3) ∧ Aside0 (w'.heap[gb301]? = some (.cells #[.int .i64 a0_0, .int .u64 a0_1] 24 (0, 0))) ∧ Aside0 (Below w.heap.size w w'))
                case atStart => exact ⟨(x6_17), (0), (wrap64 ((x6_17.length : Int) - 1)), (by first | rfl | (simp; done) | (simp [*]; done)), (by first | rfl | (simp; done) | (simp [*]; done)), H', ⟨Nat.le_refl _⟩, ⟨by (with_reducible repeat (first | apply Kd.R_alloc | apply Kd.R_drewN | apply Kd.R_drew)); exact HO_6.out⟩, ⟨by (with_reducible repeat (first | refine blk_drewN ?_ _ | refine blk_drew ?_ | refine blk_alloc ?_ _)); exact BK301.out⟩, ⟨by repeat (first | (with_reducible first | exact HB.out | apply below_alloc | apply pw_below_drewN | apply below_drew1 | refine below_set ?_ GE301.out) | exact HB.out)⟩⟩
                case round =>
                  clear H'
                  try clear c1
                  try clear c2
                  try clear p2
                  try clear c3
                  try clear c6
                  try clear p6
                  try clear c8
                  try clear c10
                  try clear c10b0
                  try clear c12
                  try clear c13
                  try clear c14
                  try clear c14b0
                  try clear c16
                  try clear c19
                  try clear c20
                  try clear hcz4_0
                  try clear hcz4_1
                  try clear hfz4_0
                  try clear hfz4_1
                  try clear p2
                  obtain ⟨x6_3, x9_3, x10_3, rfl, rfl, HA, HK3, HO_6, BK301, HB⟩ := hrel
                  have hl6_3 := (Kd.R_reads' HO_6.out).1
                  rw [hl6_3] at HO_6
                  (try simp only [hl6_3])
                  (try simp only [hl6_3] at BK301)
                  cases gk with
                  | zero => exact absurd HA.out (by simp [fixed_Text.l1])
                  | succ k3 =>
                    have H := HA.out
                    clear HA
                    simp only [fixed_Text.l1] at H
                    by_cases c23 : x9_3 < x10_3
                    · rw [if_pos c23] at H
                      have c23b0 : decide (x9_3 < x10_3) = true := decide_eq_true c23
                      clear c23
                      by_cases c24 : 0 ≤ x10_3
                      · rw [if_pos c24] at H
                        have c24b0 : decide (0 ≤ x10_3) = true := decide_eq_true c24
                        clear c24
                        by_cases c25 : x10_3 < (x6_3.length : Int)
                        · rw [if_pos c25] at H
                          have c25b0 : decide (x10_3 < (x6_3.length : Int)) = true := decide_eq_true c25
                          clear c25
                          by_cases c26 : 0 ≤ x9_3
                          · rw [if_pos c26] at H
                            have c26b0 : decide (0 ≤ x9_3) = true := decide_eq_true c26
                            clear c26
                            by_cases c27 : x9_3 < (x6_3.length : Int)
                            · rw [if_pos c27] at H
                              have c27b0 : decide (x9_3 < (x6_3.length : Int)) = true := decide_eq_true c27
                              clear c27
                              obtain ⟨y143, hy143⟩ : ∃ y_ : List Int, y_ = (x6_3.set (x9_3 : Int).toNat (rd x6_3 x10_3)) := ⟨_, rfl⟩
                              replace H : (fixed_Text.l1 k3 (y143.set (x10_3 : Int).toNat (rd x6_3 x9_3)) (wrap64 (x9_3 + 1)) (wrap64 (x10_3 - 1))) = some r := by first | (rw [hy143]; with_reducible exact H) | (have H2_ := (Option.bind_some _ _).symm.trans H; rw [hy143]; with_reducible exact H2_) | (have H2_ := (Option.bind_some _ _).symm.trans H; with_reducible exact H2_) | with_reducible exact H | (rw [hy143]; exact H) | exact H
                              have Ny143 := Aside0.mk hy143
                              clear hy143
                              obtain ⟨y144, hy144⟩ : ∃ y_ : List Int, y_ = (y143.set (x10_3 : Int).toNat (rd x6_3 x9_3)) := ⟨_, rfl⟩
                              replace H : (fixed_Text.l1 k3 y144 (wrap64 (x9_3 + 1)) (wrap64 (x10_3 - 1))) = some r := by first | (rw [hy144]; with_reducible exact H) | (have H2_ := (Option.bind_some _ _).symm.trans H; rw [hy144]; with_reducible exact H2_) | (have H2_ := (Option.bind_some _ _).symm.trans H; with_reducible exact H2_) | with_reducible exact H | (rw [hy144]; exact H) | exact H
                              have Ny144 := Aside0.mk hy144
                              clear hy144
                              have H' := Aside0.mk H
                              clear H
                              try go_wp2
                              have n0_ := Aside0.mk (Kd.R_drew HO_6.out)
                              have n1_ := Aside0.mk (blk_drew BK301.out)
                              have n2_ := Aside0.mk (below_drew1 HB.out)
                              clear HO_6
                              clear BK301
                              clear HB
                              have HO_6 := n0_
                              have BK301 := n1_
                              have HB := n2_
                              clear n0_ n1_ n2_
                              have p141 : 0 ≤ (x10_3 : Int) := of_decide_eq_true (by first | (with_reducible assumption) | assumption)
                              have q141 : x10_3 < (x6_3.length : Int) := of_decide_eq_true (by first | (with_reducible assumption) | assumption)
                              obtain ⟨ad141, e141, hx141_0⟩ := Kd.at_int (Kd.R_reads' HO_6.out).2.2 x10_3 p141 q141
                              cases e141
                              replace p141 := eq_true p141
                              replace q141 := eq_true q141
                              have p142 : 0 ≤ (x9_3 : Int) := of_decide_eq_true (by first | (with_reducible assumption) | assumption)
                              have q142 : x9_3 < (x6_3.length : Int) := of_decide_eq_true (by first | (with_reducible assumption) | assumption)
                              obtain ⟨ad142, e142, hx142_0⟩ := Kd.at_int (Kd.R_reads' HO_6.out).2.2 x9_3 p142 q142
                              obtain rfl : ad141 = ad142 := (by injection e142)
                              replace p142 := eq_true p142
                              replace q142 := eq_true q142
                              have p28 : 0 ≤ (x9_3 : Int) := of_decide_eq_true (by first | (with_reducible assumption) | assumption)
                              have q28 : (x9_3 : Int) < ((x6_3.length : Int) : Int) := of_decide_eq_true (by first | (with_reducible assumption) | assumption)
                              obtain ⟨go28, co28, eo28, gb28, gl28, cl28, HG28⟩ := Kd.R_form HO_6.out (by omega)
                              (first | cases eo28 | (injection eo28 with ea_ en_ ec_; (first | subst ea_ | (injection ea_ with ea_; subst ea_)); subst ec_; clear en_))
                              have GB28 := Aside0.mk gb28
                              have GG28 := Aside0.mk HG28
                              clear gb28 gl28 HG28
                              (first | simp only [add_plain] at hx141_0 | skip)
                              (first | simp only [add_plain] at hx142_0 | skip)
                              obtain ⟨hx28_0, hf28_0⟩ := Kd.R_celln 0 HO_6.out (x9_3 : Int) p28 q28
                              replace p28 := eq_true p28
                              replace q28 := eq_true q28
                              have HP31 := Kd.R_putn HO_6.out (x9_3 : Int) (rd x6_3 x10_3)
                              rw [← Ny143.out] at HP31
                              have HQ31 := Aside0.mk HP31
                              clear HP31
                              have p29 : 0 ≤ (x10_3 : Int) := of_decide_eq_true (by first | (with_reducible assumption) | assumption)
                              have q29 : (x10_3 : Int) < ((x6_3.length : Int) : Int) := of_decide_eq_true (by first | (with_reducible assumption) | assumption)
                              obtain ⟨hx29_0, hf29_0⟩ := Kd.R_celln 0 HQ31.out (x10_3 : Int) p29 q29
                              replace p29 := eq_true p29
                              replace q29 := eq_true q29
                              have HP32 := Kd.R_putn HQ31.out (x10_3 : Int) (rd x6_3 x9_3)
                              rw [← Ny144.out] at HP32
                              have HQ32 := Aside0.mk HP32
                              clear HP32
                              refine start_ (n := 16) (S := fun w' => w'.cell? ⟨go28, (x10_3).toNat, none⟩ = some (.int .u8 (rd x6_3 x10_3)) ∧ w'.cell? ⟨go28, (x9_3).toNat, none⟩ = some (.int .u8 (rd x6_3 x9_3))) (ds := [13, 15]) #[false, false, false, false, false, false, false, false, false, false, false, false, false, false, false, false] (by kernel_rfl) rfl rfl ⟨hx141_0, hx142_0⟩ (fun hHeld => ?_); refine with_tabW fixed_Text.tab15 fixed_Text.bits15 (fun HT_ HW_ => ?_)
                              generalize wr.drew = w30 at HO_6 BK301 HB GG28 HQ31 HQ32 hf28_0 hf29_0 hx141_0 hx142_0 hx28_0 hx29_0 hHeld ⊢
                              refine pure_ (i := 0) (N := some 56) (v := ?_) (a' := ?_) #[true, false, false, false, false, false, false, false, false, false, false, false, false, false, false, false] rfl rfl (any_of HT_.out (by kernel_rfl)) (fun _ _ _ h => h) (Or.inl ⟨by rfl, ?_⟩) ?_ ?_
                              rotate_left
                              · intro w'
                                go_simp
                                with_reducible rfl
                              rotate_left
                              · simp only [Act.put, List.setIfInBounds_toArray, List.set_cons_zero, List.set_cons_succ, i64_w, i32_w]
                                rfl
                              refine pure_ (i := 1) (N := some 57) (v := ?_) (a' := ?_) #[true, true, false, false, false, false, false, false, false, false, false, false, false, false, false, false] rfl rfl (any_of HT_.out (by kernel_rfl)) (fun _ _ _ h => h) (Or.inl ⟨by rfl, ?_⟩) ?_ ?_
                              rotate_left
                              · intro w'
                                go_simp
                                with_reducible rfl
                              rotate_left
                              · simp only [Act.put, List.setIfInBounds_toArray, List.set_cons_zero, List.set_cons_succ, i64_w, i32_w]
                                rfl
                              refine pure_ (i := 2) (N := some 58) (v := ?_) (a' := ?_) #[true, true, true, false, false, false, false, false, false, false, false, false, false, false, false, false] rfl rfl (any_of HT_.out (by kernel_rfl)) (fun _ _ _ h => h) (Or.inl ⟨by rfl, ?_⟩) ?_ ?_
                              rotate_left
                              · intro w'
                                go_simp
                                with_reducible rfl
                              rotate_left
                              · simp only [Act.put, List.setIfInBounds_toArray, List.set_cons_zero, List.set_cons_succ, i64_w, i32_w]
                                rfl
                              refine pure_ (i := 3) (N := some 59) (v := ?_) (a' := ?_) #[true, true, true, true, false, false, false, false, false, false, false, false, false, false, false, false] rfl rfl (any_of HT_.out (by kernel_rfl)) (fun _ _ _ h => h) (Or.inl ⟨by rfl, ?_⟩) ?_ ?_
                              rotate_left
                              · intro w'
                                go_simp
                                with_reducible rfl
                              rotate_left
                              · simp only [Act.put, List.setIfInBounds_toArray, List.set_cons_zero, List.set_cons_succ, i64_w, i32_w]
                                rfl
                              refine pure_ (i := 4) (N := some 60) (v := ?_) (a' := ?_) #[true, true, true, true, true, false, false, false, false, false, false, false, false, false, false, false] rfl rfl (any_of HT_.out (by kernel_rfl)) (fun _ _ _ h => h) (Or.inl ⟨by rfl, ?_⟩) ?_ ?_
                              rotate_left
                              · intro w'
                                go_simp
                                with_reducible rfl
                              rotate_left
                              · simp only [Act.put, List.setIfInBounds_toArray, List.set_cons_zero, List.set_cons_succ, i64_w, i32_w]
                                rfl
                              refine pure_ (i := 5) (N := some 61) (v := ?_) (a' := ?_) #[true, true, true, true, true, true, false, false, false, false, false, false, false, false, false, false] rfl rfl (any_of HT_.out (by kernel_rfl)) (fun _ _ _ h => h) (Or.inl ⟨by rfl, ?_⟩) ?_ ?_
                              rotate_left
                              · intro w'
                                go_simp
                                with_reducible rfl
                              rotate_left
                              · simp only [Act.put, List.setIfInBounds_toArray, List.set_cons_zero, List.set_cons_succ, i64_w, i32_w]
                                rfl
                              refine pure_ (i := 6) (N := some 62) (v := ?_) (a' := ?_) #[true, true, true, true, true, true, true, false, false, false, false, false, false, false, false, false] rfl rfl (any_of HT_.out (by kernel_rfl)) (fun _ _ _ h => h) (Or.inl ⟨by rfl, ?_⟩) ?_ ?_
                              rotate_left
                              · intro w'
                                go_simp
                                with_reducible rfl
                              rotate_left
                              · simp only [Act.put, List.setIfInBounds_toArray, List.set_cons_zero, List.set_cons_succ, i64_w, i32_w]
                                rfl
                              refine pure_ (i := 8) (N := some 64) (v := ?_) (a' := ?_) #[true, true, true, true, true, true, true, false, true, false, false, false, false, false, false, false] rfl rfl (any_of HT_.out (by kernel_rfl)) (fun _ _ _ h => h) (Or.inl ⟨by rfl, ?_⟩) ?_ ?_
                              rotate_left
                              · intro w'
                                go_simp
                                with_reducible rfl
                              rotate_left
                              · simp only [Act.put, List.setIfInBounds_toArray, List.set_cons_zero, List.set_cons_succ, i64_w, i32_w]
                                rfl
                              refine pure_ (i := 9) (N := some 65) (v := ?_) (a' := ?_) #[true, true, true, true, true, true, true, false, true, true, false, false, false, false, false, false] rfl rfl (any_of HT_.out (by kernel_rfl)) (fun _ _ _ h => h) (Or.inl ⟨by rfl, ?_⟩) ?_ ?_
                              rotate_left
                              · intro w'
                                go_simp
                                with_reducible rfl
                              rotate_left
                              · simp only [Act.put, List.setIfInBounds_toArray, List.set_cons_zero, List.set_cons_succ, i64_w, i32_w]
                                rfl
                              refine pure_ (i := 10) (N := some 66) (v := ?_) (a' := ?_) #[true, true, true, true, true, true, true, false, true, true, true, false, false, false, false, false] rfl rfl (any_of HT_.out (by kernel_rfl)) (fun _ _ _ h => h) (Or.inl ⟨by rfl, ?_⟩) ?_ ?_
                              rotate_left
                              · intro w'
                                go_simp
                                with_reducible rfl
                              rotate_left
                              · simp only [Act.put, List.setIfInBounds_toArray, List.set_cons_zero, List.set_cons_succ, i64_w, i32_w]
                                rfl
                              refine take_ (i := 7) (N := some 63) (v := ?_) (a' := ?_) #[true, true, true, true, true, true, true, true, true, true, true, false, false, false, false, false] rfl rfl (take_ofW HT_.out HW_.out (by kernel_rfl)) (fun _ _ _ h => h) (Or.inl ⟨by rfl, ?_⟩) hHeld ?_ ?_
                              rotate_left
                              · rintro w' ⟨s0, s1⟩
                                go_simp
                                with_reducible rfl
                              rotate_left
                              · simp only [Act.put, List.setIfInBounds_toArray, List.set_cons_zero, List.set_cons_succ, i64_w, i32_w]
                                rfl
                              refine take_ (i := 11) (N := some 67) (v := ?_) (a' := ?_) #[true, true, true, true, true, true, true, true, true, true, true, true, false, false, false, false] rfl rfl (take_ofW HT_.out HW_.out (by kernel_rfl)) (fun _ _ _ h => h) (Or.inl ⟨by rfl, ?_⟩) hHeld ?_ ?_
                              rotate_left
                              · rintro w' ⟨s0, s1⟩
                                go_simp
                                with_reducible rfl
                              rotate_left
                              · simp only [Act.put, List.setIfInBounds_toArray, List.set_cons_zero, List.set_cons_succ, i64_w, i32_w]
                                rfl
                              refine pure_ (i := 12) (N := some 68) (v := ?_) (a' := ?_) #[true, true, true, true, true, true, true, true, true, true, true, true, true, false, false, false] rfl rfl (any_of HT_.out (by kernel_rfl)) (fun _ _ _ h => h) (Or.inl ⟨by rfl, ?_⟩) ?_ ?_
                              rotate_left
                              · intro w'
                                go_simp
                                with_reducible rfl
                              rotate_left
                              · simp only [Act.put, List.setIfInBounds_toArray, List.set_cons_zero, List.set_cons_succ, i64_w, i32_w]
                                rfl
                              refine last_ (i := 13) (N := none) #[true, true, true, true, true, true, true, true, true, true, true, true, true, true, false, false] rfl rfl (one_of HT_.out (by kernel_rfl)) (by decide) (fun K hK => ?_)
                              refine skip_ (w1 := ?_) (by rfl) rfl ?_ ?_
                              rotate_left
                              · go_simp
                                rfl
                              refine hK.out _ _ ?_
                              clear hK K
                              refine pure_ (i := 14) (N := some 69) (v := ?_) (a' := ?_) #[true, true, true, true, true, true, true, true, true, true, true, true, true, true, true, false] rfl rfl (any_of HT_.out (by kernel_rfl)) (fun _ _ _ h => h) (Or.inl ⟨by rfl, ?_⟩) ?_ ?_
                              rotate_left
                              · intro w'
                                go_simp
                                with_reducible rfl
                              rotate_left
                              · simp only [Act.put, List.setIfInBounds_toArray, List.set_cons_zero, List.set_cons_succ, i64_w, i32_w]
                                rfl
                              refine last_ (i := 15) (N := none) #[true, true, true, true, true, true, true, true, true, true, true, true, true, true, true, true] rfl rfl (one_of HT_.out (by kernel_rfl)) (by decide) (fun K hK => ?_)
                              refine skip_ (w1 := ?_) (by rfl) rfl ?_ ?_
                              rotate_left
                              · go_simp
                                rfl
                              refine hK.out _ _ ?_
                              clear hK K
                              refine done_ (done_of HT_.out (by kernel_rfl)) ?_
                              try go_wp2
                              (try simp only [← hl6_3])
                              go_roundg k3
                              case measure => have := HK1.out; have := HJ17.out; have := HK3.out; omega
                              case rel => exact ⟨(y144), (wrap64 (x9_3 + 1)), (wrap64 (x10_3 - 1)), (by first | rfl | (simp; done) | (simp [*]; done)), (by first | rfl | (simp; done) | (simp [*]; done)), H', ⟨by have := HK1.out; have := HJ17.out; have := HK3.out; omega⟩, ⟨by (try simp only [hl6_3]); (with_reducible repeat (first | apply Kd.R_alloc | apply Kd.R_drewN | apply Kd.R_drew)); exact HQ32.out⟩, ⟨by (try simp only [hl6_3]); (with_reducible repeat (first | refine blk_drewN ?_ _ | refine blk_drew ?_ | refine blk_alloc ?_ _)); refine blk_far ?_ (by have h_ := Kd.R_ne HO_6.out BK301.out (by decide); intro e_; exact h_ (by rw [e_]; rfl)) _; (with_reducible repeat (first | refine blk_drewN ?_ _ | refine blk_drew ?_ | refine blk_alloc ?_ _)); refine blk_far ?_ (by have h_ := Kd.R_ne HO_6.out BK301.out (by decide); intro e_; exact h_ (by rw [e_]; rfl)) _; (with_reducible repeat (first | refine blk_drewN ?_ _ | refine blk_drew ?_ | refine blk_alloc ?_ _)); exact BK301.out⟩, ⟨by repeat (first | (with_reducible first | exact HB.out | apply below_alloc | apply pw_below_drewN | apply below_drew1 | refine below_set ?_ GB28.out | refine below_set ?_ GB28.out | refine below_set ?_ GE301.out) | exact HB.out)⟩⟩
                            · rw [if_neg c27] at H
                              exact absurd H (by simp)
                          · rw [if_neg c26] at H
                            exact absurd H (by simp)
                        · rw [if_neg c25] at H
                          exact absurd H (by simp)
                      · rw [if_neg c24] at H
                        exact absurd H (by simp)
                    · rw [if_neg c23] at H
                      have c23b0 : decide (x9_3 < x10_3) = false := decide_eq_false c23
                      clear c23
                      obtain rfl := Option.some.inj H
                      have hcv33 := own_string (P := Try.prog) Try.underlying77 Try.underlying5 Try.underlying9 (Kd.own_of_R HO_6.out)
                      go_wp2
                      go_ret
                      exact ⟨by first | rfl | (simp [errW_none, errW_some] <;> rfl) | (simp [*, errW_none, errW_some] <;> rfl), by repeat (first | (with_reducible first | exact HB.out | apply below_alloc | apply pw_below_drewN | apply below_drew1 | refine below_set ?_ GE301.out) | exact HB.out)⟩
end Go.Proofs.Ytjbcigiffihjaaa.Fx
end
section
namespace Go.Proofs.Ytjbcigiffihjaaa.Fx
open Go.RowKit Go.Proofs.YtjbcigiffihjaaaW.PrintWords Go.Proofs.YtjbcigiffihjaaaW.PrintLast Go.Proofs.YtjbcigiffihjaaaW.PrintMore
attribute [local go_sem] max2_int min2_int max_two min_two max_three min_three max_four min_four   -- for this text's walks alone
set_option linter.unusedVariables false
set_option linter.unusedSimpArgs false
attribute [local go_sem] run_add64_any
mutual
def fixed_Parse.j0 : Nat → ByteArray → Bool → Option (Int × Int × Int)
  | 0, _, _ => none
  | k + 1, x0, x4 => if x0.size ≤ 9223372036854775807 then ((some (bytesOf x0 : List Int)).bind fun y150 => (fixed_Parse.l0 k x4 0 0 y150 (y150.length : Int) 0)) else (none)
def fixed_Parse.l0 : Nat → Bool → Int → Int → List Int → Int → Int → Option (Int × Int × Int)
  | 0, _, _, _, _, _, _ => none
  | k + 1, x4, x5, x6, x25, x26, x27 => if x27 < x26 then (if 0 ≤ x27 then (if x27 < (x25.length : Int) then ((bits_Mul64.f x5 10).bind fun bt157 => ((bits_Mul64.f x6 10).bind fun bt159 => (if (addHi bt159.2 (((rd x25 x27) - 48) % 256) 0) ≤ 1 then (if (IntKind.u64.wrap (bt157.1 + (addHi bt157.2 bt159.1 (addHi bt159.2 (((rd x25 x27) - 48) % 256) 0)))) > 0 then (some (0, 0, 4)) else (fixed_Parse.l0 k x4 (addLo bt157.2 bt159.1 (addHi bt159.2 (((rd x25 x27) - 48) % 256) 0)) (addLo bt159.2 (((rd x25 x27) - 48) % 256) 0) x25 x26 (wrap64 (x27 + 1)))) else (none)))) else (none)) else (none)) else ((fixed_signed.f k x5 x6 x4).bind fun bt153 => (some (bt153.1, bt153.2.1, bt153.2.2)))
end
def fixed_Parse.f (k : Nat) (a0 : ByteArray) : Option (Int × Int × Int) := (fixed_form.f k a0).bind fun t149 => (if t149 = true then (if 0 < (a0.size : Int) then (if (bt a0 0) = 45 then (if 1 ≤ (a0.size : Int) then (fixed_Parse.j0 k (a0.extract 1 a0.size) true) else (none)) else (fixed_Parse.j0 k a0 false)) else (none)) else (some (0, 0, 3)))
set_option maxHeartbeats 8000000 in
set_option maxRecDepth 100000 in
theorem fixed_Parse.calls (k : Nat) (a0 : ByteArray) (r1 : Int) (r2 : Int) (r3 : Int) (w : World) (h : fixed_Parse.f k a0 = some (r1, r2, r3)) :
    Calls Try.prog 15 #[.string a0] w fun e w' => e = .returned (.tuple #[.agg #[.int .i64 r1, .int .u64 r2], .int .i64 r3]) ∧ Below w.heap.size w w' := by
  have hu24 := Try.underlying24
  have HB := Aside0.mk (Below.refl w.heap.size w)
  have H : ((fixed_form.f k a0).bind fun t149 => (if t149 = true then (if 0 < (a0.size : Int) then (if (bt a0 0) = 45 then (if 1 ≤ (a0.size : Int) then (fixed_Parse.j0 k (a0.extract 1 a0.size) true) else (none)) else (fixed_Parse.j0 k a0 false)) else (none)) else (some (0, 0, 3)))) = some (r1, r2, r3) := h
  clear h
  replace H := Option.bind_eq_some_iff.mp H
  obtain ⟨t149, A20, H⟩ := H
  replace H : (if t149 = true then (if 0 < (a0.size : Int) then (if (bt a0 0) = 45 then (if 1 ≤ (a0.size : Int) then (fixed_Parse.j0 k (a0.extract 1 a0.size) true) else (none)) else (fixed_Parse.j0 k a0 false)) else (none)) else (some (0, 0, 3))) = some (r1, r2, r3) := H
  have A2 := Aside0.mk A20
  clear A20
  by_cases c3 : t149 = true
  · subst c3
    have H1 : (if 0 < (a0.size : Int) then (if (bt a0 0) = 45 then (if 1 ≤ (a0.size : Int) then (fixed_Parse.j0 k (a0.extract 1 a0.size) true) else (none)) else (fixed_Parse.j0 k a0 false)) else (none)) = some (r1, r2, r3) := by rw [if_pos rfl] at H; exact H
    clear H
    have H := H1
    clear H1
    by_cases c4 : 0 < (a0.size : Int)
    · rw [if_pos c4] at H
      have c4b0 : decide (0 < (a0.size : Int)) = true := decide_eq_true c4
      have c4b1 : decide (0 < a0.size) = true := decide_eq_true (by omega)
      clear c4
      have HC6 := Aside0.mk H
      clear H
      go_enter Try.func15, Try.ntmps15
      go_upto_if 21 with (first | ((with_reducible refine gate_dst (N := 2) rfl ?_); refine box_event ?hg (N := 2) ?hd (cs := #[.int .i64 0, .int .u64 0]) (t := 24) ?hr ?_; (case hd => rfl); (case hg => rfl); (case hr => first | (go_simp; done) | (go_simp; rfl)); intro gb302 hg w7 hbox hb; have n0_ := Aside0.mk (below_step (by repeat (first | (with_reducible first | exact HB.out | apply below_alloc | apply pw_below_drewN | apply below_drew1) | exact HB.out)) hb); have n1_ := Aside0.mk (hbox); have n2_ := Aside0.mk ((by rw [hg]; exact (below_size (by repeat (first | (with_reducible first | exact HB.out | apply below_alloc | apply pw_below_drewN | apply below_drew1) | exact HB.out))) : w.heap.size ≤ gb302)); have n3_ := Aside0.mk ((by rw [hg]; exact (below_size (by repeat (first | (with_reducible first | exact HB.out | apply below_alloc | apply pw_below_drewN | apply below_drew1) | exact HB.out))) : w.heap.size ≤ gb302)); clear HB; have HB := n0_; have BK302 := n1_; have GW302 := n2_; have GE302 := n3_; clear n0_ n1_ n2_ n3_; clear hb hbox hg) | ((with_reducible refine gate_callee (f := 48) rfl ?_); refine goesL_ (some 15) rfl rfl Try.func48 (by kernel_rfl) rfl #[.string a0] rfl (by (try simp only [List.map_toArray, List.map_cons, List.map_nil]); first | done | rfl | (simp only [List.length_drop, List.length_take]; rfl)) ?_; (with_reducible refine (fixed_form.calls k a0 true _ A2.out).mono ?_); rintro e w8 ⟨rfl, hb⟩; refine ⟨_, rfl, ?_⟩; have n0_ := Aside0.mk (blk_below (g := gb302) (o := .cells #[.int .i64 0, .int .u64 0] 24 (0, 0)) (by (with_reducible repeat (first | refine blk_drewN ?_ _ | refine blk_drew ?_ | refine blk_alloc ?_ _)); exact BK302.out) hb); have n1_ := Aside0.mk (below_step (by repeat (first | (with_reducible first | exact HB.out | apply below_alloc | apply pw_below_drewN | apply below_drew1 | refine below_set ?_ GE302.out) | exact HB.out)) hb); clear BK302; clear HB; have BK302 := n0_; have HB := n1_; clear n0_ n1_; (try clear hb); (try clear hb2); (try clear hk); (try clear hi); have p5 : 0 ≤ (0 : Int) := (by omega); have q5 : 0 < a0.size := (by have : (0 : Int) < (a0.size : Int) := of_decide_eq_true (by first | (with_reducible assumption) | assumption); omega); have hx5 : ∀ h : 0 < a0.size, ((a0[0]'h).toNat : Int) = bt a0 0 := bt_at a0 0; clear p5; have qi5 : (0 < (a0.size : Int)) = True := eq_true (of_decide_eq_true (by first | (with_reducible assumption) | assumption)); replace q5 := eq_true q5))
      (try simp only [Act.put, List.setIfInBounds_toArray, List.set_cons_zero, List.set_cons_succ])
      go_cut [0, 4] (fun v0 v4 wc => ∃ (kq : Nat) (x0_5 : ByteArray) (x4_5 : Bool), v0 = .string x0_5 ∧ v4 = .bool x4_5 ∧ Aside0 (fixed_Parse.j0 kq x0_5 x4_5 = some (r1, r2, r3)) ∧ Aside0 (kq ≤ k) ∧ Aside0 (wc.heap[gb302]? = some (.cells #[.int .i64 0, .int .u64 0] 24 (0, 0))) ∧ Aside0 (Below w.heap.size w wc))
      case first =>
        have H := HC6.out
        clear HC6
        by_cases c9 : (bt a0 0) = 45
        · rw [if_pos c9] at H
          have c9b0 : ((bt a0 0) == 45) = true := beq_iff_eq.mpr c9
          have c9b1 : ((bt a0 0) != 45) = false := bne_eq_false_iff_eq.mpr c9
          clear c9
          (first | rw [c9b0] | (simp only [i64_w, i32_w]; rw [c9b0]) | skip)
          by_cases c10 : 1 ≤ (a0.size : Int)
          · rw [if_pos c10] at H
            have c10b0 := eq_true c10
            have c10b1 : decide (1 ≤ (a0.size : Int)) = true := decide_eq_true c10
            clear c10
            have H' := Aside0.mk H
            clear H
            go_wp2
            go_meet
            case rel => exact ⟨_, (a0.extract 1 a0.size), (true), (by first | rfl | (simp; done) | (simp [*]; done)), (by first | rfl | (simp; done) | (simp [*]; done)), H', ⟨by first | omega | exact Nat.le_refl _⟩, ⟨by (with_reducible repeat (first | refine blk_drewN ?_ _ | refine blk_drew ?_ | refine blk_alloc ?_ _)); exact BK302.out⟩, ⟨by repeat (first | (with_reducible first | exact HB.out | apply below_alloc | apply pw_below_drewN | apply below_drew1 | refine below_set ?_ GE302.out) | exact HB.out)⟩⟩
          · rw [if_neg c10] at H
            exact absurd H (by simp)
        · rw [if_neg c9] at H
          have c9b0 : ((bt a0 0) == 45) = false := beq_eq_false_iff_ne.mpr c9
          have c9b1 : ((bt a0 0) != 45) = true := bne_iff_ne.mpr c9
          (first | rw [c9b0] | (simp only [i64_w, i32_w]; rw [c9b0]) | skip)
          have H' := Aside0.mk H
          clear H
          go_wp2
          go_meet
          case rel => exact ⟨_, (a0), (false), (by first | rfl | (simp; done) | (simp [*]; done)), (by first | rfl | (simp; done) | (simp [*]; done)), H', ⟨by first | omega | exact Nat.le_refl _⟩, ⟨by (with_reducible repeat (first | refine blk_drewN ?_ _ | refine blk_drew ?_ | refine blk_alloc ?_ _)); exact BK302.out⟩, ⟨by repeat (first | (with_reducible first | exact HB.out | apply below_alloc | apply pw_below_drewN | apply below_drew1 | refine below_set ?_ GE302.out) | exact HB.out)⟩⟩
      case rest =>
        clear HC6
        try clear c1
        try clear p2
        try clear c3
        try clear c4
        try clear c4b0
        try clear c4b1
        try clear p5
        try clear q5
        try clear hx5
        try clear qi5
        try clear c9
        try clear c9b0
        try clear c9b1
        try clear c10
        try clear c10b0
        try clear c10b1
        try clear p5
        try clear q5
        obtain ⟨kq, x0_5, x4_5, rfl, rfl, HA, HJ5, BK302, HB⟩ := hcut
        cases kq with
        | zero => exact absurd HA.out (by simp [fixed_Parse.j0])
        | succ kj5 =>
          have H := HA.out
          clear HA
          simp only [fixed_Parse.j0] at H
          by_cases c11 : x0_5.size ≤ 9223372036854775807
          · rw [if_pos c11] at H
            have c11b0 := eq_true c11
            have c11b1 : decide (x0_5.size ≤ 9223372036854775807) = true := decide_eq_true c11
            try have c11b2 : (9223372036854775807 < x0_5.size) = False := eq_false (Nat.not_lt.2 c11)
            clear c11
            obtain ⟨y150, hy150⟩ : ∃ y_ : List Int, y_ = (bytesOf x0_5) := ⟨_, rfl⟩
            replace H : (fixed_Parse.l0 kj5 x4_5 0 0 y150 (y150.length : Int) 0) = some (r1, r2, r3) := by first | (rw [hy150]; with_reducible exact H) | (have H2_ := (Option.bind_some _ _).symm.trans H; rw [hy150]; with_reducible exact H2_) | (have H2_ := (Option.bind_some _ _).symm.trans H; with_reducible exact H2_) | with_reducible exact H | (rw [hy150]; exact H) | exact H
            have Ny150 := Aside0.mk hy150
            clear hy150
            have H' := Aside0.mk H
            clear H
            go_wp2_with (first | ((with_reducible refine gate_dst (N := 25) rfl ?_); refine conv_event _ 5 ?hg (N := 25) ?hd x0_5 (of_decide_eq_true (by first | (with_reducible assumption) | assumption)) ?hr (Below.refl _ _) (Nat.le_refl _) ?_; (case hd => rfl); (case hg => rfl); (case hr => have kb_ := fun W_ => print_bytes (P := Try.prog) 9 77 5 Try.underlying9 Try.underlying77 Try.underlying5 x0_5 W_; first | (go_simp; done) | (go_simp; rfl)); intro v151 w12 ho13 hb hg_ hnew_; clear hg_ hnew_; (first | rw [← Ny150.out] at ho13 | (simp only [Int.reduceToNat] at ho13; rw [← Ny150.out] at ho13)); have n0_ := Aside0.mk (Kd.V_lower (Kd.V_mono (ok' := fun k_ => k_ ≠ gb302) ho13 (fun k_ hk_ => (Kd.freshB (g := gb302) (o := .cells #[.int .i64 0, .int .u64 0] 24 (0, 0)) (by (with_reducible repeat (first | refine blk_drewN ?_ _ | refine blk_drew ?_ | refine blk_alloc ?_ _)); exact BK302.out) k_ hk_))) (below_size (by repeat (first | (with_reducible first | exact HB.out | apply below_alloc | apply pw_below_drewN | apply below_drew1 | refine below_set ?_ GE302.out) | exact HB.out)))); have n1_ := Aside0.mk (blk_below (g := gb302) (o := .cells #[.int .i64 0, .int .u64 0] 24 (0, 0)) (by (with_reducible repeat (first | refine blk_drewN ?_ _ | refine blk_drew ?_ | refine blk_alloc ?_ _)); exact BK302.out) hb); have n2_ := Aside0.mk (below_step (by repeat (first | (with_reducible first | exact HB.out | apply below_alloc | apply pw_below_drewN | apply below_drew1 | refine below_set ?_ GE302.out) | exact HB.out)) hb); clear BK302; clear HB; have HO152 := n0_; have BK302 := n1_; have HB := n2_; clear n0_ n1_ n2_; clear hb ho13; obtain ⟨Ao14, co14, eo14⟩ := Kd.V_slice HO152.out; subst eo14))
            (try simp only [Act.put, List.setIfInBounds_toArray, List.set_cons_zero, List.set_cons_succ])
            go_loopg [5, 6, 27] kj5 (fun kq v5 v6 v27 w' => ∃ (x5_2 : Int) (x6_2 : Int) (x27_2 : Int) (x303000_2 : Int) (x303001_2 : Int), v5 = .int .u64 x5_2 ∧ v6 = .int .u64 x6_2 ∧ v27 = .int .i64 x27_2 ∧ Aside0 (fixed_Parse.l0 kq x4_5 x5_2 x6_2 y150 (y150.length : Int) x27_2 = some (r1, r2, r3)) ∧ Aside0 (kq ≤ kj5) ∧ Aside0 (Kd.V (Kd.int .u8) 5 w' w.heap.size (fun k_ => k_ ≠ gb302) (.slice Ao14 y150.length co14) y150) ∧ Aside0 (w'.heap[gb302]? = some (.cells #[.int .i64 x303000_2, .int .u64 x303001_2] 24 (0, 0))) ∧ Aside0 (Below w.heap.size w w'))
            case atStart => exact ⟨(0), (0), (0), (0), (0), (by first | rfl | (simp; done) | (simp [*]; done)), (by first | rfl | (simp; done) | (simp [*]; done)), (by first | rfl | (simp; done) | (simp [*]; done)), H', ⟨Nat.le_refl _⟩, ⟨by (with_reducible repeat (first | apply Kd.V_alloc | apply Kd.V_drewN | apply Kd.V_drew)); exact HO152.out⟩, ⟨by (with_reducible repeat (first | refine blk_drewN ?_ _ | refine blk_drew ?_ | refine blk_alloc ?_ _)); exact BK302.out⟩, ⟨by repeat (first | (with_reducible first | exact HB.out | apply below_alloc | apply pw_below_drewN | apply below_drew1 | refine below_set ?_ GE302.out) | exact HB.out)⟩⟩
            case round =>
              clear H'
              try clear c1
              try clear p2
              try clear c3
              try clear c4
              try clear c4b0
              try clear c4b1
              try clear p5
              try clear q5
              try clear hx5
              try clear qi5
              try clear c9
              try clear c9b0
              try clear c9b1
              try clear c10
              try clear c10b0
              try clear c10b1
              try clear c11
              try clear c11b0
              try clear c11b1
              try clear c11b2
              try clear p2
              try clear p5
              try clear q5
              obtain ⟨x5_2, x6_2, x27_2, x303000_2, x303001_2, rfl, rfl, rfl, HA, HK2, HO_25, BK302, HB⟩ := hrel
              cases gk with
              | zero => exact absurd HA.out (by simp [fixed_Parse.l0])
              | succ k2 =>
                have H := HA.out
                clear HA
                simp only [fixed_Parse.l0] at H
                by_cases c15 : x27_2 < (y150.length : Int)
                · rw [if_pos c15] at H
                  have c15b0 : decide (x27_2 < (y150.length : Int)) = true := decide_eq_true c15
                  clear c15
                  by_cases c16 : 0 ≤ x27_2
                  · rw [if_pos c16] at H
                    have c16b0 : decide (0 ≤ x27_2) = true := decide_eq_true c16
                    clear c16
                    by_cases c17 : x27_2 < (y150.length : Int)
                    · rw [if_pos c17] at H
                      have c17b0 : decide (x27_2 < (y150.length : Int)) = true := decide_eq_true c17
                      clear c17
                      replace H := Option.bind_eq_some_iff.mp H
                      obtain ⟨⟨t157, t158⟩, A180, H⟩ := H
                      replace H : ((bits_Mul64.f x6_2 10).bind fun bt159 => (if (addHi bt159.2 (((rd y150 x27_2) - 48) % 256) 0) ≤ 1 then (if (IntKind.u64.wrap (t157 + (addHi t158 bt159.1 (addHi bt159.2 (((rd y150 x27_2) - 48) % 256) 0)))) > 0 then (some (0, 0, 4)) else (fixed_Parse.l0 k2 x4_5 (addLo t158 bt159.1 (addHi bt159.2 (((rd y150 x27_2) - 48) % 256) 0)) (addLo bt159.2 (((rd y150 x27_2) - 48) % 256) 0) y150 (y150.length : Int) (wrap64 (x27_2 + 1)))) else (none))) = some (r1, r2, r3) := H
                      have A18 := Aside0.mk A180
                      clear A180
                      replace H := Option.bind_eq_some_iff.mp H
                      obtain ⟨⟨t159, t160⟩, A190, H⟩ := H
                      replace H : (if (addHi t160 (((rd y150 x27_2) - 48) % 256) 0) ≤ 1 then (if (IntKind.u64.wrap (t157 + (addHi t158 t159 (addHi t160 (((rd y150 x27_2) - 48) % 256) 0)))) > 0 then (some (0, 0, 4)) else (fixed_Parse.l0 k2 x4_5 (addLo t158 t159 (addHi t160 (((rd y150 x27_2) - 48) % 256) 0)) (addLo t160 (((rd y150 x27_2) - 48) % 256) 0) y150 (y150.length : Int) (wrap64 (x27_2 + 1)))) else (none)) = some (r1, r2, r3) := H
                      have A19 := Aside0.mk A190
                      clear A190
                      by_cases c20 : (addHi t160 (((rd y150 x27_2) - 48) % 256) 0) ≤ 1
                      · rw [if_pos c20] at H
                        have c20b0 := eq_true c20
                        have c20b1 : decide ((addHi t160 (((rd y150 x27_2) - 48) % 256) 0) ≤ 1) = true := decide_eq_true c20
                        clear c20
                        by_cases c21 : (IntKind.u64.wrap (t157 + (addHi t158 t159 (addHi t160 (((rd y150 x27_2) - 48) % 256) 0)))) > 0
                        · rw [if_pos c21] at H
                          have c21b0 : decide (0 < (IntKind.u64.wrap (t157 + (addHi t158 t159 (addHi t160 (((rd y150 x27_2) - 48) % 256) 0))))) = true := decide_eq_true c21
                          clear c21
                          simp only [Option.some.injEq, Prod.mk.injEq] at H
                          obtain ⟨rfl, rfl, rfl⟩ := H
                          have p156 : 0 ≤ (x27_2 : Int) := of_decide_eq_true (by first | (with_reducible assumption) | assumption)
                          have q156 : x27_2 < (y150.length : Int) := of_decide_eq_true (by first | (with_reducible assumption) | assumption)
                          obtain ⟨ad156, e156, hx156_0⟩ := Kd.at_int (Kd.V_reads' HO_25.out).2.2 x27_2 p156 q156
                          cases e156
                          replace p156 := eq_true p156
                          replace q156 := eq_true q156
                          go_wp2_with (first | ((with_reducible refine gate_callee (f := 49) rfl ?_); refine goesL_ (some 33) rfl rfl Try.func49 (by kernel_rfl) rfl #[.int .u64 x5_2, .int .u64 10] rfl (by (try simp only [List.map_toArray, List.map_cons, List.map_nil]); first | done | rfl | (simp only [List.length_drop, List.length_take]; rfl)) ?_; (with_reducible refine (bits_Mul64.calls x5_2 10 t157 t158 _ A18.out).mono ?_); rintro e w' ⟨rfl, ⟨nd, rfl⟩⟩; refine ⟨_, rfl, ?_⟩; (try (rw [drewN_self wr]; generalize hq_ : World.drewN wr _ = wr; have n0_ : Aside0 (Kd.V (Kd.int .u8) 5 wr w.heap.size (fun k_ => k_ ≠ gb302) (.slice (some ad156) y150.length co14) y150) := ⟨by rw [← hq_]; exact (by (with_reducible repeat (first | apply Kd.V_alloc | apply Kd.V_drewN | apply Kd.V_drew)); exact HO_25.out)⟩; have n1_ : Aside0 (wr.heap[gb302]? = some (.cells #[.int .i64 x303000_2, .int .u64 x303001_2] 24 (0, 0))) := ⟨by rw [← hq_]; exact (by (with_reducible repeat (first | refine blk_drewN ?_ _ | refine blk_drew ?_ | refine blk_alloc ?_ _)); exact BK302.out)⟩; have n2_ : Aside0 (Below w.heap.size w wr) := ⟨by rw [← hq_]; exact (by repeat (first | (with_reducible first | exact HB.out | apply below_alloc | apply pw_below_drewN | apply below_drew1 | refine below_set ?_ GE302.out) | exact HB.out))⟩; clear HO_25 BK302 HB hq_; have HO_25 := n0_; have BK302 := n1_; have HB := n2_; clear n0_ n1_ n2_))) | ((with_reducible refine gate_callee (f := 49) rfl ?_); refine goesL_ (some 38) rfl rfl Try.func49 (by kernel_rfl) rfl #[.int .u64 x6_2, .int .u64 10] rfl (by (try simp only [List.map_toArray, List.map_cons, List.map_nil]); first | done | rfl | (simp only [List.length_drop, List.length_take]; rfl)) ?_; (with_reducible refine (bits_Mul64.calls x6_2 10 t159 t160 _ A19.out).mono ?_); rintro e w' ⟨rfl, ⟨nd, rfl⟩⟩; refine ⟨_, rfl, ?_⟩; (try (rw [drewN_self wr]; generalize hq_ : World.drewN wr _ = wr; have n0_ : Aside0 (Kd.V (Kd.int .u8) 5 wr w.heap.size (fun k_ => k_ ≠ gb302) (.slice (some ad156) y150.length co14) y150) := ⟨by rw [← hq_]; exact (by (with_reducible repeat (first | apply Kd.V_alloc | apply Kd.V_drewN | apply Kd.V_drew)); exact HO_25.out)⟩; have n1_ : Aside0 (wr.heap[gb302]? = some (.cells #[.int .i64 x303000_2, .int .u64 x303001_2] 24 (0, 0))) := ⟨by rw [← hq_]; exact (by (with_reducible repeat (first | refine blk_drewN ?_ _ | refine blk_drew ?_ | refine blk_alloc ?_ _)); exact BK302.out)⟩; have n2_ : Aside0 (Below w.heap.size w wr) := ⟨by rw [← hq_]; exact (by repeat (first | (with_reducible first | exact HB.out | apply below_alloc | apply pw_below_drewN | apply below_drew1 | refine below_set ?_ GE302.out) | exact HB.out))⟩; clear HO_25 BK302 HB hq_; have HO_25 := n0_; have BK302 := n1_; have HB := n2_; clear n0_ n1_ n2_)); have hcz22_0 : wr.cell? ⟨gb302, 0, none⟩ = some (.int .i64 x303000_2) := (blk_cell BK302.out 0).trans rfl; have hcz22_1 : wr.cell? ⟨gb302, 1, none⟩ = some (.int .u64 x303001_2) := (blk_cell BK302.out 1).trans rfl; have hfz22_0 := blk_frozen BK302.out 0; have hfz22_1 := blk_frozen BK302.out 1))
                          refine bodyPost_ret (results_ct rfl _ _ gb302 24 #[.int .i64 0, .int .u64 0] (0, 0) _ rfl (by (with_reducible repeat (first | refine blk_drewN ?_ _ | refine blk_drew ?_ | refine blk_alloc ?_ _)); refine blk_put (cs := #[.int .i64 0, .int .u64 x303001_2]) ?_ 1 _ rfl; (with_reducible repeat (first | refine blk_drewN ?_ _ | refine blk_drew ?_ | refine blk_alloc ?_ _)); refine blk_put (cs := #[.int .i64 x303000_2, .int .u64 x303001_2]) ?_ 0 _ rfl; (with_reducible repeat (first | refine blk_drewN ?_ _ | refine blk_drew ?_ | refine blk_alloc ?_ _)); exact BK302.out) Try.underlying24 rfl (by kernel_rfl)) rfl ?_
                          exact ⟨by first | rfl | (simp [errW_none, errW_some] <;> rfl) | (simp [*, errW_none, errW_some] <;> rfl), by repeat (first | (with_reducible first | exact HB.out | apply below_alloc | apply pw_below_drewN | apply below_drew1 | refine below_set ?_ GE302.out) | exact HB.out)⟩
                        · rw [if_neg c21] at H
                          have c21b0 : decide (0 < (IntKind.u64.wrap (t157 + (addHi t158 t159 (addHi t160 (((rd y150 x27_2) - 48) % 256) 0))))) = false := decide_eq_false c21
                          clear c21
                          have H' := Aside0.mk H
                          clear H
                          have p156 : 0 ≤ (x27_2 : Int) := of_decide_eq_true (by first | (with_reducible assumption) | assumption)
                          have q156 : x27_2 < (y150.length : Int) := of_decide_eq_true (by first | (with_reducible assumption) | assumption)
                          obtain ⟨ad156, e156, hx156_0⟩ := Kd.at_int (Kd.V_reads' HO_25.out).2.2 x27_2 p156 q156
                          cases e156
                          replace p156 := eq_true p156
                          replace q156 := eq_true q156
                          go_wp2_with (first | ((with_reducible refine gate_callee (f := 49) rfl ?_); refine goesL_ (some 33) rfl rfl Try.func49 (by kernel_rfl) rfl #[.int .u64 x5_2, .int .u64 10] rfl (by (try simp only [List.map_toArray, List.map_cons, List.map_nil]); first | done | rfl | (simp only [List.length_drop, List.length_take]; rfl)) ?_; (with_reducible refine (bits_Mul64.calls x5_2 10 t157 t158 _ A18.out).mono ?_); rintro e w' ⟨rfl, ⟨nd, rfl⟩⟩; refine ⟨_, rfl, ?_⟩) | ((with_reducible refine gate_callee (f := 49) rfl ?_); refine goesL_ (some 38) rfl rfl Try.func49 (by kernel_rfl) rfl #[.int .u64 x6_2, .int .u64 10] rfl (by (try simp only [List.map_toArray, List.map_cons, List.map_nil]); first | done | rfl | (simp only [List.length_drop, List.length_take]; rfl)) ?_; (with_reducible refine (bits_Mul64.calls x6_2 10 t159 t160 _ A19.out).mono ?_); rintro e w' ⟨rfl, ⟨nd, rfl⟩⟩; refine ⟨_, rfl, ?_⟩))
                          go_roundg k2
                          case measure => have := HJ5.out; have := HK2.out; omega
                          case rel => exact ⟨(addLo t158 t159 (addHi t160 (((rd y150 x27_2) - 48) % 256) 0)), (addLo t160 (((rd y150 x27_2) - 48) % 256) 0), (wrap64 (x27_2 + 1)), (x303000_2), (x303001_2), (by first | rfl | (simp; done) | (simp [*]; done)), (by first | rfl | (simp; done) | (simp [*]; done)), (by first | rfl | (simp; done) | (simp [*]; done)), H', ⟨by have := HJ5.out; have := HK2.out; omega⟩, ⟨by (with_reducible repeat (first | apply Kd.V_alloc | apply Kd.V_drewN | apply Kd.V_drew)); exact HO_25.out⟩, ⟨by (with_reducible repeat (first | refine blk_drewN ?_ _ | refine blk_drew ?_ | refine blk_alloc ?_ _)); exact BK302.out⟩, ⟨by repeat (first | (with_reducible first | exact HB.out | apply below_alloc | apply pw_below_drewN | apply below_drew1 | refine below_set ?_ GE302.out) | exact HB.out)⟩⟩
                      · rw [if_neg c20] at H
                        exact absurd H (by simp)
                    · rw [if_neg c17] at H
                      exact absurd H (by simp)
                  · rw [if_neg c16] at H
                    exact absurd H (by simp)
                · rw [if_neg c15] at H
                  have c15b0 : decide (x27_2 < (y150.length : Int)) = false := decide_eq_false c15
                  clear c15
                  replace H := Option.bind_eq_some_iff.mp H
                  obtain ⟨⟨t153, t154, t155⟩, A230, H⟩ := H
                  replace H : (some (t153, t154, t155)) = some (r1, r2, r3) := H
                  have A23 := Aside0.mk A230
                  clear A230
                  simp only [Option.some.injEq, Prod.mk.injEq] at H
                  obtain ⟨rfl, rfl, rfl⟩ := H
                  go_wp2_with (first | ((with_reducible refine gate_callee (f := 39) rfl ?_); refine goesL_ (some 65) rfl rfl Try.func39 (by kernel_rfl) rfl #[.int .u64 x5_2, .int .u64 x6_2, .bool x4_5] rfl (by (try simp only [List.map_toArray, List.map_cons, List.map_nil]); first | done | rfl | (simp only [List.length_drop, List.length_take]; rfl)) ?_; (with_reducible refine (fixed_signed.calls k2 x5_2 x6_2 x4_5 t153 t154 t155 _ A23.out).mono ?_); rintro e w24 ⟨rfl, hb⟩; refine ⟨_, rfl, ?_⟩; have n0_ := Aside0.mk (Kd.V_below (by (with_reducible repeat (first | apply Kd.V_alloc | apply Kd.V_drewN | apply Kd.V_drew)); exact HO_25.out) hb); have n1_ := Aside0.mk (blk_below (g := gb302) (o := .cells #[.int .i64 x303000_2, .int .u64 x303001_2] 24 (0, 0)) (by (with_reducible repeat (first | refine blk_drewN ?_ _ | refine blk_drew ?_ | refine blk_alloc ?_ _)); exact BK302.out) hb); have n2_ := Aside0.mk (below_step (by repeat (first | (with_reducible first | exact HB.out | apply below_alloc | apply pw_below_drewN | apply below_drew1 | refine below_set ?_ GE302.out) | exact HB.out)) hb); clear HO_25; clear BK302; clear HB; have HO_25 := n0_; have BK302 := n1_; have HB := n2_; clear n0_ n1_ n2_; (try clear hb); (try clear hb2); (try clear hk); (try clear hi); have hcz25_0 : w24.cell? ⟨gb302, 0, none⟩ = some (.int .i64 x303000_2) := (blk_cell BK302.out 0).trans rfl; have hcz25_1 : w24.cell? ⟨gb302, 1, none⟩ = some (.int .u64 x303001_2) := (blk_cell BK302.out 1).trans rfl; have hfz25_0 := blk_frozen BK302.out 0; have hfz25_1 := blk_frozen BK302.out 1))
                  refine bodyPost_ret (results_ct rfl _ _ gb302 24 #[.int .i64 t153, .int .u64 t154] (0, 0) _ rfl (by (with_reducible repeat (first | refine blk_drewN ?_ _ | refine blk_drew ?_ | refine blk_alloc ?_ _)); refine blk_put (cs := #[.int .i64 t153, .int .u64 x303001_2]) ?_ 1 _ rfl; (with_reducible repeat (first | refine blk_drewN ?_ _ | refine blk_drew ?_ | refine blk_alloc ?_ _)); refine blk_put (cs := #[.int .i64 x303000_2, .int .u64 x303001_2]) ?_ 0 _ rfl; (with_reducible repeat (first | refine blk_drewN ?_ _ | refine blk_drew ?_ | refine blk_alloc ?_ _)); exact BK302.out) Try.underlying24 rfl (by kernel_rfl)) rfl ?_
                  exact ⟨by first | rfl | (simp [errW_none, errW_some] <;> rfl) | (simp [*, errW_none, errW_some] <;> rfl), by repeat (first | (with_reducible first | exact HB.out | apply below_alloc | apply pw_below_drewN | apply below_drew1 | refine below_set ?_ GE302.out) | exact HB.out)⟩
          · rw [if_neg c11] at H
            exact absurd H (by simp)
    · rw [if_neg c4] at H
      exact absurd H (by simp)
  · replace c3 := Bool.eq_false_iff.mpr c3
    subst c3
    have H1 : (some (0, 0, 3)) = some (r1, r2, r3) := by rw [if_neg (show ¬ (false = true) by decide)] at H; exact H
    clear H
    have H := H1
    clear H1
    simp only [Option.some.injEq, Prod.mk.injEq] at H
    obtain ⟨rfl, rfl, rfl⟩ := H
    go_enter Try.func15, Try.ntmps15
    go_wp2_with (first | ((with_reducible refine gate_dst (N := 2) rfl ?_); refine box_event ?hg (N := 2) ?hd (cs := #[.int .i64 0, .int .u64 0]) (t := 24) ?hr ?_; (case hd => rfl); (case hg => rfl); (case hr => first | (go_simp; done) | (go_simp; rfl)); intro gb302 hg w26 hbox hb; have n0_ := Aside0.mk (below_step (by repeat (first | (with_reducible first | exact HB.out | apply below_alloc | apply pw_below_drewN | apply below_drew1) | exact HB.out)) hb); have n1_ := Aside0.mk (hbox); have n2_ := Aside0.mk ((by rw [hg]; exact (below_size (by repeat (first | (with_reducible first | exact HB.out | apply below_alloc | apply pw_below_drewN | apply below_drew1) | exact HB.out))) : w.heap.size ≤ gb302)); have n3_ := Aside0.mk ((by rw [hg]; exact (below_size (by repeat (first | (with_reducible first | exact HB.out | apply below_alloc | apply pw_below_drewN | apply below_drew1) | exact HB.out))) : w.heap.size ≤ gb302)); clear HB; have HB := n0_; have BK302 := n1_; have GW302 := n2_; have GE302 := n3_; clear n0_ n1_ n2_ n3_; clear hb hbox hg) | ((with_reducible refine gate_callee (f := 48) rfl ?_); refine goesL_ (some 15) rfl rfl Try.func48 (by kernel_rfl) rfl #[.string a0] rfl (by (try simp only [List.map_toArray, List.map_cons, List.map_nil]); first | done | rfl | (simp only [List.length_drop, List.length_take]; rfl)) ?_; (with_reducible refine (fixed_form.calls k a0 false _ A2.out).mono ?_); rintro e w27 ⟨rfl, hb⟩; refine ⟨_, rfl, ?_⟩; have n0_ := Aside0.mk (blk_below (g := gb302) (o := .cells #[.int .i64 0, .int .u64 0] 24 (0, 0)) (by (with_reducible repeat (first | refine blk_drewN ?_ _ | refine blk_drew ?_ | refine blk_alloc ?_ _)); exact BK302.out) hb); have n1_ := Aside0.mk (below_step (by repeat (first | (with_reducible first | exact HB.out | apply below_alloc | apply pw_below_drewN | apply below_drew1 | refine below_set ?_ GE302.out) | exact HB.out)) hb); clear BK302; clear HB; have BK302 := n0_; have HB := n1_; clear n0_ n1_; (try clear hb); (try clear hb2); (try clear hk); (try clear hi); have hcz28_0 : w27.cell? ⟨gb302, 0, none⟩ = some (.int .i64 0) := (blk_cell BK302.out 0).trans rfl; have hcz28_1 : w27.cell? ⟨gb302, 1, none⟩ = some (.int .u64 0) := (blk_cell BK302.out 1).trans rfl; have hfz28_0 := blk_frozen BK302.out 0; have hfz28_1 := blk_frozen BK302.out 1))
    refine bodyPost_ret (results_ct rfl _ _ gb302 24 #[.int .i64 0, .int .u64 0] (0, 0) _ rfl (by (with_reducible repeat (first | refine blk_drewN ?_ _ | refine blk_drew ?_ | refine blk_alloc ?_ _)); refine blk_put (cs := #[.int .i64 0, .int .u64 0]) ?_ 1 _ rfl; (with_reducible repeat (first | refine blk_drewN ?_ _ | refine blk_drew ?_ | refine blk_alloc ?_ _)); refine blk_put (cs := #[.int .i64 0, .int .u64 0]) ?_ 0 _ rfl; (with_reducible repeat (first | refine blk_drewN ?_ _ | refine blk_drew ?_ | refine blk_alloc ?_ _)); exact BK302.out) Try.underlying24 rfl (by kernel_rfl)) rfl ?_
    exact ⟨by first | rfl | (simp [errW_none, errW_some] <;> rfl) | (simp [*, errW_none, errW_some] <;> rfl), by repeat (first | (with_reducible first | exact HB.out | apply below_alloc | apply pw_below_drewN | apply below_drew1 | refine below_set ?_ GE302.out) | exact HB.out)⟩
end Go.Proofs.Ytjbcigiffihjaaa.Fx
end
section
namespace Go.Proofs.Ytjbcigiffihjaaa.Fx
open Go.RowKit Go.Proofs.YtjbcigiffihjaaaW.PrintWords Go.Proofs.YtjbcigiffihjaaaW.PrintLast Go.Proofs.YtjbcigiffihjaaaW.PrintMore
attribute [local go_sem] max2_int min2_int max_two min_two max_three min_three max_four min_four   -- for this text's walks alone
set_option linter.unusedVariables false
set_option linter.unusedSimpArgs false
attribute [local go_sem] run_add64_any
def clevislaw01_known.f : Option Bool := some true
theorem clevislaw01_known.kd0 : fixed_Divide.f 100 (-1) 18446744073709551609 2 0 = some (-1, 18446744073709551612, 0) := by kernel_rfl
theorem clevislaw01_known.kd1 : fixed_Divide.f 100 (-1) 18446744073709551609 2 1 = some (-1, 18446744073709551613, 0) := by kernel_rfl
theorem clevislaw01_known.kd2 : fixed_Divide.f 100 (-1) 18446744073709551609 2 2 = some (-1, 18446744073709551613, 0) := by kernel_rfl
theorem clevislaw01_known.kd3 : fixed_Divide.f 100 (-1) 18446744073709551609 2 3 = some (-1, 18446744073709551612, 0) := by kernel_rfl
theorem clevislaw01_known.kp : fixed_Parse.f 100 ⟨#[45, 48]⟩ = some (0, 0, 3) := by kernel_rfl
theorem clevislaw01_known.kt : fixed_Text.f 100 (-1) 0 = some ⟨#[45, 49, 56, 52, 52, 54, 55, 52, 52, 48, 55, 51, 55, 48, 57, 53, 53, 49, 54, 49, 54]⟩ := by kernel_rfl
theorem clevislaw01_known.ko : fixed_Of.f (-7) = some (-1, 18446744073709551609) := by kernel_rfl
theorem clevislaw01_known.ki0 : fixed_Int.f (-1) 18446744073709551612 = some (-4, 0) := by kernel_rfl
theorem clevislaw01_known.ki1 : fixed_Int.f (-1) 18446744073709551613 = some (-3, 0) := by kernel_rfl
theorem clevislaw01_known.ki2 : fixed_Int.f (-1) 18446744073709551613 = some (-3, 0) := by kernel_rfl
theorem clevislaw01_known.ki3 : fixed_Int.f (-1) 18446744073709551612 = some (-4, 0) := by kernel_rfl
set_option maxHeartbeats 1000000 in
theorem clevislaw01_known.walk (w : World) : Calls Try.prog 9 #[] w fun e w' => e = .returned (.bool true) ∧ Below w.heap.size w w' := by
  go_enter Try.func9, Try.ntmps9
  go_wp2
  go_loopw [2] (fun v2 wr => ∃ (k : Nat), k ≤ 4 ∧ v2 = .int .i64 k ∧ Aside0 (wr.heap[w.heap.size]? = some (.cells #[.int .i64 (-4), .int .i64 (-3), .int .i64 (-3), .int .i64 (-4)] 69 (0, 0))) ∧ Aside0 (Below w.heap.size w wr)) (fun v2 _ => 4 - (intOf v2).toNat)
  case atStart => exact ⟨0, by omega, rfl, ⟨heap_alloc_new w _⟩, ⟨below_alloc (Below.refl _ _) _⟩⟩
  case round =>
    obtain ⟨k, hk, rfl, HX, HB⟩ := hrel
    have hcases : k = 0 ∨ k = 1 ∨ k = 2 ∨ k = 3 ∨ k = 4 := by omega
    clear hk
    rcases hcases with rfl | rfl | rfl | rfl | rfl
    · -- round 0
      go_wp2_with fail
      refine (fixed_Of.calls _ _ _ _ clevislaw01_known.ko).mono ?_
      rintro e w1 ⟨rfl, hb1⟩
      have HB1 := Aside0.mk (below_weaken HB.out HB.out.size hb1)
      have HX1 := Aside0.mk ((hb1.block _ (blk_lt HX.out)).trans HX.out)
      clear hb1
      go_wp2_with fail
      refine (fixed_Divide.calls _ _ _ _ _ _ _ _ _ clevislaw01_known.kd0).mono ?_
      rintro e w2 ⟨rfl, hb2⟩
      have HB2 := Aside0.mk (below_weaken HB1.out HB1.out.size hb2)
      have HX2 := Aside0.mk ((hb2.block _ (blk_lt HX1.out)).trans HX1.out)
      clear hb2
      go_wp2_with fail
      refine (fixed_Int.calls _ _ _ _ _ clevislaw01_known.ki0).mono ?_
      rintro e w3 ⟨rfl, hb3⟩
      have HB3 := Aside0.mk (below_weaken (below_alloc HB2.out _) (by have := HB2.out.size; simp; omega) hb3)
      have HX3 := Aside0.mk ((hb3.block _ (by have := blk_lt HX2.out; simp; omega)).trans (blk_alloc HX2.out _))
      clear hb3
      have hc3 := (blk_cell HX3.out 0).trans (show _ = some (Value.int .i64 (-4)) from rfl)
      go_wp2
      go_roundw
      case rel => exact ⟨1, by omega, rfl, HX3, HB3⟩
      case measure => simp [intOf]
    · -- round 1
      go_wp2_with fail
      refine (fixed_Of.calls _ _ _ _ clevislaw01_known.ko).mono ?_
      rintro e w1 ⟨rfl, hb1⟩
      have HB1 := Aside0.mk (below_weaken HB.out HB.out.size hb1)
      have HX1 := Aside0.mk ((hb1.block _ (blk_lt HX.out)).trans HX.out)
      clear hb1
      go_wp2_with fail
      refine (fixed_Divide.calls _ _ _ _ _ _ _ _ _ clevislaw01_known.kd1).mono ?_
      rintro e w2 ⟨rfl, hb2⟩
      have HB2 := Aside0.mk (below_weaken HB1.out HB1.out.size hb2)
      have HX2 := Aside0.mk ((hb2.block _ (blk_lt HX1.out)).trans HX1.out)
      clear hb2
      go_wp2_with fail
      refine (fixed_Int.calls _ _ _ _ _ clevislaw01_known.ki1).mono ?_
      rintro e w3 ⟨rfl, hb3⟩
      have HB3 := Aside0.mk (below_weaken (below_alloc HB2.out _) (by have := HB2.out.size; simp; omega) hb3)
      have HX3 := Aside0.mk ((hb3.block _ (by have := blk_lt HX2.out; simp; omega)).trans (blk_alloc HX2.out _))
      clear hb3
      have hc3 := (blk_cell HX3.out 1).trans (show _ = some (Value.int .i64 (-3)) from rfl)
      go_wp2
      go_roundw
      case rel => exact ⟨2, by omega, rfl, HX3, HB3⟩
      case measure => simp [intOf]
    · -- round 2
      go_wp2_with fail
      refine (fixed_Of.calls _ _ _ _ clevislaw01_known.ko).mono ?_
      rintro e w1 ⟨rfl, hb1⟩
      have HB1 := Aside0.mk (below_weaken HB.out HB.out.size hb1)
      have HX1 := Aside0.mk ((hb1.block _ (blk_lt HX.out)).trans HX.out)
      clear hb1
      go_wp2_with fail
      refine (fixed_Divide.calls _ _ _ _ _ _ _ _ _ clevislaw01_known.kd2).mono ?_
      rintro e w2 ⟨rfl, hb2⟩
      have HB2 := Aside0.mk (below_weaken HB1.out HB1.out.size hb2)
      have HX2 := Aside0.mk ((hb2.block _ (blk_lt HX1.out)).trans HX1.out)
      clear hb2
      go_wp2_with fail
      refine (fixed_Int.calls _ _ _ _ _ clevislaw01_known.ki2).mono ?_
      rintro e w3 ⟨rfl, hb3⟩
      have HB3 := Aside0.mk (below_weaken (below_alloc HB2.out _) (by have := HB2.out.size; simp; omega) hb3)
      have HX3 := Aside0.mk ((hb3.block _ (by have := blk_lt HX2.out; simp; omega)).trans (blk_alloc HX2.out _))
      clear hb3
      have hc3 := (blk_cell HX3.out 2).trans (show _ = some (Value.int .i64 (-3)) from rfl)
      go_wp2
      go_roundw
      case rel => exact ⟨3, by omega, rfl, HX3, HB3⟩
      case measure => simp [intOf]
    · -- round 3
      go_wp2_with fail
      refine (fixed_Of.calls _ _ _ _ clevislaw01_known.ko).mono ?_
      rintro e w1 ⟨rfl, hb1⟩
      have HB1 := Aside0.mk (below_weaken HB.out HB.out.size hb1)
      have HX1 := Aside0.mk ((hb1.block _ (blk_lt HX.out)).trans HX.out)
      clear hb1
      go_wp2_with fail
      refine (fixed_Divide.calls _ _ _ _ _ _ _ _ _ clevislaw01_known.kd3).mono ?_
      rintro e w2 ⟨rfl, hb2⟩
      have HB2 := Aside0.mk (below_weaken HB1.out HB1.out.size hb2)
      have HX2 := Aside0.mk ((hb2.block _ (blk_lt HX1.out)).trans HX1.out)
      clear hb2
      go_wp2_with fail
      refine (fixed_Int.calls _ _ _ _ _ clevislaw01_known.ki3).mono ?_
      rintro e w3 ⟨rfl, hb3⟩
      have HB3 := Aside0.mk (below_weaken (below_alloc HB2.out _) (by have := HB2.out.size; simp; omega) hb3)
      have HX3 := Aside0.mk ((hb3.block _ (by have := blk_lt HX2.out; simp; omega)).trans (blk_alloc HX2.out _))
      clear hb3
      have hc3 := (blk_cell HX3.out 3).trans (show _ = some (Value.int .i64 (-4)) from rfl)
      go_wp2
      go_roundw
      case rel => exact ⟨4, by omega, rfl, HX3, HB3⟩
      case measure => simp [intOf]
    · go_wp2_with fail
      refine (fixed_Parse.calls _ _ _ _ _ _ clevislaw01_known.kp).mono ?_
      rintro e w1 ⟨rfl, hb1⟩
      have HB1 := Aside0.mk (below_weaken HB.out HB.out.size hb1)
      clear hb1
      go_wp2_with fail
      refine (fixed_Text.calls _ _ _ _ _ clevislaw01_known.kt).mono ?_
      rintro e w2 ⟨rfl, hb2⟩
      have HB2 := Aside0.mk (below_weaken (below_alloc HB1.out _) (by have := HB1.out.size; simp; omega) hb2)
      clear hb2
      go_wp2
      go_ret
      exact ⟨rfl, HB2.out⟩
theorem clevislaw01_known.calls (r : Bool) (w : World) (h : clevislaw01_known.f = some r) : Calls Try.prog 9 #[] w fun e w' => e = .returned (.bool r) ∧ Below w.heap.size w w' := by
  obtain rfl := Option.some.inj h
  exact clevislaw01_known.walk w
end Go.Proofs.Ytjbcigiffihjaaa.Fx
end
