/- Texts of this seat, put together (ZC6). -/
import Derived.Test.YtfbkgfffalppmaaZC2
import Derived.Test.YtfbkgfffalppmaaZC4
import Derived.Test.YtfbkgfffalppmaaZC5
section
namespace Go.Proofs.Ytfbkgfffalppmaa.Wf
open Go.RowKit Go.Proofs.YtfbkgfffalppmaaW.PrintWords Go.Proofs.YtfbkgfffalppmaaW.PrintLast Go.Proofs.YtfbkgfffalppmaaW.PrintMore
attribute [local go_sem] max2_int min2_int max_two min_two max_three min_three max_four min_four   -- for this text's walks alone
set_option linter.unusedVariables false
set_option linter.unusedSimpArgs false
attribute [local go_sem] run_add64_any
def clevisref01_Bits.l0 : Nat → List Int → Int → Int → Bool → List Int → Option (Bool × List Int)
 | 0, _, _, _, _, _ => none
 | k + 1, x0, x4, x5, x304000, x304001 => if x5 < (x0.length : Int) then (if 0 ≤ x5 then (if x304000 = true then (if x304001.length < 17592186044416 then (clevisref01_Bits.l0 k x0 (wrap64 (Int.tdiv (wrap64 ((wrap64 (65535 - (rd x0 x5))) + x4)) 65536)) (wrap64 (x5 + 1)) x304000 (x304001 ++ [Int.tmod (wrap64 ((wrap64 (65535 - (rd x0 x5))) + x4)) 65536])) else (none)) else (if x304001.length < 17592186044416 then (clevisref01_Bits.l0 k x0 x4 (wrap64 (x5 + 1)) x304000 (x304001 ++ [rd x0 x5])) else (none))) else (none)) else (if x304000 = true then (if x4 > 0 then (if x304001.length < 17592186044416 then ((clevisref01_clean.f k x304000 (x304001 ++ [x4])).bind fun bt181 => (some (bt181.1, bt181.2))) else (none)) else ((clevisref01_clean.f k x304000 x304001).bind fun bt185 => (some (bt185.1, bt185.2)))) else ((clevisref01_clean.f k x304000 x304001).bind fun bt189 => (some (bt189.1, bt189.2))))
def clevisref01_Bits.f (k : Nat) (l0 : List Int) : Option (Bool × List Int) := if 0 ≤ (wrap64 ((l0.length : Int) - 1)) then (if (wrap64 ((l0.length : Int) - 1)) < (l0.length : Int) then (if (rd l0 (wrap64 ((l0.length : Int) - 1))) ≥ 32768 then (clevisref01_Bits.l0 k l0 1 0 true ([] : List Int)) else (clevisref01_Bits.l0 k l0 1 0 false ([] : List Int))) else (none)) else (none)
set_option maxHeartbeats 8000000 in
set_option maxRecDepth 100000 in
theorem clevisref01_Bits.calls (k : Nat) (A0 : Option Addr) (c0 : Nat) (l0 : List Int) (r1 : Bool) (r2 : List Int) (w : World) (hr0 : Kd.C (Kd.int .i64) w A0 l0.length l0) (hc0 : l0.length ≤ c0) (h : clevisref01_Bits.f k l0 = some (r1, r2)) :
  Calls Try.prog 38 #[.slice A0 l0.length c0] w fun e w' => ∃ v1_ : Value, e = .returned (.agg #[.bool r1, v1_]) ∧ Kd.V (Kd.int .i64) 3 w' w.heap.size (fun k_ => (w.heap.size ≤ k_)) v1_ r2 ∧ Below w.heap.size w w' := by
 have hu38 := Try.underlying38
 have HR0 := A_ hr0
 have HC0 := A_ hc0
 clear hr0 hc0
 have HB := A_ (Below.refl w.heap.size w)
 have H : (if 0 ≤ (wrap64 ((l0.length : Int) - 1)) then (if (wrap64 ((l0.length : Int) - 1)) < (l0.length : Int) then (if (rd l0 (wrap64 ((l0.length : Int) - 1))) ≥ 32768 then (clevisref01_Bits.l0 k l0 1 0 true ([] : List Int)) else (clevisref01_Bits.l0 k l0 1 0 false ([] : List Int))) else (none)) else (none)) = some (r1, r2) := h
 clear h
 obtain ⟨ji2, hji2⟩ : ∃ j_ : Int, (wrap64 ((l0.length : Int) - 1)) = j_ := ⟨_, rfl⟩
 replace H : (if 0 ≤ (ji2) then (if (ji2) < (l0.length : Int) then (if (rd l0 (ji2)) ≥ 32768 then (clevisref01_Bits.l0 k l0 1 0 true ([] : List Int)) else (clevisref01_Bits.l0 k l0 1 0 false ([] : List Int))) else (none)) else (none)) = some (r1, r2) := by first | (rw [hji2] at H; exact H) | (simp only [hji2] at H ⊢; exact H)
 have hji2w : (IntKind.i64.wrap ((l0.length : Int) - 1)) = ji2 := (i64_w _).trans hji2
 by_cases c3 : 0 ≤ (ji2)
 ·
  rw [if_pos c3] at H
  have c3b0 : decide (0 ≤ (ji2)) = true := decide_eq_true c3
  clear c3
  by_cases c4 : (ji2) < (l0.length : Int)
  ·
   rw [if_pos c4] at H
   have c4b0 : decide ((ji2) < (l0.length : Int)) = true := decide_eq_true c4
   clear c4
   by_cases c5 : (rd l0 (ji2)) ≥ 32768
   ·
    rw [if_pos c5] at H
    have c5b0 : decide (32768 ≤ (rd l0 (ji2))) = true := decide_eq_true c5
    clear c5
    have H' := A_ H
    clear H
    go_enter Try.func38, Try.ntmps38
    go_wp2_with (first | ((with_reducible refine gate_dst (N := 2) rfl ?_); refine box_event ?hg (N := 2) ?hd (cs := #[.bool false, .slice none 0 0]) (t := 38) ?hr ?_; (case hd => rfl); (case hg => rfl); (case hr => first | (go_simp; done) | (go_simp; rfl)); intro gb302 hg w6 hbox hb; have n0_ := A_ (bs_ bw_ hb); have n1_ := A_ (hbox); have n2_ := A_ ((by rw [hg]; exact (bz_ bw_) : w.heap.size ≤ gb302)); have n3_ := A_ ((by rw [hg]; exact (bz_ bw_) : w.heap.size ≤ gb302)); clear HB; have HB := n0_; have BK302 := n1_; have GW302 := n2_; have GE302 := n3_; clear n0_ n1_ n2_ n3_; clear hb hbox hg; have p170 : 0 ≤ ((ji2) : Int) := od_ (by first | (with_reducible assumption) | assumption); have q170 : (ji2) < (l0.length : Int) := od_ (by first | (with_reducible assumption) | assumption); obtain ⟨ad170, e170, hx170_0⟩ := Kd.at_int HR0.out (ji2) p170 q170; cases e170; replace hx170_0 := (HB.out.cell (World.block_lt_of_cell? w _ hx170_0)).trans hx170_0; replace p170 := eq_true p170; replace q170 := eq_true q170) | ((with_reducible refine gate_dst (N := 3) rfl ?_); refine box_event ?hg (N := 3) ?hd (cs := #[.bool false, .slice none 0 0]) (t := 38) ?hr ?_; (case hd => rfl); (case hg => rfl); (case hr => first | (go_simp; done) | (go_simp; rfl)); intro gb303 hg w7 hbox hb; have n0_ := A_ (kb_ BK302 hb); have n1_ := A_ (bs_ bw_ hb); have n2_ := A_ (hbox); have n3_ := A_ ((by rw [hg]; exact (bz_ bw_) : w.heap.size ≤ gb303)); have n4_ := A_ ((by rw [hg]; exact (bz_ bw_) : w.heap.size ≤ gb303)); have n5_ := A_ ((by rw [hg]; exact nl_ (lt_ BK302) : gb302 ≠ gb303)); have n6_ := A_ ((by rw [hg]; exact ng_ (lt_ BK302) : gb303 ≠ gb302)); clear BK302; clear HB; have BK302 := n0_; have HB := n1_; have BK303 := n2_; have GW303 := n3_; have GE303 := n4_; have NB302_303 := n5_; have NB303_302 := n6_; clear n0_ n1_ n2_ n3_ n4_ n5_ n6_; clear hb hbox hg; have hnb8 := NB303_302.out; have hnc8 := NB302_303.out; have hcz9_0 : w7.cell? ⟨gb303, 0, none⟩ = some (.bool false) := (bc_ BK303.out 0).trans rfl; have hcz9_1 : w7.cell? ⟨gb303, 1, none⟩ = some (.slice none 0 0) := (bc_ BK303.out 1).trans rfl; have hfz9_0 := bf_ BK303.out 0; have hfz9_1 := bf_ BK303.out 1))
    (try simp only [Act.put, sA_, sZ_, sS_])
    go_loopg [4, 5] k (fun kq v4 v5 w' => ∃ (x4_1 : Int) (x5_1 : Int) (x304001_1 : List Int) (u304001 : Value), v4 = .int .i64 x4_1 ∧ v5 = .int .i64 x5_1 ∧ Aside0 (clevisref01_Bits.l0 kq l0 x4_1 x5_1 true x304001_1 = some (r1, r2)) ∧ Aside0 (kq ≤ k) ∧ Aside0 (Kd.R (Kd.int .i64) 3 w' w.heap.size (fun k_ => (w.heap.size ≤ k_)) u304001 x304001_1) ∧ Aside0 (w'.heap[gb302]? = some (.cells #[.bool false, (.slice none 0 0)] 38 (0, 0))) ∧ Aside0 (w'.heap[gb303]? = some (.cells #[.bool true, u304001] 38 (0, 0))) ∧ Aside0 (Below w.heap.size w w'))
    case atStart => exact ⟨(1), (0), (([] : List Int)), (.slice none 0 0), (by first | rfl | (simp; done) | (simp [*]; done)), (by first | rfl | (simp; done) | (simp [*]; done)), H', ⟨Nat.le_refl _⟩, ⟨by first | exact Kd.R_nil _ _ _ _ _ | exact Kd.N_nil _ _ _ _ _ | exact Kd.V_nil _ _ _ _ _ | exact Kd.Q_nil _ _ _ _ _ | exact Kd.S_nil _ _ _ _ _⟩, ⟨bk_⟩, ⟨by (with_reducible repeat (first | refine bn_ ?_ _ | refine bd_ ?_ | refine ba_ ?_ _)); refine bp_ (cs := #[.bool true, .slice none 0 0]) ?_ 1 _ rfl; (with_reducible repeat (first | refine bn_ ?_ _ | refine bd_ ?_ | refine ba_ ?_ _)); refine bp_ (cs := #[.bool false, .slice none 0 0]) ?_ 0 _ rfl; (with_reducible repeat (first | refine bn_ ?_ _ | refine bd_ ?_ | refine ba_ ?_ _)); exact BK303.out⟩, ⟨bw_⟩⟩
    case round =>
     clear H'
     try clear p1
     try clear q1
     try clear hx1
     try clear p2
     try clear c3
     try clear c3b0
     try clear c4
     try clear c4b0
     try clear c5
     try clear c5b0
     try clear p6
     try clear c8
     try clear hcz9_0
     try clear hcz9_1
     try clear hfz9_0
     try clear hfz9_1
     try clear hx170_0
     try clear p170
     try clear q170
     obtain ⟨x4_1, x5_1, x304001_1, u304001, rfl, rfl, HA, HK1, HO_304001, BK302, BK303, HB⟩ := hrel
     cases gk with
     | zero => exact absurd HA.out (by simp [clevisref01_Bits.l0])
     | succ k1 =>
      have H := HA.out
      clear HA
      simp only [clevisref01_Bits.l0] at H
      by_cases c10 : x5_1 < (l0.length : Int)
      ·
       rw [if_pos c10] at H
       have c10b0 : decide (x5_1 < (l0.length : Int)) = true := decide_eq_true c10
       clear c10
       by_cases c11 : 0 ≤ x5_1
       ·
        rw [if_pos c11] at H
        have c11b0 : decide (0 ≤ x5_1) = true := decide_eq_true c11
        clear c11
        replace H : (if x304001_1.length < 17592186044416 then (clevisref01_Bits.l0 k1 l0 (wrap64 (Int.tdiv (wrap64 ((wrap64 (65535 - (rd l0 x5_1))) + x4_1)) 65536)) (wrap64 (x5_1 + 1)) true (x304001_1 ++ [Int.tmod (wrap64 ((wrap64 (65535 - (rd l0 x5_1))) + x4_1)) 65536])) else (none)) = some (r1, r2) := by first | exact H | (rw [if_pos rfl] at H; exact H) | (rw [if_neg (by decide)] at H; exact H) | simpa using H
        by_cases c12 : x304001_1.length < 17592186044416
        ·
         rw [if_pos c12] at H
         have LMc12 := A_ c12
         clear c12
         obtain ⟨y172, hy172⟩ : ∃ y_ : List Int, y_ = (x304001_1 ++ [Int.tmod (wrap64 ((wrap64 (65535 - (rd l0 x5_1))) + x4_1)) 65536]) := ⟨_, rfl⟩
         replace H : (clevisref01_Bits.l0 k1 l0 (wrap64 (Int.tdiv (wrap64 ((wrap64 (65535 - (rd l0 x5_1))) + x4_1)) 65536)) (wrap64 (x5_1 + 1)) true y172) = some (r1, r2) := by first | (rw [hy172]; with_reducible exact H) | (have H2_ := (Option.bind_some _ _).symm.trans H; rw [hy172]; with_reducible exact H2_) | (have H2_ := (Option.bind_some _ _).symm.trans H; with_reducible exact H2_) | with_reducible exact H | (rw [hy172]; exact H) | exact H
         have Ny172 := A_ hy172
         clear hy172
         have H' := A_ H
         clear H
         have p171 : 0 ≤ (x5_1 : Int) := od_ (by first | (with_reducible assumption) | assumption)
         have q171 : x5_1 < (l0.length : Int) := od_ (by first | (with_reducible assumption) | assumption)
         obtain ⟨ad171, e171, hx171_0⟩ := Kd.at_int HR0.out x5_1 p171 q171
         obtain rfl : ad170 = ad171 := (by injection e171)
         replace hx171_0 := (HB.out.cell (World.block_lt_of_cell? w _ hx171_0)).trans hx171_0
         replace p171 := eq_true p171
         replace q171 := eq_true q171
         have hnb13 := NB303_302.out
         have hnc13 := NB302_303.out
         have hcz14_0 : wr.cell? ⟨gb303, 0, none⟩ = some (.bool true) := (bc_ BK303.out 0).trans rfl
         have hcz14_1 : wr.cell? ⟨gb303, 1, none⟩ = some (u304001) := (bc_ BK303.out 1).trans rfl
         have hfz14_0 := bf_ BK303.out 0
         have hfz14_1 := bf_ BK303.out 1
         go_wp2_with (first | ((with_reducible refine gate_builtin (b := .append) (xs := #[.tmp 36, .tmp 38]) rfl ?_); at_builtin; refine Kd.R_append (Kd.int .i64) (w0 := w) w.heap.size rfl (.tmp 36) (.tmp 38) 36 3 (.int .i64 0) 8 rfl Try.underlying36 info3 rfl (by decide) (by omega) u304001 x304001_1 (Int.tmod (wrap64 ((wrap64 (65535 - (rd l0 x5_1))) + x4_1)) 65536) [.int .i64 (Int.tmod (wrap64 ((wrap64 (65535 - (rd l0 x5_1))) + x4_1)) 65536)] (fun k_ => (w.heap.size ≤ k_)) (fun _ => False) rfl rfl ?aP (fun _ hk => hk.elim) ?aF ?aO ?aB ?aS ?aL ?_; (case aP => exact rfl); (case aB => exact bw_); (case aF => exact (fun k_ hk => (Nat.le_trans (bz_ bw_) hk))); (case aO => exact (by (with_reducible repeat (first | apply Kd.R_alloc | apply Kd.R_drewN | apply Kd.R_drew)); exact HO_304001.out)); (case aS => exact (bz_ bw_)); (case aL => have := LMc12.out; omega); intro v173 w15 ho hb hg hat; rw [← Ny172.out] at ho; have n0_ := A_ (blk_grown (g := gb302) (o := .cells #[.bool false, .slice none 0 0] 38 (0, 0)) bk_ hg (Kd.R_ne HO_304001.out BK302.out (by decide))); have n1_ := A_ (blk_grown (g := gb303) (o := .cells #[.bool true, u304001] 38 (0, 0)) bk_ hg (Kd.R_ne HO_304001.out BK303.out (by decide))); have n2_ := A_ (hb); have n3_ := A_ (ho); clear BK302; clear BK303; clear HB; clear HO_304001; have BK302 := n0_; have BK303 := n1_; have HB := n2_; have HO174 := n3_; clear n0_ n1_ n2_ n3_; clear ho hb hg hat; obtain ⟨Ao16, co16, eo16⟩ := Kd.R_slice HO174.out; subst eo16; have hcz17_0 : w15.cell? ⟨gb303, 0, none⟩ = some (.bool true) := (bc_ BK303.out 0).trans rfl; have hcz17_1 : w15.cell? ⟨gb303, 1, none⟩ = some (u304001) := (bc_ BK303.out 1).trans rfl; have hfz17_0 := bf_ BK303.out 0; have hfz17_1 := bf_ BK303.out 1))
         go_roundg k1
         case measure => have := HK1.out; omega
         case rel => exact ⟨(wrap64 (Int.tdiv (wrap64 ((wrap64 (65535 - (rd l0 x5_1))) + x4_1)) 65536)), (wrap64 (x5_1 + 1)), (y172), (.slice Ao16 y172.length co16), (by first | rfl | (simp; done) | (simp [*]; done)), (by first | rfl | (simp; done) | (simp [*]; done)), H', ⟨by have := HK1.out; omega⟩, ⟨by (with_reducible repeat (first | apply Kd.R_alloc | apply Kd.R_drewN | apply Kd.R_drew)); exact Kd.R_mono (Kd.R_far (p := ⟨gb303, 1, none⟩) (Kd.R_types HO174.out BK303.out (by decide)) (fun _ hk => hk.2) (.slice Ao16 y172.length co16)) (fun _ hk => hk.1)⟩, ⟨bk_⟩, ⟨by (with_reducible repeat (first | refine bn_ ?_ _ | refine bd_ ?_ | refine ba_ ?_ _)); refine bp_ (cs := #[.bool true, u304001]) ?_ 1 _ rfl; (with_reducible repeat (first | refine bn_ ?_ _ | refine bd_ ?_ | refine ba_ ?_ _)); exact BK303.out⟩, ⟨bw_⟩⟩
        ·
         rw [if_neg c12] at H
         exact absurd H (by simp)
       ·
        rw [if_neg c11] at H
        exact absurd H (by simp)
      ·
       rw [if_neg c10] at H
       have c10b0 : decide (x5_1 < (l0.length : Int)) = false := decide_eq_false c10
       clear c10
       replace H : (if x4_1 > 0 then (if x304001_1.length < 17592186044416 then ((clevisref01_clean.f k1 true (x304001_1 ++ [x4_1])).bind fun bt181 => (some (bt181.1, bt181.2))) else (none)) else ((clevisref01_clean.f k1 true x304001_1).bind fun bt185 => (some (bt185.1, bt185.2)))) = some (r1, r2) := by first | exact H | (rw [if_pos rfl] at H; exact H) | (rw [if_neg (by decide)] at H; exact H) | simpa using H
       by_cases c18 : x4_1 > 0
       ·
        rw [if_pos c18] at H
        have c18b0 : decide (0 < x4_1) = true := decide_eq_true c18
        clear c18
        by_cases c19 : x304001_1.length < 17592186044416
        ·
         rw [if_pos c19] at H
         have LMc19 := A_ c19
         clear c19
         obtain ⟨y178, hy178⟩ : ∃ y_ : List Int, y_ = (x304001_1 ++ [x4_1]) := ⟨_, rfl⟩
         replace H : ((clevisref01_clean.f k1 true y178).bind fun bt181 => (some (bt181.1, bt181.2))) = some (r1, r2) := by first | (rw [hy178]; with_reducible exact H) | (have H2_ := (Option.bind_some _ _).symm.trans H; rw [hy178]; with_reducible exact H2_) | (have H2_ := (Option.bind_some _ _).symm.trans H; with_reducible exact H2_) | with_reducible exact H | (rw [hy178]; exact H) | exact H
         have Ny178 := A_ hy178
         clear hy178
         replace H := os_ H
         obtain ⟨⟨t181, t182⟩, A200, H⟩ := H
         replace H : (some (t181, t182)) = some (r1, r2) := H
         have A20 := A_ A200
         clear A200
         simp only [Option.some.injEq, Prod.mk.injEq] at H
         obtain ⟨rfl, rfl⟩ := H
         have hnb21 := NB303_302.out
         have hnc21 := NB302_303.out
         have hcz22_0 : wr.cell? ⟨gb303, 0, none⟩ = some (.bool true) := (bc_ BK303.out 0).trans rfl
         have hcz22_1 : wr.cell? ⟨gb303, 1, none⟩ = some (u304001) := (bc_ BK303.out 1).trans rfl
         have hfz22_0 := bf_ BK303.out 0
         have hfz22_1 := bf_ BK303.out 1
         go_wp2_with (first | ((with_reducible refine gate_builtin (b := .append) (xs := #[.tmp 48, .tmp 50]) rfl ?_); at_builtin; refine Kd.R_append (Kd.int .i64) (w0 := w) w.heap.size rfl (.tmp 48) (.tmp 50) 36 3 (.int .i64 0) 8 rfl Try.underlying36 info3 rfl (by decide) (by omega) u304001 x304001_1 x4_1 [.int .i64 x4_1] (fun k_ => (w.heap.size ≤ k_)) (fun _ => False) rfl rfl ?aP (fun _ hk => hk.elim) ?aF ?aO ?aB ?aS ?aL ?_; (case aP => exact rfl); (case aB => exact bw_); (case aF => exact (fun k_ hk => (Nat.le_trans (bz_ bw_) hk))); (case aO => exact (by (with_reducible repeat (first | apply Kd.R_alloc | apply Kd.R_drewN | apply Kd.R_drew)); exact HO_304001.out)); (case aS => exact (bz_ bw_)); (case aL => have := LMc19.out; omega); intro v179 w23 ho hb hg hat; rw [← Ny178.out] at ho; have n0_ := A_ (blk_grown (g := gb302) (o := .cells #[.bool false, .slice none 0 0] 38 (0, 0)) bk_ hg (Kd.R_ne HO_304001.out BK302.out (by decide))); have n1_ := A_ (blk_grown (g := gb303) (o := .cells #[.bool true, u304001] 38 (0, 0)) bk_ hg (Kd.R_ne HO_304001.out BK303.out (by decide))); have n2_ := A_ (hb); have n3_ := A_ (ho); clear BK302; clear BK303; clear HB; clear HO_304001; have BK302 := n0_; have BK303 := n1_; have HB := n2_; have HO180 := n3_; clear n0_ n1_ n2_ n3_; clear ho hb hg hat; obtain ⟨Ao24, co24, eo24⟩ := Kd.R_slice HO180.out; subst eo24; have hcz25_0 : w23.cell? ⟨gb303, 0, none⟩ = some (.bool true) := (bc_ BK303.out 0).trans rfl; have hcz25_1 : w23.cell? ⟨gb303, 1, none⟩ = some (u304001) := (bc_ BK303.out 1).trans rfl; have hfz25_0 := bf_ BK303.out 0; have hfz25_1 := bf_ BK303.out 1) | ((with_reducible refine gate_store (t := 36) (p := 52) rfl ?_); (first | (refine store_event (t := 36) (p := 52) (v := ?vo_w26) (w1 := (w23.setCell ⟨gb303, 1, none⟩ (.slice Ao24 y178.length co24))) ?hg ?ho ?hn ?hr ?_; (case ho => rfl); (case hg => rfl); (case hn => rfl); (case hr => first | (go_simp; done) | (go_simp; rfl)); intro w26 hw) | (refine store_event (t := 36) (p := 52) (v := ?vo_w26) (w1 := ((w23.drewN ?ndq_w26).setCell ⟨gb303, 1, none⟩ (.slice Ao24 y178.length co24))) ?hg ?ho ?hn ?hr ?_; (case ho => rfl); (case hg => rfl); (case hn => rfl); (case hr => first | (go_simp; done) | (go_simp; rfl)); intro w26 hw; rw [sd_eq] at hw)); have n0_ : Aside0 (Kd.R (Kd.int .i64) 3 w26 w.heap.size (fun k_ => (w.heap.size ≤ k_)) (.slice Ao24 y178.length co24) y178) := ⟨(by rw [hw]; first | (with_reducible exact (by (with_reducible repeat (first | apply Kd.R_alloc | apply Kd.R_drewN | apply Kd.R_drew)); exact Kd.R_mono (Kd.R_far (p := ⟨gb303, 1, none⟩) (Kd.R_types HO180.out BK303.out (by decide)) (fun _ hk => hk.2) (.slice Ao24 y178.length co24)) (fun _ hk => hk.1))) | (exact grown_dn ((by (with_reducible repeat (first | apply Kd.R_alloc | apply Kd.R_drewN | apply Kd.R_drew)); exact Kd.R_mono (Kd.R_far (p := ⟨gb303, 1, none⟩) (Kd.R_types HO180.out BK303.out (by decide)) (fun _ hk => hk.2) (.slice Ao24 y178.length co24)) (fun _ hk => hk.1))) _) | (exact pn_ ((by (with_reducible repeat (first | apply Kd.R_alloc | apply Kd.R_drewN | apply Kd.R_drew)); exact Kd.R_mono (Kd.R_far (p := ⟨gb303, 1, none⟩) (Kd.R_types HO180.out BK303.out (by decide)) (fun _ hk => hk.2) (.slice Ao24 y178.length co24)) (fun _ hk => hk.1))) _) | (exact Kd.R_drewN ((by (with_reducible repeat (first | apply Kd.R_alloc | apply Kd.R_drewN | apply Kd.R_drew)); exact Kd.R_mono (Kd.R_far (p := ⟨gb303, 1, none⟩) (Kd.R_types HO180.out BK303.out (by decide)) (fun _ hk => hk.2) (.slice Ao24 y178.length co24)) (fun _ hk => hk.1))) _) | exact (by (with_reducible repeat (first | apply Kd.R_alloc | apply Kd.R_drewN | apply Kd.R_drew)); exact Kd.R_mono (Kd.R_far (p := ⟨gb303, 1, none⟩) (Kd.R_types HO180.out BK303.out (by decide)) (fun _ hk => hk.2) (.slice Ao24 y178.length co24)) (fun _ hk => hk.1)))⟩; have n1_ : Aside0 (w26.heap[gb302]? = some (.cells #[.bool false, .slice none 0 0] 38 (0, 0))) := ⟨(by rw [hw]; first | (with_reducible exact bk_) | (exact grown_dn (bk_) _) | (exact pn_ (bk_) _) | (exact Kd.R_drewN (bk_) _) | exact bk_)⟩; have n2_ : Aside0 (w26.heap[gb303]? = some (.cells #[.bool true, .slice Ao24 y178.length co24] 38 (0, 0))) := ⟨(by rw [hw]; first | (with_reducible exact (by (with_reducible repeat (first | refine bn_ ?_ _ | refine bd_ ?_ | refine ba_ ?_ _)); refine bp_ (cs := #[.bool true, u304001]) ?_ 1 _ rfl; (with_reducible repeat (first | refine bn_ ?_ _ | refine bd_ ?_ | refine ba_ ?_ _)); exact BK303.out)) | (exact grown_dn ((by (with_reducible repeat (first | refine bn_ ?_ _ | refine bd_ ?_ | refine ba_ ?_ _)); refine bp_ (cs := #[.bool true, u304001]) ?_ 1 _ rfl; (with_reducible repeat (first | refine bn_ ?_ _ | refine bd_ ?_ | refine ba_ ?_ _)); exact BK303.out)) _) | (exact pn_ ((by (with_reducible repeat (first | refine bn_ ?_ _ | refine bd_ ?_ | refine ba_ ?_ _)); refine bp_ (cs := #[.bool true, u304001]) ?_ 1 _ rfl; (with_reducible repeat (first | refine bn_ ?_ _ | refine bd_ ?_ | refine ba_ ?_ _)); exact BK303.out)) _) | (exact Kd.R_drewN ((by (with_reducible repeat (first | refine bn_ ?_ _ | refine bd_ ?_ | refine ba_ ?_ _)); refine bp_ (cs := #[.bool true, u304001]) ?_ 1 _ rfl; (with_reducible repeat (first | refine bn_ ?_ _ | refine bd_ ?_ | refine ba_ ?_ _)); exact BK303.out)) _) | exact (by (with_reducible repeat (first | refine bn_ ?_ _ | refine bd_ ?_ | refine ba_ ?_ _)); refine bp_ (cs := #[.bool true, u304001]) ?_ 1 _ rfl; (with_reducible repeat (first | refine bn_ ?_ _ | refine bd_ ?_ | refine ba_ ?_ _)); exact BK303.out))⟩; have n3_ : Aside0 (Below w.heap.size w w26) := ⟨(by rw [hw]; first | (with_reducible exact bw_) | (exact grown_dn (bw_) _) | (exact pn_ (bw_) _) | (exact Kd.R_drewN (bw_) _) | exact bw_)⟩; clear hw; clear HO180; clear BK302; clear BK303; clear HB; have HO180 := n0_; have BK302 := n1_; have BK303 := n2_; have HB := n3_; clear n0_ n1_ n2_ n3_; have hcz27_0 : w26.cell? ⟨gb303, 0, none⟩ = some (.bool true) := (bc_ BK303.out 0).trans rfl; have hcz27_1 : w26.cell? ⟨gb303, 1, none⟩ = some (.slice Ao24 y178.length co24) := (bc_ BK303.out 1).trans rfl; have hfz27_0 := bf_ BK303.out 0; have hfz27_1 := bf_ BK303.out 1) | ((with_reducible refine gate_callee (f := 45) rfl ?_); refine goesL_ (some 54) rfl rfl Try.func45 (by kernel_rfl) rfl #[.agg #[.bool true, .slice Ao24 y178.length co24]] rfl (by (try simp only [List.map_toArray, List.map_cons, List.map_nil]); first | done | rfl | (simp only [List.length_drop, List.length_take]; rfl)) ?_; (with_reducible refine (clevisref01_clean.calls k1 true (fun k_ => some k_ = (.slice Ao24 y178.length co24 : Value).ownBlock) _ _ y178 t181 t182 _ ?side1 A20.out).mono ?_); (case side1 => exact Kd.R_V (Kd.R_tight rfl (Kd.R_types (Kd.R_types (HO180.out) BK302.out (by decide)) BK303.out (by decide)))); rintro e w28 ⟨v183, rfl, ho0, hb⟩; refine ⟨_, rfl, ?_⟩; have n0_ := A_ (Kd.R_below (by (with_reducible repeat (first | apply Kd.R_alloc | apply Kd.R_drewN | apply Kd.R_drew)); exact HO180.out) hb); have n1_ := A_ (Kd.V_lower (vm_ (ok' := fun k_ => (w.heap.size ≤ k_) ∧ k_ ≠ gb302 ∧ k_ ≠ gb303) ho0 (fun k_ hk_ => ⟨Or.elim hk_ (fun hs_ => ((Kd.R_types (Kd.R_types (HO180.out) BK302.out (by decide)) BK303.out (by decide)).1 k_ hs_.symm).1.1) (fun hn_ => (Nat.le_trans (bz_ bw_) hn_)), Or.elim hk_ (fun hs_ => ((Kd.R_types (Kd.R_types (HO180.out) BK302.out (by decide)) BK303.out (by decide)).1 k_ hs_.symm).1.2) (fun hn_ => (Kd.freshB (g := gb302) (o := .cells #[.bool false, .slice none 0 0] 38 (0, 0)) bk_ k_ hn_)), Or.elim hk_ (fun hs_ => ((Kd.R_types (Kd.R_types (HO180.out) BK302.out (by decide)) BK303.out (by decide)).1 k_ hs_.symm).2) (fun hn_ => (Kd.freshB (g := gb303) (o := .cells #[.bool true, .slice Ao24 y178.length co24] 38 (0, 0)) bk_ k_ hn_))⟩)) (bz_ bw_)); have n2_ := A_ (kb_ BK302 hb); have n3_ := A_ (kb_ BK303 hb); have n4_ := A_ (bs_ bw_ hb); clear HO180; clear BK302; clear BK303; clear HB; have HO180 := n0_; have HO184 := n1_; have BK302 := n2_; have BK303 := n3_; have HB := n4_; clear n0_ n1_ n2_ n3_ n4_; (try clear hb); (try clear hb2); (try clear hk); (try clear hi); (try clear ho0); have hcz29_0 : w28.cell? ⟨gb302, 0, none⟩ = some (.bool false) := (bc_ BK302.out 0).trans rfl; have hcz29_1 : w28.cell? ⟨gb302, 1, none⟩ = some (.slice none 0 0) := (bc_ BK302.out 1).trans rfl; have hfz29_0 := bf_ BK302.out 0; have hfz29_1 := bf_ BK302.out 1; obtain ⟨Ao30, co30, eo30⟩ := Kd.V_slice HO184.out; subst eo30))
         refine bodyPost_ret (results_cell_row rfl _ _ gb302 38 #[.bool t181, .slice Ao30 t182.length co30] (0, 0) _ rfl (by (with_reducible repeat (first | refine bn_ ?_ _ | refine bd_ ?_ | refine ba_ ?_ _)); refine bp_ (cs := #[.bool t181, .slice none 0 0]) ?_ 1 _ rfl; (with_reducible repeat (first | refine bn_ ?_ _ | refine bd_ ?_ | refine ba_ ?_ _)); refine bp_ (cs := #[.bool false, .slice none 0 0]) ?_ 0 _ rfl; (with_reducible repeat (first | refine bn_ ?_ _ | refine bd_ ?_ | refine ba_ ?_ _)); exact BK302.out) Try.underlying38 rfl (by kernel_rfl)) rfl ?_
         exact ⟨_, by first | rfl | (simp [errW_none, errW_some] <;> rfl) | (simp only [← hji2]; first | rfl | (simp [errW_none, errW_some] <;> rfl)) | (simp [*, errW_none, errW_some] <;> rfl), by (with_reducible repeat (first | apply va_ | apply vn_ | apply vd_)); exact vm_ (Kd.V_far (p := ⟨gb302, 1, none⟩) (Kd.V_far (p := ⟨gb302, 0, none⟩) (vm_ HO184.out (fun k_ hk => (⟨hk, hk.2.1⟩ : _ ∧ k_ ≠ gb302))) (fun _ hk => hk.2) (.bool t181)) (fun _ hk => hk.2) (.slice Ao30 t182.length co30)) (fun _ hk => hk.1.1), bw_⟩
        ·
         rw [if_neg c19] at H
         exact absurd H (by simp)
       ·
        rw [if_neg c18] at H
        have c18b0 : decide (0 < x4_1) = false := decide_eq_false c18
        clear c18
        replace H := os_ H
        obtain ⟨⟨t185, t186⟩, A310, H⟩ := H
        replace H : (some (t185, t186)) = some (r1, r2) := H
        have A31 := A_ A310
        clear A310
        simp only [Option.some.injEq, Prod.mk.injEq] at H
        obtain ⟨rfl, rfl⟩ := H
        have hnb32 := NB303_302.out
        have hnc32 := NB302_303.out
        have hcz33_0 : wr.cell? ⟨gb303, 0, none⟩ = some (.bool true) := (bc_ BK303.out 0).trans rfl
        have hcz33_1 : wr.cell? ⟨gb303, 1, none⟩ = some (u304001) := (bc_ BK303.out 1).trans rfl
        have hfz33_0 := bf_ BK303.out 0
        have hfz33_1 := bf_ BK303.out 1
        obtain ⟨Ao34, co34, eo34⟩ := Kd.R_slice HO_304001.out
        subst eo34
        go_wp2_with (first | ((with_reducible refine gate_callee (f := 45) rfl ?_); refine goesL_ (some 54) rfl rfl Try.func45 (by kernel_rfl) rfl #[.agg #[.bool true, .slice Ao34 x304001_1.length co34]] rfl (by (try simp only [List.map_toArray, List.map_cons, List.map_nil]); first | done | rfl | (simp only [List.length_drop, List.length_take]; rfl)) ?_; (with_reducible refine (clevisref01_clean.calls k1 true (fun k_ => some k_ = (.slice Ao34 x304001_1.length co34 : Value).ownBlock) _ _ x304001_1 t185 t186 _ ?side1 A31.out).mono ?_); (case side1 => exact Kd.R_V (Kd.R_tight rfl (Kd.R_types (Kd.R_types (HO_304001.out) BK302.out (by decide)) BK303.out (by decide)))); rintro e w35 ⟨v187, rfl, ho0, hb⟩; refine ⟨_, rfl, ?_⟩; have n0_ := A_ (Kd.R_below (by (with_reducible repeat (first | apply Kd.R_alloc | apply Kd.R_drewN | apply Kd.R_drew)); exact HO_304001.out) hb); have n1_ := A_ (Kd.V_lower (vm_ (ok' := fun k_ => (w.heap.size ≤ k_) ∧ k_ ≠ gb302 ∧ k_ ≠ gb303) ho0 (fun k_ hk_ => ⟨Or.elim hk_ (fun hs_ => ((Kd.R_types (Kd.R_types (HO_304001.out) BK302.out (by decide)) BK303.out (by decide)).1 k_ hs_.symm).1.1) (fun hn_ => (Nat.le_trans (bz_ bw_) hn_)), Or.elim hk_ (fun hs_ => ((Kd.R_types (Kd.R_types (HO_304001.out) BK302.out (by decide)) BK303.out (by decide)).1 k_ hs_.symm).1.2) (fun hn_ => (Kd.freshB (g := gb302) (o := .cells #[.bool false, .slice none 0 0] 38 (0, 0)) bk_ k_ hn_)), Or.elim hk_ (fun hs_ => ((Kd.R_types (Kd.R_types (HO_304001.out) BK302.out (by decide)) BK303.out (by decide)).1 k_ hs_.symm).2) (fun hn_ => (Kd.freshB (g := gb303) (o := .cells #[.bool true, .slice Ao34 x304001_1.length co34] 38 (0, 0)) bk_ k_ hn_))⟩)) (bz_ bw_)); have n2_ := A_ (kb_ BK302 hb); have n3_ := A_ (kb_ BK303 hb); have n4_ := A_ (bs_ bw_ hb); clear HO_304001; clear BK302; clear BK303; clear HB; have HO_304001 := n0_; have HO188 := n1_; have BK302 := n2_; have BK303 := n3_; have HB := n4_; clear n0_ n1_ n2_ n3_ n4_; (try clear hb); (try clear hb2); (try clear hk); (try clear hi); (try clear ho0); have hcz36_0 : w35.cell? ⟨gb302, 0, none⟩ = some (.bool false) := (bc_ BK302.out 0).trans rfl; have hcz36_1 : w35.cell? ⟨gb302, 1, none⟩ = some (.slice none 0 0) := (bc_ BK302.out 1).trans rfl; have hfz36_0 := bf_ BK302.out 0; have hfz36_1 := bf_ BK302.out 1; obtain ⟨Ao37, co37, eo37⟩ := Kd.V_slice HO188.out; subst eo37))
        refine bodyPost_ret (results_cell_row rfl _ _ gb302 38 #[.bool t185, .slice Ao37 t186.length co37] (0, 0) _ rfl (by (with_reducible repeat (first | refine bn_ ?_ _ | refine bd_ ?_ | refine ba_ ?_ _)); refine bp_ (cs := #[.bool t185, .slice none 0 0]) ?_ 1 _ rfl; (with_reducible repeat (first | refine bn_ ?_ _ | refine bd_ ?_ | refine ba_ ?_ _)); refine bp_ (cs := #[.bool false, .slice none 0 0]) ?_ 0 _ rfl; (with_reducible repeat (first | refine bn_ ?_ _ | refine bd_ ?_ | refine ba_ ?_ _)); exact BK302.out) Try.underlying38 rfl (by kernel_rfl)) rfl ?_
        exact ⟨_, by first | rfl | (simp [errW_none, errW_some] <;> rfl) | (simp only [← hji2]; first | rfl | (simp [errW_none, errW_some] <;> rfl)) | (simp [*, errW_none, errW_some] <;> rfl), by (with_reducible repeat (first | apply va_ | apply vn_ | apply vd_)); exact vm_ (Kd.V_far (p := ⟨gb302, 1, none⟩) (Kd.V_far (p := ⟨gb302, 0, none⟩) (vm_ HO188.out (fun k_ hk => (⟨hk, hk.2.1⟩ : _ ∧ k_ ≠ gb302))) (fun _ hk => hk.2) (.bool t185)) (fun _ hk => hk.2) (.slice Ao37 t186.length co37)) (fun _ hk => hk.1.1), bw_⟩
   ·
    rw [if_neg c5] at H
    have c5b0 : decide (32768 ≤ (rd l0 (ji2))) = false := decide_eq_false c5
    clear c5
    have H' := A_ H
    clear H
    go_enter Try.func38, Try.ntmps38
    go_wp2_with (first | ((with_reducible refine gate_dst (N := 2) rfl ?_); refine box_event ?hg (N := 2) ?hd (cs := #[.bool false, .slice none 0 0]) (t := 38) ?hr ?_; (case hd => rfl); (case hg => rfl); (case hr => first | (go_simp; done) | (go_simp; rfl)); intro gb302 hg w38 hbox hb; have n0_ := A_ (bs_ bw_ hb); have n1_ := A_ (hbox); have n2_ := A_ ((by rw [hg]; exact (bz_ bw_) : w.heap.size ≤ gb302)); have n3_ := A_ ((by rw [hg]; exact (bz_ bw_) : w.heap.size ≤ gb302)); clear HB; have HB := n0_; have BK302 := n1_; have GW302 := n2_; have GE302 := n3_; clear n0_ n1_ n2_ n3_; clear hb hbox hg; have p170 : 0 ≤ ((ji2) : Int) := od_ (by first | (with_reducible assumption) | assumption); have q170 : (ji2) < (l0.length : Int) := od_ (by first | (with_reducible assumption) | assumption); obtain ⟨ad170, e170, hx170_0⟩ := Kd.at_int HR0.out (ji2) p170 q170; cases e170; replace hx170_0 := (HB.out.cell (World.block_lt_of_cell? w _ hx170_0)).trans hx170_0; replace p170 := eq_true p170; replace q170 := eq_true q170) | ((with_reducible refine gate_dst (N := 3) rfl ?_); refine box_event ?hg (N := 3) ?hd (cs := #[.bool false, .slice none 0 0]) (t := 38) ?hr ?_; (case hd => rfl); (case hg => rfl); (case hr => first | (go_simp; done) | (go_simp; rfl)); intro gb303 hg w39 hbox hb; have n0_ := A_ (kb_ BK302 hb); have n1_ := A_ (bs_ bw_ hb); have n2_ := A_ (hbox); have n3_ := A_ ((by rw [hg]; exact (bz_ bw_) : w.heap.size ≤ gb303)); have n4_ := A_ ((by rw [hg]; exact (bz_ bw_) : w.heap.size ≤ gb303)); have n5_ := A_ ((by rw [hg]; exact nl_ (lt_ BK302) : gb302 ≠ gb303)); have n6_ := A_ ((by rw [hg]; exact ng_ (lt_ BK302) : gb303 ≠ gb302)); clear BK302; clear HB; have BK302 := n0_; have HB := n1_; have BK303 := n2_; have GW303 := n3_; have GE303 := n4_; have NB302_303 := n5_; have NB303_302 := n6_; clear n0_ n1_ n2_ n3_ n4_ n5_ n6_; clear hb hbox hg; have hnb40 := NB303_302.out; have hnc40 := NB302_303.out; have hcz41_0 : w39.cell? ⟨gb303, 0, none⟩ = some (.bool false) := (bc_ BK303.out 0).trans rfl; have hcz41_1 : w39.cell? ⟨gb303, 1, none⟩ = some (.slice none 0 0) := (bc_ BK303.out 1).trans rfl; have hfz41_0 := bf_ BK303.out 0; have hfz41_1 := bf_ BK303.out 1))
    (try simp only [Act.put, sA_, sZ_, sS_])
    go_loopg [4, 5] k (fun kq v4 v5 w' => ∃ (x4_1 : Int) (x5_1 : Int) (x304001_1 : List Int) (u304001 : Value), v4 = .int .i64 x4_1 ∧ v5 = .int .i64 x5_1 ∧ Aside0 (clevisref01_Bits.l0 kq l0 x4_1 x5_1 false x304001_1 = some (r1, r2)) ∧ Aside0 (kq ≤ k) ∧ Aside0 (Kd.R (Kd.int .i64) 3 w' w.heap.size (fun k_ => (w.heap.size ≤ k_)) u304001 x304001_1) ∧ Aside0 (w'.heap[gb302]? = some (.cells #[.bool false, (.slice none 0 0)] 38 (0, 0))) ∧ Aside0 (w'.heap[gb303]? = some (.cells #[.bool false, u304001] 38 (0, 0))) ∧ Aside0 (Below w.heap.size w w'))
    case atStart => exact ⟨(1), (0), (([] : List Int)), (.slice none 0 0), (by first | rfl | (simp; done) | (simp [*]; done)), (by first | rfl | (simp; done) | (simp [*]; done)), H', ⟨Nat.le_refl _⟩, ⟨by first | exact Kd.R_nil _ _ _ _ _ | exact Kd.N_nil _ _ _ _ _ | exact Kd.V_nil _ _ _ _ _ | exact Kd.Q_nil _ _ _ _ _ | exact Kd.S_nil _ _ _ _ _⟩, ⟨bk_⟩, ⟨by (with_reducible repeat (first | refine bn_ ?_ _ | refine bd_ ?_ | refine ba_ ?_ _)); refine bp_ (cs := #[.bool false, .slice none 0 0]) ?_ 1 _ rfl; (with_reducible repeat (first | refine bn_ ?_ _ | refine bd_ ?_ | refine ba_ ?_ _)); refine bp_ (cs := #[.bool false, .slice none 0 0]) ?_ 0 _ rfl; (with_reducible repeat (first | refine bn_ ?_ _ | refine bd_ ?_ | refine ba_ ?_ _)); exact BK303.out⟩, ⟨bw_⟩⟩
    case round =>
     clear H'
     try clear c1
     try clear p1
     try clear q1
     try clear hx1
     try clear c2
     try clear p2
     try clear c3
     try clear c3b0
     try clear c4
     try clear c4b0
     try clear c5
     try clear c5b0
     try clear p6
     try clear c8
     try clear c10
     try clear c10b0
     try clear c11
     try clear c11b0
     try clear c12
     try clear c13
     try clear p17
     try clear q17
     try clear hx17
     try clear c18
     try clear c18b0
     try clear c19
     try clear c21
     try clear c32
     try clear c38
     try clear c40
     try clear hcz14_0
     try clear hcz14_1
     try clear hcz17_0
     try clear hcz17_1
     try clear hcz22_0
     try clear hcz22_1
     try clear hcz25_0
     try clear hcz25_1
     try clear hcz27_0
     try clear hcz27_1
     try clear hcz29_0
     try clear hcz29_1
     try clear hcz33_0
     try clear hcz33_1
     try clear hcz36_0
     try clear hcz36_1
     try clear hcz41_0
     try clear hcz41_1
     try clear hcz9_0
     try clear hcz9_1
     try clear hfz14_0
     try clear hfz14_1
     try clear hfz17_0
     try clear hfz17_1
     try clear hfz22_0
     try clear hfz22_1
     try clear hfz25_0
     try clear hfz25_1
     try clear hfz27_0
     try clear hfz27_1
     try clear hfz29_0
     try clear hfz29_1
     try clear hfz33_0
     try clear hfz33_1
     try clear hfz36_0
     try clear hfz36_1
     try clear hfz41_0
     try clear hfz41_1
     try clear hfz9_0
     try clear hfz9_1
     try clear hx170_0
     try clear hx171_0
     try clear p1
     try clear p170
     try clear p171
     try clear p2
     try clear p6
     try clear q1
     try clear q170
     try clear q171
     obtain ⟨x4_1, x5_1, x304001_1, u304001, rfl, rfl, HA, HK1, HO_304001, BK302, BK303, HB⟩ := hrel
     cases gk with
     | zero => exact absurd HA.out (by simp [clevisref01_Bits.l0])
     | succ k1 =>
      have H := HA.out
      clear HA
      simp only [clevisref01_Bits.l0] at H
      by_cases c42 : x5_1 < (l0.length : Int)
      ·
       rw [if_pos c42] at H
       have c42b0 : decide (x5_1 < (l0.length : Int)) = true := decide_eq_true c42
       clear c42
       by_cases c43 : 0 ≤ x5_1
       ·
        rw [if_pos c43] at H
        have c43b0 : decide (0 ≤ x5_1) = true := decide_eq_true c43
        clear c43
        replace H : (if x304001_1.length < 17592186044416 then (clevisref01_Bits.l0 k1 l0 x4_1 (wrap64 (x5_1 + 1)) false (x304001_1 ++ [rd l0 x5_1])) else (none)) = some (r1, r2) := by first | exact H | (rw [if_pos rfl] at H; exact H) | (rw [if_neg (by decide)] at H; exact H) | simpa using H
        by_cases c44 : x304001_1.length < 17592186044416
        ·
         rw [if_pos c44] at H
         have LMc44 := A_ c44
         clear c44
         obtain ⟨y175, hy175⟩ : ∃ y_ : List Int, y_ = (x304001_1 ++ [rd l0 x5_1]) := ⟨_, rfl⟩
         replace H : (clevisref01_Bits.l0 k1 l0 x4_1 (wrap64 (x5_1 + 1)) false y175) = some (r1, r2) := by first | (rw [hy175]; with_reducible exact H) | (have H2_ := (Option.bind_some _ _).symm.trans H; rw [hy175]; with_reducible exact H2_) | (have H2_ := (Option.bind_some _ _).symm.trans H; with_reducible exact H2_) | with_reducible exact H | (rw [hy175]; exact H) | exact H
         have Ny175 := A_ hy175
         clear hy175
         have H' := A_ H
         clear H
         have p171 : 0 ≤ (x5_1 : Int) := od_ (by first | (with_reducible assumption) | assumption)
         have q171 : x5_1 < (l0.length : Int) := od_ (by first | (with_reducible assumption) | assumption)
         obtain ⟨ad171, e171, hx171_0⟩ := Kd.at_int HR0.out x5_1 p171 q171
         obtain rfl : ad170 = ad171 := (by injection e171)
         replace hx171_0 := (HB.out.cell (World.block_lt_of_cell? w _ hx171_0)).trans hx171_0
         replace p171 := eq_true p171
         replace q171 := eq_true q171
         have hnb45 := NB303_302.out
         have hnc45 := NB302_303.out
         have hcz46_0 : wr.cell? ⟨gb303, 0, none⟩ = some (.bool false) := (bc_ BK303.out 0).trans rfl
         have hcz46_1 : wr.cell? ⟨gb303, 1, none⟩ = some (u304001) := (bc_ BK303.out 1).trans rfl
         have hfz46_0 := bf_ BK303.out 0
         have hfz46_1 := bf_ BK303.out 1
         go_wp2_with (first | ((with_reducible refine gate_builtin (b := .append) (xs := #[.tmp 36, .tmp 38]) rfl ?_); at_builtin; refine Kd.R_append (Kd.int .i64) (w0 := w) w.heap.size rfl (.tmp 36) (.tmp 38) 36 3 (.int .i64 0) 8 rfl Try.underlying36 info3 rfl (by decide) (by omega) u304001 x304001_1 (rd l0 x5_1) [.int .i64 (rd l0 x5_1)] (fun k_ => (w.heap.size ≤ k_)) (fun _ => False) rfl rfl ?aP (fun _ hk => hk.elim) ?aF ?aO ?aB ?aS ?aL ?_; (case aP => exact rfl); (case aB => exact bw_); (case aF => exact (fun k_ hk => (Nat.le_trans (bz_ bw_) hk))); (case aO => exact (by (with_reducible repeat (first | apply Kd.R_alloc | apply Kd.R_drewN | apply Kd.R_drew)); exact HO_304001.out)); (case aS => exact (bz_ bw_)); (case aL => have := LMc44.out; omega); intro v176 w47 ho hb hg hat; rw [← Ny175.out] at ho; have n0_ := A_ (blk_grown (g := gb302) (o := .cells #[.bool false, .slice none 0 0] 38 (0, 0)) bk_ hg (Kd.R_ne HO_304001.out BK302.out (by decide))); have n1_ := A_ (blk_grown (g := gb303) (o := .cells #[.bool false, u304001] 38 (0, 0)) bk_ hg (Kd.R_ne HO_304001.out BK303.out (by decide))); have n2_ := A_ (hb); have n3_ := A_ (ho); clear BK302; clear BK303; clear HB; clear HO_304001; have BK302 := n0_; have BK303 := n1_; have HB := n2_; have HO177 := n3_; clear n0_ n1_ n2_ n3_; clear ho hb hg hat; obtain ⟨Ao48, co48, eo48⟩ := Kd.R_slice HO177.out; subst eo48; have hcz49_0 : w47.cell? ⟨gb303, 0, none⟩ = some (.bool false) := (bc_ BK303.out 0).trans rfl; have hcz49_1 : w47.cell? ⟨gb303, 1, none⟩ = some (u304001) := (bc_ BK303.out 1).trans rfl; have hfz49_0 := bf_ BK303.out 0; have hfz49_1 := bf_ BK303.out 1))
         go_roundg k1
         case measure => have := HK1.out; omega
         case rel => exact ⟨(x4_1), (wrap64 (x5_1 + 1)), (y175), (.slice Ao48 y175.length co48), (by first | rfl | (simp; done) | (simp [*]; done)), (by first | rfl | (simp; done) | (simp [*]; done)), H', ⟨by have := HK1.out; omega⟩, ⟨by (with_reducible repeat (first | apply Kd.R_alloc | apply Kd.R_drewN | apply Kd.R_drew)); exact Kd.R_mono (Kd.R_far (p := ⟨gb303, 1, none⟩) (Kd.R_types HO177.out BK303.out (by decide)) (fun _ hk => hk.2) (.slice Ao48 y175.length co48)) (fun _ hk => hk.1)⟩, ⟨bk_⟩, ⟨by (with_reducible repeat (first | refine bn_ ?_ _ | refine bd_ ?_ | refine ba_ ?_ _)); refine bp_ (cs := #[.bool false, u304001]) ?_ 1 _ rfl; (with_reducible repeat (first | refine bn_ ?_ _ | refine bd_ ?_ | refine ba_ ?_ _)); exact BK303.out⟩, ⟨bw_⟩⟩
        ·
         rw [if_neg c44] at H
         exact absurd H (by simp)
       ·
        rw [if_neg c43] at H
        exact absurd H (by simp)
      ·
       rw [if_neg c42] at H
       have c42b0 : decide (x5_1 < (l0.length : Int)) = false := decide_eq_false c42
       clear c42
       replace H : ((clevisref01_clean.f k1 false x304001_1).bind fun bt189 => (some (bt189.1, bt189.2))) = some (r1, r2) := by first | exact H | (rw [if_pos rfl] at H; exact H) | (rw [if_neg (by decide)] at H; exact H) | simpa using H
       replace H := os_ H
       obtain ⟨⟨t189, t190⟩, A500, H⟩ := H
       replace H : (some (t189, t190)) = some (r1, r2) := H
       have A50 := A_ A500
       clear A500
       simp only [Option.some.injEq, Prod.mk.injEq] at H
       obtain ⟨rfl, rfl⟩ := H
       have hnb51 := NB303_302.out
       have hnc51 := NB302_303.out
       have hcz52_0 : wr.cell? ⟨gb303, 0, none⟩ = some (.bool false) := (bc_ BK303.out 0).trans rfl
       have hcz52_1 : wr.cell? ⟨gb303, 1, none⟩ = some (u304001) := (bc_ BK303.out 1).trans rfl
       have hfz52_0 := bf_ BK303.out 0
       have hfz52_1 := bf_ BK303.out 1
       obtain ⟨Ao53, co53, eo53⟩ := Kd.R_slice HO_304001.out
       subst eo53
       go_wp2_with (first | ((with_reducible refine gate_callee (f := 45) rfl ?_); refine goesL_ (some 54) rfl rfl Try.func45 (by kernel_rfl) rfl #[.agg #[.bool false, .slice Ao53 x304001_1.length co53]] rfl (by (try simp only [List.map_toArray, List.map_cons, List.map_nil]); first | done | rfl | (simp only [List.length_drop, List.length_take]; rfl)) ?_; (with_reducible refine (clevisref01_clean.calls k1 false (fun k_ => some k_ = (.slice Ao53 x304001_1.length co53 : Value).ownBlock) _ _ x304001_1 t189 t190 _ ?side1 A50.out).mono ?_); (case side1 => exact Kd.R_V (Kd.R_tight rfl (Kd.R_types (Kd.R_types (HO_304001.out) BK302.out (by decide)) BK303.out (by decide)))); rintro e w54 ⟨v191, rfl, ho0, hb⟩; refine ⟨_, rfl, ?_⟩; have n0_ := A_ (Kd.R_below (by (with_reducible repeat (first | apply Kd.R_alloc | apply Kd.R_drewN | apply Kd.R_drew)); exact HO_304001.out) hb); have n1_ := A_ (Kd.V_lower (vm_ (ok' := fun k_ => (w.heap.size ≤ k_) ∧ k_ ≠ gb302 ∧ k_ ≠ gb303) ho0 (fun k_ hk_ => ⟨Or.elim hk_ (fun hs_ => ((Kd.R_types (Kd.R_types (HO_304001.out) BK302.out (by decide)) BK303.out (by decide)).1 k_ hs_.symm).1.1) (fun hn_ => (Nat.le_trans (bz_ bw_) hn_)), Or.elim hk_ (fun hs_ => ((Kd.R_types (Kd.R_types (HO_304001.out) BK302.out (by decide)) BK303.out (by decide)).1 k_ hs_.symm).1.2) (fun hn_ => (Kd.freshB (g := gb302) (o := .cells #[.bool false, .slice none 0 0] 38 (0, 0)) bk_ k_ hn_)), Or.elim hk_ (fun hs_ => ((Kd.R_types (Kd.R_types (HO_304001.out) BK302.out (by decide)) BK303.out (by decide)).1 k_ hs_.symm).2) (fun hn_ => (Kd.freshB (g := gb303) (o := .cells #[.bool false, .slice Ao53 x304001_1.length co53] 38 (0, 0)) bk_ k_ hn_))⟩)) (bz_ bw_)); have n2_ := A_ (kb_ BK302 hb); have n3_ := A_ (kb_ BK303 hb); have n4_ := A_ (bs_ bw_ hb); clear HO_304001; clear BK302; clear BK303; clear HB; have HO_304001 := n0_; have HO192 := n1_; have BK302 := n2_; have BK303 := n3_; have HB := n4_; clear n0_ n1_ n2_ n3_ n4_; (try clear hb); (try clear hb2); (try clear hk); (try clear hi); (try clear ho0); have hcz55_0 : w54.cell? ⟨gb302, 0, none⟩ = some (.bool false) := (bc_ BK302.out 0).trans rfl; have hcz55_1 : w54.cell? ⟨gb302, 1, none⟩ = some (.slice none 0 0) := (bc_ BK302.out 1).trans rfl; have hfz55_0 := bf_ BK302.out 0; have hfz55_1 := bf_ BK302.out 1; obtain ⟨Ao56, co56, eo56⟩ := Kd.V_slice HO192.out; subst eo56))
       refine bodyPost_ret (results_cell_row rfl _ _ gb302 38 #[.bool t189, .slice Ao56 t190.length co56] (0, 0) _ rfl (by (with_reducible repeat (first | refine bn_ ?_ _ | refine bd_ ?_ | refine ba_ ?_ _)); refine bp_ (cs := #[.bool t189, .slice none 0 0]) ?_ 1 _ rfl; (with_reducible repeat (first | refine bn_ ?_ _ | refine bd_ ?_ | refine ba_ ?_ _)); refine bp_ (cs := #[.bool false, .slice none 0 0]) ?_ 0 _ rfl; (with_reducible repeat (first | refine bn_ ?_ _ | refine bd_ ?_ | refine ba_ ?_ _)); exact BK302.out) Try.underlying38 rfl (by kernel_rfl)) rfl ?_
       exact ⟨_, by first | rfl | (simp [errW_none, errW_some] <;> rfl) | (simp only [← hji2]; first | rfl | (simp [errW_none, errW_some] <;> rfl)) | (simp [*, errW_none, errW_some] <;> rfl), by (with_reducible repeat (first | apply va_ | apply vn_ | apply vd_)); exact vm_ (Kd.V_far (p := ⟨gb302, 1, none⟩) (Kd.V_far (p := ⟨gb302, 0, none⟩) (vm_ HO192.out (fun k_ hk => (⟨hk, hk.2.1⟩ : _ ∧ k_ ≠ gb302))) (fun _ hk => hk.2) (.bool t189)) (fun _ hk => hk.2) (.slice Ao56 t190.length co56)) (fun _ hk => hk.1.1), bw_⟩
  ·
   rw [if_neg c4] at H
   exact absurd H (by simp)
 ·
  rw [if_neg c3] at H
  exact absurd H (by simp)
end Go.Proofs.Ytfbkgfffalppmaa.Wf
end
section
namespace Go.Proofs.Ytfbkgfffalppmaa.Wf
open Go.RowKit Go.Proofs.YtfbkgfffalppmaaW.PrintWords Go.Proofs.YtfbkgfffalppmaaW.PrintLast Go.Proofs.YtfbkgfffalppmaaW.PrintMore
attribute [local go_sem] max2_int min2_int max_two min_two max_three min_three max_four min_four   -- for this text's walks alone
set_option linter.unusedVariables false
set_option linter.unusedSimpArgs false
attribute [local go_sem] run_add64_any
def clevisref01_Narrow.f (k : Nat) (a0 : Int) : Option (Bool × List Int) := (clevisref01_words.f k (IntKind.u64.wrap (a0)) 4).bind fun t196 => ((clevisref01_Bits.f k t196).bind fun bt199 => (some (bt199.1, bt199.2)))
set_option maxHeartbeats 8000000 in
set_option maxRecDepth 100000 in
theorem clevisref01_Narrow.calls (k : Nat) (a0 : Int) (r1 : Bool) (r2 : List Int) (w : World) (h : clevisref01_Narrow.f k a0 = some (r1, r2)) :
  Calls Try.prog 15 #[.int .i64 a0] w fun e w' => ∃ v1_ : Value, e = .returned (.agg #[.bool r1, v1_]) ∧ Kd.V (Kd.int .i64) 3 w' w.heap.size (fun k_ => (w.heap.size ≤ k_)) v1_ r2 ∧ Below w.heap.size w w' := by
 have hu38 := Try.underlying38
 have HB := A_ (Below.refl w.heap.size w)
 have H : ((clevisref01_words.f k (IntKind.u64.wrap (a0)) 4).bind fun t196 => ((clevisref01_Bits.f k t196).bind fun bt199 => (some (bt199.1, bt199.2)))) = some (r1, r2) := h
 clear h
 replace H := os_ H
 obtain ⟨t196, A20, H⟩ := H
 replace H : ((clevisref01_Bits.f k t196).bind fun bt199 => (some (bt199.1, bt199.2))) = some (r1, r2) := H
 have A2 := A_ A20
 clear A20
 replace H := os_ H
 obtain ⟨⟨t199, t200⟩, A30, H⟩ := H
 replace H : (some (t199, t200)) = some (r1, r2) := H
 have A3 := A_ A30
 clear A30
 simp only [Option.some.injEq, Prod.mk.injEq] at H
 obtain ⟨rfl, rfl⟩ := H
 go_enter Try.func15, Try.ntmps15
 go_wp2_with (first | ((with_reducible refine gate_dst (N := 2) rfl ?_); refine box_event ?hg (N := 2) ?hd (cs := #[.bool false, .slice none 0 0]) (t := 38) ?hr ?_; (case hd => rfl); (case hg => rfl); (case hr => first | (go_simp; done) | (go_simp; rfl)); intro gb302 hg w4 hbox hb; have n0_ := A_ (bs_ bw_ hb); have n1_ := A_ (hbox); have n2_ := A_ ((by rw [hg]; exact (bz_ bw_) : w.heap.size ≤ gb302)); have n3_ := A_ ((by rw [hg]; exact (bz_ bw_) : w.heap.size ≤ gb302)); clear HB; have HB := n0_; have BK302 := n1_; have GW302 := n2_; have GE302 := n3_; clear n0_ n1_ n2_ n3_; clear hb hbox hg) | ((with_reducible refine gate_callee (f := 39) rfl ?_); refine goesL_ (some 5) rfl rfl Try.func39 (by kernel_rfl) rfl #[.int .u64 (IntKind.u64.wrap (a0)), .int .i64 4] rfl (by (try simp only [List.map_toArray, List.map_cons, List.map_nil]); first | done | rfl | (simp only [List.length_drop, List.length_take]; rfl)) ?_; (with_reducible refine (clevisref01_words.calls k (IntKind.u64.wrap (a0)) 4 t196 _ A2.out).mono ?_); rintro e w5 ⟨v197, rfl, ho0, hb⟩; refine ⟨_, rfl, ?_⟩; have n0_ := A_ (Kd.R_lower (Kd.R_newM (M := fun k_ => (w.heap.size ≤ k_)) ho0 (bz_ bw_) (fun k_ h_ => h_)) (bz_ bw_)); have n1_ := A_ (kb_ BK302 hb); have n2_ := A_ (bs_ bw_ hb); clear BK302; clear HB; have HO198 := n0_; have BK302 := n1_; have HB := n2_; clear n0_ n1_ n2_; (try clear hb); (try clear hb2); (try clear hk); (try clear hi); (try clear ho0); obtain ⟨Ao6, co6, eo6⟩ := Kd.R_slice HO198.out; subst eo6) | ((with_reducible refine gate_callee (f := 38) rfl ?_); refine goesL_ (some 6) rfl rfl Try.func38 (by kernel_rfl) rfl #[.slice Ao6 t196.length co6] rfl (by (try simp only [List.map_toArray, List.map_cons, List.map_nil]); first | done | rfl | (simp only [List.length_drop, List.length_take]; rfl)) ?_; (with_reducible refine (clevisref01_Bits.calls k _ _ t196 t199 t200 _ ?side1 ?side2 A3.out).mono ?_); (case side1 => repeat (first | exact (Kd.R_reads' HO198.out).2.2 | (with_reducible refine ca_ ?_ _) | (with_reducible refine cn_ ?_ _) | (with_reducible refine cd_ ?_))); (case side2 => exact (Kd.R_reads' HO198.out).2.1); rintro e w7 ⟨v201, rfl, ho0, hb⟩; refine ⟨_, rfl, ?_⟩; have n0_ := A_ (Kd.R_below (by (with_reducible repeat (first | apply Kd.R_alloc | apply Kd.R_drewN | apply Kd.R_drew)); exact HO198.out) hb); have n1_ := A_ (Kd.V_lower (vm_ (ok' := fun k_ => (w.heap.size ≤ k_) ∧ some k_ ≠ (.slice Ao6 t196.length co6 : Value).ownBlock ∧ k_ ≠ gb302) ho0 (fun k_ hk_ => ⟨(Nat.le_trans (bz_ bw_) hk_), (Kd.fresh' (Kd.R_lt (by (with_reducible repeat (first | apply Kd.R_alloc | apply Kd.R_drewN | apply Kd.R_drew)); exact HO198.out)) k_ hk_), (Kd.freshB (g := gb302) (o := .cells #[.bool false, .slice none 0 0] 38 (0, 0)) bk_ k_ hk_)⟩)) (bz_ bw_)); have n2_ := A_ (kb_ BK302 hb); have n3_ := A_ (bs_ bw_ hb); clear HO198; clear BK302; clear HB; have HO198 := n0_; have HO202 := n1_; have BK302 := n2_; have HB := n3_; clear n0_ n1_ n2_ n3_; (try clear hb); (try clear hb2); (try clear hk); (try clear hi); (try clear ho0); have hcz8_0 : w7.cell? ⟨gb302, 0, none⟩ = some (.bool false) := (bc_ BK302.out 0).trans rfl; have hcz8_1 : w7.cell? ⟨gb302, 1, none⟩ = some (.slice none 0 0) := (bc_ BK302.out 1).trans rfl; have hfz8_0 := bf_ BK302.out 0; have hfz8_1 := bf_ BK302.out 1; obtain ⟨Ao9, co9, eo9⟩ := Kd.V_slice HO202.out; subst eo9))
 refine bodyPost_ret (results_cell_row rfl _ _ gb302 38 #[.bool t199, .slice Ao9 t200.length co9] (0, 0) _ rfl (by (with_reducible repeat (first | refine bn_ ?_ _ | refine bd_ ?_ | refine ba_ ?_ _)); refine bp_ (cs := #[.bool t199, .slice none 0 0]) ?_ 1 _ rfl; (with_reducible repeat (first | refine bn_ ?_ _ | refine bd_ ?_ | refine ba_ ?_ _)); refine bp_ (cs := #[.bool false, .slice none 0 0]) ?_ 0 _ rfl; (with_reducible repeat (first | refine bn_ ?_ _ | refine bd_ ?_ | refine ba_ ?_ _)); exact BK302.out) Try.underlying38 rfl (by kernel_rfl)) rfl ?_
 exact ⟨_, by first | rfl | (simp [errW_none, errW_some] <;> rfl) | (simp [*, errW_none, errW_some] <;> rfl), by (with_reducible repeat (first | apply va_ | apply vn_ | apply vd_)); exact vm_ (Kd.V_far (p := ⟨gb302, 1, none⟩) (Kd.V_far (p := ⟨gb302, 0, none⟩) (vm_ HO202.out (fun k_ hk => (⟨hk, hk.2.2⟩ : _ ∧ k_ ≠ gb302))) (fun _ hk => hk.2) (.bool t199)) (fun _ hk => hk.2) (.slice Ao9 t200.length co9)) (fun _ hk => hk.1.1), bw_⟩
end Go.Proofs.Ytfbkgfffalppmaa.Wf
end
section
namespace Go.Proofs.Ytfbkgfffalppmaa.Wf
open Go.RowKit Go.Proofs.YtfbkgfffalppmaaW.PrintWords Go.Proofs.YtfbkgfffalppmaaW.PrintLast Go.Proofs.YtfbkgfffalppmaaW.PrintMore
attribute [local go_sem] max2_int min2_int max_two min_two max_three min_three max_four min_four   -- for this text's walks alone
set_option linter.unusedVariables false
set_option linter.unusedSimpArgs false
attribute [local go_sem] run_add64_any
mutual
def clevisref01_Add.l0 : Nat → Int → Int → Bool → List Int → Bool → List Int → Bool → List Int → Option (Bool × List Int)
 | 0, _, _, _, _, _, _, _, _ => none
 | k + 1, x6, x7, x303000, x303001, x304000, x304001, x306000, x306001 => if x7 < (x303001.length : Int) then (clevisref01_Add.j1 k x6 x7 true x303000 x303001 x304000 x304001 x306000 x306001) else (clevisref01_Add.j1 k x6 x7 (decide (x7 < (x304001.length : Int))) x303000 x303001 x304000 x304001 x306000 x306001)
def clevisref01_Add.j1 : Nat → Int → Int → Bool → Bool → List Int → Bool → List Int → Bool → List Int → Option (Bool × List Int)
 | 0, _, _, _, _, _, _, _, _, _ => none
 | k + 1, x6, x7, x32, x303000, x303001, x304000, x304001, x306000, x306001 => if x32 = true then ((clevisref01_at.f x303001 x7).bind fun t208 => ((clevisref01_at.f x304001 x7).bind fun t209 => (if x306001.length < 17592186044416 then (clevisref01_Add.l0 k (wrap64 (Int.tdiv (wrap64 ((wrap64 (t208 + t209)) + x6)) 65536)) (wrap64 (x7 + 1)) x303000 x303001 x304000 x304001 x306000 (x306001 ++ [Int.tmod (wrap64 ((wrap64 (t208 + t209)) + x6)) 65536])) else (none)))) else (if x306001.length < 17592186044416 then ((clevisref01_clean.f k x306000 (x306001 ++ [x6])).bind fun bt216 => (some (bt216.1, bt216.2))) else (none))
def clevisref01_Add.l1 : Nat → Int → Int → Bool → List Int → Bool → List Int → Bool → List Int → Option (Bool × List Int)
 | 0, _, _, _, _, _, _, _, _ => none
 | k + 1, x10, x11, x303000, x303001, x304000, x304001, x310000, x310001 => if x11 < (x303001.length : Int) then ((clevisref01_at.f x303001 x11).bind fun t225 => ((clevisref01_at.f x304001 x11).bind fun t226 => (if (wrap64 ((wrap64 (t225 - t226)) - x10)) < 0 then (if x310001.length < 17592186044416 then (clevisref01_Add.l1 k 1 (wrap64 (x11 + 1)) x303000 x303001 x304000 x304001 x310000 (x310001 ++ [wrap64 ((wrap64 ((wrap64 (t225 - t226)) - x10)) + 65536)])) else (none)) else (if x310001.length < 17592186044416 then (clevisref01_Add.l1 k 0 (wrap64 (x11 + 1)) x303000 x303001 x304000 x304001 x310000 (x310001 ++ [wrap64 ((wrap64 (t225 - t226)) - x10)])) else (none))))) else ((clevisref01_clean.f k x310000 x310001).bind fun bt221 => (some (bt221.1, bt221.2)))
def clevisref01_Add.l102 : Nat → Int → Int → Bool → List Int → Bool → List Int → Bool → List Int → Option (Bool × List Int)
 | 0, _, _, _, _, _, _, _, _ => none
 | k + 1, x10, x11, x303000, x303001, x304000, x304001, x310000, x310001 => if x11 < (x303001.length : Int) then ((clevisref01_at.f x303001 x11).bind fun t237 => ((clevisref01_at.f x304001 x11).bind fun t238 => (if (wrap64 ((wrap64 (t237 - t238)) - x10)) < 0 then (if x310001.length < 17592186044416 then (clevisref01_Add.l102 k 1 (wrap64 (x11 + 1)) x303000 x303001 x304000 x304001 x310000 (x310001 ++ [wrap64 ((wrap64 ((wrap64 (t237 - t238)) - x10)) + 65536)])) else (none)) else (if x310001.length < 17592186044416 then (clevisref01_Add.l102 k 0 (wrap64 (x11 + 1)) x303000 x303001 x304000 x304001 x310000 (x310001 ++ [wrap64 ((wrap64 (t237 - t238)) - x10)])) else (none))))) else ((clevisref01_clean.f k x310000 x310001).bind fun bt233 => (some (bt233.1, bt233.2)))
end
def clevisref01_Add.f (k : Nat) (a0_0 : Bool) (l0_1 : List Int) (a1_0 : Bool) (l1_1 : List Int) : Option (Bool × List Int) := if (a0_0 == a1_0) = true then (clevisref01_Add.l0 k 0 0 a0_0 l0_1 a1_0 l1_1 a0_0 ([] : List Int)) else ((clevisref01_size.f k l0_1 l1_1).bind fun t220 => (if t220 < 0 then (clevisref01_Add.l1 k 0 0 a1_0 l1_1 a0_0 l0_1 a1_0 ([] : List Int)) else (clevisref01_Add.l102 k 0 0 a0_0 l0_1 a1_0 l1_1 a0_0 ([] : List Int))))
set_option maxHeartbeats 8000000 in
set_option maxRecDepth 100000 in
theorem clevisref01_Add.calls (k : Nat) (a0_0 : Bool) (A0_1 : Option Addr) (c0_1 : Nat) (l0_1 : List Int) (a1_0 : Bool) (A1_1 : Option Addr) (c1_1 : Nat) (l1_1 : List Int) (r1 : Bool) (r2 : List Int) (w : World) (hr0_1 : Kd.C (Kd.int .i64) w A0_1 l0_1.length l0_1) (hc0_1 : l0_1.length ≤ c0_1) (hr1_1 : Kd.C (Kd.int .i64) w A1_1 l1_1.length l1_1) (hc1_1 : l1_1.length ≤ c1_1) (h : clevisref01_Add.f k a0_0 l0_1 a1_0 l1_1 = some (r1, r2)) :
  Calls Try.prog 20 #[.agg #[.bool a0_0, .slice A0_1 l0_1.length c0_1], .agg #[.bool a1_0, .slice A1_1 l1_1.length c1_1]] w fun e w' => ∃ v1_ : Value, e = .returned (.agg #[.bool r1, v1_]) ∧ Kd.V (Kd.int .i64) 3 w' w.heap.size (fun k_ => (w.heap.size ≤ k_)) v1_ r2 ∧ Below w.heap.size w w' := by
 have hu38 := Try.underlying38
 have HR0_1 := A_ hr0_1
 have HC0_1 := A_ hc0_1
 clear hr0_1 hc0_1
 have HR1_1 := A_ hr1_1
 have HC1_1 := A_ hc1_1
 clear hr1_1 hc1_1
 have HB := A_ (Below.refl w.heap.size w)
 have H : (if (a0_0 == a1_0) = true then (clevisref01_Add.l0 k 0 0 a0_0 l0_1 a1_0 l1_1 a0_0 ([] : List Int)) else ((clevisref01_size.f k l0_1 l1_1).bind fun t220 => (if t220 < 0 then (clevisref01_Add.l1 k 0 0 a1_0 l1_1 a0_0 l0_1 a1_0 ([] : List Int)) else (clevisref01_Add.l102 k 0 0 a0_0 l0_1 a1_0 l1_1 a0_0 ([] : List Int))))) = some (r1, r2) := h
 clear h
 by_cases c3 : (a0_0 == a1_0) = true
 ·
  rw [if_pos c3] at H
  have c3b0 : (a0_0 == a1_0) = true := c3
  (try (have c3b1 : decide (a0_0 = a1_0) = true := by simpa using c3))
  (try (have c3b2 : (a0_0 == a1_0) = true := by simpa using c3))
  clear c3
  have H' := A_ H
  clear H
  go_enter Try.func20, Try.ntmps20
  go_wp2_with (first | ((with_reducible refine gate_dst (N := 2) rfl ?_); (try (refine gate_guard (by rfl) ?_; dsimp only)); refine box_event ?hg (N := 2) ?hd (cs := #[.bool a0_0, .slice A0_1 l0_1.length c0_1]) (t := 38) ?hr ?_; (case hd => rfl); (case hg => rfl); (case hr => first | (go_simp; done) | (go_simp; rfl)); intro gb302 hg w4 hbox hb; have n0_ := A_ (bs_ bw_ hb); have n1_ := A_ (hbox); have n2_ := A_ ((by rw [hg]; exact (bz_ bw_) : w.heap.size ≤ gb302)); have n3_ := A_ ((by rw [hg]; exact (bz_ bw_) : w.heap.size ≤ gb302)); clear HB; have HB := n0_; have BK302 := n1_; have GW302 := n2_; have GE302 := n3_; clear n0_ n1_ n2_ n3_; clear hb hbox hg) | ((with_reducible refine gate_dst (N := 3) rfl ?_); (try (refine gate_guard (by rfl) ?_; dsimp only)); refine box_event ?hg (N := 3) ?hd (cs := #[.bool a1_0, .slice A1_1 l1_1.length c1_1]) (t := 38) ?hr ?_; (case hd => rfl); (case hg => rfl); (case hr => first | (go_simp; done) | (go_simp; rfl)); intro gb303 hg w5 hbox hb; have n0_ := A_ (kb_ BK302 hb); have n1_ := A_ (bs_ bw_ hb); have n2_ := A_ (hbox); have n3_ := A_ ((by rw [hg]; exact (bz_ bw_) : w.heap.size ≤ gb303)); have n4_ := A_ ((by rw [hg]; exact (bz_ bw_) : w.heap.size ≤ gb303)); have n5_ := A_ ((by rw [hg]; exact nl_ (lt_ BK302) : gb302 ≠ gb303)); have n6_ := A_ ((by rw [hg]; exact ng_ (lt_ BK302) : gb303 ≠ gb302)); clear BK302; clear HB; have BK302 := n0_; have HB := n1_; have BK303 := n2_; have GW303 := n3_; have GE303 := n4_; have NB302_303 := n5_; have NB303_302 := n6_; clear n0_ n1_ n2_ n3_ n4_ n5_ n6_; clear hb hbox hg) | ((with_reducible refine gate_dst (N := 4) rfl ?_); (try (refine gate_guard (by rfl) ?_; dsimp only)); refine box_event ?hg (N := 4) ?hd (cs := #[.bool false, .slice none 0 0]) (t := 38) ?hr ?_; (case hd => rfl); (case hg => rfl); (case hr => first | (go_simp; done) | (go_simp; rfl)); intro gb304 hg w6 hbox hb; have n0_ := A_ (kb_ BK302 hb); have n1_ := A_ (kb_ BK303 hb); have n2_ := A_ (bs_ bw_ hb); have n3_ := A_ (hbox); have n4_ := A_ ((by rw [hg]; exact (bz_ bw_) : w.heap.size ≤ gb304)); have n5_ := A_ ((by rw [hg]; exact (bz_ bw_) : w.heap.size ≤ gb304)); have n6_ := A_ ((by rw [hg]; exact nl_ (lt_ BK302) : gb302 ≠ gb304)); have n7_ := A_ ((by rw [hg]; exact ng_ (lt_ BK302) : gb304 ≠ gb302)); have n8_ := A_ ((by rw [hg]; exact nl_ (lt_ BK303) : gb303 ≠ gb304)); have n9_ := A_ ((by rw [hg]; exact ng_ (lt_ BK303) : gb304 ≠ gb303)); clear BK302; clear BK303; clear HB; have BK302 := n0_; have BK303 := n1_; have HB := n2_; have BK304 := n3_; have GW304 := n4_; have GE304 := n5_; have NB302_304 := n6_; have NB304_302 := n7_; have NB303_304 := n8_; have NB304_303 := n9_; clear n0_ n1_ n2_ n3_ n4_ n5_ n6_ n7_ n8_ n9_; clear hb hbox hg; have hnb7 := NB302_303.out; have hnc7 := NB303_302.out; have hnb8 := NB302_304.out; have hnc8 := NB304_302.out; have hcz9_0 : w6.cell? ⟨gb302, 0, none⟩ = some (.bool a0_0) := (bc_ BK302.out 0).trans rfl; have hcz9_1 : w6.cell? ⟨gb302, 1, none⟩ = some (.slice A0_1 l0_1.length c0_1) := (bc_ BK302.out 1).trans rfl; have hfz9_0 := bf_ BK302.out 0; have hfz9_1 := bf_ BK302.out 1; have hnb10 := NB303_304.out; have hnc10 := NB304_303.out; have hcz11_0 : w6.cell? ⟨gb303, 0, none⟩ = some (.bool a1_0) := (bc_ BK303.out 0).trans rfl; have hcz11_1 : w6.cell? ⟨gb303, 1, none⟩ = some (.slice A1_1 l1_1.length c1_1) := (bc_ BK303.out 1).trans rfl; have hfz11_0 := bf_ BK303.out 0; have hfz11_1 := bf_ BK303.out 1) | ((with_reducible refine gate_dst (N := 5) rfl ?_); (try (refine gate_guard (by rfl) ?_; dsimp only)); refine box_event ?hg (N := 5) ?hd (cs := #[.bool false, .slice none 0 0]) (t := 38) ?hr ?_; (case hd => rfl); (case hg => rfl); (case hr => first | (go_simp; done) | (go_simp; rfl)); intro gb305 hg w12 hbox hb; have n0_ := A_ (kb_ BK302 hb); have n1_ := A_ (kb_ BK303 hb); have n2_ := A_ (kb_ BK304 hb); have n3_ := A_ (bs_ bw_ hb); have n4_ := A_ (hbox); have n5_ := A_ ((by rw [hg]; exact (bz_ bw_) : w.heap.size ≤ gb305)); have n6_ := A_ ((by rw [hg]; exact (bz_ bw_) : w.heap.size ≤ gb305)); have n7_ := A_ ((by rw [hg]; exact nl_ (lt_ BK302) : gb302 ≠ gb305)); have n8_ := A_ ((by rw [hg]; exact ng_ (lt_ BK302) : gb305 ≠ gb302)); have n9_ := A_ ((by rw [hg]; exact nl_ (lt_ BK303) : gb303 ≠ gb305)); have n10_ := A_ ((by rw [hg]; exact ng_ (lt_ BK303) : gb305 ≠ gb303)); have n11_ := A_ ((by rw [hg]; exact nl_ (lt_ BK304) : gb304 ≠ gb305)); have n12_ := A_ ((by rw [hg]; exact ng_ (lt_ BK304) : gb305 ≠ gb304)); clear BK302; clear BK303; clear BK304; clear HB; have BK302 := n0_; have BK303 := n1_; have BK304 := n2_; have HB := n3_; have BK305 := n4_; have GW305 := n5_; have GE305 := n6_; have NB302_305 := n7_; have NB305_302 := n8_; have NB303_305 := n9_; have NB305_303 := n10_; have NB304_305 := n11_; have NB305_304 := n12_; clear n0_ n1_ n2_ n3_ n4_ n5_ n6_ n7_ n8_ n9_ n10_ n11_ n12_; clear hb hbox hg; have hnb13 := NB305_302.out; have hnc13 := NB302_305.out; have hnb14 := NB305_303.out; have hnc14 := NB303_305.out; have hnb15 := NB305_304.out; have hnc15 := NB304_305.out; have hcz16_0 : w12.cell? ⟨gb305, 0, none⟩ = some (.bool false) := (bc_ BK305.out 0).trans rfl; have hcz16_1 : w12.cell? ⟨gb305, 1, none⟩ = some (.slice none 0 0) := (bc_ BK305.out 1).trans rfl; have hfz16_0 := bf_ BK305.out 0; have hfz16_1 := bf_ BK305.out 1))
  (try simp only [Act.put, sA_, sZ_, sS_])
  go_loopg [6, 7] k (fun kq v6 v7 w' => ∃ (x6_1 : Int) (x7_1 : Int) (x306001_1 : List Int) (u306001 : Value), v6 = .int .i64 x6_1 ∧ v7 = .int .i64 x7_1 ∧ Aside0 (clevisref01_Add.l0 kq x6_1 x7_1 a0_0 l0_1 a1_0 l1_1 a0_0 x306001_1 = some (r1, r2)) ∧ Aside0 (kq ≤ k) ∧ Aside0 (Kd.R (Kd.int .i64) 3 w' w.heap.size (fun k_ => (w.heap.size ≤ k_)) u306001 x306001_1) ∧ Aside0 (w'.heap[gb302]? = some (.cells #[.bool a0_0, (.slice A0_1 l0_1.length c0_1)] 38 (0, 0))) ∧ Aside0 (w'.heap[gb303]? = some (.cells #[.bool a1_0, (.slice A1_1 l1_1.length c1_1)] 38 (0, 0))) ∧ Aside0 (w'.heap[gb304]? = some (.cells #[.bool false, (.slice none 0 0)] 38 (0, 0))) ∧ Aside0 (w'.heap[gb305]? = some (.cells #[.bool a0_0, u306001] 38 (0, 0))) ∧ Aside0 (Below w.heap.size w w'))
  case atStart => exact ⟨(0), (0), (([] : List Int)), (.slice none 0 0), (by first | rfl | (simp; done) | (simp [*]; done)), (by first | rfl | (simp; done) | (simp [*]; done)), H', ⟨Nat.le_refl _⟩, ⟨by first | exact Kd.R_nil _ _ _ _ _ | exact Kd.N_nil _ _ _ _ _ | exact Kd.V_nil _ _ _ _ _ | exact Kd.Q_nil _ _ _ _ _ | exact Kd.S_nil _ _ _ _ _⟩, ⟨bk_⟩, ⟨bk_⟩, ⟨bk_⟩, ⟨by (with_reducible repeat (first | refine bn_ ?_ _ | refine bd_ ?_ | refine ba_ ?_ _)); refine bp_ (cs := #[.bool a0_0, .slice none 0 0]) ?_ 1 _ rfl; (with_reducible repeat (first | refine bn_ ?_ _ | refine bd_ ?_ | refine ba_ ?_ _)); refine bp_ (cs := #[.bool false, .slice none 0 0]) ?_ 0 _ rfl; (with_reducible repeat (first | refine bn_ ?_ _ | refine bd_ ?_ | refine ba_ ?_ _)); exact BK305.out⟩, ⟨bw_⟩⟩
  case round =>
   clear H'
   try clear c1
   try clear c2
   try clear p2
   try clear c3
   try clear c3b0
   try clear c3b1
   try clear c3b2
   try clear c7
   try clear c8
   try clear c10
   try clear c13
   try clear c14
   try clear c15
   try clear hcz11_0
   try clear hcz11_1
   try clear hcz16_0
   try clear hcz16_1
   try clear hcz9_0
   try clear hcz9_1
   try clear hfz11_0
   try clear hfz11_1
   try clear hfz16_0
   try clear hfz16_1
   try clear hfz9_0
   try clear hfz9_1
   obtain ⟨x6_1, x7_1, x306001_1, u306001, rfl, rfl, HA, HK1, HO_306001, BK302, BK303, BK304, BK305, HB⟩ := hrel
   cases gk with
   | zero => exact absurd HA.out (by simp [clevisref01_Add.l0])
   | succ k1 =>
    have H := HA.out
    clear HA
    simp only [clevisref01_Add.l0] at H
    have HC17 := A_ H
    clear H
    go_upto_region 5 with (fail)
    go_cut [32] (fun v32 wc => ∃ (kq : Nat) (x32_16 : Bool), v32 = .bool x32_16 ∧ Aside0 (clevisref01_Add.j1 kq x6_1 x7_1 x32_16 a0_0 l0_1 a1_0 l1_1 a0_0 x306001_1 = some (r1, r2)) ∧ Aside0 (kq ≤ k1) ∧ Aside0 (Kd.R (Kd.int .i64) 3 wc w.heap.size (fun k_ => (w.heap.size ≤ k_)) u306001 x306001_1) ∧ Aside0 (wc.heap[gb302]? = some (.cells #[.bool a0_0, (.slice A0_1 l0_1.length c0_1)] 38 (0, 0))) ∧ Aside0 (wc.heap[gb303]? = some (.cells #[.bool a1_0, (.slice A1_1 l1_1.length c1_1)] 38 (0, 0))) ∧ Aside0 (wc.heap[gb304]? = some (.cells #[.bool false, (.slice none 0 0)] 38 (0, 0))) ∧ Aside0 (wc.heap[gb305]? = some (.cells #[.bool a0_0, u306001] 38 (0, 0))) ∧ Aside0 (Below w.heap.size w wc))
    case first =>
     have H := HC17.out
     clear HC17
     by_cases c18 : x7_1 < (l0_1.length : Int)
     ·
      rw [if_pos c18] at H
      have c18b0 : decide (x7_1 < (l0_1.length : Int)) = true := decide_eq_true c18
      clear c18
      (first | rw [c18b0] | (simp only [i64_w, i32_w]; rw [c18b0]) | skip)
      have H' := A_ H
      clear H
      have hnb19 := NB302_303.out
      have hnc19 := NB303_302.out
      have hnb20 := NB302_304.out
      have hnc20 := NB304_302.out
      have hnb21 := NB302_305.out
      have hnc21 := NB305_302.out
      have hcz22_0 : wr.cell? ⟨gb302, 0, none⟩ = some (.bool a0_0) := (bc_ BK302.out 0).trans rfl
      have hcz22_1 : wr.cell? ⟨gb302, 1, none⟩ = some (.slice A0_1 l0_1.length c0_1) := (bc_ BK302.out 1).trans rfl
      have hfz22_0 := bf_ BK302.out 0
      have hfz22_1 := bf_ BK302.out 1
      go_wp2
      go_meet
      case rel => exact ⟨_, (true), (by first | rfl | (simp; done) | (simp [*]; done)), H', ⟨by have := HK1.out; first | omega | exact Nat.le_refl _⟩, ⟨by (with_reducible repeat (first | apply Kd.R_alloc | apply Kd.R_drewN | apply Kd.R_drew)); exact HO_306001.out⟩, ⟨bk_⟩, ⟨bk_⟩, ⟨bk_⟩, ⟨bk_⟩, ⟨bw_⟩⟩
     ·
      rw [if_neg c18] at H
      have c18b0 : decide (x7_1 < (l0_1.length : Int)) = false := decide_eq_false c18
      clear c18
      (first | rw [c18b0] | (simp only [i64_w, i32_w]; rw [c18b0]) | skip)
      have H' := A_ H
      clear H
      have hnb23 := NB302_303.out
      have hnc23 := NB303_302.out
      have hnb24 := NB302_304.out
      have hnc24 := NB304_302.out
      have hnb25 := NB302_305.out
      have hnc25 := NB305_302.out
      have hcz26_0 : wr.cell? ⟨gb302, 0, none⟩ = some (.bool a0_0) := (bc_ BK302.out 0).trans rfl
      have hcz26_1 : wr.cell? ⟨gb302, 1, none⟩ = some (.slice A0_1 l0_1.length c0_1) := (bc_ BK302.out 1).trans rfl
      have hfz26_0 := bf_ BK302.out 0
      have hfz26_1 := bf_ BK302.out 1
      have hnb27 := NB303_304.out
      have hnc27 := NB304_303.out
      have hnb28 := NB303_305.out
      have hnc28 := NB305_303.out
      have hcz29_0 : wr.cell? ⟨gb303, 0, none⟩ = some (.bool a1_0) := (bc_ BK303.out 0).trans rfl
      have hcz29_1 : wr.cell? ⟨gb303, 1, none⟩ = some (.slice A1_1 l1_1.length c1_1) := (bc_ BK303.out 1).trans rfl
      have hfz29_0 := bf_ BK303.out 0
      have hfz29_1 := bf_ BK303.out 1
      go_wp2
      go_meet
      case rel => exact ⟨_, (decide (x7_1 < (l1_1.length : Int))), (by first | rfl | (simp; done) | (simp [*]; done)), H', ⟨by have := HK1.out; first | omega | exact Nat.le_refl _⟩, ⟨by (with_reducible repeat (first | apply Kd.R_alloc | apply Kd.R_drewN | apply Kd.R_drew)); exact HO_306001.out⟩, ⟨bk_⟩, ⟨bk_⟩, ⟨bk_⟩, ⟨bk_⟩, ⟨bw_⟩⟩
    case rest =>
     clear HC17
     try clear c1
     try clear c2
     try clear p2
     try clear c3
     try clear c3b0
     try clear c3b1
     try clear c3b2
     try clear c7
     try clear c8
     try clear c10
     try clear c13
     try clear c14
     try clear c15
     try clear c18
     try clear c18b0
     try clear c19
     try clear c20
     try clear c21
     try clear c23
     try clear c24
     try clear c25
     try clear c27
     try clear c28
     try clear hcz11_0
     try clear hcz11_1
     try clear hcz16_0
     try clear hcz16_1
     try clear hcz22_0
     try clear hcz22_1
     try clear hcz26_0
     try clear hcz26_1
     try clear hcz29_0
     try clear hcz29_1
     try clear hcz9_0
     try clear hcz9_1
     try clear hfz11_0
     try clear hfz11_1
     try clear hfz16_0
     try clear hfz16_1
     try clear hfz22_0
     try clear hfz22_1
     try clear hfz26_0
     try clear hfz26_1
     try clear hfz29_0
     try clear hfz29_1
     try clear hfz9_0
     try clear hfz9_1
     try clear p2
     obtain ⟨kq, x32_16, rfl, HA, HJ16, HO_306001, BK302, BK303, BK304, BK305, HB⟩ := hcut
     cases kq with
     | zero => exact absurd HA.out (by simp [clevisref01_Add.j1])
     | succ kj16 =>
      have H := HA.out
      clear HA
      simp only [clevisref01_Add.j1] at H
      by_cases c30 : x32_16 = true
      ·
       subst c30
       have H1 : ((clevisref01_at.f l0_1 x7_1).bind fun t208 => ((clevisref01_at.f l1_1 x7_1).bind fun t209 => (if x306001_1.length < 17592186044416 then (clevisref01_Add.l0 kj16 (wrap64 (Int.tdiv (wrap64 ((wrap64 (t208 + t209)) + x6_1)) 65536)) (wrap64 (x7_1 + 1)) a0_0 l0_1 a1_0 l1_1 a0_0 (x306001_1 ++ [Int.tmod (wrap64 ((wrap64 (t208 + t209)) + x6_1)) 65536])) else (none)))) = some (r1, r2) := by rw [if_pos rfl] at H; exact H
       clear H
       have H := H1
       clear H1
       replace H := os_ H
       obtain ⟨t208, A310, H⟩ := H
       replace H : ((clevisref01_at.f l1_1 x7_1).bind fun t209 => (if x306001_1.length < 17592186044416 then (clevisref01_Add.l0 kj16 (wrap64 (Int.tdiv (wrap64 ((wrap64 (t208 + t209)) + x6_1)) 65536)) (wrap64 (x7_1 + 1)) a0_0 l0_1 a1_0 l1_1 a0_0 (x306001_1 ++ [Int.tmod (wrap64 ((wrap64 (t208 + t209)) + x6_1)) 65536])) else (none))) = some (r1, r2) := H
       have A31 := A_ A310
       clear A310
       replace H := os_ H
       obtain ⟨t209, A320, H⟩ := H
       replace H : (if x306001_1.length < 17592186044416 then (clevisref01_Add.l0 kj16 (wrap64 (Int.tdiv (wrap64 ((wrap64 (t208 + t209)) + x6_1)) 65536)) (wrap64 (x7_1 + 1)) a0_0 l0_1 a1_0 l1_1 a0_0 (x306001_1 ++ [Int.tmod (wrap64 ((wrap64 (t208 + t209)) + x6_1)) 65536])) else (none)) = some (r1, r2) := H
       have A32 := A_ A320
       clear A320
       by_cases c33 : x306001_1.length < 17592186044416
       ·
        rw [if_pos c33] at H
        have LMc33 := A_ c33
        clear c33
        obtain ⟨y210, hy210⟩ : ∃ y_ : List Int, y_ = (x306001_1 ++ [Int.tmod (wrap64 ((wrap64 (t208 + t209)) + x6_1)) 65536]) := ⟨_, rfl⟩
        replace H : (clevisref01_Add.l0 kj16 (wrap64 (Int.tdiv (wrap64 ((wrap64 (t208 + t209)) + x6_1)) 65536)) (wrap64 (x7_1 + 1)) a0_0 l0_1 a1_0 l1_1 a0_0 y210) = some (r1, r2) := by first | (rw [hy210]; with_reducible exact H) | (have H2_ := (Option.bind_some _ _).symm.trans H; rw [hy210]; with_reducible exact H2_) | (have H2_ := (Option.bind_some _ _).symm.trans H; with_reducible exact H2_) | with_reducible exact H | (rw [hy210]; exact H) | exact H
        have Ny210 := A_ hy210
        clear hy210
        have H' := A_ H
        clear H
        have hnb34 := NB302_303.out
        have hnc34 := NB303_302.out
        have hnb35 := NB302_304.out
        have hnc35 := NB304_302.out
        have hnb36 := NB302_305.out
        have hnc36 := NB305_302.out
        have hcz37_0 : wc.cell? ⟨gb302, 0, none⟩ = some (.bool a0_0) := (bc_ BK302.out 0).trans rfl
        have hcz37_1 : wc.cell? ⟨gb302, 1, none⟩ = some (.slice A0_1 l0_1.length c0_1) := (bc_ BK302.out 1).trans rfl
        have hfz37_0 := bf_ BK302.out 0
        have hfz37_1 := bf_ BK302.out 1
        go_wp2_with (first | (go_at_call 44; (with_reducible refine (clevisref01_at.calls _ _ l0_1 x7_1 t208 _ ?side1 ?side2 A31.out).mono ?_); (case side1 => repeat (first | exact (cb_ HR0_1.out HB.out) | (with_reducible refine ca_ ?_ _) | (with_reducible refine cn_ ?_ _) | (with_reducible refine cd_ ?_))); (case side2 => exact HC0_1.out); rintro e w' ⟨rfl, ⟨nd, rfl⟩⟩; (try first | exact ⟨rfl, _, dd_ _ _ _⟩ | exact ⟨rfl, _, Eq.trans (dd_ _ _ _) (congrArg (World.drewN _) (Nat.add_assoc _ _ _))⟩); have hnb38 := NB303_304.out; have hnc38 := NB304_303.out; have hnb39 := NB303_305.out; have hnc39 := NB305_303.out; have hcz40_0 : wc.cell? ⟨gb303, 0, none⟩ = some (.bool a1_0) := (bc_ BK303.out 0).trans rfl; have hcz40_1 : wc.cell? ⟨gb303, 1, none⟩ = some (.slice A1_1 l1_1.length c1_1) := (bc_ BK303.out 1).trans rfl; have hfz40_0 := bf_ BK303.out 0; have hfz40_1 := bf_ BK303.out 1) | (go_at_call 44; (with_reducible refine (clevisref01_at.calls _ _ l1_1 x7_1 t209 _ ?side1 ?side2 A32.out).mono ?_); (case side1 => repeat (first | exact (cb_ HR1_1.out bw_) | (with_reducible refine ca_ ?_ _) | (with_reducible refine cn_ ?_ _) | (with_reducible refine cd_ ?_))); (case side2 => exact HC1_1.out); rintro e w' ⟨rfl, ⟨nd, rfl⟩⟩; (try first | exact ⟨rfl, _, dd_ _ _ _⟩ | exact ⟨rfl, _, Eq.trans (dd_ _ _ _) (congrArg (World.drewN _) (Nat.add_assoc _ _ _))⟩); have hnb41 := NB305_304.out; have hnc41 := NB304_305.out; have hcz42_0 : wc.cell? ⟨gb305, 0, none⟩ = some (.bool a0_0) := (bc_ BK305.out 0).trans rfl; have hcz42_1 : wc.cell? ⟨gb305, 1, none⟩ = some (u306001) := (bc_ BK305.out 1).trans rfl; have hfz42_0 := bf_ BK305.out 0; have hfz42_1 := bf_ BK305.out 1) | ((with_reducible refine gate_builtin (b := .append) (xs := #[.tmp 47, .tmp 50]) rfl ?_); (try (refine gate_guard (by rfl) ?_; dsimp only)); at_builtin; refine Kd.R_append (Kd.int .i64) (w0 := w) w.heap.size rfl (.tmp 47) (.tmp 50) 36 3 (.int .i64 0) 8 rfl Try.underlying36 info3 rfl (by decide) (by omega) u306001 x306001_1 (Int.tmod (wrap64 ((wrap64 (t208 + t209)) + x6_1)) 65536) [.int .i64 (Int.tmod (wrap64 ((wrap64 (t208 + t209)) + x6_1)) 65536)] (fun k_ => (w.heap.size ≤ k_)) (fun _ => False) rfl rfl ?aP (fun _ hk => hk.elim) ?aF ?aO ?aB ?aS ?aL ?_; (case aP => exact rfl); (case aB => exact bw_); (case aF => exact (fun k_ hk => (Nat.le_trans (bz_ bw_) hk))); (case aO => exact (by (with_reducible repeat (first | apply Kd.R_alloc | apply Kd.R_drewN | apply Kd.R_drew)); exact HO_306001.out)); (case aS => exact (bz_ bw_)); (case aL => have := LMc33.out; omega); intro v211 w43 ho hb hg hat; rw [← Ny210.out] at ho; have n0_ := A_ (blk_grown (g := gb302) (o := .cells #[.bool a0_0, .slice A0_1 l0_1.length c0_1] 38 (0, 0)) bk_ hg (Kd.R_ne HO_306001.out BK302.out (by decide))); have n1_ := A_ (blk_grown (g := gb303) (o := .cells #[.bool a1_0, .slice A1_1 l1_1.length c1_1] 38 (0, 0)) bk_ hg (Kd.R_ne HO_306001.out BK303.out (by decide))); have n2_ := A_ (blk_grown (g := gb304) (o := .cells #[.bool false, .slice none 0 0] 38 (0, 0)) bk_ hg (Kd.R_ne HO_306001.out BK304.out (by decide))); have n3_ := A_ (blk_grown (g := gb305) (o := .cells #[.bool a0_0, u306001] 38 (0, 0)) bk_ hg (Kd.R_ne HO_306001.out BK305.out (by decide))); have n4_ := A_ (hb); have n5_ := A_ (ho); clear BK302; clear BK303; clear BK304; clear BK305; clear HB; clear HO_306001; have BK302 := n0_; have BK303 := n1_; have BK304 := n2_; have BK305 := n3_; have HB := n4_; have HO212 := n5_; clear n0_ n1_ n2_ n3_ n4_ n5_; clear ho hb hg hat; obtain ⟨Ao44, co44, eo44⟩ := Kd.R_slice HO212.out; subst eo44; have hcz45_0 : w43.cell? ⟨gb305, 0, none⟩ = some (.bool a0_0) := (bc_ BK305.out 0).trans rfl; have hcz45_1 : w43.cell? ⟨gb305, 1, none⟩ = some (u306001) := (bc_ BK305.out 1).trans rfl; have hfz45_0 := bf_ BK305.out 0; have hfz45_1 := bf_ BK305.out 1))
        repeat (go_quiet (first | (go_at_call 44; (with_reducible refine (clevisref01_at.calls _ _ l0_1 x7_1 t208 _ ?side1 ?side2 A31.out).mono ?_); (case side1 => repeat (first | exact (cb_ HR0_1.out HB.out) | (with_reducible refine ca_ ?_ _) | (with_reducible refine cn_ ?_ _) | (with_reducible refine cd_ ?_))); (case side2 => exact HC0_1.out); rintro e w' ⟨rfl, ⟨nd, rfl⟩⟩; (try first | exact ⟨rfl, _, dd_ _ _ _⟩ | exact ⟨rfl, _, Eq.trans (dd_ _ _ _) (congrArg (World.drewN _) (Nat.add_assoc _ _ _))⟩); have hnb38 := NB303_304.out; have hnc38 := NB304_303.out; have hnb39 := NB303_305.out; have hnc39 := NB305_303.out; have hcz40_0 : wc.cell? ⟨gb303, 0, none⟩ = some (.bool a1_0) := (bc_ BK303.out 0).trans rfl; have hcz40_1 : wc.cell? ⟨gb303, 1, none⟩ = some (.slice A1_1 l1_1.length c1_1) := (bc_ BK303.out 1).trans rfl; have hfz40_0 := bf_ BK303.out 0; have hfz40_1 := bf_ BK303.out 1) | (go_at_call 44; (with_reducible refine (clevisref01_at.calls _ _ l1_1 x7_1 t209 _ ?side1 ?side2 A32.out).mono ?_); (case side1 => repeat (first | exact (cb_ HR1_1.out bw_) | (with_reducible refine ca_ ?_ _) | (with_reducible refine cn_ ?_ _) | (with_reducible refine cd_ ?_))); (case side2 => exact HC1_1.out); rintro e w' ⟨rfl, ⟨nd, rfl⟩⟩; (try first | exact ⟨rfl, _, dd_ _ _ _⟩ | exact ⟨rfl, _, Eq.trans (dd_ _ _ _) (congrArg (World.drewN _) (Nat.add_assoc _ _ _))⟩); have hnb41 := NB305_304.out; have hnc41 := NB304_305.out; have hcz42_0 : wc.cell? ⟨gb305, 0, none⟩ = some (.bool a0_0) := (bc_ BK305.out 0).trans rfl; have hcz42_1 : wc.cell? ⟨gb305, 1, none⟩ = some (u306001) := (bc_ BK305.out 1).trans rfl; have hfz42_0 := bf_ BK305.out 0; have hfz42_1 := bf_ BK305.out 1) | ((with_reducible refine gate_builtin (b := .append) (xs := #[.tmp 47, .tmp 50]) rfl ?_); (try (refine gate_guard (by rfl) ?_; dsimp only)); at_builtin; refine Kd.R_append (Kd.int .i64) (w0 := w) w.heap.size rfl (.tmp 47) (.tmp 50) 36 3 (.int .i64 0) 8 rfl Try.underlying36 info3 rfl (by decide) (by omega) u306001 x306001_1 (Int.tmod (wrap64 ((wrap64 (t208 + t209)) + x6_1)) 65536) [.int .i64 (Int.tmod (wrap64 ((wrap64 (t208 + t209)) + x6_1)) 65536)] (fun k_ => (w.heap.size ≤ k_)) (fun _ => False) rfl rfl ?aP (fun _ hk => hk.elim) ?aF ?aO ?aB ?aS ?aL ?_; (case aP => exact rfl); (case aB => exact bw_); (case aF => exact (fun k_ hk => (Nat.le_trans (bz_ bw_) hk))); (case aO => exact (by (with_reducible repeat (first | apply Kd.R_alloc | apply Kd.R_drewN | apply Kd.R_drew)); exact HO_306001.out)); (case aS => exact (bz_ bw_)); (case aL => have := LMc33.out; omega); intro v211 w43 ho hb hg hat; rw [← Ny210.out] at ho; have n0_ := A_ (blk_grown (g := gb302) (o := .cells #[.bool a0_0, .slice A0_1 l0_1.length c0_1] 38 (0, 0)) bk_ hg (Kd.R_ne HO_306001.out BK302.out (by decide))); have n1_ := A_ (blk_grown (g := gb303) (o := .cells #[.bool a1_0, .slice A1_1 l1_1.length c1_1] 38 (0, 0)) bk_ hg (Kd.R_ne HO_306001.out BK303.out (by decide))); have n2_ := A_ (blk_grown (g := gb304) (o := .cells #[.bool false, .slice none 0 0] 38 (0, 0)) bk_ hg (Kd.R_ne HO_306001.out BK304.out (by decide))); have n3_ := A_ (blk_grown (g := gb305) (o := .cells #[.bool a0_0, u306001] 38 (0, 0)) bk_ hg (Kd.R_ne HO_306001.out BK305.out (by decide))); have n4_ := A_ (hb); have n5_ := A_ (ho); clear BK302; clear BK303; clear BK304; clear BK305; clear HB; clear HO_306001; have BK302 := n0_; have BK303 := n1_; have BK304 := n2_; have BK305 := n3_; have HB := n4_; have HO212 := n5_; clear n0_ n1_ n2_ n3_ n4_ n5_; clear ho hb hg hat; obtain ⟨Ao44, co44, eo44⟩ := Kd.R_slice HO212.out; subst eo44; have hcz45_0 : w43.cell? ⟨gb305, 0, none⟩ = some (.bool a0_0) := (bc_ BK305.out 0).trans rfl; have hcz45_1 : w43.cell? ⟨gb305, 1, none⟩ = some (u306001) := (bc_ BK305.out 1).trans rfl; have hfz45_0 := bf_ BK305.out 0; have hfz45_1 := bf_ BK305.out 1)); try go_wp2_with (first | (go_at_call 44; (with_reducible refine (clevisref01_at.calls _ _ l0_1 x7_1 t208 _ ?side1 ?side2 A31.out).mono ?_); (case side1 => repeat (first | exact (cb_ HR0_1.out HB.out) | (with_reducible refine ca_ ?_ _) | (with_reducible refine cn_ ?_ _) | (with_reducible refine cd_ ?_))); (case side2 => exact HC0_1.out); rintro e w' ⟨rfl, ⟨nd, rfl⟩⟩; (try first | exact ⟨rfl, _, dd_ _ _ _⟩ | exact ⟨rfl, _, Eq.trans (dd_ _ _ _) (congrArg (World.drewN _) (Nat.add_assoc _ _ _))⟩); have hnb38 := NB303_304.out; have hnc38 := NB304_303.out; have hnb39 := NB303_305.out; have hnc39 := NB305_303.out; have hcz40_0 : wc.cell? ⟨gb303, 0, none⟩ = some (.bool a1_0) := (bc_ BK303.out 0).trans rfl; have hcz40_1 : wc.cell? ⟨gb303, 1, none⟩ = some (.slice A1_1 l1_1.length c1_1) := (bc_ BK303.out 1).trans rfl; have hfz40_0 := bf_ BK303.out 0; have hfz40_1 := bf_ BK303.out 1) | (go_at_call 44; (with_reducible refine (clevisref01_at.calls _ _ l1_1 x7_1 t209 _ ?side1 ?side2 A32.out).mono ?_); (case side1 => repeat (first | exact (cb_ HR1_1.out bw_) | (with_reducible refine ca_ ?_ _) | (with_reducible refine cn_ ?_ _) | (with_reducible refine cd_ ?_))); (case side2 => exact HC1_1.out); rintro e w' ⟨rfl, ⟨nd, rfl⟩⟩; (try first | exact ⟨rfl, _, dd_ _ _ _⟩ | exact ⟨rfl, _, Eq.trans (dd_ _ _ _) (congrArg (World.drewN _) (Nat.add_assoc _ _ _))⟩); have hnb41 := NB305_304.out; have hnc41 := NB304_305.out; have hcz42_0 : wc.cell? ⟨gb305, 0, none⟩ = some (.bool a0_0) := (bc_ BK305.out 0).trans rfl; have hcz42_1 : wc.cell? ⟨gb305, 1, none⟩ = some (u306001) := (bc_ BK305.out 1).trans rfl; have hfz42_0 := bf_ BK305.out 0; have hfz42_1 := bf_ BK305.out 1) | ((with_reducible refine gate_builtin (b := .append) (xs := #[.tmp 47, .tmp 50]) rfl ?_); (try (refine gate_guard (by rfl) ?_; dsimp only)); at_builtin; refine Kd.R_append (Kd.int .i64) (w0 := w) w.heap.size rfl (.tmp 47) (.tmp 50) 36 3 (.int .i64 0) 8 rfl Try.underlying36 info3 rfl (by decide) (by omega) u306001 x306001_1 (Int.tmod (wrap64 ((wrap64 (t208 + t209)) + x6_1)) 65536) [.int .i64 (Int.tmod (wrap64 ((wrap64 (t208 + t209)) + x6_1)) 65536)] (fun k_ => (w.heap.size ≤ k_)) (fun _ => False) rfl rfl ?aP (fun _ hk => hk.elim) ?aF ?aO ?aB ?aS ?aL ?_; (case aP => exact rfl); (case aB => exact bw_); (case aF => exact (fun k_ hk => (Nat.le_trans (bz_ bw_) hk))); (case aO => exact (by (with_reducible repeat (first | apply Kd.R_alloc | apply Kd.R_drewN | apply Kd.R_drew)); exact HO_306001.out)); (case aS => exact (bz_ bw_)); (case aL => have := LMc33.out; omega); intro v211 w43 ho hb hg hat; rw [← Ny210.out] at ho; have n0_ := A_ (blk_grown (g := gb302) (o := .cells #[.bool a0_0, .slice A0_1 l0_1.length c0_1] 38 (0, 0)) bk_ hg (Kd.R_ne HO_306001.out BK302.out (by decide))); have n1_ := A_ (blk_grown (g := gb303) (o := .cells #[.bool a1_0, .slice A1_1 l1_1.length c1_1] 38 (0, 0)) bk_ hg (Kd.R_ne HO_306001.out BK303.out (by decide))); have n2_ := A_ (blk_grown (g := gb304) (o := .cells #[.bool false, .slice none 0 0] 38 (0, 0)) bk_ hg (Kd.R_ne HO_306001.out BK304.out (by decide))); have n3_ := A_ (blk_grown (g := gb305) (o := .cells #[.bool a0_0, u306001] 38 (0, 0)) bk_ hg (Kd.R_ne HO_306001.out BK305.out (by decide))); have n4_ := A_ (hb); have n5_ := A_ (ho); clear BK302; clear BK303; clear BK304; clear BK305; clear HB; clear HO_306001; have BK302 := n0_; have BK303 := n1_; have BK304 := n2_; have BK305 := n3_; have HB := n4_; have HO212 := n5_; clear n0_ n1_ n2_ n3_ n4_ n5_; clear ho hb hg hat; obtain ⟨Ao44, co44, eo44⟩ := Kd.R_slice HO212.out; subst eo44; have hcz45_0 : w43.cell? ⟨gb305, 0, none⟩ = some (.bool a0_0) := (bc_ BK305.out 0).trans rfl; have hcz45_1 : w43.cell? ⟨gb305, 1, none⟩ = some (u306001) := (bc_ BK305.out 1).trans rfl; have hfz45_0 := bf_ BK305.out 0; have hfz45_1 := bf_ BK305.out 1)))
        go_roundg kj16
        case measure => have := HK1.out; have := HJ16.out; omega
        case rel => exact ⟨(wrap64 (Int.tdiv (wrap64 ((wrap64 (t208 + t209)) + x6_1)) 65536)), (wrap64 (x7_1 + 1)), (y210), (.slice Ao44 y210.length co44), (by first | rfl | (simp; done) | (simp [*]; done)), (by first | rfl | (simp; done) | (simp [*]; done)), H', ⟨by have := HK1.out; have := HJ16.out; omega⟩, ⟨by (with_reducible repeat (first | apply Kd.R_alloc | apply Kd.R_drewN | apply Kd.R_drew)); exact Kd.R_mono (Kd.R_far (p := ⟨gb305, 1, none⟩) (Kd.R_types HO212.out BK305.out (by decide)) (fun _ hk => hk.2) (.slice Ao44 y210.length co44)) (fun _ hk => hk.1)⟩, ⟨bk_⟩, ⟨bk_⟩, ⟨bk_⟩, ⟨by (with_reducible repeat (first | refine bn_ ?_ _ | refine bd_ ?_ | refine ba_ ?_ _)); refine bp_ (cs := #[.bool a0_0, u306001]) ?_ 1 _ rfl; (with_reducible repeat (first | refine bn_ ?_ _ | refine bd_ ?_ | refine ba_ ?_ _)); exact BK305.out⟩, ⟨bw_⟩⟩
       ·
        rw [if_neg c33] at H
        exact absurd H (by simp)
      ·
       replace c30 := Bool.eq_false_iff.mpr c30
       subst c30
       have H1 : (if x306001_1.length < 17592186044416 then ((clevisref01_clean.f kj16 a0_0 (x306001_1 ++ [x6_1])).bind fun bt216 => (some (bt216.1, bt216.2))) else (none)) = some (r1, r2) := by rw [if_neg (show ¬ (false = true) by decide)] at H; exact H
       clear H
       have H := H1
       clear H1
       by_cases c46 : x306001_1.length < 17592186044416
       ·
        rw [if_pos c46] at H
        have LMc46 := A_ c46
        clear c46
        obtain ⟨y213, hy213⟩ : ∃ y_ : List Int, y_ = (x306001_1 ++ [x6_1]) := ⟨_, rfl⟩
        replace H : ((clevisref01_clean.f kj16 a0_0 y213).bind fun bt216 => (some (bt216.1, bt216.2))) = some (r1, r2) := by first | (rw [hy213]; with_reducible exact H) | (have H2_ := (Option.bind_some _ _).symm.trans H; rw [hy213]; with_reducible exact H2_) | (have H2_ := (Option.bind_some _ _).symm.trans H; with_reducible exact H2_) | with_reducible exact H | (rw [hy213]; exact H) | exact H
        have Ny213 := A_ hy213
        clear hy213
        replace H := os_ H
        obtain ⟨⟨t216, t217⟩, A470, H⟩ := H
        replace H : (some (t216, t217)) = some (r1, r2) := H
        have A47 := A_ A470
        clear A470
        simp only [Option.some.injEq, Prod.mk.injEq] at H
        obtain ⟨rfl, rfl⟩ := H
        have hnb48 := NB305_302.out
        have hnc48 := NB302_305.out
        have hnb49 := NB305_303.out
        have hnc49 := NB303_305.out
        have hnb50 := NB305_304.out
        have hnc50 := NB304_305.out
        have hcz51_0 : wc.cell? ⟨gb305, 0, none⟩ = some (.bool a0_0) := (bc_ BK305.out 0).trans rfl
        have hcz51_1 : wc.cell? ⟨gb305, 1, none⟩ = some (u306001) := (bc_ BK305.out 1).trans rfl
        have hfz51_0 := bf_ BK305.out 0
        have hfz51_1 := bf_ BK305.out 1
        go_wp2_with (first | ((with_reducible refine gate_builtin (b := .append) (xs := #[.tmp 56, .tmp 58]) rfl ?_); (try (refine gate_guard (by rfl) ?_; dsimp only)); at_builtin; refine Kd.R_append (Kd.int .i64) (w0 := w) w.heap.size rfl (.tmp 56) (.tmp 58) 36 3 (.int .i64 0) 8 rfl Try.underlying36 info3 rfl (by decide) (by omega) u306001 x306001_1 x6_1 [.int .i64 x6_1] (fun k_ => (w.heap.size ≤ k_)) (fun _ => False) rfl rfl ?aP (fun _ hk => hk.elim) ?aF ?aO ?aB ?aS ?aL ?_; (case aP => exact rfl); (case aB => exact bw_); (case aF => exact (fun k_ hk => (Nat.le_trans (bz_ bw_) hk))); (case aO => exact (by (with_reducible repeat (first | apply Kd.R_alloc | apply Kd.R_drewN | apply Kd.R_drew)); exact HO_306001.out)); (case aS => exact (bz_ bw_)); (case aL => have := LMc46.out; omega); intro v214 w52 ho hb hg hat; rw [← Ny213.out] at ho; have n0_ := A_ (blk_grown (g := gb302) (o := .cells #[.bool a0_0, .slice A0_1 l0_1.length c0_1] 38 (0, 0)) bk_ hg (Kd.R_ne HO_306001.out BK302.out (by decide))); have n1_ := A_ (blk_grown (g := gb303) (o := .cells #[.bool a1_0, .slice A1_1 l1_1.length c1_1] 38 (0, 0)) bk_ hg (Kd.R_ne HO_306001.out BK303.out (by decide))); have n2_ := A_ (blk_grown (g := gb304) (o := .cells #[.bool false, .slice none 0 0] 38 (0, 0)) bk_ hg (Kd.R_ne HO_306001.out BK304.out (by decide))); have n3_ := A_ (blk_grown (g := gb305) (o := .cells #[.bool a0_0, u306001] 38 (0, 0)) bk_ hg (Kd.R_ne HO_306001.out BK305.out (by decide))); have n4_ := A_ (hb); have n5_ := A_ (ho); clear BK302; clear BK303; clear BK304; clear BK305; clear HB; clear HO_306001; have BK302 := n0_; have BK303 := n1_; have BK304 := n2_; have BK305 := n3_; have HB := n4_; have HO215 := n5_; clear n0_ n1_ n2_ n3_ n4_ n5_; clear ho hb hg hat; obtain ⟨Ao53, co53, eo53⟩ := Kd.R_slice HO215.out; subst eo53; have hcz54_0 : w52.cell? ⟨gb305, 0, none⟩ = some (.bool a0_0) := (bc_ BK305.out 0).trans rfl; have hcz54_1 : w52.cell? ⟨gb305, 1, none⟩ = some (u306001) := (bc_ BK305.out 1).trans rfl; have hfz54_0 := bf_ BK305.out 0; have hfz54_1 := bf_ BK305.out 1) | ((with_reducible refine gate_store (t := 36) (p := 60) rfl ?_); (try (rw [drewN_self w52]; generalize hq_ : World.drewN w52 _ = w52; have n0_ := A_ (Kd.R_at hq_ HO215.out); have n1_ := A_ (blk_at hq_ BK302.out); have n2_ := A_ (blk_at hq_ BK303.out); have n3_ := A_ (blk_at hq_ BK304.out); have n4_ := A_ (blk_at hq_ BK305.out); have n5_ := A_ (below_at hq_ HB.out); clear hq_ HO215 BK302 BK303 BK304 BK305 HB; have HO215 := n0_; have BK302 := n1_; have BK303 := n2_; have BK304 := n3_; have BK305 := n4_; have HB := n5_; clear n0_ n1_ n2_ n3_ n4_ n5_)); (first | (refine store_event (t := 36) (p := 60) (v := ?vo_w55) (w1 := (w52.setCell ⟨gb305, 1, none⟩ (.slice Ao53 y213.length co53))) ?hg ?ho ?hn ?hr ?_; (case ho => rfl); (case hg => rfl); (case hn => rfl); (case hr => first | (go_simp; done) | (go_simp; rfl)); intro w55 hw) | (refine store_event (t := 36) (p := 60) (v := ?vo_w55) (w1 := ((w52.drewN ?ndq_w55).setCell ⟨gb305, 1, none⟩ (.slice Ao53 y213.length co53))) ?hg ?ho ?hn ?hr ?_; (case ho => rfl); (case hg => rfl); (case hn => rfl); (case hr => first | (go_simp; done) | (go_simp; rfl)); intro w55 hw; rw [sd_eq] at hw)); have n0_ : Aside0 (Kd.R (Kd.int .i64) 3 w55 w.heap.size (fun k_ => (w.heap.size ≤ k_)) (.slice Ao53 y213.length co53) y213) := ⟨(by rw [hw]; first | (with_reducible exact (by (with_reducible repeat (first | apply Kd.R_alloc | apply Kd.R_drewN | apply Kd.R_drew)); exact Kd.R_mono (Kd.R_far (p := ⟨gb305, 1, none⟩) (Kd.R_types HO215.out BK305.out (by decide)) (fun _ hk => hk.2) (.slice Ao53 y213.length co53)) (fun _ hk => hk.1))) | (exact grown_dn ((by (with_reducible repeat (first | apply Kd.R_alloc | apply Kd.R_drewN | apply Kd.R_drew)); exact Kd.R_mono (Kd.R_far (p := ⟨gb305, 1, none⟩) (Kd.R_types HO215.out BK305.out (by decide)) (fun _ hk => hk.2) (.slice Ao53 y213.length co53)) (fun _ hk => hk.1))) _) | (exact pn_ ((by (with_reducible repeat (first | apply Kd.R_alloc | apply Kd.R_drewN | apply Kd.R_drew)); exact Kd.R_mono (Kd.R_far (p := ⟨gb305, 1, none⟩) (Kd.R_types HO215.out BK305.out (by decide)) (fun _ hk => hk.2) (.slice Ao53 y213.length co53)) (fun _ hk => hk.1))) _) | (exact Kd.R_drewN ((by (with_reducible repeat (first | apply Kd.R_alloc | apply Kd.R_drewN | apply Kd.R_drew)); exact Kd.R_mono (Kd.R_far (p := ⟨gb305, 1, none⟩) (Kd.R_types HO215.out BK305.out (by decide)) (fun _ hk => hk.2) (.slice Ao53 y213.length co53)) (fun _ hk => hk.1))) _) | exact (by (with_reducible repeat (first | apply Kd.R_alloc | apply Kd.R_drewN | apply Kd.R_drew)); exact Kd.R_mono (Kd.R_far (p := ⟨gb305, 1, none⟩) (Kd.R_types HO215.out BK305.out (by decide)) (fun _ hk => hk.2) (.slice Ao53 y213.length co53)) (fun _ hk => hk.1)))⟩; have n1_ : Aside0 (w55.heap[gb302]? = some (.cells #[.bool a0_0, .slice A0_1 l0_1.length c0_1] 38 (0, 0))) := ⟨(by rw [hw]; first | (with_reducible exact bk_) | (exact grown_dn (bk_) _) | (exact pn_ (bk_) _) | (exact Kd.R_drewN (bk_) _) | exact bk_)⟩; have n2_ : Aside0 (w55.heap[gb303]? = some (.cells #[.bool a1_0, .slice A1_1 l1_1.length c1_1] 38 (0, 0))) := ⟨(by rw [hw]; first | (with_reducible exact bk_) | (exact grown_dn (bk_) _) | (exact pn_ (bk_) _) | (exact Kd.R_drewN (bk_) _) | exact bk_)⟩; have n3_ : Aside0 (w55.heap[gb304]? = some (.cells #[.bool false, .slice none 0 0] 38 (0, 0))) := ⟨(by rw [hw]; first | (with_reducible exact bk_) | (exact grown_dn (bk_) _) | (exact pn_ (bk_) _) | (exact Kd.R_drewN (bk_) _) | exact bk_)⟩; have n4_ : Aside0 (w55.heap[gb305]? = some (.cells #[.bool a0_0, .slice Ao53 y213.length co53] 38 (0, 0))) := ⟨(by rw [hw]; first | (with_reducible exact (by (with_reducible repeat (first | refine bn_ ?_ _ | refine bd_ ?_ | refine ba_ ?_ _)); refine bp_ (cs := #[.bool a0_0, u306001]) ?_ 1 _ rfl; (with_reducible repeat (first | refine bn_ ?_ _ | refine bd_ ?_ | refine ba_ ?_ _)); exact BK305.out)) | (exact grown_dn ((by (with_reducible repeat (first | refine bn_ ?_ _ | refine bd_ ?_ | refine ba_ ?_ _)); refine bp_ (cs := #[.bool a0_0, u306001]) ?_ 1 _ rfl; (with_reducible repeat (first | refine bn_ ?_ _ | refine bd_ ?_ | refine ba_ ?_ _)); exact BK305.out)) _) | (exact pn_ ((by (with_reducible repeat (first | refine bn_ ?_ _ | refine bd_ ?_ | refine ba_ ?_ _)); refine bp_ (cs := #[.bool a0_0, u306001]) ?_ 1 _ rfl; (with_reducible repeat (first | refine bn_ ?_ _ | refine bd_ ?_ | refine ba_ ?_ _)); exact BK305.out)) _) | (exact Kd.R_drewN ((by (with_reducible repeat (first | refine bn_ ?_ _ | refine bd_ ?_ | refine ba_ ?_ _)); refine bp_ (cs := #[.bool a0_0, u306001]) ?_ 1 _ rfl; (with_reducible repeat (first | refine bn_ ?_ _ | refine bd_ ?_ | refine ba_ ?_ _)); exact BK305.out)) _) | exact (by (with_reducible repeat (first | refine bn_ ?_ _ | refine bd_ ?_ | refine ba_ ?_ _)); refine bp_ (cs := #[.bool a0_0, u306001]) ?_ 1 _ rfl; (with_reducible repeat (first | refine bn_ ?_ _ | refine bd_ ?_ | refine ba_ ?_ _)); exact BK305.out))⟩; have n5_ : Aside0 (Below w.heap.size w w55) := ⟨(by rw [hw]; first | (with_reducible exact bw_) | (exact grown_dn (bw_) _) | (exact pn_ (bw_) _) | (exact Kd.R_drewN (bw_) _) | exact bw_)⟩; clear hw; clear HO215; clear BK302; clear BK303; clear BK304; clear BK305; clear HB; have HO215 := n0_; have BK302 := n1_; have BK303 := n2_; have BK304 := n3_; have BK305 := n4_; have HB := n5_; clear n0_ n1_ n2_ n3_ n4_ n5_; have hcz56_0 : w55.cell? ⟨gb305, 0, none⟩ = some (.bool a0_0) := (bc_ BK305.out 0).trans rfl; have hcz56_1 : w55.cell? ⟨gb305, 1, none⟩ = some (.slice Ao53 y213.length co53) := (bc_ BK305.out 1).trans rfl; have hfz56_0 := bf_ BK305.out 0; have hfz56_1 := bf_ BK305.out 1) | (go_at_call 45; (with_reducible refine (clevisref01_clean.calls kj16 a0_0 (fun k_ => some k_ = (.slice Ao53 y213.length co53 : Value).ownBlock) _ _ y213 t216 t217 _ ?side1 A47.out).mono ?_); (case side1 => exact Kd.R_V (Kd.R_tight rfl (Kd.R_types (Kd.R_types (Kd.R_types (Kd.R_types (HO215.out) BK302.out (by decide)) BK303.out (by decide)) BK304.out (by decide)) BK305.out (by decide)))); rintro e w57 ⟨v218, rfl, ho0, hb⟩; have n0_ := A_ (Kd.R_below (by (with_reducible repeat (first | apply Kd.R_alloc | apply Kd.R_drewN | apply Kd.R_drew)); exact HO215.out) hb); have n1_ := A_ (Kd.V_lower (vm_ (ok' := fun k_ => (w.heap.size ≤ k_) ∧ k_ ≠ gb302 ∧ k_ ≠ gb303 ∧ k_ ≠ gb304 ∧ k_ ≠ gb305) ho0 (fun k_ hk_ => ⟨Or.elim hk_ (fun hs_ => ((Kd.R_types (Kd.R_types (Kd.R_types (Kd.R_types (HO215.out) BK302.out (by decide)) BK303.out (by decide)) BK304.out (by decide)) BK305.out (by decide)).1 k_ hs_.symm).1.1.1.1) (fun hn_ => (Nat.le_trans (bz_ bw_) hn_)), Or.elim hk_ (fun hs_ => ((Kd.R_types (Kd.R_types (Kd.R_types (Kd.R_types (HO215.out) BK302.out (by decide)) BK303.out (by decide)) BK304.out (by decide)) BK305.out (by decide)).1 k_ hs_.symm).1.1.1.2) (fun hn_ => (Kd.freshB (g := gb302) (o := .cells #[.bool a0_0, .slice A0_1 l0_1.length c0_1] 38 (0, 0)) bk_ k_ hn_)), Or.elim hk_ (fun hs_ => ((Kd.R_types (Kd.R_types (Kd.R_types (Kd.R_types (HO215.out) BK302.out (by decide)) BK303.out (by decide)) BK304.out (by decide)) BK305.out (by decide)).1 k_ hs_.symm).1.1.2) (fun hn_ => (Kd.freshB (g := gb303) (o := .cells #[.bool a1_0, .slice A1_1 l1_1.length c1_1] 38 (0, 0)) bk_ k_ hn_)), Or.elim hk_ (fun hs_ => ((Kd.R_types (Kd.R_types (Kd.R_types (Kd.R_types (HO215.out) BK302.out (by decide)) BK303.out (by decide)) BK304.out (by decide)) BK305.out (by decide)).1 k_ hs_.symm).1.2) (fun hn_ => (Kd.freshB (g := gb304) (o := .cells #[.bool false, .slice none 0 0] 38 (0, 0)) bk_ k_ hn_)), Or.elim hk_ (fun hs_ => ((Kd.R_types (Kd.R_types (Kd.R_types (Kd.R_types (HO215.out) BK302.out (by decide)) BK303.out (by decide)) BK304.out (by decide)) BK305.out (by decide)).1 k_ hs_.symm).2) (fun hn_ => (Kd.freshB (g := gb305) (o := .cells #[.bool a0_0, .slice Ao53 y213.length co53] 38 (0, 0)) bk_ k_ hn_))⟩)) (bz_ bw_)); have n2_ := A_ (kb_ BK302 hb); have n3_ := A_ (kb_ BK303 hb); have n4_ := A_ (kb_ BK304 hb); have n5_ := A_ (kb_ BK305 hb); have n6_ := A_ (bs_ bw_ hb); clear HO215; clear BK302; clear BK303; clear BK304; clear BK305; clear HB; have HO215 := n0_; have HO219 := n1_; have BK302 := n2_; have BK303 := n3_; have BK304 := n4_; have BK305 := n5_; have HB := n6_; clear n0_ n1_ n2_ n3_ n4_ n5_ n6_; (try clear hb); (try clear hb2); (try clear hk); (try clear hi); (try clear ho0); have hnb58 := NB304_302.out; have hnc58 := NB302_304.out; have hnb59 := NB304_303.out; have hnc59 := NB303_304.out; have hcz60_0 : w57.cell? ⟨gb304, 0, none⟩ = some (.bool false) := (bc_ BK304.out 0).trans rfl; have hcz60_1 : w57.cell? ⟨gb304, 1, none⟩ = some (.slice none 0 0) := (bc_ BK304.out 1).trans rfl; have hfz60_0 := bf_ BK304.out 0; have hfz60_1 := bf_ BK304.out 1; obtain ⟨Ao61, co61, eo61⟩ := Kd.V_slice HO219.out; subst eo61))
        refine bodyPost_ret (results_cell_row rfl _ _ gb304 38 #[.bool t216, .slice Ao61 t217.length co61] (0, 0) _ rfl (by (with_reducible repeat (first | refine bn_ ?_ _ | refine bd_ ?_ | refine ba_ ?_ _)); refine bp_ (cs := #[.bool t216, .slice none 0 0]) ?_ 1 _ rfl; (with_reducible repeat (first | refine bn_ ?_ _ | refine bd_ ?_ | refine ba_ ?_ _)); refine bp_ (cs := #[.bool false, .slice none 0 0]) ?_ 0 _ rfl; (with_reducible repeat (first | refine bn_ ?_ _ | refine bd_ ?_ | refine ba_ ?_ _)); exact BK304.out) Try.underlying38 rfl (by kernel_rfl)) rfl ?_
        exact ⟨_, by first | rfl | (simp [errW_none, errW_some] <;> rfl) | (simp [*, errW_none, errW_some] <;> rfl), by (with_reducible repeat (first | apply va_ | apply vn_ | apply vd_)); exact vm_ (Kd.V_far (p := ⟨gb304, 1, none⟩) (Kd.V_far (p := ⟨gb304, 0, none⟩) (vm_ HO219.out (fun k_ hk => (⟨hk, hk.2.2.2.1⟩ : _ ∧ k_ ≠ gb304))) (fun _ hk => hk.2) (.bool t216)) (fun _ hk => hk.2) (.slice Ao61 t217.length co61)) (fun _ hk => hk.1.1), bw_⟩
       ·
        rw [if_neg c46] at H
        exact absurd H (by simp)
 ·
  rw [if_neg c3] at H
  have c3b0 : (a0_0 == a1_0) = false := by simpa using c3
  (try (have c3b1 : decide (a0_0 = a1_0) = false := by simpa using c3))
  (try (have c3b2 : (a0_0 == a1_0) = false := by simpa using c3))
  (try (have c3b3 : ¬ (a0_0 = a1_0) := by simpa using c3))
  clear c3
  replace H := os_ H
  obtain ⟨t220, A620, H⟩ := H
  replace H : (if t220 < 0 then (clevisref01_Add.l1 k 0 0 a1_0 l1_1 a0_0 l0_1 a1_0 ([] : List Int)) else (clevisref01_Add.l102 k 0 0 a0_0 l0_1 a1_0 l1_1 a0_0 ([] : List Int))) = some (r1, r2) := H
  have A62 := A_ A620
  clear A620
  by_cases c63 : t220 < 0
  ·
   rw [if_pos c63] at H
   have c63b0 : decide (t220 < 0) = true := decide_eq_true c63
   clear c63
   have H' := A_ H
   clear H
   go_enter Try.func20, Try.ntmps20
   go_wp2_with (first | ((with_reducible refine gate_dst (N := 2) rfl ?_); (try (refine gate_guard (by rfl) ?_; dsimp only)); refine box_event ?hg (N := 2) ?hd (cs := #[.bool a0_0, .slice A0_1 l0_1.length c0_1]) (t := 38) ?hr ?_; (case hd => rfl); (case hg => rfl); (case hr => first | (go_simp; done) | (go_simp; rfl)); intro gb302 hg w64 hbox hb; have n0_ := A_ (bs_ bw_ hb); have n1_ := A_ (hbox); have n2_ := A_ ((by rw [hg]; exact (bz_ bw_) : w.heap.size ≤ gb302)); have n3_ := A_ ((by rw [hg]; exact (bz_ bw_) : w.heap.size ≤ gb302)); clear HB; have HB := n0_; have BK302 := n1_; have GW302 := n2_; have GE302 := n3_; clear n0_ n1_ n2_ n3_; clear hb hbox hg) | ((with_reducible refine gate_dst (N := 3) rfl ?_); (try (refine gate_guard (by rfl) ?_; dsimp only)); refine box_event ?hg (N := 3) ?hd (cs := #[.bool a1_0, .slice A1_1 l1_1.length c1_1]) (t := 38) ?hr ?_; (case hd => rfl); (case hg => rfl); (case hr => first | (go_simp; done) | (go_simp; rfl)); intro gb303 hg w65 hbox hb; have n0_ := A_ (kb_ BK302 hb); have n1_ := A_ (bs_ bw_ hb); have n2_ := A_ (hbox); have n3_ := A_ ((by rw [hg]; exact (bz_ bw_) : w.heap.size ≤ gb303)); have n4_ := A_ ((by rw [hg]; exact (bz_ bw_) : w.heap.size ≤ gb303)); have n5_ := A_ ((by rw [hg]; exact nl_ (lt_ BK302) : gb302 ≠ gb303)); have n6_ := A_ ((by rw [hg]; exact ng_ (lt_ BK302) : gb303 ≠ gb302)); clear BK302; clear HB; have BK302 := n0_; have HB := n1_; have BK303 := n2_; have GW303 := n3_; have GE303 := n4_; have NB302_303 := n5_; have NB303_302 := n6_; clear n0_ n1_ n2_ n3_ n4_ n5_ n6_; clear hb hbox hg) | ((with_reducible refine gate_dst (N := 4) rfl ?_); (try (refine gate_guard (by rfl) ?_; dsimp only)); refine box_event ?hg (N := 4) ?hd (cs := #[.bool false, .slice none 0 0]) (t := 38) ?hr ?_; (case hd => rfl); (case hg => rfl); (case hr => first | (go_simp; done) | (go_simp; rfl)); intro gb304 hg w66 hbox hb; have n0_ := A_ (kb_ BK302 hb); have n1_ := A_ (kb_ BK303 hb); have n2_ := A_ (bs_ bw_ hb); have n3_ := A_ (hbox); have n4_ := A_ ((by rw [hg]; exact (bz_ bw_) : w.heap.size ≤ gb304)); have n5_ := A_ ((by rw [hg]; exact (bz_ bw_) : w.heap.size ≤ gb304)); have n6_ := A_ ((by rw [hg]; exact nl_ (lt_ BK302) : gb302 ≠ gb304)); have n7_ := A_ ((by rw [hg]; exact ng_ (lt_ BK302) : gb304 ≠ gb302)); have n8_ := A_ ((by rw [hg]; exact nl_ (lt_ BK303) : gb303 ≠ gb304)); have n9_ := A_ ((by rw [hg]; exact ng_ (lt_ BK303) : gb304 ≠ gb303)); clear BK302; clear BK303; clear HB; have BK302 := n0_; have BK303 := n1_; have HB := n2_; have BK304 := n3_; have GW304 := n4_; have GE304 := n5_; have NB302_304 := n6_; have NB304_302 := n7_; have NB303_304 := n8_; have NB304_303 := n9_; clear n0_ n1_ n2_ n3_ n4_ n5_ n6_ n7_ n8_ n9_; clear hb hbox hg; have hnb67 := NB302_303.out; have hnc67 := NB303_302.out; have hnb68 := NB302_304.out; have hnc68 := NB304_302.out; have hcz69_0 : w66.cell? ⟨gb302, 0, none⟩ = some (.bool a0_0) := (bc_ BK302.out 0).trans rfl; have hcz69_1 : w66.cell? ⟨gb302, 1, none⟩ = some (.slice A0_1 l0_1.length c0_1) := (bc_ BK302.out 1).trans rfl; have hfz69_0 := bf_ BK302.out 0; have hfz69_1 := bf_ BK302.out 1; have hnb70 := NB303_304.out; have hnc70 := NB304_303.out; have hcz71_0 : w66.cell? ⟨gb303, 0, none⟩ = some (.bool a1_0) := (bc_ BK303.out 0).trans rfl; have hcz71_1 : w66.cell? ⟨gb303, 1, none⟩ = some (.slice A1_1 l1_1.length c1_1) := (bc_ BK303.out 1).trans rfl; have hfz71_0 := bf_ BK303.out 0; have hfz71_1 := bf_ BK303.out 1) | (go_at_call 36; (with_reducible refine (clevisref01_size.calls k _ _ l0_1 _ _ l1_1 t220 _ ?side1 ?side2 ?side3 ?side4 A62.out).mono ?_); (case side1 => repeat (first | exact (cb_ HR0_1.out HB.out) | (with_reducible refine ca_ ?_ _) | (with_reducible refine cn_ ?_ _) | (with_reducible refine cd_ ?_))); (case side2 => exact HC0_1.out); (case side3 => repeat (first | exact (cb_ HR1_1.out HB.out) | (with_reducible refine ca_ ?_ _) | (with_reducible refine cn_ ?_ _) | (with_reducible refine cd_ ?_))); (case side4 => exact HC1_1.out); rintro e w' ⟨rfl, ⟨nd, rfl⟩⟩; (try first | exact ⟨rfl, _, dd_ _ _ _⟩ | exact ⟨rfl, _, Eq.trans (dd_ _ _ _) (congrArg (World.drewN _) (Nat.add_assoc _ _ _))⟩)) | ((with_reducible refine gate_dst (N := 9) rfl ?_); (try (refine gate_guard (by rfl) ?_; dsimp only)); refine box_event ?hg (N := 9) ?hd (cs := #[.bool false, .slice none 0 0]) (t := 38) ?hr ?_; (case hd => rfl); (case hg => rfl); (case hr => first | (go_simp; done) | (go_simp; rfl)); intro gb309 hg w72 hbox hb; have n0_ := A_ (blk_below (g := gb302) (o := .cells #[.bool a1_0, .slice A1_1 l1_1.length c1_1] 38 (0, 0)) (by (with_reducible repeat (first | refine bn_ ?_ _ | refine bd_ ?_ | refine ba_ ?_ _)); refine br_ ?_ NB302_303.out _; (with_reducible repeat (first | refine bn_ ?_ _ | refine bd_ ?_ | refine ba_ ?_ _)); refine br_ ?_ NB302_303.out _; (with_reducible repeat (first | refine bn_ ?_ _ | refine bd_ ?_ | refine ba_ ?_ _)); refine bp_ (cs := #[.bool a1_0, .slice A0_1 l0_1.length c0_1]) ?_ 1 _ rfl; (with_reducible repeat (first | refine bn_ ?_ _ | refine bd_ ?_ | refine ba_ ?_ _)); refine bp_ (cs := #[.bool a0_0, .slice A0_1 l0_1.length c0_1]) ?_ 0 _ rfl; (with_reducible repeat (first | refine bn_ ?_ _ | refine bd_ ?_ | refine ba_ ?_ _)); exact BK302.out) hb); have n1_ := A_ (blk_below (g := gb303) (o := .cells #[.bool a0_0, .slice A0_1 l0_1.length c0_1] 38 (0, 0)) (by (with_reducible repeat (first | refine bn_ ?_ _ | refine bd_ ?_ | refine ba_ ?_ _)); refine bp_ (cs := #[.bool a0_0, .slice A1_1 l1_1.length c1_1]) ?_ 1 _ rfl; (with_reducible repeat (first | refine bn_ ?_ _ | refine bd_ ?_ | refine ba_ ?_ _)); refine bp_ (cs := #[.bool a1_0, .slice A1_1 l1_1.length c1_1]) ?_ 0 _ rfl; (with_reducible repeat (first | refine bn_ ?_ _ | refine bd_ ?_ | refine ba_ ?_ _)); refine br_ ?_ NB303_302.out _; (with_reducible repeat (first | refine bn_ ?_ _ | refine bd_ ?_ | refine ba_ ?_ _)); refine br_ ?_ NB303_302.out _; (with_reducible repeat (first | refine bn_ ?_ _ | refine bd_ ?_ | refine ba_ ?_ _)); exact BK303.out) hb); have n2_ := A_ (kb_ BK304 hb); have n3_ := A_ (bs_ bw_ hb); have n4_ := A_ (hbox); have n5_ := A_ ((by rw [hg]; exact (bz_ bw_) : w.heap.size ≤ gb309)); have n6_ := A_ ((by rw [hg]; exact (bz_ bw_) : w.heap.size ≤ gb309)); have n7_ := A_ ((by rw [hg]; exact nl_ (blk_lt (g := gb302) (o := .cells #[.bool a1_0, .slice A1_1 l1_1.length c1_1] 38 (0, 0)) (by (with_reducible repeat (first | refine bn_ ?_ _ | refine bd_ ?_ | refine ba_ ?_ _)); refine br_ ?_ NB302_303.out _; (with_reducible repeat (first | refine bn_ ?_ _ | refine bd_ ?_ | refine ba_ ?_ _)); refine br_ ?_ NB302_303.out _; (with_reducible repeat (first | refine bn_ ?_ _ | refine bd_ ?_ | refine ba_ ?_ _)); refine bp_ (cs := #[.bool a1_0, .slice A0_1 l0_1.length c0_1]) ?_ 1 _ rfl; (with_reducible repeat (first | refine bn_ ?_ _ | refine bd_ ?_ | refine ba_ ?_ _)); refine bp_ (cs := #[.bool a0_0, .slice A0_1 l0_1.length c0_1]) ?_ 0 _ rfl; (with_reducible repeat (first | refine bn_ ?_ _ | refine bd_ ?_ | refine ba_ ?_ _)); exact BK302.out)) : gb302 ≠ gb309)); have n8_ := A_ ((by rw [hg]; exact ng_ (blk_lt (g := gb302) (o := .cells #[.bool a1_0, .slice A1_1 l1_1.length c1_1] 38 (0, 0)) (by (with_reducible repeat (first | refine bn_ ?_ _ | refine bd_ ?_ | refine ba_ ?_ _)); refine br_ ?_ NB302_303.out _; (with_reducible repeat (first | refine bn_ ?_ _ | refine bd_ ?_ | refine ba_ ?_ _)); refine br_ ?_ NB302_303.out _; (with_reducible repeat (first | refine bn_ ?_ _ | refine bd_ ?_ | refine ba_ ?_ _)); refine bp_ (cs := #[.bool a1_0, .slice A0_1 l0_1.length c0_1]) ?_ 1 _ rfl; (with_reducible repeat (first | refine bn_ ?_ _ | refine bd_ ?_ | refine ba_ ?_ _)); refine bp_ (cs := #[.bool a0_0, .slice A0_1 l0_1.length c0_1]) ?_ 0 _ rfl; (with_reducible repeat (first | refine bn_ ?_ _ | refine bd_ ?_ | refine ba_ ?_ _)); exact BK302.out)) : gb309 ≠ gb302)); have n9_ := A_ ((by rw [hg]; exact nl_ (blk_lt (g := gb303) (o := .cells #[.bool a0_0, .slice A0_1 l0_1.length c0_1] 38 (0, 0)) (by (with_reducible repeat (first | refine bn_ ?_ _ | refine bd_ ?_ | refine ba_ ?_ _)); refine bp_ (cs := #[.bool a0_0, .slice A1_1 l1_1.length c1_1]) ?_ 1 _ rfl; (with_reducible repeat (first | refine bn_ ?_ _ | refine bd_ ?_ | refine ba_ ?_ _)); refine bp_ (cs := #[.bool a1_0, .slice A1_1 l1_1.length c1_1]) ?_ 0 _ rfl; (with_reducible repeat (first | refine bn_ ?_ _ | refine bd_ ?_ | refine ba_ ?_ _)); refine br_ ?_ NB303_302.out _; (with_reducible repeat (first | refine bn_ ?_ _ | refine bd_ ?_ | refine ba_ ?_ _)); refine br_ ?_ NB303_302.out _; (with_reducible repeat (first | refine bn_ ?_ _ | refine bd_ ?_ | refine ba_ ?_ _)); exact BK303.out)) : gb303 ≠ gb309)); have n10_ := A_ ((by rw [hg]; exact ng_ (blk_lt (g := gb303) (o := .cells #[.bool a0_0, .slice A0_1 l0_1.length c0_1] 38 (0, 0)) (by (with_reducible repeat (first | refine bn_ ?_ _ | refine bd_ ?_ | refine ba_ ?_ _)); refine bp_ (cs := #[.bool a0_0, .slice A1_1 l1_1.length c1_1]) ?_ 1 _ rfl; (with_reducible repeat (first | refine bn_ ?_ _ | refine bd_ ?_ | refine ba_ ?_ _)); refine bp_ (cs := #[.bool a1_0, .slice A1_1 l1_1.length c1_1]) ?_ 0 _ rfl; (with_reducible repeat (first | refine bn_ ?_ _ | refine bd_ ?_ | refine ba_ ?_ _)); refine br_ ?_ NB303_302.out _; (with_reducible repeat (first | refine bn_ ?_ _ | refine bd_ ?_ | refine ba_ ?_ _)); refine br_ ?_ NB303_302.out _; (with_reducible repeat (first | refine bn_ ?_ _ | refine bd_ ?_ | refine ba_ ?_ _)); exact BK303.out)) : gb309 ≠ gb303)); have n11_ := A_ ((by rw [hg]; exact nl_ (lt_ BK304) : gb304 ≠ gb309)); have n12_ := A_ ((by rw [hg]; exact ng_ (lt_ BK304) : gb309 ≠ gb304)); clear BK302; clear BK303; clear BK304; clear HB; have BK302 := n0_; have BK303 := n1_; have BK304 := n2_; have HB := n3_; have BK309 := n4_; have GW309 := n5_; have GE309 := n6_; have NB302_309 := n7_; have NB309_302 := n8_; have NB303_309 := n9_; have NB309_303 := n10_; have NB304_309 := n11_; have NB309_304 := n12_; clear n0_ n1_ n2_ n3_ n4_ n5_ n6_ n7_ n8_ n9_ n10_ n11_ n12_; clear hb hbox hg; have hnb73 := NB309_302.out; have hnc73 := NB302_309.out; have hnb74 := NB309_303.out; have hnc74 := NB303_309.out; have hnb75 := NB309_304.out; have hnc75 := NB304_309.out; have hcz76_0 : w72.cell? ⟨gb309, 0, none⟩ = some (.bool false) := (bc_ BK309.out 0).trans rfl; have hcz76_1 : w72.cell? ⟨gb309, 1, none⟩ = some (.slice none 0 0) := (bc_ BK309.out 1).trans rfl; have hfz76_0 := bf_ BK309.out 0; have hfz76_1 := bf_ BK309.out 1))
   (try simp only [Act.put, sA_, sZ_, sS_])
   go_loopg [10, 11] k (fun kq v10 v11 w' => ∃ (x10_1 : Int) (x11_1 : Int) (x310001_1 : List Int) (u310001 : Value), v10 = .int .i64 x10_1 ∧ v11 = .int .i64 x11_1 ∧ Aside0 (clevisref01_Add.l1 kq x10_1 x11_1 a1_0 l1_1 a0_0 l0_1 a1_0 x310001_1 = some (r1, r2)) ∧ Aside0 (kq ≤ k) ∧ Aside0 (Kd.R (Kd.int .i64) 3 w' w.heap.size (fun k_ => (w.heap.size ≤ k_)) u310001 x310001_1) ∧ Aside0 (w'.heap[gb302]? = some (.cells #[.bool a1_0, (.slice A1_1 l1_1.length c1_1)] 38 (0, 0))) ∧ Aside0 (w'.heap[gb303]? = some (.cells #[.bool a0_0, (.slice A0_1 l0_1.length c0_1)] 38 (0, 0))) ∧ Aside0 (w'.heap[gb304]? = some (.cells #[.bool false, (.slice none 0 0)] 38 (0, 0))) ∧ Aside0 (w'.heap[gb309]? = some (.cells #[.bool a1_0, u310001] 38 (0, 0))) ∧ Aside0 (Below w.heap.size w w'))
   case atStart => exact ⟨(0), (0), (([] : List Int)), (.slice none 0 0), (by first | rfl | (simp; done) | (simp [*]; done)), (by first | rfl | (simp; done) | (simp [*]; done)), H', ⟨Nat.le_refl _⟩, ⟨by first | exact Kd.R_nil _ _ _ _ _ | exact Kd.N_nil _ _ _ _ _ | exact Kd.V_nil _ _ _ _ _ | exact Kd.Q_nil _ _ _ _ _ | exact Kd.S_nil _ _ _ _ _⟩, ⟨bk_⟩, ⟨bk_⟩, ⟨bk_⟩, ⟨by (with_reducible repeat (first | refine bn_ ?_ _ | refine bd_ ?_ | refine ba_ ?_ _)); refine bp_ (cs := #[.bool a1_0, .slice none 0 0]) ?_ 1 _ rfl; (with_reducible repeat (first | refine bn_ ?_ _ | refine bd_ ?_ | refine ba_ ?_ _)); refine bp_ (cs := #[.bool false, .slice none 0 0]) ?_ 0 _ rfl; (with_reducible repeat (first | refine bn_ ?_ _ | refine bd_ ?_ | refine ba_ ?_ _)); exact BK309.out⟩, ⟨bw_⟩⟩
   case round =>
    clear H'
    try clear c1
    try clear c2
    try clear p2
    try clear c3
    try clear c3b0
    try clear c3b1
    try clear c3b2
    try clear c4
    try clear c5
    try clear c6
    try clear p6
    try clear c7
    try clear c8
    try clear c10
    try clear c13
    try clear c14
    try clear c15
    try clear c18
    try clear c18b0
    try clear c19
    try clear c20
    try clear c21
    try clear c23
    try clear c24
    try clear c25
    try clear c27
    try clear c28
    try clear c30
    try clear c33
    try clear c34
    try clear c35
    try clear c36
    try clear c38
    try clear c39
    try clear c41
    try clear c46
    try clear c48
    try clear c49
    try clear c50
    try clear c58
    try clear c59
    try clear c63
    try clear c63b0
    try clear p64
    try clear c67
    try clear c68
    try clear c70
    try clear c73
    try clear c74
    try clear c75
    try clear hcz11_0
    try clear hcz11_1
    try clear hcz16_0
    try clear hcz16_1
    try clear hcz22_0
    try clear hcz22_1
    try clear hcz26_0
    try clear hcz26_1
    try clear hcz29_0
    try clear hcz29_1
    try clear hcz37_0
    try clear hcz37_1
    try clear hcz40_0
    try clear hcz40_1
    try clear hcz42_0
    try clear hcz42_1
    try clear hcz45_0
    try clear hcz45_1
    try clear hcz51_0
    try clear hcz51_1
    try clear hcz54_0
    try clear hcz54_1
    try clear hcz56_0
    try clear hcz56_1
    try clear hcz60_0
    try clear hcz60_1
    try clear hcz69_0
    try clear hcz69_1
    try clear hcz71_0
    try clear hcz71_1
    try clear hcz76_0
    try clear hcz76_1
    try clear hcz9_0
    try clear hcz9_1
    try clear hfz11_0
    try clear hfz11_1
    try clear hfz16_0
    try clear hfz16_1
    try clear hfz22_0
    try clear hfz22_1
    try clear hfz26_0
    try clear hfz26_1
    try clear hfz29_0
    try clear hfz29_1
    try clear hfz37_0
    try clear hfz37_1
    try clear hfz40_0
    try clear hfz40_1
    try clear hfz42_0
    try clear hfz42_1
    try clear hfz45_0
    try clear hfz45_1
    try clear hfz51_0
    try clear hfz51_1
    try clear hfz54_0
    try clear hfz54_1
    try clear hfz56_0
    try clear hfz56_1
    try clear hfz60_0
    try clear hfz60_1
    try clear hfz69_0
    try clear hfz69_1
    try clear hfz71_0
    try clear hfz71_1
    try clear hfz76_0
    try clear hfz76_1
    try clear hfz9_0
    try clear hfz9_1
    try clear p2
    obtain ⟨x10_1, x11_1, x310001_1, u310001, rfl, rfl, HA, HK1, HO_310001, BK302, BK303, BK304, BK309, HB⟩ := hrel
    cases gk with
    | zero => exact absurd HA.out (by simp [clevisref01_Add.l1])
    | succ k1 =>
     have H := HA.out
     clear HA
     simp only [clevisref01_Add.l1] at H
     by_cases c77 : x11_1 < (l1_1.length : Int)
     ·
      rw [if_pos c77] at H
      have c77b0 : decide (x11_1 < (l1_1.length : Int)) = true := decide_eq_true c77
      clear c77
      replace H := os_ H
      obtain ⟨t225, A780, H⟩ := H
      replace H : ((clevisref01_at.f l0_1 x11_1).bind fun t226 => (if (wrap64 ((wrap64 (t225 - t226)) - x10_1)) < 0 then (if x310001_1.length < 17592186044416 then (clevisref01_Add.l1 k1 1 (wrap64 (x11_1 + 1)) a1_0 l1_1 a0_0 l0_1 a1_0 (x310001_1 ++ [wrap64 ((wrap64 ((wrap64 (t225 - t226)) - x10_1)) + 65536)])) else (none)) else (if x310001_1.length < 17592186044416 then (clevisref01_Add.l1 k1 0 (wrap64 (x11_1 + 1)) a1_0 l1_1 a0_0 l0_1 a1_0 (x310001_1 ++ [wrap64 ((wrap64 (t225 - t226)) - x10_1)])) else (none)))) = some (r1, r2) := H
      have A78 := A_ A780
      clear A780
      replace H := os_ H
      obtain ⟨t226, A790, H⟩ := H
      replace H : (if (wrap64 ((wrap64 (t225 - t226)) - x10_1)) < 0 then (if x310001_1.length < 17592186044416 then (clevisref01_Add.l1 k1 1 (wrap64 (x11_1 + 1)) a1_0 l1_1 a0_0 l0_1 a1_0 (x310001_1 ++ [wrap64 ((wrap64 ((wrap64 (t225 - t226)) - x10_1)) + 65536)])) else (none)) else (if x310001_1.length < 17592186044416 then (clevisref01_Add.l1 k1 0 (wrap64 (x11_1 + 1)) a1_0 l1_1 a0_0 l0_1 a1_0 (x310001_1 ++ [wrap64 ((wrap64 (t225 - t226)) - x10_1)])) else (none))) = some (r1, r2) := H
      have A79 := A_ A790
      clear A790
      by_cases c80 : (wrap64 ((wrap64 (t225 - t226)) - x10_1)) < 0
      ·
       rw [if_pos c80] at H
       have c80b0 : decide ((wrap64 ((wrap64 (t225 - t226)) - x10_1)) < 0) = true := decide_eq_true c80
       (try (have c80b1 : decide ((IntKind.i64.wrap ((IntKind.i64.wrap (t225 - t226)) - x10_1)) < 0) = true := by first | exact (decide_eq_true c80) | (simp only [i64_w]; exact (decide_eq_true c80))))
       clear c80
       by_cases c81 : x310001_1.length < 17592186044416
       ·
        rw [if_pos c81] at H
        have LMc81 := A_ c81
        clear c81
        obtain ⟨y227, hy227⟩ : ∃ y_ : List Int, y_ = (x310001_1 ++ [wrap64 ((wrap64 ((wrap64 (t225 - t226)) - x10_1)) + 65536)]) := ⟨_, rfl⟩
        replace H : (clevisref01_Add.l1 k1 1 (wrap64 (x11_1 + 1)) a1_0 l1_1 a0_0 l0_1 a1_0 y227) = some (r1, r2) := by first | (rw [hy227]; with_reducible exact H) | (have H2_ := (Option.bind_some _ _).symm.trans H; rw [hy227]; with_reducible exact H2_) | (have H2_ := (Option.bind_some _ _).symm.trans H; with_reducible exact H2_) | with_reducible exact H | (rw [hy227]; exact H) | exact H
        have Ny227 := A_ hy227
        clear hy227
        have H' := A_ H
        clear H
        have hnb82 := NB302_303.out
        have hnc82 := NB303_302.out
        have hnb83 := NB302_304.out
        have hnc83 := NB304_302.out
        have hnb84 := NB302_309.out
        have hnc84 := NB309_302.out
        have hcz85_0 : wr.cell? ⟨gb302, 0, none⟩ = some (.bool a1_0) := (bc_ BK302.out 0).trans rfl
        have hcz85_1 : wr.cell? ⟨gb302, 1, none⟩ = some (.slice A1_1 l1_1.length c1_1) := (bc_ BK302.out 1).trans rfl
        have hfz85_0 := bf_ BK302.out 0
        have hfz85_1 := bf_ BK302.out 1
        go_wp2_with (first | (go_at_call 44; (with_reducible refine (clevisref01_at.calls _ _ l1_1 x11_1 t225 _ ?side1 ?side2 A78.out).mono ?_); (case side1 => repeat (first | exact (cb_ HR1_1.out HB.out) | (with_reducible refine ca_ ?_ _) | (with_reducible refine cn_ ?_ _) | (with_reducible refine cd_ ?_))); (case side2 => exact HC1_1.out); rintro e w' ⟨rfl, ⟨nd, rfl⟩⟩; (try first | exact ⟨rfl, _, dd_ _ _ _⟩ | exact ⟨rfl, _, Eq.trans (dd_ _ _ _) (congrArg (World.drewN _) (Nat.add_assoc _ _ _))⟩); have hnb86 := NB303_304.out; have hnc86 := NB304_303.out; have hnb87 := NB303_309.out; have hnc87 := NB309_303.out; have hcz88_0 : wr.cell? ⟨gb303, 0, none⟩ = some (.bool a0_0) := (bc_ BK303.out 0).trans rfl; have hcz88_1 : wr.cell? ⟨gb303, 1, none⟩ = some (.slice A0_1 l0_1.length c0_1) := (bc_ BK303.out 1).trans rfl; have hfz88_0 := bf_ BK303.out 0; have hfz88_1 := bf_ BK303.out 1) | (go_at_call 44; (with_reducible refine (clevisref01_at.calls _ _ l0_1 x11_1 t226 _ ?side1 ?side2 A79.out).mono ?_); (case side1 => repeat (first | exact (cb_ HR0_1.out bw_) | (with_reducible refine ca_ ?_ _) | (with_reducible refine cn_ ?_ _) | (with_reducible refine cd_ ?_))); (case side2 => exact HC0_1.out); rintro e w' ⟨rfl, ⟨nd, rfl⟩⟩; (try first | exact ⟨rfl, _, dd_ _ _ _⟩ | exact ⟨rfl, _, Eq.trans (dd_ _ _ _) (congrArg (World.drewN _) (Nat.add_assoc _ _ _))⟩); have hnb89 := NB309_304.out; have hnc89 := NB304_309.out; have hcz90_0 : wr.cell? ⟨gb309, 0, none⟩ = some (.bool a1_0) := (bc_ BK309.out 0).trans rfl; have hcz90_1 : wr.cell? ⟨gb309, 1, none⟩ = some (u310001) := (bc_ BK309.out 1).trans rfl; have hfz90_0 := bf_ BK309.out 0; have hfz90_1 := bf_ BK309.out 1) | ((with_reducible refine gate_builtin (b := .append) (xs := #[.tmp 97, .tmp 99]) rfl ?_); (try (refine gate_guard (by rfl) ?_; dsimp only)); at_builtin; refine Kd.R_append (Kd.int .i64) (w0 := w) w.heap.size rfl (.tmp 97) (.tmp 99) 36 3 (.int .i64 0) 8 rfl Try.underlying36 info3 rfl (by decide) (by omega) u310001 x310001_1 (wrap64 ((wrap64 ((wrap64 (t225 - t226)) - x10_1)) + 65536)) [.int .i64 (wrap64 ((wrap64 ((wrap64 (t225 - t226)) - x10_1)) + 65536))] (fun k_ => (w.heap.size ≤ k_)) (fun _ => False) rfl rfl ?aP (fun _ hk => hk.elim) ?aF ?aO ?aB ?aS ?aL ?_; (case aP => exact rfl); (case aB => exact bw_); (case aF => exact (fun k_ hk => (Nat.le_trans (bz_ bw_) hk))); (case aO => exact (by (with_reducible repeat (first | apply Kd.R_alloc | apply Kd.R_drewN | apply Kd.R_drew)); exact HO_310001.out)); (case aS => exact (bz_ bw_)); (case aL => have := LMc81.out; omega); intro v228 w91 ho hb hg hat; rw [← Ny227.out] at ho; have n0_ := A_ (blk_grown (g := gb302) (o := .cells #[.bool a1_0, .slice A1_1 l1_1.length c1_1] 38 (0, 0)) bk_ hg (Kd.R_ne HO_310001.out BK302.out (by decide))); have n1_ := A_ (blk_grown (g := gb303) (o := .cells #[.bool a0_0, .slice A0_1 l0_1.length c0_1] 38 (0, 0)) bk_ hg (Kd.R_ne HO_310001.out BK303.out (by decide))); have n2_ := A_ (blk_grown (g := gb304) (o := .cells #[.bool false, .slice none 0 0] 38 (0, 0)) bk_ hg (Kd.R_ne HO_310001.out BK304.out (by decide))); have n3_ := A_ (blk_grown (g := gb309) (o := .cells #[.bool a1_0, u310001] 38 (0, 0)) bk_ hg (Kd.R_ne HO_310001.out BK309.out (by decide))); have n4_ := A_ (hb); have n5_ := A_ (ho); clear BK302; clear BK303; clear BK304; clear BK309; clear HB; clear HO_310001; have BK302 := n0_; have BK303 := n1_; have BK304 := n2_; have BK309 := n3_; have HB := n4_; have HO229 := n5_; clear n0_ n1_ n2_ n3_ n4_ n5_; clear ho hb hg hat; obtain ⟨Ao92, co92, eo92⟩ := Kd.R_slice HO229.out; subst eo92; have hcz93_0 : w91.cell? ⟨gb309, 0, none⟩ = some (.bool a1_0) := (bc_ BK309.out 0).trans rfl; have hcz93_1 : w91.cell? ⟨gb309, 1, none⟩ = some (u310001) := (bc_ BK309.out 1).trans rfl; have hfz93_0 := bf_ BK309.out 0; have hfz93_1 := bf_ BK309.out 1))
        repeat (go_quiet (first | (go_at_call 44; (with_reducible refine (clevisref01_at.calls _ _ l1_1 x11_1 t225 _ ?side1 ?side2 A78.out).mono ?_); (case side1 => repeat (first | exact (cb_ HR1_1.out HB.out) | (with_reducible refine ca_ ?_ _) | (with_reducible refine cn_ ?_ _) | (with_reducible refine cd_ ?_))); (case side2 => exact HC1_1.out); rintro e w' ⟨rfl, ⟨nd, rfl⟩⟩; (try first | exact ⟨rfl, _, dd_ _ _ _⟩ | exact ⟨rfl, _, Eq.trans (dd_ _ _ _) (congrArg (World.drewN _) (Nat.add_assoc _ _ _))⟩); have hnb86 := NB303_304.out; have hnc86 := NB304_303.out; have hnb87 := NB303_309.out; have hnc87 := NB309_303.out; have hcz88_0 : wr.cell? ⟨gb303, 0, none⟩ = some (.bool a0_0) := (bc_ BK303.out 0).trans rfl; have hcz88_1 : wr.cell? ⟨gb303, 1, none⟩ = some (.slice A0_1 l0_1.length c0_1) := (bc_ BK303.out 1).trans rfl; have hfz88_0 := bf_ BK303.out 0; have hfz88_1 := bf_ BK303.out 1) | (go_at_call 44; (with_reducible refine (clevisref01_at.calls _ _ l0_1 x11_1 t226 _ ?side1 ?side2 A79.out).mono ?_); (case side1 => repeat (first | exact (cb_ HR0_1.out bw_) | (with_reducible refine ca_ ?_ _) | (with_reducible refine cn_ ?_ _) | (with_reducible refine cd_ ?_))); (case side2 => exact HC0_1.out); rintro e w' ⟨rfl, ⟨nd, rfl⟩⟩; (try first | exact ⟨rfl, _, dd_ _ _ _⟩ | exact ⟨rfl, _, Eq.trans (dd_ _ _ _) (congrArg (World.drewN _) (Nat.add_assoc _ _ _))⟩); have hnb89 := NB309_304.out; have hnc89 := NB304_309.out; have hcz90_0 : wr.cell? ⟨gb309, 0, none⟩ = some (.bool a1_0) := (bc_ BK309.out 0).trans rfl; have hcz90_1 : wr.cell? ⟨gb309, 1, none⟩ = some (u310001) := (bc_ BK309.out 1).trans rfl; have hfz90_0 := bf_ BK309.out 0; have hfz90_1 := bf_ BK309.out 1) | ((with_reducible refine gate_builtin (b := .append) (xs := #[.tmp 97, .tmp 99]) rfl ?_); (try (refine gate_guard (by rfl) ?_; dsimp only)); at_builtin; refine Kd.R_append (Kd.int .i64) (w0 := w) w.heap.size rfl (.tmp 97) (.tmp 99) 36 3 (.int .i64 0) 8 rfl Try.underlying36 info3 rfl (by decide) (by omega) u310001 x310001_1 (wrap64 ((wrap64 ((wrap64 (t225 - t226)) - x10_1)) + 65536)) [.int .i64 (wrap64 ((wrap64 ((wrap64 (t225 - t226)) - x10_1)) + 65536))] (fun k_ => (w.heap.size ≤ k_)) (fun _ => False) rfl rfl ?aP (fun _ hk => hk.elim) ?aF ?aO ?aB ?aS ?aL ?_; (case aP => exact rfl); (case aB => exact bw_); (case aF => exact (fun k_ hk => (Nat.le_trans (bz_ bw_) hk))); (case aO => exact (by (with_reducible repeat (first | apply Kd.R_alloc | apply Kd.R_drewN | apply Kd.R_drew)); exact HO_310001.out)); (case aS => exact (bz_ bw_)); (case aL => have := LMc81.out; omega); intro v228 w91 ho hb hg hat; rw [← Ny227.out] at ho; have n0_ := A_ (blk_grown (g := gb302) (o := .cells #[.bool a1_0, .slice A1_1 l1_1.length c1_1] 38 (0, 0)) bk_ hg (Kd.R_ne HO_310001.out BK302.out (by decide))); have n1_ := A_ (blk_grown (g := gb303) (o := .cells #[.bool a0_0, .slice A0_1 l0_1.length c0_1] 38 (0, 0)) bk_ hg (Kd.R_ne HO_310001.out BK303.out (by decide))); have n2_ := A_ (blk_grown (g := gb304) (o := .cells #[.bool false, .slice none 0 0] 38 (0, 0)) bk_ hg (Kd.R_ne HO_310001.out BK304.out (by decide))); have n3_ := A_ (blk_grown (g := gb309) (o := .cells #[.bool a1_0, u310001] 38 (0, 0)) bk_ hg (Kd.R_ne HO_310001.out BK309.out (by decide))); have n4_ := A_ (hb); have n5_ := A_ (ho); clear BK302; clear BK303; clear BK304; clear BK309; clear HB; clear HO_310001; have BK302 := n0_; have BK303 := n1_; have BK304 := n2_; have BK309 := n3_; have HB := n4_; have HO229 := n5_; clear n0_ n1_ n2_ n3_ n4_ n5_; clear ho hb hg hat; obtain ⟨Ao92, co92, eo92⟩ := Kd.R_slice HO229.out; subst eo92; have hcz93_0 : w91.cell? ⟨gb309, 0, none⟩ = some (.bool a1_0) := (bc_ BK309.out 0).trans rfl; have hcz93_1 : w91.cell? ⟨gb309, 1, none⟩ = some (u310001) := (bc_ BK309.out 1).trans rfl; have hfz93_0 := bf_ BK309.out 0; have hfz93_1 := bf_ BK309.out 1)); try go_wp2_with (first | (go_at_call 44; (with_reducible refine (clevisref01_at.calls _ _ l1_1 x11_1 t225 _ ?side1 ?side2 A78.out).mono ?_); (case side1 => repeat (first | exact (cb_ HR1_1.out HB.out) | (with_reducible refine ca_ ?_ _) | (with_reducible refine cn_ ?_ _) | (with_reducible refine cd_ ?_))); (case side2 => exact HC1_1.out); rintro e w' ⟨rfl, ⟨nd, rfl⟩⟩; (try first | exact ⟨rfl, _, dd_ _ _ _⟩ | exact ⟨rfl, _, Eq.trans (dd_ _ _ _) (congrArg (World.drewN _) (Nat.add_assoc _ _ _))⟩); have hnb86 := NB303_304.out; have hnc86 := NB304_303.out; have hnb87 := NB303_309.out; have hnc87 := NB309_303.out; have hcz88_0 : wr.cell? ⟨gb303, 0, none⟩ = some (.bool a0_0) := (bc_ BK303.out 0).trans rfl; have hcz88_1 : wr.cell? ⟨gb303, 1, none⟩ = some (.slice A0_1 l0_1.length c0_1) := (bc_ BK303.out 1).trans rfl; have hfz88_0 := bf_ BK303.out 0; have hfz88_1 := bf_ BK303.out 1) | (go_at_call 44; (with_reducible refine (clevisref01_at.calls _ _ l0_1 x11_1 t226 _ ?side1 ?side2 A79.out).mono ?_); (case side1 => repeat (first | exact (cb_ HR0_1.out bw_) | (with_reducible refine ca_ ?_ _) | (with_reducible refine cn_ ?_ _) | (with_reducible refine cd_ ?_))); (case side2 => exact HC0_1.out); rintro e w' ⟨rfl, ⟨nd, rfl⟩⟩; (try first | exact ⟨rfl, _, dd_ _ _ _⟩ | exact ⟨rfl, _, Eq.trans (dd_ _ _ _) (congrArg (World.drewN _) (Nat.add_assoc _ _ _))⟩); have hnb89 := NB309_304.out; have hnc89 := NB304_309.out; have hcz90_0 : wr.cell? ⟨gb309, 0, none⟩ = some (.bool a1_0) := (bc_ BK309.out 0).trans rfl; have hcz90_1 : wr.cell? ⟨gb309, 1, none⟩ = some (u310001) := (bc_ BK309.out 1).trans rfl; have hfz90_0 := bf_ BK309.out 0; have hfz90_1 := bf_ BK309.out 1) | ((with_reducible refine gate_builtin (b := .append) (xs := #[.tmp 97, .tmp 99]) rfl ?_); (try (refine gate_guard (by rfl) ?_; dsimp only)); at_builtin; refine Kd.R_append (Kd.int .i64) (w0 := w) w.heap.size rfl (.tmp 97) (.tmp 99) 36 3 (.int .i64 0) 8 rfl Try.underlying36 info3 rfl (by decide) (by omega) u310001 x310001_1 (wrap64 ((wrap64 ((wrap64 (t225 - t226)) - x10_1)) + 65536)) [.int .i64 (wrap64 ((wrap64 ((wrap64 (t225 - t226)) - x10_1)) + 65536))] (fun k_ => (w.heap.size ≤ k_)) (fun _ => False) rfl rfl ?aP (fun _ hk => hk.elim) ?aF ?aO ?aB ?aS ?aL ?_; (case aP => exact rfl); (case aB => exact bw_); (case aF => exact (fun k_ hk => (Nat.le_trans (bz_ bw_) hk))); (case aO => exact (by (with_reducible repeat (first | apply Kd.R_alloc | apply Kd.R_drewN | apply Kd.R_drew)); exact HO_310001.out)); (case aS => exact (bz_ bw_)); (case aL => have := LMc81.out; omega); intro v228 w91 ho hb hg hat; rw [← Ny227.out] at ho; have n0_ := A_ (blk_grown (g := gb302) (o := .cells #[.bool a1_0, .slice A1_1 l1_1.length c1_1] 38 (0, 0)) bk_ hg (Kd.R_ne HO_310001.out BK302.out (by decide))); have n1_ := A_ (blk_grown (g := gb303) (o := .cells #[.bool a0_0, .slice A0_1 l0_1.length c0_1] 38 (0, 0)) bk_ hg (Kd.R_ne HO_310001.out BK303.out (by decide))); have n2_ := A_ (blk_grown (g := gb304) (o := .cells #[.bool false, .slice none 0 0] 38 (0, 0)) bk_ hg (Kd.R_ne HO_310001.out BK304.out (by decide))); have n3_ := A_ (blk_grown (g := gb309) (o := .cells #[.bool a1_0, u310001] 38 (0, 0)) bk_ hg (Kd.R_ne HO_310001.out BK309.out (by decide))); have n4_ := A_ (hb); have n5_ := A_ (ho); clear BK302; clear BK303; clear BK304; clear BK309; clear HB; clear HO_310001; have BK302 := n0_; have BK303 := n1_; have BK304 := n2_; have BK309 := n3_; have HB := n4_; have HO229 := n5_; clear n0_ n1_ n2_ n3_ n4_ n5_; clear ho hb hg hat; obtain ⟨Ao92, co92, eo92⟩ := Kd.R_slice HO229.out; subst eo92; have hcz93_0 : w91.cell? ⟨gb309, 0, none⟩ = some (.bool a1_0) := (bc_ BK309.out 0).trans rfl; have hcz93_1 : w91.cell? ⟨gb309, 1, none⟩ = some (u310001) := (bc_ BK309.out 1).trans rfl; have hfz93_0 := bf_ BK309.out 0; have hfz93_1 := bf_ BK309.out 1)))
        go_roundg k1
        case measure => have := HK1.out; omega
        case rel => exact ⟨(1), (wrap64 (x11_1 + 1)), (y227), (.slice Ao92 y227.length co92), (by first | rfl | (simp; done) | (simp [*]; done)), (by first | rfl | (simp; done) | (simp [*]; done)), H', ⟨by have := HK1.out; omega⟩, ⟨by (with_reducible repeat (first | apply Kd.R_alloc | apply Kd.R_drewN | apply Kd.R_drew)); exact Kd.R_mono (Kd.R_far (p := ⟨gb309, 1, none⟩) (Kd.R_types HO229.out BK309.out (by decide)) (fun _ hk => hk.2) (.slice Ao92 y227.length co92)) (fun _ hk => hk.1)⟩, ⟨bk_⟩, ⟨bk_⟩, ⟨bk_⟩, ⟨by (with_reducible repeat (first | refine bn_ ?_ _ | refine bd_ ?_ | refine ba_ ?_ _)); refine bp_ (cs := #[.bool a1_0, u310001]) ?_ 1 _ rfl; (with_reducible repeat (first | refine bn_ ?_ _ | refine bd_ ?_ | refine ba_ ?_ _)); exact BK309.out⟩, ⟨bw_⟩⟩
       ·
        rw [if_neg c81] at H
        exact absurd H (by simp)
      ·
       rw [if_neg c80] at H
       have c80b0 : decide ((wrap64 ((wrap64 (t225 - t226)) - x10_1)) < 0) = false := decide_eq_false c80
       (try (have c80b1 : decide ((IntKind.i64.wrap ((IntKind.i64.wrap (t225 - t226)) - x10_1)) < 0) = false := by first | exact (decide_eq_false c80) | (simp only [i64_w]; exact (decide_eq_false c80))))
       clear c80
       by_cases c94 : x310001_1.length < 17592186044416
       ·
        rw [if_pos c94] at H
        have LMc94 := A_ c94
        clear c94
        obtain ⟨y230, hy230⟩ : ∃ y_ : List Int, y_ = (x310001_1 ++ [wrap64 ((wrap64 (t225 - t226)) - x10_1)]) := ⟨_, rfl⟩
        replace H : (clevisref01_Add.l1 k1 0 (wrap64 (x11_1 + 1)) a1_0 l1_1 a0_0 l0_1 a1_0 y230) = some (r1, r2) := by first | (rw [hy230]; with_reducible exact H) | (have H2_ := (Option.bind_some _ _).symm.trans H; rw [hy230]; with_reducible exact H2_) | (have H2_ := (Option.bind_some _ _).symm.trans H; with_reducible exact H2_) | with_reducible exact H | (rw [hy230]; exact H) | exact H
        have Ny230 := A_ hy230
        clear hy230
        have H' := A_ H
        clear H
        have hnb95 := NB302_303.out
        have hnc95 := NB303_302.out
        have hnb96 := NB302_304.out
        have hnc96 := NB304_302.out
        have hnb97 := NB302_309.out
        have hnc97 := NB309_302.out
        have hcz98_0 : wr.cell? ⟨gb302, 0, none⟩ = some (.bool a1_0) := (bc_ BK302.out 0).trans rfl
        have hcz98_1 : wr.cell? ⟨gb302, 1, none⟩ = some (.slice A1_1 l1_1.length c1_1) := (bc_ BK302.out 1).trans rfl
        have hfz98_0 := bf_ BK302.out 0
        have hfz98_1 := bf_ BK302.out 1
        go_wp2_with (first | (go_at_call 44; (with_reducible refine (clevisref01_at.calls _ _ l1_1 x11_1 t225 _ ?side1 ?side2 A78.out).mono ?_); (case side1 => repeat (first | exact (cb_ HR1_1.out HB.out) | (with_reducible refine ca_ ?_ _) | (with_reducible refine cn_ ?_ _) | (with_reducible refine cd_ ?_))); (case side2 => exact HC1_1.out); rintro e w' ⟨rfl, ⟨nd, rfl⟩⟩; (try first | exact ⟨rfl, _, dd_ _ _ _⟩ | exact ⟨rfl, _, Eq.trans (dd_ _ _ _) (congrArg (World.drewN _) (Nat.add_assoc _ _ _))⟩); have hnb99 := NB303_304.out; have hnc99 := NB304_303.out; have hnb100 := NB303_309.out; have hnc100 := NB309_303.out; have hcz101_0 : wr.cell? ⟨gb303, 0, none⟩ = some (.bool a0_0) := (bc_ BK303.out 0).trans rfl; have hcz101_1 : wr.cell? ⟨gb303, 1, none⟩ = some (.slice A0_1 l0_1.length c0_1) := (bc_ BK303.out 1).trans rfl; have hfz101_0 := bf_ BK303.out 0; have hfz101_1 := bf_ BK303.out 1) | (go_at_call 44; (with_reducible refine (clevisref01_at.calls _ _ l0_1 x11_1 t226 _ ?side1 ?side2 A79.out).mono ?_); (case side1 => repeat (first | exact (cb_ HR0_1.out bw_) | (with_reducible refine ca_ ?_ _) | (with_reducible refine cn_ ?_ _) | (with_reducible refine cd_ ?_))); (case side2 => exact HC0_1.out); rintro e w' ⟨rfl, ⟨nd, rfl⟩⟩; (try first | exact ⟨rfl, _, dd_ _ _ _⟩ | exact ⟨rfl, _, Eq.trans (dd_ _ _ _) (congrArg (World.drewN _) (Nat.add_assoc _ _ _))⟩); have hnb102 := NB309_304.out; have hnc102 := NB304_309.out; have hcz103_0 : wr.cell? ⟨gb309, 0, none⟩ = some (.bool a1_0) := (bc_ BK309.out 0).trans rfl; have hcz103_1 : wr.cell? ⟨gb309, 1, none⟩ = some (u310001) := (bc_ BK309.out 1).trans rfl; have hfz103_0 := bf_ BK309.out 0; have hfz103_1 := bf_ BK309.out 1) | ((with_reducible refine gate_builtin (b := .append) (xs := #[.tmp 97, .tmp 99]) rfl ?_); (try (refine gate_guard (by rfl) ?_; dsimp only)); at_builtin; refine Kd.R_append (Kd.int .i64) (w0 := w) w.heap.size rfl (.tmp 97) (.tmp 99) 36 3 (.int .i64 0) 8 rfl Try.underlying36 info3 rfl (by decide) (by omega) u310001 x310001_1 (wrap64 ((wrap64 (t225 - t226)) - x10_1)) [.int .i64 (wrap64 ((wrap64 (t225 - t226)) - x10_1))] (fun k_ => (w.heap.size ≤ k_)) (fun _ => False) rfl rfl ?aP (fun _ hk => hk.elim) ?aF ?aO ?aB ?aS ?aL ?_; (case aP => exact rfl); (case aB => exact bw_); (case aF => exact (fun k_ hk => (Nat.le_trans (bz_ bw_) hk))); (case aO => exact (by (with_reducible repeat (first | apply Kd.R_alloc | apply Kd.R_drewN | apply Kd.R_drew)); exact HO_310001.out)); (case aS => exact (bz_ bw_)); (case aL => have := LMc94.out; omega); intro v231 w104 ho hb hg hat; rw [← Ny230.out] at ho; have n0_ := A_ (blk_grown (g := gb302) (o := .cells #[.bool a1_0, .slice A1_1 l1_1.length c1_1] 38 (0, 0)) bk_ hg (Kd.R_ne HO_310001.out BK302.out (by decide))); have n1_ := A_ (blk_grown (g := gb303) (o := .cells #[.bool a0_0, .slice A0_1 l0_1.length c0_1] 38 (0, 0)) bk_ hg (Kd.R_ne HO_310001.out BK303.out (by decide))); have n2_ := A_ (blk_grown (g := gb304) (o := .cells #[.bool false, .slice none 0 0] 38 (0, 0)) bk_ hg (Kd.R_ne HO_310001.out BK304.out (by decide))); have n3_ := A_ (blk_grown (g := gb309) (o := .cells #[.bool a1_0, u310001] 38 (0, 0)) bk_ hg (Kd.R_ne HO_310001.out BK309.out (by decide))); have n4_ := A_ (hb); have n5_ := A_ (ho); clear BK302; clear BK303; clear BK304; clear BK309; clear HB; clear HO_310001; have BK302 := n0_; have BK303 := n1_; have BK304 := n2_; have BK309 := n3_; have HB := n4_; have HO232 := n5_; clear n0_ n1_ n2_ n3_ n4_ n5_; clear ho hb hg hat; obtain ⟨Ao105, co105, eo105⟩ := Kd.R_slice HO232.out; subst eo105; have hcz106_0 : w104.cell? ⟨gb309, 0, none⟩ = some (.bool a1_0) := (bc_ BK309.out 0).trans rfl; have hcz106_1 : w104.cell? ⟨gb309, 1, none⟩ = some (u310001) := (bc_ BK309.out 1).trans rfl; have hfz106_0 := bf_ BK309.out 0; have hfz106_1 := bf_ BK309.out 1))
        repeat (go_quiet (first | (go_at_call 44; (with_reducible refine (clevisref01_at.calls _ _ l1_1 x11_1 t225 _ ?side1 ?side2 A78.out).mono ?_); (case side1 => repeat (first | exact (cb_ HR1_1.out HB.out) | (with_reducible refine ca_ ?_ _) | (with_reducible refine cn_ ?_ _) | (with_reducible refine cd_ ?_))); (case side2 => exact HC1_1.out); rintro e w' ⟨rfl, ⟨nd, rfl⟩⟩; (try first | exact ⟨rfl, _, dd_ _ _ _⟩ | exact ⟨rfl, _, Eq.trans (dd_ _ _ _) (congrArg (World.drewN _) (Nat.add_assoc _ _ _))⟩); have hnb99 := NB303_304.out; have hnc99 := NB304_303.out; have hnb100 := NB303_309.out; have hnc100 := NB309_303.out; have hcz101_0 : wr.cell? ⟨gb303, 0, none⟩ = some (.bool a0_0) := (bc_ BK303.out 0).trans rfl; have hcz101_1 : wr.cell? ⟨gb303, 1, none⟩ = some (.slice A0_1 l0_1.length c0_1) := (bc_ BK303.out 1).trans rfl; have hfz101_0 := bf_ BK303.out 0; have hfz101_1 := bf_ BK303.out 1) | (go_at_call 44; (with_reducible refine (clevisref01_at.calls _ _ l0_1 x11_1 t226 _ ?side1 ?side2 A79.out).mono ?_); (case side1 => repeat (first | exact (cb_ HR0_1.out bw_) | (with_reducible refine ca_ ?_ _) | (with_reducible refine cn_ ?_ _) | (with_reducible refine cd_ ?_))); (case side2 => exact HC0_1.out); rintro e w' ⟨rfl, ⟨nd, rfl⟩⟩; (try first | exact ⟨rfl, _, dd_ _ _ _⟩ | exact ⟨rfl, _, Eq.trans (dd_ _ _ _) (congrArg (World.drewN _) (Nat.add_assoc _ _ _))⟩); have hnb102 := NB309_304.out; have hnc102 := NB304_309.out; have hcz103_0 : wr.cell? ⟨gb309, 0, none⟩ = some (.bool a1_0) := (bc_ BK309.out 0).trans rfl; have hcz103_1 : wr.cell? ⟨gb309, 1, none⟩ = some (u310001) := (bc_ BK309.out 1).trans rfl; have hfz103_0 := bf_ BK309.out 0; have hfz103_1 := bf_ BK309.out 1) | ((with_reducible refine gate_builtin (b := .append) (xs := #[.tmp 97, .tmp 99]) rfl ?_); (try (refine gate_guard (by rfl) ?_; dsimp only)); at_builtin; refine Kd.R_append (Kd.int .i64) (w0 := w) w.heap.size rfl (.tmp 97) (.tmp 99) 36 3 (.int .i64 0) 8 rfl Try.underlying36 info3 rfl (by decide) (by omega) u310001 x310001_1 (wrap64 ((wrap64 (t225 - t226)) - x10_1)) [.int .i64 (wrap64 ((wrap64 (t225 - t226)) - x10_1))] (fun k_ => (w.heap.size ≤ k_)) (fun _ => False) rfl rfl ?aP (fun _ hk => hk.elim) ?aF ?aO ?aB ?aS ?aL ?_; (case aP => exact rfl); (case aB => exact bw_); (case aF => exact (fun k_ hk => (Nat.le_trans (bz_ bw_) hk))); (case aO => exact (by (with_reducible repeat (first | apply Kd.R_alloc | apply Kd.R_drewN | apply Kd.R_drew)); exact HO_310001.out)); (case aS => exact (bz_ bw_)); (case aL => have := LMc94.out; omega); intro v231 w104 ho hb hg hat; rw [← Ny230.out] at ho; have n0_ := A_ (blk_grown (g := gb302) (o := .cells #[.bool a1_0, .slice A1_1 l1_1.length c1_1] 38 (0, 0)) bk_ hg (Kd.R_ne HO_310001.out BK302.out (by decide))); have n1_ := A_ (blk_grown (g := gb303) (o := .cells #[.bool a0_0, .slice A0_1 l0_1.length c0_1] 38 (0, 0)) bk_ hg (Kd.R_ne HO_310001.out BK303.out (by decide))); have n2_ := A_ (blk_grown (g := gb304) (o := .cells #[.bool false, .slice none 0 0] 38 (0, 0)) bk_ hg (Kd.R_ne HO_310001.out BK304.out (by decide))); have n3_ := A_ (blk_grown (g := gb309) (o := .cells #[.bool a1_0, u310001] 38 (0, 0)) bk_ hg (Kd.R_ne HO_310001.out BK309.out (by decide))); have n4_ := A_ (hb); have n5_ := A_ (ho); clear BK302; clear BK303; clear BK304; clear BK309; clear HB; clear HO_310001; have BK302 := n0_; have BK303 := n1_; have BK304 := n2_; have BK309 := n3_; have HB := n4_; have HO232 := n5_; clear n0_ n1_ n2_ n3_ n4_ n5_; clear ho hb hg hat; obtain ⟨Ao105, co105, eo105⟩ := Kd.R_slice HO232.out; subst eo105; have hcz106_0 : w104.cell? ⟨gb309, 0, none⟩ = some (.bool a1_0) := (bc_ BK309.out 0).trans rfl; have hcz106_1 : w104.cell? ⟨gb309, 1, none⟩ = some (u310001) := (bc_ BK309.out 1).trans rfl; have hfz106_0 := bf_ BK309.out 0; have hfz106_1 := bf_ BK309.out 1)); try go_wp2_with (first | (go_at_call 44; (with_reducible refine (clevisref01_at.calls _ _ l1_1 x11_1 t225 _ ?side1 ?side2 A78.out).mono ?_); (case side1 => repeat (first | exact (cb_ HR1_1.out HB.out) | (with_reducible refine ca_ ?_ _) | (with_reducible refine cn_ ?_ _) | (with_reducible refine cd_ ?_))); (case side2 => exact HC1_1.out); rintro e w' ⟨rfl, ⟨nd, rfl⟩⟩; (try first | exact ⟨rfl, _, dd_ _ _ _⟩ | exact ⟨rfl, _, Eq.trans (dd_ _ _ _) (congrArg (World.drewN _) (Nat.add_assoc _ _ _))⟩); have hnb99 := NB303_304.out; have hnc99 := NB304_303.out; have hnb100 := NB303_309.out; have hnc100 := NB309_303.out; have hcz101_0 : wr.cell? ⟨gb303, 0, none⟩ = some (.bool a0_0) := (bc_ BK303.out 0).trans rfl; have hcz101_1 : wr.cell? ⟨gb303, 1, none⟩ = some (.slice A0_1 l0_1.length c0_1) := (bc_ BK303.out 1).trans rfl; have hfz101_0 := bf_ BK303.out 0; have hfz101_1 := bf_ BK303.out 1) | (go_at_call 44; (with_reducible refine (clevisref01_at.calls _ _ l0_1 x11_1 t226 _ ?side1 ?side2 A79.out).mono ?_); (case side1 => repeat (first | exact (cb_ HR0_1.out bw_) | (with_reducible refine ca_ ?_ _) | (with_reducible refine cn_ ?_ _) | (with_reducible refine cd_ ?_))); (case side2 => exact HC0_1.out); rintro e w' ⟨rfl, ⟨nd, rfl⟩⟩; (try first | exact ⟨rfl, _, dd_ _ _ _⟩ | exact ⟨rfl, _, Eq.trans (dd_ _ _ _) (congrArg (World.drewN _) (Nat.add_assoc _ _ _))⟩); have hnb102 := NB309_304.out; have hnc102 := NB304_309.out; have hcz103_0 : wr.cell? ⟨gb309, 0, none⟩ = some (.bool a1_0) := (bc_ BK309.out 0).trans rfl; have hcz103_1 : wr.cell? ⟨gb309, 1, none⟩ = some (u310001) := (bc_ BK309.out 1).trans rfl; have hfz103_0 := bf_ BK309.out 0; have hfz103_1 := bf_ BK309.out 1) | ((with_reducible refine gate_builtin (b := .append) (xs := #[.tmp 97, .tmp 99]) rfl ?_); (try (refine gate_guard (by rfl) ?_; dsimp only)); at_builtin; refine Kd.R_append (Kd.int .i64) (w0 := w) w.heap.size rfl (.tmp 97) (.tmp 99) 36 3 (.int .i64 0) 8 rfl Try.underlying36 info3 rfl (by decide) (by omega) u310001 x310001_1 (wrap64 ((wrap64 (t225 - t226)) - x10_1)) [.int .i64 (wrap64 ((wrap64 (t225 - t226)) - x10_1))] (fun k_ => (w.heap.size ≤ k_)) (fun _ => False) rfl rfl ?aP (fun _ hk => hk.elim) ?aF ?aO ?aB ?aS ?aL ?_; (case aP => exact rfl); (case aB => exact bw_); (case aF => exact (fun k_ hk => (Nat.le_trans (bz_ bw_) hk))); (case aO => exact (by (with_reducible repeat (first | apply Kd.R_alloc | apply Kd.R_drewN | apply Kd.R_drew)); exact HO_310001.out)); (case aS => exact (bz_ bw_)); (case aL => have := LMc94.out; omega); intro v231 w104 ho hb hg hat; rw [← Ny230.out] at ho; have n0_ := A_ (blk_grown (g := gb302) (o := .cells #[.bool a1_0, .slice A1_1 l1_1.length c1_1] 38 (0, 0)) bk_ hg (Kd.R_ne HO_310001.out BK302.out (by decide))); have n1_ := A_ (blk_grown (g := gb303) (o := .cells #[.bool a0_0, .slice A0_1 l0_1.length c0_1] 38 (0, 0)) bk_ hg (Kd.R_ne HO_310001.out BK303.out (by decide))); have n2_ := A_ (blk_grown (g := gb304) (o := .cells #[.bool false, .slice none 0 0] 38 (0, 0)) bk_ hg (Kd.R_ne HO_310001.out BK304.out (by decide))); have n3_ := A_ (blk_grown (g := gb309) (o := .cells #[.bool a1_0, u310001] 38 (0, 0)) bk_ hg (Kd.R_ne HO_310001.out BK309.out (by decide))); have n4_ := A_ (hb); have n5_ := A_ (ho); clear BK302; clear BK303; clear BK304; clear BK309; clear HB; clear HO_310001; have BK302 := n0_; have BK303 := n1_; have BK304 := n2_; have BK309 := n3_; have HB := n4_; have HO232 := n5_; clear n0_ n1_ n2_ n3_ n4_ n5_; clear ho hb hg hat; obtain ⟨Ao105, co105, eo105⟩ := Kd.R_slice HO232.out; subst eo105; have hcz106_0 : w104.cell? ⟨gb309, 0, none⟩ = some (.bool a1_0) := (bc_ BK309.out 0).trans rfl; have hcz106_1 : w104.cell? ⟨gb309, 1, none⟩ = some (u310001) := (bc_ BK309.out 1).trans rfl; have hfz106_0 := bf_ BK309.out 0; have hfz106_1 := bf_ BK309.out 1)))
        go_roundg k1
        case measure => have := HK1.out; omega
        case rel => exact ⟨(0), (wrap64 (x11_1 + 1)), (y230), (.slice Ao105 y230.length co105), (by first | rfl | (simp; done) | (simp [*]; done)), (by first | rfl | (simp; done) | (simp [*]; done)), H', ⟨by have := HK1.out; omega⟩, ⟨by (with_reducible repeat (first | apply Kd.R_alloc | apply Kd.R_drewN | apply Kd.R_drew)); exact Kd.R_mono (Kd.R_far (p := ⟨gb309, 1, none⟩) (Kd.R_types HO232.out BK309.out (by decide)) (fun _ hk => hk.2) (.slice Ao105 y230.length co105)) (fun _ hk => hk.1)⟩, ⟨bk_⟩, ⟨bk_⟩, ⟨bk_⟩, ⟨by (with_reducible repeat (first | refine bn_ ?_ _ | refine bd_ ?_ | refine ba_ ?_ _)); refine bp_ (cs := #[.bool a1_0, u310001]) ?_ 1 _ rfl; (with_reducible repeat (first | refine bn_ ?_ _ | refine bd_ ?_ | refine ba_ ?_ _)); exact BK309.out⟩, ⟨bw_⟩⟩
       ·
        rw [if_neg c94] at H
        exact absurd H (by simp)
     ·
      rw [if_neg c77] at H
      have c77b0 : decide (x11_1 < (l1_1.length : Int)) = false := decide_eq_false c77
      clear c77
      replace H := os_ H
      obtain ⟨⟨t221, t222⟩, A1070, H⟩ := H
      replace H : (some (t221, t222)) = some (r1, r2) := H
      have A107 := A_ A1070
      clear A1070
      simp only [Option.some.injEq, Prod.mk.injEq] at H
      obtain ⟨rfl, rfl⟩ := H
      have hnb108 := NB302_303.out
      have hnc108 := NB303_302.out
      have hnb109 := NB302_304.out
      have hnc109 := NB304_302.out
      have hnb110 := NB302_309.out
      have hnc110 := NB309_302.out
      have hcz111_0 : wr.cell? ⟨gb302, 0, none⟩ = some (.bool a1_0) := (bc_ BK302.out 0).trans rfl
      have hcz111_1 : wr.cell? ⟨gb302, 1, none⟩ = some (.slice A1_1 l1_1.length c1_1) := (bc_ BK302.out 1).trans rfl
      have hfz111_0 := bf_ BK302.out 0
      have hfz111_1 := bf_ BK302.out 1
      have hnb112 := NB309_303.out
      have hnc112 := NB303_309.out
      have hnb113 := NB309_304.out
      have hnc113 := NB304_309.out
      have hcz114_0 : wr.cell? ⟨gb309, 0, none⟩ = some (.bool a1_0) := (bc_ BK309.out 0).trans rfl
      have hcz114_1 : wr.cell? ⟨gb309, 1, none⟩ = some (u310001) := (bc_ BK309.out 1).trans rfl
      have hfz114_0 := bf_ BK309.out 0
      have hfz114_1 := bf_ BK309.out 1
      obtain ⟨Ao115, co115, eo115⟩ := Kd.R_slice HO_310001.out
      subst eo115
      go_wp2_with (first | (go_at_call 45; (with_reducible refine (clevisref01_clean.calls k1 a1_0 (fun k_ => some k_ = (.slice Ao115 x310001_1.length co115 : Value).ownBlock) _ _ x310001_1 t221 t222 _ ?side1 A107.out).mono ?_); (case side1 => exact Kd.R_V (Kd.R_tight rfl (Kd.R_types (Kd.R_types (Kd.R_types (Kd.R_types (HO_310001.out) BK302.out (by decide)) BK303.out (by decide)) BK304.out (by decide)) BK309.out (by decide)))); rintro e w116 ⟨v223, rfl, ho0, hb⟩; have n0_ := A_ (Kd.R_below (by (with_reducible repeat (first | apply Kd.R_alloc | apply Kd.R_drewN | apply Kd.R_drew)); exact HO_310001.out) hb); have n1_ := A_ (Kd.V_lower (vm_ (ok' := fun k_ => (w.heap.size ≤ k_) ∧ k_ ≠ gb302 ∧ k_ ≠ gb303 ∧ k_ ≠ gb304 ∧ k_ ≠ gb309) ho0 (fun k_ hk_ => ⟨Or.elim hk_ (fun hs_ => ((Kd.R_types (Kd.R_types (Kd.R_types (Kd.R_types (HO_310001.out) BK302.out (by decide)) BK303.out (by decide)) BK304.out (by decide)) BK309.out (by decide)).1 k_ hs_.symm).1.1.1.1) (fun hn_ => (Nat.le_trans (bz_ bw_) hn_)), Or.elim hk_ (fun hs_ => ((Kd.R_types (Kd.R_types (Kd.R_types (Kd.R_types (HO_310001.out) BK302.out (by decide)) BK303.out (by decide)) BK304.out (by decide)) BK309.out (by decide)).1 k_ hs_.symm).1.1.1.2) (fun hn_ => (Kd.freshB (g := gb302) (o := .cells #[.bool a1_0, .slice A1_1 l1_1.length c1_1] 38 (0, 0)) bk_ k_ hn_)), Or.elim hk_ (fun hs_ => ((Kd.R_types (Kd.R_types (Kd.R_types (Kd.R_types (HO_310001.out) BK302.out (by decide)) BK303.out (by decide)) BK304.out (by decide)) BK309.out (by decide)).1 k_ hs_.symm).1.1.2) (fun hn_ => (Kd.freshB (g := gb303) (o := .cells #[.bool a0_0, .slice A0_1 l0_1.length c0_1] 38 (0, 0)) bk_ k_ hn_)), Or.elim hk_ (fun hs_ => ((Kd.R_types (Kd.R_types (Kd.R_types (Kd.R_types (HO_310001.out) BK302.out (by decide)) BK303.out (by decide)) BK304.out (by decide)) BK309.out (by decide)).1 k_ hs_.symm).1.2) (fun hn_ => (Kd.freshB (g := gb304) (o := .cells #[.bool false, .slice none 0 0] 38 (0, 0)) bk_ k_ hn_)), Or.elim hk_ (fun hs_ => ((Kd.R_types (Kd.R_types (Kd.R_types (Kd.R_types (HO_310001.out) BK302.out (by decide)) BK303.out (by decide)) BK304.out (by decide)) BK309.out (by decide)).1 k_ hs_.symm).2) (fun hn_ => (Kd.freshB (g := gb309) (o := .cells #[.bool a1_0, .slice Ao115 x310001_1.length co115] 38 (0, 0)) bk_ k_ hn_))⟩)) (bz_ bw_)); have n2_ := A_ (kb_ BK302 hb); have n3_ := A_ (kb_ BK303 hb); have n4_ := A_ (kb_ BK304 hb); have n5_ := A_ (kb_ BK309 hb); have n6_ := A_ (bs_ bw_ hb); clear HO_310001; clear BK302; clear BK303; clear BK304; clear BK309; clear HB; have HO_310001 := n0_; have HO224 := n1_; have BK302 := n2_; have BK303 := n3_; have BK304 := n4_; have BK309 := n5_; have HB := n6_; clear n0_ n1_ n2_ n3_ n4_ n5_ n6_; (try clear hb); (try clear hb2); (try clear hk); (try clear hi); (try clear ho0); have hnb117 := NB304_303.out; have hnc117 := NB303_304.out; have hcz118_0 : w116.cell? ⟨gb304, 0, none⟩ = some (.bool false) := (bc_ BK304.out 0).trans rfl; have hcz118_1 : w116.cell? ⟨gb304, 1, none⟩ = some (.slice none 0 0) := (bc_ BK304.out 1).trans rfl; have hfz118_0 := bf_ BK304.out 0; have hfz118_1 := bf_ BK304.out 1; obtain ⟨Ao119, co119, eo119⟩ := Kd.V_slice HO224.out; subst eo119))
      refine bodyPost_ret (results_cell_row rfl _ _ gb304 38 #[.bool t221, .slice Ao119 t222.length co119] (0, 0) _ rfl (by (with_reducible repeat (first | refine bn_ ?_ _ | refine bd_ ?_ | refine ba_ ?_ _)); refine bp_ (cs := #[.bool t221, .slice none 0 0]) ?_ 1 _ rfl; (with_reducible repeat (first | refine bn_ ?_ _ | refine bd_ ?_ | refine ba_ ?_ _)); refine bp_ (cs := #[.bool false, .slice none 0 0]) ?_ 0 _ rfl; (with_reducible repeat (first | refine bn_ ?_ _ | refine bd_ ?_ | refine ba_ ?_ _)); exact BK304.out) Try.underlying38 rfl (by kernel_rfl)) rfl ?_
      exact ⟨_, by first | rfl | (simp [errW_none, errW_some] <;> rfl) | (simp [*, errW_none, errW_some] <;> rfl), by (with_reducible repeat (first | apply va_ | apply vn_ | apply vd_)); exact vm_ (Kd.V_far (p := ⟨gb304, 1, none⟩) (Kd.V_far (p := ⟨gb304, 0, none⟩) (vm_ HO224.out (fun k_ hk => (⟨hk, hk.2.2.2.1⟩ : _ ∧ k_ ≠ gb304))) (fun _ hk => hk.2) (.bool t221)) (fun _ hk => hk.2) (.slice Ao119 t222.length co119)) (fun _ hk => hk.1.1), bw_⟩
  ·
   rw [if_neg c63] at H
   have c63b0 : decide (t220 < 0) = false := decide_eq_false c63
   clear c63
   have H' := A_ H
   clear H
   go_enter Try.func20, Try.ntmps20
   go_wp2_with (first | ((with_reducible refine gate_dst (N := 2) rfl ?_); (try (refine gate_guard (by rfl) ?_; dsimp only)); refine box_event ?hg (N := 2) ?hd (cs := #[.bool a0_0, .slice A0_1 l0_1.length c0_1]) (t := 38) ?hr ?_; (case hd => rfl); (case hg => rfl); (case hr => first | (go_simp; done) | (go_simp; rfl)); intro gb302 hg w120 hbox hb; have n0_ := A_ (bs_ bw_ hb); have n1_ := A_ (hbox); have n2_ := A_ ((by rw [hg]; exact (bz_ bw_) : w.heap.size ≤ gb302)); have n3_ := A_ ((by rw [hg]; exact (bz_ bw_) : w.heap.size ≤ gb302)); clear HB; have HB := n0_; have BK302 := n1_; have GW302 := n2_; have GE302 := n3_; clear n0_ n1_ n2_ n3_; clear hb hbox hg) | ((with_reducible refine gate_dst (N := 3) rfl ?_); (try (refine gate_guard (by rfl) ?_; dsimp only)); refine box_event ?hg (N := 3) ?hd (cs := #[.bool a1_0, .slice A1_1 l1_1.length c1_1]) (t := 38) ?hr ?_; (case hd => rfl); (case hg => rfl); (case hr => first | (go_simp; done) | (go_simp; rfl)); intro gb303 hg w121 hbox hb; have n0_ := A_ (kb_ BK302 hb); have n1_ := A_ (bs_ bw_ hb); have n2_ := A_ (hbox); have n3_ := A_ ((by rw [hg]; exact (bz_ bw_) : w.heap.size ≤ gb303)); have n4_ := A_ ((by rw [hg]; exact (bz_ bw_) : w.heap.size ≤ gb303)); have n5_ := A_ ((by rw [hg]; exact nl_ (lt_ BK302) : gb302 ≠ gb303)); have n6_ := A_ ((by rw [hg]; exact ng_ (lt_ BK302) : gb303 ≠ gb302)); clear BK302; clear HB; have BK302 := n0_; have HB := n1_; have BK303 := n2_; have GW303 := n3_; have GE303 := n4_; have NB302_303 := n5_; have NB303_302 := n6_; clear n0_ n1_ n2_ n3_ n4_ n5_ n6_; clear hb hbox hg) | ((with_reducible refine gate_dst (N := 4) rfl ?_); (try (refine gate_guard (by rfl) ?_; dsimp only)); refine box_event ?hg (N := 4) ?hd (cs := #[.bool false, .slice none 0 0]) (t := 38) ?hr ?_; (case hd => rfl); (case hg => rfl); (case hr => first | (go_simp; done) | (go_simp; rfl)); intro gb304 hg w122 hbox hb; have n0_ := A_ (kb_ BK302 hb); have n1_ := A_ (kb_ BK303 hb); have n2_ := A_ (bs_ bw_ hb); have n3_ := A_ (hbox); have n4_ := A_ ((by rw [hg]; exact (bz_ bw_) : w.heap.size ≤ gb304)); have n5_ := A_ ((by rw [hg]; exact (bz_ bw_) : w.heap.size ≤ gb304)); have n6_ := A_ ((by rw [hg]; exact nl_ (lt_ BK302) : gb302 ≠ gb304)); have n7_ := A_ ((by rw [hg]; exact ng_ (lt_ BK302) : gb304 ≠ gb302)); have n8_ := A_ ((by rw [hg]; exact nl_ (lt_ BK303) : gb303 ≠ gb304)); have n9_ := A_ ((by rw [hg]; exact ng_ (lt_ BK303) : gb304 ≠ gb303)); clear BK302; clear BK303; clear HB; have BK302 := n0_; have BK303 := n1_; have HB := n2_; have BK304 := n3_; have GW304 := n4_; have GE304 := n5_; have NB302_304 := n6_; have NB304_302 := n7_; have NB303_304 := n8_; have NB304_303 := n9_; clear n0_ n1_ n2_ n3_ n4_ n5_ n6_ n7_ n8_ n9_; clear hb hbox hg; have hnb123 := NB302_303.out; have hnc123 := NB303_302.out; have hnb124 := NB302_304.out; have hnc124 := NB304_302.out; have hcz125_0 : w122.cell? ⟨gb302, 0, none⟩ = some (.bool a0_0) := (bc_ BK302.out 0).trans rfl; have hcz125_1 : w122.cell? ⟨gb302, 1, none⟩ = some (.slice A0_1 l0_1.length c0_1) := (bc_ BK302.out 1).trans rfl; have hfz125_0 := bf_ BK302.out 0; have hfz125_1 := bf_ BK302.out 1; have hnb126 := NB303_304.out; have hnc126 := NB304_303.out; have hcz127_0 : w122.cell? ⟨gb303, 0, none⟩ = some (.bool a1_0) := (bc_ BK303.out 0).trans rfl; have hcz127_1 : w122.cell? ⟨gb303, 1, none⟩ = some (.slice A1_1 l1_1.length c1_1) := (bc_ BK303.out 1).trans rfl; have hfz127_0 := bf_ BK303.out 0; have hfz127_1 := bf_ BK303.out 1) | (go_at_call 36; (with_reducible refine (clevisref01_size.calls k _ _ l0_1 _ _ l1_1 t220 _ ?side1 ?side2 ?side3 ?side4 A62.out).mono ?_); (case side1 => repeat (first | exact (cb_ HR0_1.out HB.out) | (with_reducible refine ca_ ?_ _) | (with_reducible refine cn_ ?_ _) | (with_reducible refine cd_ ?_))); (case side2 => exact HC0_1.out); (case side3 => repeat (first | exact (cb_ HR1_1.out HB.out) | (with_reducible refine ca_ ?_ _) | (with_reducible refine cn_ ?_ _) | (with_reducible refine cd_ ?_))); (case side4 => exact HC1_1.out); rintro e w' ⟨rfl, ⟨nd, rfl⟩⟩; (try first | exact ⟨rfl, _, dd_ _ _ _⟩ | exact ⟨rfl, _, Eq.trans (dd_ _ _ _) (congrArg (World.drewN _) (Nat.add_assoc _ _ _))⟩)) | ((with_reducible refine gate_dst (N := 9) rfl ?_); (try (refine gate_guard (by rfl) ?_; dsimp only)); refine box_event ?hg (N := 9) ?hd (cs := #[.bool false, .slice none 0 0]) (t := 38) ?hr ?_; (case hd => rfl); (case hg => rfl); (case hr => first | (go_simp; done) | (go_simp; rfl)); intro gb309 hg w128 hbox hb; have n0_ := A_ (kb_ BK302 hb); have n1_ := A_ (kb_ BK303 hb); have n2_ := A_ (kb_ BK304 hb); have n3_ := A_ (bs_ bw_ hb); have n4_ := A_ (hbox); have n5_ := A_ ((by rw [hg]; exact (bz_ bw_) : w.heap.size ≤ gb309)); have n6_ := A_ ((by rw [hg]; exact (bz_ bw_) : w.heap.size ≤ gb309)); have n7_ := A_ ((by rw [hg]; exact nl_ (lt_ BK302) : gb302 ≠ gb309)); have n8_ := A_ ((by rw [hg]; exact ng_ (lt_ BK302) : gb309 ≠ gb302)); have n9_ := A_ ((by rw [hg]; exact nl_ (lt_ BK303) : gb303 ≠ gb309)); have n10_ := A_ ((by rw [hg]; exact ng_ (lt_ BK303) : gb309 ≠ gb303)); have n11_ := A_ ((by rw [hg]; exact nl_ (lt_ BK304) : gb304 ≠ gb309)); have n12_ := A_ ((by rw [hg]; exact ng_ (lt_ BK304) : gb309 ≠ gb304)); clear BK302; clear BK303; clear BK304; clear HB; have BK302 := n0_; have BK303 := n1_; have BK304 := n2_; have HB := n3_; have BK309 := n4_; have GW309 := n5_; have GE309 := n6_; have NB302_309 := n7_; have NB309_302 := n8_; have NB303_309 := n9_; have NB309_303 := n10_; have NB304_309 := n11_; have NB309_304 := n12_; clear n0_ n1_ n2_ n3_ n4_ n5_ n6_ n7_ n8_ n9_ n10_ n11_ n12_; clear hb hbox hg; have hnb129 := NB309_302.out; have hnc129 := NB302_309.out; have hnb130 := NB309_303.out; have hnc130 := NB303_309.out; have hnb131 := NB309_304.out; have hnc131 := NB304_309.out; have hcz132_0 : w128.cell? ⟨gb309, 0, none⟩ = some (.bool false) := (bc_ BK309.out 0).trans rfl; have hcz132_1 : w128.cell? ⟨gb309, 1, none⟩ = some (.slice none 0 0) := (bc_ BK309.out 1).trans rfl; have hfz132_0 := bf_ BK309.out 0; have hfz132_1 := bf_ BK309.out 1))
   (try simp only [Act.put, sA_, sZ_, sS_])
   go_loopg [10, 11] k (fun kq v10 v11 w' => ∃ (x10_1 : Int) (x11_1 : Int) (x310001_1 : List Int) (u310001 : Value), v10 = .int .i64 x10_1 ∧ v11 = .int .i64 x11_1 ∧ Aside0 (clevisref01_Add.l102 kq x10_1 x11_1 a0_0 l0_1 a1_0 l1_1 a0_0 x310001_1 = some (r1, r2)) ∧ Aside0 (kq ≤ k) ∧ Aside0 (Kd.R (Kd.int .i64) 3 w' w.heap.size (fun k_ => (w.heap.size ≤ k_)) u310001 x310001_1) ∧ Aside0 (w'.heap[gb302]? = some (.cells #[.bool a0_0, (.slice A0_1 l0_1.length c0_1)] 38 (0, 0))) ∧ Aside0 (w'.heap[gb303]? = some (.cells #[.bool a1_0, (.slice A1_1 l1_1.length c1_1)] 38 (0, 0))) ∧ Aside0 (w'.heap[gb304]? = some (.cells #[.bool false, (.slice none 0 0)] 38 (0, 0))) ∧ Aside0 (w'.heap[gb309]? = some (.cells #[.bool a0_0, u310001] 38 (0, 0))) ∧ Aside0 (Below w.heap.size w w'))
   case atStart => exact ⟨(0), (0), (([] : List Int)), (.slice none 0 0), (by first | rfl | (simp; done) | (simp [*]; done)), (by first | rfl | (simp; done) | (simp [*]; done)), H', ⟨Nat.le_refl _⟩, ⟨by first | exact Kd.R_nil _ _ _ _ _ | exact Kd.N_nil _ _ _ _ _ | exact Kd.V_nil _ _ _ _ _ | exact Kd.Q_nil _ _ _ _ _ | exact Kd.S_nil _ _ _ _ _⟩, ⟨bk_⟩, ⟨bk_⟩, ⟨bk_⟩, ⟨by (with_reducible repeat (first | refine bn_ ?_ _ | refine bd_ ?_ | refine ba_ ?_ _)); refine bp_ (cs := #[.bool a0_0, .slice none 0 0]) ?_ 1 _ rfl; (with_reducible repeat (first | refine bn_ ?_ _ | refine bd_ ?_ | refine ba_ ?_ _)); refine bp_ (cs := #[.bool false, .slice none 0 0]) ?_ 0 _ rfl; (with_reducible repeat (first | refine bn_ ?_ _ | refine bd_ ?_ | refine ba_ ?_ _)); exact BK309.out⟩, ⟨bw_⟩⟩
   case round =>
    clear H'
    try clear c1
    try clear c2
    try clear p2
    try clear c3
    try clear c3b0
    try clear c3b1
    try clear c3b2
    try clear c4
    try clear c5
    try clear c6
    try clear p6
    try clear c7
    try clear c8
    try clear c9
    try clear c10
    try clear c11
    try clear c12
    try clear c13
    try clear c14
    try clear c15
    try clear c18
    try clear c18b0
    try clear c19
    try clear c20
    try clear c21
    try clear c23
    try clear c24
    try clear c25
    try clear c27
    try clear c28
    try clear c30
    try clear c33
    try clear c34
    try clear c35
    try clear c36
    try clear c38
    try clear c39
    try clear c41
    try clear c46
    try clear c48
    try clear c49
    try clear c50
    try clear c58
    try clear c59
    try clear c63
    try clear c63b0
    try clear p64
    try clear c67
    try clear c68
    try clear c70
    try clear c73
    try clear c74
    try clear c75
    try clear c77
    try clear c77b0
    try clear c80
    try clear c80b0
    try clear c80b1
    try clear c81
    try clear c82
    try clear c83
    try clear c84
    try clear c86
    try clear c87
    try clear c89
    try clear c94
    try clear c95
    try clear c96
    try clear c97
    try clear c99
    try clear c100
    try clear c102
    try clear c108
    try clear c109
    try clear c110
    try clear c112
    try clear c113
    try clear c117
    try clear c123
    try clear c124
    try clear c126
    try clear c129
    try clear c130
    try clear c131
    try clear hcz101_0
    try clear hcz101_1
    try clear hcz103_0
    try clear hcz103_1
    try clear hcz106_0
    try clear hcz106_1
    try clear hcz111_0
    try clear hcz111_1
    try clear hcz114_0
    try clear hcz114_1
    try clear hcz118_0
    try clear hcz118_1
    try clear hcz11_0
    try clear hcz11_1
    try clear hcz125_0
    try clear hcz125_1
    try clear hcz127_0
    try clear hcz127_1
    try clear hcz132_0
    try clear hcz132_1
    try clear hcz16_0
    try clear hcz16_1
    try clear hcz22_0
    try clear hcz22_1
    try clear hcz26_0
    try clear hcz26_1
    try clear hcz29_0
    try clear hcz29_1
    try clear hcz37_0
    try clear hcz37_1
    try clear hcz40_0
    try clear hcz40_1
    try clear hcz42_0
    try clear hcz42_1
    try clear hcz45_0
    try clear hcz45_1
    try clear hcz51_0
    try clear hcz51_1
    try clear hcz54_0
    try clear hcz54_1
    try clear hcz56_0
    try clear hcz56_1
    try clear hcz60_0
    try clear hcz60_1
    try clear hcz69_0
    try clear hcz69_1
    try clear hcz71_0
    try clear hcz71_1
    try clear hcz76_0
    try clear hcz76_1
    try clear hcz85_0
    try clear hcz85_1
    try clear hcz88_0
    try clear hcz88_1
    try clear hcz90_0
    try clear hcz90_1
    try clear hcz93_0
    try clear hcz93_1
    try clear hcz98_0
    try clear hcz98_1
    try clear hcz9_0
    try clear hcz9_1
    try clear hfz101_0
    try clear hfz101_1
    try clear hfz103_0
    try clear hfz103_1
    try clear hfz106_0
    try clear hfz106_1
    try clear hfz111_0
    try clear hfz111_1
    try clear hfz114_0
    try clear hfz114_1
    try clear hfz118_0
    try clear hfz118_1
    try clear hfz11_0
    try clear hfz11_1
    try clear hfz125_0
    try clear hfz125_1
    try clear hfz127_0
    try clear hfz127_1
    try clear hfz132_0
    try clear hfz132_1
    try clear hfz16_0
    try clear hfz16_1
    try clear hfz22_0
    try clear hfz22_1
    try clear hfz26_0
    try clear hfz26_1
    try clear hfz29_0
    try clear hfz29_1
    try clear hfz37_0
    try clear hfz37_1
    try clear hfz40_0
    try clear hfz40_1
    try clear hfz42_0
    try clear hfz42_1
    try clear hfz45_0
    try clear hfz45_1
    try clear hfz51_0
    try clear hfz51_1
    try clear hfz54_0
    try clear hfz54_1
    try clear hfz56_0
    try clear hfz56_1
    try clear hfz60_0
    try clear hfz60_1
    try clear hfz69_0
    try clear hfz69_1
    try clear hfz71_0
    try clear hfz71_1
    try clear hfz76_0
    try clear hfz76_1
    try clear hfz85_0
    try clear hfz85_1
    try clear hfz88_0
    try clear hfz88_1
    try clear hfz90_0
    try clear hfz90_1
    try clear hfz93_0
    try clear hfz93_1
    try clear hfz98_0
    try clear hfz98_1
    try clear hfz9_0
    try clear hfz9_1
    try clear p2
    try clear p6
    try clear p64
    obtain ⟨x10_1, x11_1, x310001_1, u310001, rfl, rfl, HA, HK1, HO_310001, BK302, BK303, BK304, BK309, HB⟩ := hrel
    cases gk with
    | zero => exact absurd HA.out (by simp [clevisref01_Add.l102])
    | succ k1 =>
     have H := HA.out
     clear HA
     simp only [clevisref01_Add.l102] at H
     by_cases c133 : x11_1 < (l0_1.length : Int)
     ·
      rw [if_pos c133] at H
      have c133b0 : decide (x11_1 < (l0_1.length : Int)) = true := decide_eq_true c133
      clear c133
      replace H := os_ H
      obtain ⟨t237, A1340, H⟩ := H
      replace H : ((clevisref01_at.f l1_1 x11_1).bind fun t238 => (if (wrap64 ((wrap64 (t237 - t238)) - x10_1)) < 0 then (if x310001_1.length < 17592186044416 then (clevisref01_Add.l102 k1 1 (wrap64 (x11_1 + 1)) a0_0 l0_1 a1_0 l1_1 a0_0 (x310001_1 ++ [wrap64 ((wrap64 ((wrap64 (t237 - t238)) - x10_1)) + 65536)])) else (none)) else (if x310001_1.length < 17592186044416 then (clevisref01_Add.l102 k1 0 (wrap64 (x11_1 + 1)) a0_0 l0_1 a1_0 l1_1 a0_0 (x310001_1 ++ [wrap64 ((wrap64 (t237 - t238)) - x10_1)])) else (none)))) = some (r1, r2) := H
      have A134 := A_ A1340
      clear A1340
      replace H := os_ H
      obtain ⟨t238, A1350, H⟩ := H
      replace H : (if (wrap64 ((wrap64 (t237 - t238)) - x10_1)) < 0 then (if x310001_1.length < 17592186044416 then (clevisref01_Add.l102 k1 1 (wrap64 (x11_1 + 1)) a0_0 l0_1 a1_0 l1_1 a0_0 (x310001_1 ++ [wrap64 ((wrap64 ((wrap64 (t237 - t238)) - x10_1)) + 65536)])) else (none)) else (if x310001_1.length < 17592186044416 then (clevisref01_Add.l102 k1 0 (wrap64 (x11_1 + 1)) a0_0 l0_1 a1_0 l1_1 a0_0 (x310001_1 ++ [wrap64 ((wrap64 (t237 - t238)) - x10_1)])) else (none))) = some (r1, r2) := H
      have A135 := A_ A1350
      clear A1350
      by_cases c136 : (wrap64 ((wrap64 (t237 - t238)) - x10_1)) < 0
      ·
       rw [if_pos c136] at H
       have c136b0 : decide ((wrap64 ((wrap64 (t237 - t238)) - x10_1)) < 0) = true := decide_eq_true c136
       (try (have c136b1 : decide ((IntKind.i64.wrap ((IntKind.i64.wrap (t237 - t238)) - x10_1)) < 0) = true := by first | exact (decide_eq_true c136) | (simp only [i64_w]; exact (decide_eq_true c136))))
       clear c136
       by_cases c137 : x310001_1.length < 17592186044416
       ·
        rw [if_pos c137] at H
        have LMc137 := A_ c137
        clear c137
        obtain ⟨y239, hy239⟩ : ∃ y_ : List Int, y_ = (x310001_1 ++ [wrap64 ((wrap64 ((wrap64 (t237 - t238)) - x10_1)) + 65536)]) := ⟨_, rfl⟩
        replace H : (clevisref01_Add.l102 k1 1 (wrap64 (x11_1 + 1)) a0_0 l0_1 a1_0 l1_1 a0_0 y239) = some (r1, r2) := by first | (rw [hy239]; with_reducible exact H) | (have H2_ := (Option.bind_some _ _).symm.trans H; rw [hy239]; with_reducible exact H2_) | (have H2_ := (Option.bind_some _ _).symm.trans H; with_reducible exact H2_) | with_reducible exact H | (rw [hy239]; exact H) | exact H
        have Ny239 := A_ hy239
        clear hy239
        have H' := A_ H
        clear H
        have hnb138 := NB302_303.out
        have hnc138 := NB303_302.out
        have hnb139 := NB302_304.out
        have hnc139 := NB304_302.out
        have hnb140 := NB302_309.out
        have hnc140 := NB309_302.out
        have hcz141_0 : wr.cell? ⟨gb302, 0, none⟩ = some (.bool a0_0) := (bc_ BK302.out 0).trans rfl
        have hcz141_1 : wr.cell? ⟨gb302, 1, none⟩ = some (.slice A0_1 l0_1.length c0_1) := (bc_ BK302.out 1).trans rfl
        have hfz141_0 := bf_ BK302.out 0
        have hfz141_1 := bf_ BK302.out 1
        go_wp2_with (first | (go_at_call 44; (with_reducible refine (clevisref01_at.calls _ _ l0_1 x11_1 t237 _ ?side1 ?side2 A134.out).mono ?_); (case side1 => repeat (first | exact (cb_ HR0_1.out HB.out) | (with_reducible refine ca_ ?_ _) | (with_reducible refine cn_ ?_ _) | (with_reducible refine cd_ ?_))); (case side2 => exact HC0_1.out); rintro e w' ⟨rfl, ⟨nd, rfl⟩⟩; (try first | exact ⟨rfl, _, dd_ _ _ _⟩ | exact ⟨rfl, _, Eq.trans (dd_ _ _ _) (congrArg (World.drewN _) (Nat.add_assoc _ _ _))⟩); have hnb142 := NB303_304.out; have hnc142 := NB304_303.out; have hnb143 := NB303_309.out; have hnc143 := NB309_303.out; have hcz144_0 : wr.cell? ⟨gb303, 0, none⟩ = some (.bool a1_0) := (bc_ BK303.out 0).trans rfl; have hcz144_1 : wr.cell? ⟨gb303, 1, none⟩ = some (.slice A1_1 l1_1.length c1_1) := (bc_ BK303.out 1).trans rfl; have hfz144_0 := bf_ BK303.out 0; have hfz144_1 := bf_ BK303.out 1) | (go_at_call 44; (with_reducible refine (clevisref01_at.calls _ _ l1_1 x11_1 t238 _ ?side1 ?side2 A135.out).mono ?_); (case side1 => repeat (first | exact (cb_ HR1_1.out bw_) | (with_reducible refine ca_ ?_ _) | (with_reducible refine cn_ ?_ _) | (with_reducible refine cd_ ?_))); (case side2 => exact HC1_1.out); rintro e w' ⟨rfl, ⟨nd, rfl⟩⟩; (try first | exact ⟨rfl, _, dd_ _ _ _⟩ | exact ⟨rfl, _, Eq.trans (dd_ _ _ _) (congrArg (World.drewN _) (Nat.add_assoc _ _ _))⟩); have hnb145 := NB309_304.out; have hnc145 := NB304_309.out; have hcz146_0 : wr.cell? ⟨gb309, 0, none⟩ = some (.bool a0_0) := (bc_ BK309.out 0).trans rfl; have hcz146_1 : wr.cell? ⟨gb309, 1, none⟩ = some (u310001) := (bc_ BK309.out 1).trans rfl; have hfz146_0 := bf_ BK309.out 0; have hfz146_1 := bf_ BK309.out 1) | ((with_reducible refine gate_builtin (b := .append) (xs := #[.tmp 97, .tmp 99]) rfl ?_); (try (refine gate_guard (by rfl) ?_; dsimp only)); at_builtin; refine Kd.R_append (Kd.int .i64) (w0 := w) w.heap.size rfl (.tmp 97) (.tmp 99) 36 3 (.int .i64 0) 8 rfl Try.underlying36 info3 rfl (by decide) (by omega) u310001 x310001_1 (wrap64 ((wrap64 ((wrap64 (t237 - t238)) - x10_1)) + 65536)) [.int .i64 (wrap64 ((wrap64 ((wrap64 (t237 - t238)) - x10_1)) + 65536))] (fun k_ => (w.heap.size ≤ k_)) (fun _ => False) rfl rfl ?aP (fun _ hk => hk.elim) ?aF ?aO ?aB ?aS ?aL ?_; (case aP => exact rfl); (case aB => exact bw_); (case aF => exact (fun k_ hk => (Nat.le_trans (bz_ bw_) hk))); (case aO => exact (by (with_reducible repeat (first | apply Kd.R_alloc | apply Kd.R_drewN | apply Kd.R_drew)); exact HO_310001.out)); (case aS => exact (bz_ bw_)); (case aL => have := LMc137.out; omega); intro v240 w147 ho hb hg hat; rw [← Ny239.out] at ho; have n0_ := A_ (blk_grown (g := gb302) (o := .cells #[.bool a0_0, .slice A0_1 l0_1.length c0_1] 38 (0, 0)) bk_ hg (Kd.R_ne HO_310001.out BK302.out (by decide))); have n1_ := A_ (blk_grown (g := gb303) (o := .cells #[.bool a1_0, .slice A1_1 l1_1.length c1_1] 38 (0, 0)) bk_ hg (Kd.R_ne HO_310001.out BK303.out (by decide))); have n2_ := A_ (blk_grown (g := gb304) (o := .cells #[.bool false, .slice none 0 0] 38 (0, 0)) bk_ hg (Kd.R_ne HO_310001.out BK304.out (by decide))); have n3_ := A_ (blk_grown (g := gb309) (o := .cells #[.bool a0_0, u310001] 38 (0, 0)) bk_ hg (Kd.R_ne HO_310001.out BK309.out (by decide))); have n4_ := A_ (hb); have n5_ := A_ (ho); clear BK302; clear BK303; clear BK304; clear BK309; clear HB; clear HO_310001; have BK302 := n0_; have BK303 := n1_; have BK304 := n2_; have BK309 := n3_; have HB := n4_; have HO241 := n5_; clear n0_ n1_ n2_ n3_ n4_ n5_; clear ho hb hg hat; obtain ⟨Ao148, co148, eo148⟩ := Kd.R_slice HO241.out; subst eo148; have hcz149_0 : w147.cell? ⟨gb309, 0, none⟩ = some (.bool a0_0) := (bc_ BK309.out 0).trans rfl; have hcz149_1 : w147.cell? ⟨gb309, 1, none⟩ = some (u310001) := (bc_ BK309.out 1).trans rfl; have hfz149_0 := bf_ BK309.out 0; have hfz149_1 := bf_ BK309.out 1))
        repeat (go_quiet (first | (go_at_call 44; (with_reducible refine (clevisref01_at.calls _ _ l0_1 x11_1 t237 _ ?side1 ?side2 A134.out).mono ?_); (case side1 => repeat (first | exact (cb_ HR0_1.out HB.out) | (with_reducible refine ca_ ?_ _) | (with_reducible refine cn_ ?_ _) | (with_reducible refine cd_ ?_))); (case side2 => exact HC0_1.out); rintro e w' ⟨rfl, ⟨nd, rfl⟩⟩; (try first | exact ⟨rfl, _, dd_ _ _ _⟩ | exact ⟨rfl, _, Eq.trans (dd_ _ _ _) (congrArg (World.drewN _) (Nat.add_assoc _ _ _))⟩); have hnb142 := NB303_304.out; have hnc142 := NB304_303.out; have hnb143 := NB303_309.out; have hnc143 := NB309_303.out; have hcz144_0 : wr.cell? ⟨gb303, 0, none⟩ = some (.bool a1_0) := (bc_ BK303.out 0).trans rfl; have hcz144_1 : wr.cell? ⟨gb303, 1, none⟩ = some (.slice A1_1 l1_1.length c1_1) := (bc_ BK303.out 1).trans rfl; have hfz144_0 := bf_ BK303.out 0; have hfz144_1 := bf_ BK303.out 1) | (go_at_call 44; (with_reducible refine (clevisref01_at.calls _ _ l1_1 x11_1 t238 _ ?side1 ?side2 A135.out).mono ?_); (case side1 => repeat (first | exact (cb_ HR1_1.out bw_) | (with_reducible refine ca_ ?_ _) | (with_reducible refine cn_ ?_ _) | (with_reducible refine cd_ ?_))); (case side2 => exact HC1_1.out); rintro e w' ⟨rfl, ⟨nd, rfl⟩⟩; (try first | exact ⟨rfl, _, dd_ _ _ _⟩ | exact ⟨rfl, _, Eq.trans (dd_ _ _ _) (congrArg (World.drewN _) (Nat.add_assoc _ _ _))⟩); have hnb145 := NB309_304.out; have hnc145 := NB304_309.out; have hcz146_0 : wr.cell? ⟨gb309, 0, none⟩ = some (.bool a0_0) := (bc_ BK309.out 0).trans rfl; have hcz146_1 : wr.cell? ⟨gb309, 1, none⟩ = some (u310001) := (bc_ BK309.out 1).trans rfl; have hfz146_0 := bf_ BK309.out 0; have hfz146_1 := bf_ BK309.out 1) | ((with_reducible refine gate_builtin (b := .append) (xs := #[.tmp 97, .tmp 99]) rfl ?_); (try (refine gate_guard (by rfl) ?_; dsimp only)); at_builtin; refine Kd.R_append (Kd.int .i64) (w0 := w) w.heap.size rfl (.tmp 97) (.tmp 99) 36 3 (.int .i64 0) 8 rfl Try.underlying36 info3 rfl (by decide) (by omega) u310001 x310001_1 (wrap64 ((wrap64 ((wrap64 (t237 - t238)) - x10_1)) + 65536)) [.int .i64 (wrap64 ((wrap64 ((wrap64 (t237 - t238)) - x10_1)) + 65536))] (fun k_ => (w.heap.size ≤ k_)) (fun _ => False) rfl rfl ?aP (fun _ hk => hk.elim) ?aF ?aO ?aB ?aS ?aL ?_; (case aP => exact rfl); (case aB => exact bw_); (case aF => exact (fun k_ hk => (Nat.le_trans (bz_ bw_) hk))); (case aO => exact (by (with_reducible repeat (first | apply Kd.R_alloc | apply Kd.R_drewN | apply Kd.R_drew)); exact HO_310001.out)); (case aS => exact (bz_ bw_)); (case aL => have := LMc137.out; omega); intro v240 w147 ho hb hg hat; rw [← Ny239.out] at ho; have n0_ := A_ (blk_grown (g := gb302) (o := .cells #[.bool a0_0, .slice A0_1 l0_1.length c0_1] 38 (0, 0)) bk_ hg (Kd.R_ne HO_310001.out BK302.out (by decide))); have n1_ := A_ (blk_grown (g := gb303) (o := .cells #[.bool a1_0, .slice A1_1 l1_1.length c1_1] 38 (0, 0)) bk_ hg (Kd.R_ne HO_310001.out BK303.out (by decide))); have n2_ := A_ (blk_grown (g := gb304) (o := .cells #[.bool false, .slice none 0 0] 38 (0, 0)) bk_ hg (Kd.R_ne HO_310001.out BK304.out (by decide))); have n3_ := A_ (blk_grown (g := gb309) (o := .cells #[.bool a0_0, u310001] 38 (0, 0)) bk_ hg (Kd.R_ne HO_310001.out BK309.out (by decide))); have n4_ := A_ (hb); have n5_ := A_ (ho); clear BK302; clear BK303; clear BK304; clear BK309; clear HB; clear HO_310001; have BK302 := n0_; have BK303 := n1_; have BK304 := n2_; have BK309 := n3_; have HB := n4_; have HO241 := n5_; clear n0_ n1_ n2_ n3_ n4_ n5_; clear ho hb hg hat; obtain ⟨Ao148, co148, eo148⟩ := Kd.R_slice HO241.out; subst eo148; have hcz149_0 : w147.cell? ⟨gb309, 0, none⟩ = some (.bool a0_0) := (bc_ BK309.out 0).trans rfl; have hcz149_1 : w147.cell? ⟨gb309, 1, none⟩ = some (u310001) := (bc_ BK309.out 1).trans rfl; have hfz149_0 := bf_ BK309.out 0; have hfz149_1 := bf_ BK309.out 1)); try go_wp2_with (first | (go_at_call 44; (with_reducible refine (clevisref01_at.calls _ _ l0_1 x11_1 t237 _ ?side1 ?side2 A134.out).mono ?_); (case side1 => repeat (first | exact (cb_ HR0_1.out HB.out) | (with_reducible refine ca_ ?_ _) | (with_reducible refine cn_ ?_ _) | (with_reducible refine cd_ ?_))); (case side2 => exact HC0_1.out); rintro e w' ⟨rfl, ⟨nd, rfl⟩⟩; (try first | exact ⟨rfl, _, dd_ _ _ _⟩ | exact ⟨rfl, _, Eq.trans (dd_ _ _ _) (congrArg (World.drewN _) (Nat.add_assoc _ _ _))⟩); have hnb142 := NB303_304.out; have hnc142 := NB304_303.out; have hnb143 := NB303_309.out; have hnc143 := NB309_303.out; have hcz144_0 : wr.cell? ⟨gb303, 0, none⟩ = some (.bool a1_0) := (bc_ BK303.out 0).trans rfl; have hcz144_1 : wr.cell? ⟨gb303, 1, none⟩ = some (.slice A1_1 l1_1.length c1_1) := (bc_ BK303.out 1).trans rfl; have hfz144_0 := bf_ BK303.out 0; have hfz144_1 := bf_ BK303.out 1) | (go_at_call 44; (with_reducible refine (clevisref01_at.calls _ _ l1_1 x11_1 t238 _ ?side1 ?side2 A135.out).mono ?_); (case side1 => repeat (first | exact (cb_ HR1_1.out bw_) | (with_reducible refine ca_ ?_ _) | (with_reducible refine cn_ ?_ _) | (with_reducible refine cd_ ?_))); (case side2 => exact HC1_1.out); rintro e w' ⟨rfl, ⟨nd, rfl⟩⟩; (try first | exact ⟨rfl, _, dd_ _ _ _⟩ | exact ⟨rfl, _, Eq.trans (dd_ _ _ _) (congrArg (World.drewN _) (Nat.add_assoc _ _ _))⟩); have hnb145 := NB309_304.out; have hnc145 := NB304_309.out; have hcz146_0 : wr.cell? ⟨gb309, 0, none⟩ = some (.bool a0_0) := (bc_ BK309.out 0).trans rfl; have hcz146_1 : wr.cell? ⟨gb309, 1, none⟩ = some (u310001) := (bc_ BK309.out 1).trans rfl; have hfz146_0 := bf_ BK309.out 0; have hfz146_1 := bf_ BK309.out 1) | ((with_reducible refine gate_builtin (b := .append) (xs := #[.tmp 97, .tmp 99]) rfl ?_); (try (refine gate_guard (by rfl) ?_; dsimp only)); at_builtin; refine Kd.R_append (Kd.int .i64) (w0 := w) w.heap.size rfl (.tmp 97) (.tmp 99) 36 3 (.int .i64 0) 8 rfl Try.underlying36 info3 rfl (by decide) (by omega) u310001 x310001_1 (wrap64 ((wrap64 ((wrap64 (t237 - t238)) - x10_1)) + 65536)) [.int .i64 (wrap64 ((wrap64 ((wrap64 (t237 - t238)) - x10_1)) + 65536))] (fun k_ => (w.heap.size ≤ k_)) (fun _ => False) rfl rfl ?aP (fun _ hk => hk.elim) ?aF ?aO ?aB ?aS ?aL ?_; (case aP => exact rfl); (case aB => exact bw_); (case aF => exact (fun k_ hk => (Nat.le_trans (bz_ bw_) hk))); (case aO => exact (by (with_reducible repeat (first | apply Kd.R_alloc | apply Kd.R_drewN | apply Kd.R_drew)); exact HO_310001.out)); (case aS => exact (bz_ bw_)); (case aL => have := LMc137.out; omega); intro v240 w147 ho hb hg hat; rw [← Ny239.out] at ho; have n0_ := A_ (blk_grown (g := gb302) (o := .cells #[.bool a0_0, .slice A0_1 l0_1.length c0_1] 38 (0, 0)) bk_ hg (Kd.R_ne HO_310001.out BK302.out (by decide))); have n1_ := A_ (blk_grown (g := gb303) (o := .cells #[.bool a1_0, .slice A1_1 l1_1.length c1_1] 38 (0, 0)) bk_ hg (Kd.R_ne HO_310001.out BK303.out (by decide))); have n2_ := A_ (blk_grown (g := gb304) (o := .cells #[.bool false, .slice none 0 0] 38 (0, 0)) bk_ hg (Kd.R_ne HO_310001.out BK304.out (by decide))); have n3_ := A_ (blk_grown (g := gb309) (o := .cells #[.bool a0_0, u310001] 38 (0, 0)) bk_ hg (Kd.R_ne HO_310001.out BK309.out (by decide))); have n4_ := A_ (hb); have n5_ := A_ (ho); clear BK302; clear BK303; clear BK304; clear BK309; clear HB; clear HO_310001; have BK302 := n0_; have BK303 := n1_; have BK304 := n2_; have BK309 := n3_; have HB := n4_; have HO241 := n5_; clear n0_ n1_ n2_ n3_ n4_ n5_; clear ho hb hg hat; obtain ⟨Ao148, co148, eo148⟩ := Kd.R_slice HO241.out; subst eo148; have hcz149_0 : w147.cell? ⟨gb309, 0, none⟩ = some (.bool a0_0) := (bc_ BK309.out 0).trans rfl; have hcz149_1 : w147.cell? ⟨gb309, 1, none⟩ = some (u310001) := (bc_ BK309.out 1).trans rfl; have hfz149_0 := bf_ BK309.out 0; have hfz149_1 := bf_ BK309.out 1)))
        go_roundg k1
        case measure => have := HK1.out; omega
        case rel => exact ⟨(1), (wrap64 (x11_1 + 1)), (y239), (.slice Ao148 y239.length co148), (by first | rfl | (simp; done) | (simp [*]; done)), (by first | rfl | (simp; done) | (simp [*]; done)), H', ⟨by have := HK1.out; omega⟩, ⟨by (with_reducible repeat (first | apply Kd.R_alloc | apply Kd.R_drewN | apply Kd.R_drew)); exact Kd.R_mono (Kd.R_far (p := ⟨gb309, 1, none⟩) (Kd.R_types HO241.out BK309.out (by decide)) (fun _ hk => hk.2) (.slice Ao148 y239.length co148)) (fun _ hk => hk.1)⟩, ⟨bk_⟩, ⟨bk_⟩, ⟨bk_⟩, ⟨by (with_reducible repeat (first | refine bn_ ?_ _ | refine bd_ ?_ | refine ba_ ?_ _)); refine bp_ (cs := #[.bool a0_0, u310001]) ?_ 1 _ rfl; (with_reducible repeat (first | refine bn_ ?_ _ | refine bd_ ?_ | refine ba_ ?_ _)); exact BK309.out⟩, ⟨bw_⟩⟩
       ·
        rw [if_neg c137] at H
        exact absurd H (by simp)
      ·
       rw [if_neg c136] at H
       have c136b0 : decide ((wrap64 ((wrap64 (t237 - t238)) - x10_1)) < 0) = false := decide_eq_false c136
       (try (have c136b1 : decide ((IntKind.i64.wrap ((IntKind.i64.wrap (t237 - t238)) - x10_1)) < 0) = false := by first | exact (decide_eq_false c136) | (simp only [i64_w]; exact (decide_eq_false c136))))
       clear c136
       by_cases c150 : x310001_1.length < 17592186044416
       ·
        rw [if_pos c150] at H
        have LMc150 := A_ c150
        clear c150
        obtain ⟨y242, hy242⟩ : ∃ y_ : List Int, y_ = (x310001_1 ++ [wrap64 ((wrap64 (t237 - t238)) - x10_1)]) := ⟨_, rfl⟩
        replace H : (clevisref01_Add.l102 k1 0 (wrap64 (x11_1 + 1)) a0_0 l0_1 a1_0 l1_1 a0_0 y242) = some (r1, r2) := by first | (rw [hy242]; with_reducible exact H) | (have H2_ := (Option.bind_some _ _).symm.trans H; rw [hy242]; with_reducible exact H2_) | (have H2_ := (Option.bind_some _ _).symm.trans H; with_reducible exact H2_) | with_reducible exact H | (rw [hy242]; exact H) | exact H
        have Ny242 := A_ hy242
        clear hy242
        have H' := A_ H
        clear H
        have hnb151 := NB302_303.out
        have hnc151 := NB303_302.out
        have hnb152 := NB302_304.out
        have hnc152 := NB304_302.out
        have hnb153 := NB302_309.out
        have hnc153 := NB309_302.out
        have hcz154_0 : wr.cell? ⟨gb302, 0, none⟩ = some (.bool a0_0) := (bc_ BK302.out 0).trans rfl
        have hcz154_1 : wr.cell? ⟨gb302, 1, none⟩ = some (.slice A0_1 l0_1.length c0_1) := (bc_ BK302.out 1).trans rfl
        have hfz154_0 := bf_ BK302.out 0
        have hfz154_1 := bf_ BK302.out 1
        go_wp2_with (first | (go_at_call 44; (with_reducible refine (clevisref01_at.calls _ _ l0_1 x11_1 t237 _ ?side1 ?side2 A134.out).mono ?_); (case side1 => repeat (first | exact (cb_ HR0_1.out HB.out) | (with_reducible refine ca_ ?_ _) | (with_reducible refine cn_ ?_ _) | (with_reducible refine cd_ ?_))); (case side2 => exact HC0_1.out); rintro e w' ⟨rfl, ⟨nd, rfl⟩⟩; (try first | exact ⟨rfl, _, dd_ _ _ _⟩ | exact ⟨rfl, _, Eq.trans (dd_ _ _ _) (congrArg (World.drewN _) (Nat.add_assoc _ _ _))⟩); have hnb155 := NB303_304.out; have hnc155 := NB304_303.out; have hnb156 := NB303_309.out; have hnc156 := NB309_303.out; have hcz157_0 : wr.cell? ⟨gb303, 0, none⟩ = some (.bool a1_0) := (bc_ BK303.out 0).trans rfl; have hcz157_1 : wr.cell? ⟨gb303, 1, none⟩ = some (.slice A1_1 l1_1.length c1_1) := (bc_ BK303.out 1).trans rfl; have hfz157_0 := bf_ BK303.out 0; have hfz157_1 := bf_ BK303.out 1) | (go_at_call 44; (with_reducible refine (clevisref01_at.calls _ _ l1_1 x11_1 t238 _ ?side1 ?side2 A135.out).mono ?_); (case side1 => repeat (first | exact (cb_ HR1_1.out bw_) | (with_reducible refine ca_ ?_ _) | (with_reducible refine cn_ ?_ _) | (with_reducible refine cd_ ?_))); (case side2 => exact HC1_1.out); rintro e w' ⟨rfl, ⟨nd, rfl⟩⟩; (try first | exact ⟨rfl, _, dd_ _ _ _⟩ | exact ⟨rfl, _, Eq.trans (dd_ _ _ _) (congrArg (World.drewN _) (Nat.add_assoc _ _ _))⟩); have hnb158 := NB309_304.out; have hnc158 := NB304_309.out; have hcz159_0 : wr.cell? ⟨gb309, 0, none⟩ = some (.bool a0_0) := (bc_ BK309.out 0).trans rfl; have hcz159_1 : wr.cell? ⟨gb309, 1, none⟩ = some (u310001) := (bc_ BK309.out 1).trans rfl; have hfz159_0 := bf_ BK309.out 0; have hfz159_1 := bf_ BK309.out 1) | ((with_reducible refine gate_builtin (b := .append) (xs := #[.tmp 97, .tmp 99]) rfl ?_); (try (refine gate_guard (by rfl) ?_; dsimp only)); at_builtin; refine Kd.R_append (Kd.int .i64) (w0 := w) w.heap.size rfl (.tmp 97) (.tmp 99) 36 3 (.int .i64 0) 8 rfl Try.underlying36 info3 rfl (by decide) (by omega) u310001 x310001_1 (wrap64 ((wrap64 (t237 - t238)) - x10_1)) [.int .i64 (wrap64 ((wrap64 (t237 - t238)) - x10_1))] (fun k_ => (w.heap.size ≤ k_)) (fun _ => False) rfl rfl ?aP (fun _ hk => hk.elim) ?aF ?aO ?aB ?aS ?aL ?_; (case aP => exact rfl); (case aB => exact bw_); (case aF => exact (fun k_ hk => (Nat.le_trans (bz_ bw_) hk))); (case aO => exact (by (with_reducible repeat (first | apply Kd.R_alloc | apply Kd.R_drewN | apply Kd.R_drew)); exact HO_310001.out)); (case aS => exact (bz_ bw_)); (case aL => have := LMc150.out; omega); intro v243 w160 ho hb hg hat; rw [← Ny242.out] at ho; have n0_ := A_ (blk_grown (g := gb302) (o := .cells #[.bool a0_0, .slice A0_1 l0_1.length c0_1] 38 (0, 0)) bk_ hg (Kd.R_ne HO_310001.out BK302.out (by decide))); have n1_ := A_ (blk_grown (g := gb303) (o := .cells #[.bool a1_0, .slice A1_1 l1_1.length c1_1] 38 (0, 0)) bk_ hg (Kd.R_ne HO_310001.out BK303.out (by decide))); have n2_ := A_ (blk_grown (g := gb304) (o := .cells #[.bool false, .slice none 0 0] 38 (0, 0)) bk_ hg (Kd.R_ne HO_310001.out BK304.out (by decide))); have n3_ := A_ (blk_grown (g := gb309) (o := .cells #[.bool a0_0, u310001] 38 (0, 0)) bk_ hg (Kd.R_ne HO_310001.out BK309.out (by decide))); have n4_ := A_ (hb); have n5_ := A_ (ho); clear BK302; clear BK303; clear BK304; clear BK309; clear HB; clear HO_310001; have BK302 := n0_; have BK303 := n1_; have BK304 := n2_; have BK309 := n3_; have HB := n4_; have HO244 := n5_; clear n0_ n1_ n2_ n3_ n4_ n5_; clear ho hb hg hat; obtain ⟨Ao161, co161, eo161⟩ := Kd.R_slice HO244.out; subst eo161; have hcz162_0 : w160.cell? ⟨gb309, 0, none⟩ = some (.bool a0_0) := (bc_ BK309.out 0).trans rfl; have hcz162_1 : w160.cell? ⟨gb309, 1, none⟩ = some (u310001) := (bc_ BK309.out 1).trans rfl; have hfz162_0 := bf_ BK309.out 0; have hfz162_1 := bf_ BK309.out 1))
        repeat (go_quiet (first | (go_at_call 44; (with_reducible refine (clevisref01_at.calls _ _ l0_1 x11_1 t237 _ ?side1 ?side2 A134.out).mono ?_); (case side1 => repeat (first | exact (cb_ HR0_1.out HB.out) | (with_reducible refine ca_ ?_ _) | (with_reducible refine cn_ ?_ _) | (with_reducible refine cd_ ?_))); (case side2 => exact HC0_1.out); rintro e w' ⟨rfl, ⟨nd, rfl⟩⟩; (try first | exact ⟨rfl, _, dd_ _ _ _⟩ | exact ⟨rfl, _, Eq.trans (dd_ _ _ _) (congrArg (World.drewN _) (Nat.add_assoc _ _ _))⟩); have hnb155 := NB303_304.out; have hnc155 := NB304_303.out; have hnb156 := NB303_309.out; have hnc156 := NB309_303.out; have hcz157_0 : wr.cell? ⟨gb303, 0, none⟩ = some (.bool a1_0) := (bc_ BK303.out 0).trans rfl; have hcz157_1 : wr.cell? ⟨gb303, 1, none⟩ = some (.slice A1_1 l1_1.length c1_1) := (bc_ BK303.out 1).trans rfl; have hfz157_0 := bf_ BK303.out 0; have hfz157_1 := bf_ BK303.out 1) | (go_at_call 44; (with_reducible refine (clevisref01_at.calls _ _ l1_1 x11_1 t238 _ ?side1 ?side2 A135.out).mono ?_); (case side1 => repeat (first | exact (cb_ HR1_1.out bw_) | (with_reducible refine ca_ ?_ _) | (with_reducible refine cn_ ?_ _) | (with_reducible refine cd_ ?_))); (case side2 => exact HC1_1.out); rintro e w' ⟨rfl, ⟨nd, rfl⟩⟩; (try first | exact ⟨rfl, _, dd_ _ _ _⟩ | exact ⟨rfl, _, Eq.trans (dd_ _ _ _) (congrArg (World.drewN _) (Nat.add_assoc _ _ _))⟩); have hnb158 := NB309_304.out; have hnc158 := NB304_309.out; have hcz159_0 : wr.cell? ⟨gb309, 0, none⟩ = some (.bool a0_0) := (bc_ BK309.out 0).trans rfl; have hcz159_1 : wr.cell? ⟨gb309, 1, none⟩ = some (u310001) := (bc_ BK309.out 1).trans rfl; have hfz159_0 := bf_ BK309.out 0; have hfz159_1 := bf_ BK309.out 1) | ((with_reducible refine gate_builtin (b := .append) (xs := #[.tmp 97, .tmp 99]) rfl ?_); (try (refine gate_guard (by rfl) ?_; dsimp only)); at_builtin; refine Kd.R_append (Kd.int .i64) (w0 := w) w.heap.size rfl (.tmp 97) (.tmp 99) 36 3 (.int .i64 0) 8 rfl Try.underlying36 info3 rfl (by decide) (by omega) u310001 x310001_1 (wrap64 ((wrap64 (t237 - t238)) - x10_1)) [.int .i64 (wrap64 ((wrap64 (t237 - t238)) - x10_1))] (fun k_ => (w.heap.size ≤ k_)) (fun _ => False) rfl rfl ?aP (fun _ hk => hk.elim) ?aF ?aO ?aB ?aS ?aL ?_; (case aP => exact rfl); (case aB => exact bw_); (case aF => exact (fun k_ hk => (Nat.le_trans (bz_ bw_) hk))); (case aO => exact (by (with_reducible repeat (first | apply Kd.R_alloc | apply Kd.R_drewN | apply Kd.R_drew)); exact HO_310001.out)); (case aS => exact (bz_ bw_)); (case aL => have := LMc150.out; omega); intro v243 w160 ho hb hg hat; rw [← Ny242.out] at ho; have n0_ := A_ (blk_grown (g := gb302) (o := .cells #[.bool a0_0, .slice A0_1 l0_1.length c0_1] 38 (0, 0)) bk_ hg (Kd.R_ne HO_310001.out BK302.out (by decide))); have n1_ := A_ (blk_grown (g := gb303) (o := .cells #[.bool a1_0, .slice A1_1 l1_1.length c1_1] 38 (0, 0)) bk_ hg (Kd.R_ne HO_310001.out BK303.out (by decide))); have n2_ := A_ (blk_grown (g := gb304) (o := .cells #[.bool false, .slice none 0 0] 38 (0, 0)) bk_ hg (Kd.R_ne HO_310001.out BK304.out (by decide))); have n3_ := A_ (blk_grown (g := gb309) (o := .cells #[.bool a0_0, u310001] 38 (0, 0)) bk_ hg (Kd.R_ne HO_310001.out BK309.out (by decide))); have n4_ := A_ (hb); have n5_ := A_ (ho); clear BK302; clear BK303; clear BK304; clear BK309; clear HB; clear HO_310001; have BK302 := n0_; have BK303 := n1_; have BK304 := n2_; have BK309 := n3_; have HB := n4_; have HO244 := n5_; clear n0_ n1_ n2_ n3_ n4_ n5_; clear ho hb hg hat; obtain ⟨Ao161, co161, eo161⟩ := Kd.R_slice HO244.out; subst eo161; have hcz162_0 : w160.cell? ⟨gb309, 0, none⟩ = some (.bool a0_0) := (bc_ BK309.out 0).trans rfl; have hcz162_1 : w160.cell? ⟨gb309, 1, none⟩ = some (u310001) := (bc_ BK309.out 1).trans rfl; have hfz162_0 := bf_ BK309.out 0; have hfz162_1 := bf_ BK309.out 1)); try go_wp2_with (first | (go_at_call 44; (with_reducible refine (clevisref01_at.calls _ _ l0_1 x11_1 t237 _ ?side1 ?side2 A134.out).mono ?_); (case side1 => repeat (first | exact (cb_ HR0_1.out HB.out) | (with_reducible refine ca_ ?_ _) | (with_reducible refine cn_ ?_ _) | (with_reducible refine cd_ ?_))); (case side2 => exact HC0_1.out); rintro e w' ⟨rfl, ⟨nd, rfl⟩⟩; (try first | exact ⟨rfl, _, dd_ _ _ _⟩ | exact ⟨rfl, _, Eq.trans (dd_ _ _ _) (congrArg (World.drewN _) (Nat.add_assoc _ _ _))⟩); have hnb155 := NB303_304.out; have hnc155 := NB304_303.out; have hnb156 := NB303_309.out; have hnc156 := NB309_303.out; have hcz157_0 : wr.cell? ⟨gb303, 0, none⟩ = some (.bool a1_0) := (bc_ BK303.out 0).trans rfl; have hcz157_1 : wr.cell? ⟨gb303, 1, none⟩ = some (.slice A1_1 l1_1.length c1_1) := (bc_ BK303.out 1).trans rfl; have hfz157_0 := bf_ BK303.out 0; have hfz157_1 := bf_ BK303.out 1) | (go_at_call 44; (with_reducible refine (clevisref01_at.calls _ _ l1_1 x11_1 t238 _ ?side1 ?side2 A135.out).mono ?_); (case side1 => repeat (first | exact (cb_ HR1_1.out bw_) | (with_reducible refine ca_ ?_ _) | (with_reducible refine cn_ ?_ _) | (with_reducible refine cd_ ?_))); (case side2 => exact HC1_1.out); rintro e w' ⟨rfl, ⟨nd, rfl⟩⟩; (try first | exact ⟨rfl, _, dd_ _ _ _⟩ | exact ⟨rfl, _, Eq.trans (dd_ _ _ _) (congrArg (World.drewN _) (Nat.add_assoc _ _ _))⟩); have hnb158 := NB309_304.out; have hnc158 := NB304_309.out; have hcz159_0 : wr.cell? ⟨gb309, 0, none⟩ = some (.bool a0_0) := (bc_ BK309.out 0).trans rfl; have hcz159_1 : wr.cell? ⟨gb309, 1, none⟩ = some (u310001) := (bc_ BK309.out 1).trans rfl; have hfz159_0 := bf_ BK309.out 0; have hfz159_1 := bf_ BK309.out 1) | ((with_reducible refine gate_builtin (b := .append) (xs := #[.tmp 97, .tmp 99]) rfl ?_); (try (refine gate_guard (by rfl) ?_; dsimp only)); at_builtin; refine Kd.R_append (Kd.int .i64) (w0 := w) w.heap.size rfl (.tmp 97) (.tmp 99) 36 3 (.int .i64 0) 8 rfl Try.underlying36 info3 rfl (by decide) (by omega) u310001 x310001_1 (wrap64 ((wrap64 (t237 - t238)) - x10_1)) [.int .i64 (wrap64 ((wrap64 (t237 - t238)) - x10_1))] (fun k_ => (w.heap.size ≤ k_)) (fun _ => False) rfl rfl ?aP (fun _ hk => hk.elim) ?aF ?aO ?aB ?aS ?aL ?_; (case aP => exact rfl); (case aB => exact bw_); (case aF => exact (fun k_ hk => (Nat.le_trans (bz_ bw_) hk))); (case aO => exact (by (with_reducible repeat (first | apply Kd.R_alloc | apply Kd.R_drewN | apply Kd.R_drew)); exact HO_310001.out)); (case aS => exact (bz_ bw_)); (case aL => have := LMc150.out; omega); intro v243 w160 ho hb hg hat; rw [← Ny242.out] at ho; have n0_ := A_ (blk_grown (g := gb302) (o := .cells #[.bool a0_0, .slice A0_1 l0_1.length c0_1] 38 (0, 0)) bk_ hg (Kd.R_ne HO_310001.out BK302.out (by decide))); have n1_ := A_ (blk_grown (g := gb303) (o := .cells #[.bool a1_0, .slice A1_1 l1_1.length c1_1] 38 (0, 0)) bk_ hg (Kd.R_ne HO_310001.out BK303.out (by decide))); have n2_ := A_ (blk_grown (g := gb304) (o := .cells #[.bool false, .slice none 0 0] 38 (0, 0)) bk_ hg (Kd.R_ne HO_310001.out BK304.out (by decide))); have n3_ := A_ (blk_grown (g := gb309) (o := .cells #[.bool a0_0, u310001] 38 (0, 0)) bk_ hg (Kd.R_ne HO_310001.out BK309.out (by decide))); have n4_ := A_ (hb); have n5_ := A_ (ho); clear BK302; clear BK303; clear BK304; clear BK309; clear HB; clear HO_310001; have BK302 := n0_; have BK303 := n1_; have BK304 := n2_; have BK309 := n3_; have HB := n4_; have HO244 := n5_; clear n0_ n1_ n2_ n3_ n4_ n5_; clear ho hb hg hat; obtain ⟨Ao161, co161, eo161⟩ := Kd.R_slice HO244.out; subst eo161; have hcz162_0 : w160.cell? ⟨gb309, 0, none⟩ = some (.bool a0_0) := (bc_ BK309.out 0).trans rfl; have hcz162_1 : w160.cell? ⟨gb309, 1, none⟩ = some (u310001) := (bc_ BK309.out 1).trans rfl; have hfz162_0 := bf_ BK309.out 0; have hfz162_1 := bf_ BK309.out 1)))
        go_roundg k1
        case measure => have := HK1.out; omega
        case rel => exact ⟨(0), (wrap64 (x11_1 + 1)), (y242), (.slice Ao161 y242.length co161), (by first | rfl | (simp; done) | (simp [*]; done)), (by first | rfl | (simp; done) | (simp [*]; done)), H', ⟨by have := HK1.out; omega⟩, ⟨by (with_reducible repeat (first | apply Kd.R_alloc | apply Kd.R_drewN | apply Kd.R_drew)); exact Kd.R_mono (Kd.R_far (p := ⟨gb309, 1, none⟩) (Kd.R_types HO244.out BK309.out (by decide)) (fun _ hk => hk.2) (.slice Ao161 y242.length co161)) (fun _ hk => hk.1)⟩, ⟨bk_⟩, ⟨bk_⟩, ⟨bk_⟩, ⟨by (with_reducible repeat (first | refine bn_ ?_ _ | refine bd_ ?_ | refine ba_ ?_ _)); refine bp_ (cs := #[.bool a0_0, u310001]) ?_ 1 _ rfl; (with_reducible repeat (first | refine bn_ ?_ _ | refine bd_ ?_ | refine ba_ ?_ _)); exact BK309.out⟩, ⟨bw_⟩⟩
       ·
        rw [if_neg c150] at H
        exact absurd H (by simp)
     ·
      rw [if_neg c133] at H
      have c133b0 : decide (x11_1 < (l0_1.length : Int)) = false := decide_eq_false c133
      clear c133
      replace H := os_ H
      obtain ⟨⟨t233, t234⟩, A1630, H⟩ := H
      replace H : (some (t233, t234)) = some (r1, r2) := H
      have A163 := A_ A1630
      clear A1630
      simp only [Option.some.injEq, Prod.mk.injEq] at H
      obtain ⟨rfl, rfl⟩ := H
      have hnb164 := NB302_303.out
      have hnc164 := NB303_302.out
      have hnb165 := NB302_304.out
      have hnc165 := NB304_302.out
      have hnb166 := NB302_309.out
      have hnc166 := NB309_302.out
      have hcz167_0 : wr.cell? ⟨gb302, 0, none⟩ = some (.bool a0_0) := (bc_ BK302.out 0).trans rfl
      have hcz167_1 : wr.cell? ⟨gb302, 1, none⟩ = some (.slice A0_1 l0_1.length c0_1) := (bc_ BK302.out 1).trans rfl
      have hfz167_0 := bf_ BK302.out 0
      have hfz167_1 := bf_ BK302.out 1
      have hnb168 := NB309_303.out
      have hnc168 := NB303_309.out
      have hnb169 := NB309_304.out
      have hnc169 := NB304_309.out
      have hcz170_0 : wr.cell? ⟨gb309, 0, none⟩ = some (.bool a0_0) := (bc_ BK309.out 0).trans rfl
      have hcz170_1 : wr.cell? ⟨gb309, 1, none⟩ = some (u310001) := (bc_ BK309.out 1).trans rfl
      have hfz170_0 := bf_ BK309.out 0
      have hfz170_1 := bf_ BK309.out 1
      obtain ⟨Ao171, co171, eo171⟩ := Kd.R_slice HO_310001.out
      subst eo171
      go_wp2_with (first | (go_at_call 45; (with_reducible refine (clevisref01_clean.calls k1 a0_0 (fun k_ => some k_ = (.slice Ao171 x310001_1.length co171 : Value).ownBlock) _ _ x310001_1 t233 t234 _ ?side1 A163.out).mono ?_); (case side1 => exact Kd.R_V (Kd.R_tight rfl (Kd.R_types (Kd.R_types (Kd.R_types (Kd.R_types (HO_310001.out) BK302.out (by decide)) BK303.out (by decide)) BK304.out (by decide)) BK309.out (by decide)))); rintro e w172 ⟨v235, rfl, ho0, hb⟩; have n0_ := A_ (Kd.R_below (by (with_reducible repeat (first | apply Kd.R_alloc | apply Kd.R_drewN | apply Kd.R_drew)); exact HO_310001.out) hb); have n1_ := A_ (Kd.V_lower (vm_ (ok' := fun k_ => (w.heap.size ≤ k_) ∧ k_ ≠ gb302 ∧ k_ ≠ gb303 ∧ k_ ≠ gb304 ∧ k_ ≠ gb309) ho0 (fun k_ hk_ => ⟨Or.elim hk_ (fun hs_ => ((Kd.R_types (Kd.R_types (Kd.R_types (Kd.R_types (HO_310001.out) BK302.out (by decide)) BK303.out (by decide)) BK304.out (by decide)) BK309.out (by decide)).1 k_ hs_.symm).1.1.1.1) (fun hn_ => (Nat.le_trans (bz_ bw_) hn_)), Or.elim hk_ (fun hs_ => ((Kd.R_types (Kd.R_types (Kd.R_types (Kd.R_types (HO_310001.out) BK302.out (by decide)) BK303.out (by decide)) BK304.out (by decide)) BK309.out (by decide)).1 k_ hs_.symm).1.1.1.2) (fun hn_ => (Kd.freshB (g := gb302) (o := .cells #[.bool a0_0, .slice A0_1 l0_1.length c0_1] 38 (0, 0)) bk_ k_ hn_)), Or.elim hk_ (fun hs_ => ((Kd.R_types (Kd.R_types (Kd.R_types (Kd.R_types (HO_310001.out) BK302.out (by decide)) BK303.out (by decide)) BK304.out (by decide)) BK309.out (by decide)).1 k_ hs_.symm).1.1.2) (fun hn_ => (Kd.freshB (g := gb303) (o := .cells #[.bool a1_0, .slice A1_1 l1_1.length c1_1] 38 (0, 0)) bk_ k_ hn_)), Or.elim hk_ (fun hs_ => ((Kd.R_types (Kd.R_types (Kd.R_types (Kd.R_types (HO_310001.out) BK302.out (by decide)) BK303.out (by decide)) BK304.out (by decide)) BK309.out (by decide)).1 k_ hs_.symm).1.2) (fun hn_ => (Kd.freshB (g := gb304) (o := .cells #[.bool false, .slice none 0 0] 38 (0, 0)) bk_ k_ hn_)), Or.elim hk_ (fun hs_ => ((Kd.R_types (Kd.R_types (Kd.R_types (Kd.R_types (HO_310001.out) BK302.out (by decide)) BK303.out (by decide)) BK304.out (by decide)) BK309.out (by decide)).1 k_ hs_.symm).2) (fun hn_ => (Kd.freshB (g := gb309) (o := .cells #[.bool a0_0, .slice Ao171 x310001_1.length co171] 38 (0, 0)) bk_ k_ hn_))⟩)) (bz_ bw_)); have n2_ := A_ (kb_ BK302 hb); have n3_ := A_ (kb_ BK303 hb); have n4_ := A_ (kb_ BK304 hb); have n5_ := A_ (kb_ BK309 hb); have n6_ := A_ (bs_ bw_ hb); clear HO_310001; clear BK302; clear BK303; clear BK304; clear BK309; clear HB; have HO_310001 := n0_; have HO236 := n1_; have BK302 := n2_; have BK303 := n3_; have BK304 := n4_; have BK309 := n5_; have HB := n6_; clear n0_ n1_ n2_ n3_ n4_ n5_ n6_; (try clear hb); (try clear hb2); (try clear hk); (try clear hi); (try clear ho0); have hnb173 := NB304_303.out; have hnc173 := NB303_304.out; have hcz174_0 : w172.cell? ⟨gb304, 0, none⟩ = some (.bool false) := (bc_ BK304.out 0).trans rfl; have hcz174_1 : w172.cell? ⟨gb304, 1, none⟩ = some (.slice none 0 0) := (bc_ BK304.out 1).trans rfl; have hfz174_0 := bf_ BK304.out 0; have hfz174_1 := bf_ BK304.out 1; obtain ⟨Ao175, co175, eo175⟩ := Kd.V_slice HO236.out; subst eo175))
      refine bodyPost_ret (results_cell_row rfl _ _ gb304 38 #[.bool t233, .slice Ao175 t234.length co175] (0, 0) _ rfl (by (with_reducible repeat (first | refine bn_ ?_ _ | refine bd_ ?_ | refine ba_ ?_ _)); refine bp_ (cs := #[.bool t233, .slice none 0 0]) ?_ 1 _ rfl; (with_reducible repeat (first | refine bn_ ?_ _ | refine bd_ ?_ | refine ba_ ?_ _)); refine bp_ (cs := #[.bool false, .slice none 0 0]) ?_ 0 _ rfl; (with_reducible repeat (first | refine bn_ ?_ _ | refine bd_ ?_ | refine ba_ ?_ _)); exact BK304.out) Try.underlying38 rfl (by kernel_rfl)) rfl ?_
      exact ⟨_, by first | rfl | (simp [errW_none, errW_some] <;> rfl) | (simp [*, errW_none, errW_some] <;> rfl), by (with_reducible repeat (first | apply va_ | apply vn_ | apply vd_)); exact vm_ (Kd.V_far (p := ⟨gb304, 1, none⟩) (Kd.V_far (p := ⟨gb304, 0, none⟩) (vm_ HO236.out (fun k_ hk => (⟨hk, hk.2.2.2.1⟩ : _ ∧ k_ ≠ gb304))) (fun _ hk => hk.2) (.bool t233)) (fun _ hk => hk.2) (.slice Ao175 t234.length co175)) (fun _ hk => hk.1.1), bw_⟩
end Go.Proofs.Ytfbkgfffalppmaa.Wf
end
section
namespace Go.Proofs.Ytfbkgfffalppmaa.Wf
open Go.RowKit Go.Proofs.YtfbkgfffalppmaaW.PrintWords Go.Proofs.YtfbkgfffalppmaaW.PrintLast Go.Proofs.YtfbkgfffalppmaaW.PrintMore
attribute [local go_sem] max2_int min2_int max_two min_two max_three min_three max_four min_four   -- for this text's walks alone
set_option linter.unusedVariables false
set_option linter.unusedSimpArgs false
attribute [local go_sem] run_add64_any
def clevisref28_Room.l0 : Nat → List (S41) → Int → Bool → List Int → Option (Bool × List Int)
 | 0, _, _, _, _ => none
 | k + 1, x0, x4, x304000, x304001 => if x4 < (x0.length : Int) then (if 0 ≤ x4 then ((clevisref01_Narrow.f k ((rd_T41 x0 x4).f1)).bind fun bt246 => ((clevisref01_Add.f k x304000 x304001 bt246.1 bt246.2).bind fun bt250 => (clevisref28_Room.l0 k x0 (wrap64 (x4 + 1)) bt250.1 bt250.2))) else (none)) else (some (x304000, x304001))
def clevisref28_Room.f (k : Nat) (l0 : List (S41)) : Option (Bool × List Int) := clevisref28_Room.l0 k l0 0 false ([] : List Int)
def clevisref28_Room.T5 : Bool × List (List Nat × List Nat) := (true, [([], []), ([], []), ([], []), ([1, 2], [1, 2]), ([3], [3]), ([4], [4]), ([5], [5]), ([0, 6, 6], [0, 6]), ([7, 7, 0, 1, 2, 3, 4, 5, 6, 7], [7])])
def clevisref28_Room.B5 : List Nat := [0, 0, 0, 6, 14, 30, 62, 127, 255]
theorem clevisref28_Room.tab5 : rtab .any (opsOf Try.f11 5) = clevisref28_Room.T5 := by kernel_rfl
theorem clevisref28_Room.bits5 : waitsOk clevisref28_Room.T5.2 clevisref28_Room.B5 = true := by kernel_rfl
set_option maxHeartbeats 8000000 in
set_option maxRecDepth 100000 in
theorem clevisref28_Room.calls (k : Nat) (A0 : Option Addr) (c0 : Nat) (l0 : List (S41)) (r1 : Bool) (r2 : List Int) (w : World) (hr0 : Kd.C k41 w A0 l0.length l0) (hc0 : l0.length ≤ c0) (h : clevisref28_Room.f k l0 = some (r1, r2)) :
  Calls Try.prog 11 #[.slice A0 l0.length c0] w fun e w' => ∃ v1_ : Value, e = .returned (.agg #[.bool r1, v1_]) ∧ Kd.V (Kd.int .i64) 3 w' w.heap.size (fun k_ => (w.heap.size ≤ k_)) v1_ r2 ∧ Below w.heap.size w w' := by
 have hu38 := Try.underlying38
 have HR0 := A_ hr0
 have HC0 := A_ hc0
 clear hr0 hc0
 have HB := A_ (Below.refl w.heap.size w)
 have H : (clevisref28_Room.l0 k l0 0 false ([] : List Int)) = some (r1, r2) := h
 clear h
 have H' := A_ H
 clear H
 go_enter Try.func11, Try.ntmps11
 go_wp2_with (first | ((with_reducible refine gate_dst (N := 2) rfl ?_); refine box_event ?hg (N := 2) ?hd (cs := #[.bool false, .slice none 0 0]) (t := 38) ?hr ?_; (case hd => rfl); (case hg => rfl); (case hr => first | (go_simp; done) | (go_simp; rfl)); intro gb302 hg w2 hbox hb; have n0_ := A_ (bs_ bw_ hb); have n1_ := A_ (hbox); have n2_ := A_ ((by rw [hg]; exact (bz_ bw_) : w.heap.size ≤ gb302)); have n3_ := A_ ((by rw [hg]; exact (bz_ bw_) : w.heap.size ≤ gb302)); clear HB; have HB := n0_; have BK302 := n1_; have GW302 := n2_; have GE302 := n3_; clear n0_ n1_ n2_ n3_; clear hb hbox hg) | ((with_reducible refine gate_dst (N := 3) rfl ?_); refine box_event ?hg (N := 3) ?hd (cs := #[.bool false, .slice none 0 0]) (t := 38) ?hr ?_; (case hd => rfl); (case hg => rfl); (case hr => first | (go_simp; done) | (go_simp; rfl)); intro gb303 hg w3 hbox hb; have n0_ := A_ (kb_ BK302 hb); have n1_ := A_ (bs_ bw_ hb); have n2_ := A_ (hbox); have n3_ := A_ ((by rw [hg]; exact (bz_ bw_) : w.heap.size ≤ gb303)); have n4_ := A_ ((by rw [hg]; exact (bz_ bw_) : w.heap.size ≤ gb303)); have n5_ := A_ ((by rw [hg]; exact nl_ (lt_ BK302) : gb302 ≠ gb303)); have n6_ := A_ ((by rw [hg]; exact ng_ (lt_ BK302) : gb303 ≠ gb302)); clear BK302; clear HB; have BK302 := n0_; have HB := n1_; have BK303 := n2_; have GW303 := n3_; have GE303 := n4_; have NB302_303 := n5_; have NB303_302 := n6_; clear n0_ n1_ n2_ n3_ n4_ n5_ n6_; clear hb hbox hg; have hnb4 := NB303_302.out; have hnc4 := NB302_303.out; have hcz5_0 : w3.cell? ⟨gb303, 0, none⟩ = some (.bool false) := (bc_ BK303.out 0).trans rfl; have hcz5_1 : w3.cell? ⟨gb303, 1, none⟩ = some (.slice none 0 0) := (bc_ BK303.out 1).trans rfl; have hfz5_0 := bf_ BK303.out 0; have hfz5_1 := bf_ BK303.out 1))
 (try simp only [Act.put, sA_, sZ_, sS_])
 go_loopg [4] k (fun kq v4 w' => ∃ (x4_1 : Int) (x304000_1 : Bool) (x304001_1 : List Int) (u304001 : Value), v4 = .int .i64 x4_1 ∧ Aside0 (clevisref28_Room.l0 kq l0 x4_1 x304000_1 x304001_1 = some (r1, r2)) ∧ Aside0 (kq ≤ k) ∧ Aside0 (Kd.V (Kd.int .i64) 3 w' w.heap.size (fun k_ => (w.heap.size ≤ k_) ∧ k_ ≠ gb302 ∧ k_ ≠ gb303) u304001 x304001_1) ∧ Aside0 (w'.heap[gb302]? = some (.cells #[.bool false, (.slice none 0 0)] 38 (0, 0))) ∧ Aside0 (w'.heap[gb303]? = some (.cells #[.bool x304000_1, u304001] 38 (0, 0))) ∧ Aside0 (Below w.heap.size w w'))
 case atStart => exact ⟨(0), (false), (([] : List Int)), (.slice none 0 0), (by first | rfl | (simp; done) | (simp [*]; done)), H', ⟨Nat.le_refl _⟩, ⟨Kd.V_nil _ _ _ _ _⟩, ⟨bk_⟩, ⟨by (with_reducible repeat (first | refine bn_ ?_ _ | refine bd_ ?_ | refine ba_ ?_ _)); refine bp_ (cs := #[.bool false, .slice none 0 0]) ?_ 1 _ rfl; (with_reducible repeat (first | refine bn_ ?_ _ | refine bd_ ?_ | refine ba_ ?_ _)); refine bp_ (cs := #[.bool false, .slice none 0 0]) ?_ 0 _ rfl; (with_reducible repeat (first | refine bn_ ?_ _ | refine bd_ ?_ | refine ba_ ?_ _)); exact BK303.out⟩, ⟨bw_⟩⟩
 case round =>
  clear H'
  try clear c1
  try clear p2
  try clear c4
  try clear hcz5_0
  try clear hcz5_1
  try clear hfz5_0
  try clear hfz5_1
  obtain ⟨x4_1, x304000_1, x304001_1, u304001, rfl, HA, HK1, HO_304001, BK302, BK303, HB⟩ := hrel
  cases gk with
  | zero => exact absurd HA.out (by simp [clevisref28_Room.l0])
  | succ k1 =>
   have H := HA.out
   clear HA
   simp only [clevisref28_Room.l0] at H
   by_cases c6 : x4_1 < (l0.length : Int)
   ·
    rw [if_pos c6] at H
    have c6b0 : decide (x4_1 < (l0.length : Int)) = true := decide_eq_true c6
    clear c6
    by_cases c7 : 0 ≤ x4_1
    ·
     rw [if_pos c7] at H
     have c7b0 : decide (0 ≤ x4_1) = true := decide_eq_true c7
     clear c7
     replace H := os_ H
     obtain ⟨⟨t246, t247⟩, A80, H⟩ := H
     replace H : ((clevisref01_Add.f k1 x304000_1 x304001_1 t246 t247).bind fun bt250 => (clevisref28_Room.l0 k1 l0 (wrap64 (x4_1 + 1)) bt250.1 bt250.2)) = some (r1, r2) := H
     have A8 := A_ A80
     clear A80
     replace H := os_ H
     obtain ⟨⟨t250, t251⟩, A90, H⟩ := H
     replace H : (clevisref28_Room.l0 k1 l0 (wrap64 (x4_1 + 1)) t250 t251) = some (r1, r2) := H
     have A9 := A_ A90
     clear A90
     have H' := A_ H
     clear H
     try go_wp2
     have n0_ := A_ (vd_ HO_304001.out)
     have n1_ := A_ (bd_ BK302.out)
     have n2_ := A_ (bd_ BK303.out)
     have n3_ := A_ (b1_ HB.out)
     clear HO_304001
     clear BK302
     clear BK303
     clear HB
     have HO_304001 := n0_
     have BK302 := n1_
     have BK303 := n2_
     have HB := n3_
     clear n0_ n1_ n2_ n3_
     have p245 : 0 ≤ (x4_1 : Int) := od_ (by first | (with_reducible assumption) | assumption)
     have q245 : x4_1 < (l0.length : Int) := od_ (by first | (with_reducible assumption) | assumption)
     obtain ⟨ad245, e245, hx245_0, hx245_1⟩ := at_T41 HR0.out x4_1 p245 q245
     have hw245_1 := hx245_1
     have hw245_0 := hx245_0
     cases e245
     replace hx245_0 := (HB.out.cell (World.block_lt_of_cell? w _ hx245_0)).trans hx245_0
     replace hx245_1 := (HB.out.cell (World.block_lt_of_cell? w _ hx245_1)).trans hx245_1
     replace p245 := eq_true p245
     replace q245 := eq_true q245
     refine start_ (n := 9) (S := fun w' => w'.cell? ⟨gb303, 0, none⟩ = some (.bool x304000_1) ∧ w'.cell? ⟨gb303, 1, none⟩ = some (u304001) ∧ w'.cell? (ad245.add ((x4_1).toNat * 2)) = some (.string ((rd_T41 l0 x4_1).f0)) ∧ w'.cell? ⟨(ad245.add ((x4_1).toNat * 2)).block, (ad245.add ((x4_1).toNat * 2)).off + 1, none⟩ = some (.int .i64 ((rd_T41 l0 x4_1).f1))) (ds := [8]) #[false, false, false, false, false, false, false, false, false] (by kernel_rfl) rfl rfl ⟨(bc_ BK303.out 0).trans rfl, (bc_ BK303.out 1).trans rfl, ((HB.out.cell (World.block_lt_of_cell? w _ hw245_0)).trans hw245_0), ((HB.out.cell (World.block_lt_of_cell? w _ hw245_1)).trans hw245_1)⟩ (fun hHeld => ?_); refine with_tabW clevisref28_Room.tab5 clevisref28_Room.bits5 (fun HT_ HW_ => ?_)
     generalize wr.drew = w10 at HO_304001 BK302 BK303 HB hx245_0 hx245_1 hHeld ⊢
     refine pure_ (i := 1) (N := some 13) (v := ?_) (a' := ?_) #[false, true, false, false, false, false, false, false, false] rfl rfl (any_of HT_.out (by kernel_rfl)) (fun _ _ _ h => h) (Or.inl ⟨by rfl, ?_⟩) ?_ ?_
     rotate_left
     ·
      intro w'
      go_simp
      with_reducible rfl
     rotate_left
     ·
      simp only [Act.put, sA_, sZ_, sS_, i64_w, i32_w]
      rfl
     refine pure_ (i := 2) (N := some 14) (v := ?_) (a' := ?_) #[false, true, true, false, false, false, false, false, false] rfl rfl (any_of HT_.out (by kernel_rfl)) (fun _ _ _ h => h) (Or.inl ⟨by rfl, ?_⟩) ?_ ?_
     rotate_left
     ·
      intro w'
      go_simp
      with_reducible rfl
     rotate_left
     ·
      simp only [Act.put, sA_, sZ_, sS_, i64_w, i32_w]
      rfl
     refine pure_ (i := 3) (N := some 15) (v := ?_) (a' := ?_) #[false, true, true, true, false, false, false, false, false] rfl rfl (any_of HT_.out (by kernel_rfl)) (fun _ _ _ h => h) (Or.inl ⟨by rfl, ?_⟩) ?_ ?_
     rotate_left
     ·
      intro w'
      go_simp
      with_reducible rfl
     rotate_left
     ·
      simp only [Act.put, sA_, sZ_, sS_, i64_w, i32_w]
      rfl
     refine pure_ (i := 4) (N := some 16) (v := ?_) (a' := ?_) #[false, true, true, true, true, false, false, false, false] rfl rfl (any_of HT_.out (by kernel_rfl)) (fun _ _ _ h => h) (Or.inl ⟨by rfl, ?_⟩) ?_ ?_
     rotate_left
     ·
      intro w'
      go_simp
      with_reducible rfl
     rotate_left
     ·
      simp only [Act.put, sA_, sZ_, sS_, i64_w, i32_w]
      rfl
     refine take_ (i := 0) (N := some 12) (v := ?_) (a' := ?_) #[true, true, true, true, true, false, false, false, false] rfl rfl (take_ofW HT_.out HW_.out (by kernel_rfl)) (fun _ _ _ h => h) (Or.inl ⟨by rfl, ?_⟩) hHeld ?_ ?_
     rotate_left
     ·
      rintro w' ⟨s0, s1, s2, s3⟩
      go_simp
      with_reducible rfl
     rotate_left
     ·
      simp only [Act.put, sA_, sZ_, sS_, i64_w, i32_w]
      rfl
     refine take_ (i := 5) (N := some 17) (v := ?_) (a' := ?_) #[true, true, true, true, true, true, false, false, false] rfl rfl (take_ofW HT_.out HW_.out (by kernel_rfl)) (fun _ _ _ h => h) (Or.inl ⟨by rfl, ?_⟩) hHeld ?_ ?_
     rotate_left
     ·
      rintro w' ⟨s0, s1, s2, s3⟩
      go_simp
      with_reducible rfl
     rotate_left
     ·
      simp only [Act.put, sA_, sZ_, sS_, i64_w, i32_w]
      rfl
     refine one_ (i := 6) (N := some 18) #[true, true, true, true, true, true, true, false, false] rfl rfl (one_of HT_.out (by kernel_rfl)) (by decide) (fun K hK => ?_)
     refine goes_ Try.func15 (by kernel_rfl) rfl #[.int .i64 ((rd_T41 l0 x4_1).f1)] (by rfl) rfl rfl (by (try simp only [List.map_toArray, List.map_cons, List.map_nil]); first | done | rfl | (simp only [List.length_drop, List.length_take]; rfl)) ?_
     with_reducible refine (clevisref01_Narrow.calls k1 ((rd_T41 l0 x4_1).f1) t246 t247 _ A8.out).mono ?_
     rintro e w11 ⟨v248, rfl, ho0, hb⟩
     refine ⟨_, rfl, ?_⟩
     have n0_ := A_ (Kd.V_below (by (with_reducible repeat (first | apply va_ | apply vn_ | apply vd_)); exact HO_304001.out) hb)
     have n1_ := A_ (Kd.V_lower (vm_ (ok' := fun k_ => (w.heap.size ≤ k_) ∧ k_ ≠ gb302 ∧ k_ ≠ gb303) ho0 (fun k_ hk_ => ⟨(Nat.le_trans (bz_ bw_) hk_), (Kd.freshB (g := gb302) (o := .cells #[.bool false, .slice none 0 0] 38 (0, 0)) bk_ k_ hk_), (Kd.freshB (g := gb303) (o := .cells #[.bool x304000_1, u304001] 38 (0, 0)) bk_ k_ hk_)⟩)) (bz_ bw_))
     have n2_ := A_ (kb_ BK302 hb)
     have n3_ := A_ (kb_ BK303 hb)
     have n4_ := A_ (bs_ bw_ hb)
     clear HO_304001
     clear BK302
     clear BK303
     clear HB
     have HO_304001 := n0_
     have HO249 := n1_
     have BK302 := n2_
     have BK303 := n3_
     have HB := n4_
     clear n0_ n1_ n2_ n3_ n4_
     (try clear hb)
     (try clear hb2)
     (try clear hk)
     (try clear hi)
     (try clear ho0)
     obtain ⟨Ao12, co12, eo12⟩ := Kd.V_slice HO_304001.out
     (first | subst eo12 | (injection eo12 with f1_ f2_ f3_; have f4_ := f1_.symm; have f5_ := f3_.symm; clear f1_ f2_ f3_; subst f4_; subst f5_))
     obtain ⟨Ao13, co13, eo13⟩ := Kd.V_slice HO249.out
     (first | subst eo13 | (injection eo13 with f1_ f2_ f3_; have f4_ := f1_.symm; have f5_ := f3_.symm; clear f1_ f2_ f3_; subst f4_; subst f5_))
     refine hK.out _ _ ⟨(bc_ BK303.out 0).trans rfl, (bc_ BK303.out 1).trans rfl, ((HB.out.cell (World.block_lt_of_cell? w _ hw245_0)).trans hw245_0), ((HB.out.cell (World.block_lt_of_cell? w _ hw245_1)).trans hw245_1)⟩ (fun hHeld => ?_)
     clear hK K
     refine norm_ (a' := ?_) ?_ ?_
     rotate_left
     ·
      show Act.put _ (some 18) _ = _
      simp only [Act.put, sA_, sZ_, sS_, i64_w, i32_w]
      rfl
     refine one_ (i := 7) (N := some 19) #[true, true, true, true, true, true, true, true, false] rfl rfl (one_of HT_.out (by kernel_rfl)) (by decide) (fun K hK => ?_)
     refine goes_ Try.func20 (by kernel_rfl) rfl #[.agg #[.bool x304000_1, .slice Ao12 x304001_1.length co12], .agg #[.bool t246, .slice Ao13 t247.length co13]] (by rfl) rfl rfl (by (try simp only [List.map_toArray, List.map_cons, List.map_nil]); first | done | rfl | (simp only [List.length_drop, List.length_take]; rfl)) ?_
     with_reducible refine (clevisref01_Add.calls k1 x304000_1 _ _ x304001_1 t246 _ _ t247 t250 t251 _ ?side1 ?side2 ?side3 ?side4 A9.out).mono ?_
     (case side1 => repeat (first | exact (Kd.V_reads' HO_304001.out).2.2 | (with_reducible refine ca_ ?_ _) | (with_reducible refine cn_ ?_ _) | (with_reducible refine cd_ ?_)))
     (case side2 => exact (Kd.V_reads' HO_304001.out).2.1)
     (case side3 => repeat (first | exact (Kd.V_reads' HO249.out).2.2 | (with_reducible refine ca_ ?_ _) | (with_reducible refine cn_ ?_ _) | (with_reducible refine cd_ ?_)))
     (case side4 => exact (Kd.V_reads' HO249.out).2.1)
     rintro e w14 ⟨v252, rfl, ho0, hb⟩
     refine ⟨_, rfl, ?_⟩
     have n0_ := A_ (Kd.V_below (by (with_reducible repeat (first | apply va_ | apply vn_ | apply vd_)); exact HO_304001.out) hb)
     have n1_ := A_ (Kd.V_below (by (with_reducible repeat (first | apply va_ | apply vn_ | apply vd_)); exact HO249.out) hb)
     have n2_ := A_ (Kd.V_lower (vm_ (ok' := fun k_ => (w.heap.size ≤ k_) ∧ k_ ≠ gb302 ∧ k_ ≠ gb303) ho0 (fun k_ hk_ => ⟨(Nat.le_trans (bz_ bw_) hk_), (Kd.freshB (g := gb302) (o := .cells #[.bool false, .slice none 0 0] 38 (0, 0)) bk_ k_ hk_), (Kd.freshB (g := gb303) (o := .cells #[.bool x304000_1, .slice Ao12 x304001_1.length co12] 38 (0, 0)) bk_ k_ hk_)⟩)) (bz_ bw_))
     have n3_ := A_ (kb_ BK302 hb)
     have n4_ := A_ (kb_ BK303 hb)
     have n5_ := A_ (bs_ bw_ hb)
     clear HO_304001
     clear HO249
     clear BK302
     clear BK303
     clear HB
     have HO_304001 := n0_
     have HO249 := n1_
     have HO253 := n2_
     have BK302 := n3_
     have BK303 := n4_
     have HB := n5_
     clear n0_ n1_ n2_ n3_ n4_ n5_
     (try clear hb)
     (try clear hb2)
     (try clear hk)
     (try clear hi)
     (try clear ho0)
     obtain ⟨Ao16, co16, eo16⟩ := Kd.V_slice HO253.out
     (first | subst eo16 | (injection eo16 with f1_ f2_ f3_; have f4_ := f1_.symm; have f5_ := f3_.symm; clear f1_ f2_ f3_; subst f4_; subst f5_))
     refine hK.out _ _ ⟨(bc_ BK303.out 0).trans rfl, (bc_ BK303.out 1).trans rfl, ((HB.out.cell (World.block_lt_of_cell? w _ hw245_0)).trans hw245_0), ((HB.out.cell (World.block_lt_of_cell? w _ hw245_1)).trans hw245_1)⟩ (fun hHeld => ?_)
     clear hK K
     refine norm_ (a' := ?_) ?_ ?_
     rotate_left
     ·
      show Act.put _ (some 19) _ = _
      simp only [Act.put, sA_, sZ_, sS_, i64_w, i32_w]
      rfl
     refine last_ (i := 8) (N := none) #[true, true, true, true, true, true, true, true, true] rfl rfl (one_of HT_.out (by kernel_rfl)) (by decide) (fun K hK => ?_)
     have hs15 : w14.cell? ⟨gb303, 0, none⟩ = some (.bool x304000_1) := (bc_ BK303.out 0).trans rfl
     have hfs15 := bf_ BK303.out 0
     have hns15_0 := NB302_303.out
     have hms15_0 := NB303_302.out
     have hs17 : w14.cell? ⟨gb303, 1, none⟩ = some (.slice Ao12 x304001_1.length co12) := (bc_ BK303.out 1).trans rfl
     have hfs17 := bf_ BK303.out 1
     have hns17_0 := NB302_303.out
     have hms17_0 := NB303_302.out
     refine skip_ (w1 := ?_) (by rfl) rfl ?_ ?_
     rotate_left
     ·
      go_simp
      rfl
     refine hK.out _ _ ?_
     clear hK K
     refine done_ (done_of HT_.out (by kernel_rfl)) ?_
     try go_wp2
     go_roundg k1
     case measure => have := HK1.out; omega
     case rel => exact ⟨(wrap64 (x4_1 + 1)), (t250), (t251), (.slice Ao16 t251.length co16), (by first | rfl | (simp; done) | (simp [*]; done)), H', ⟨by have := HK1.out; omega⟩, ⟨by (with_reducible repeat (first | apply va_ | apply vn_ | apply vd_)); exact vm_ (Kd.V_far (p := ⟨gb303, 1, none⟩) (Kd.V_far (p := ⟨gb303, 0, none⟩) (vm_ HO253.out (fun k_ hk => (⟨hk, hk.2.2⟩ : _ ∧ k_ ≠ gb303))) (fun _ hk => hk.2) (.bool t250)) (fun _ hk => hk.2) (.slice Ao16 t251.length co16)) (fun _ hk => ⟨hk.1.1, ⟨hk.1.2.1, hk.1.2.2⟩⟩)⟩, ⟨bk_⟩, ⟨by (with_reducible repeat (first | refine bn_ ?_ _ | refine bd_ ?_ | refine ba_ ?_ _)); refine bp_ (cs := #[.bool t250, .slice Ao12 x304001_1.length co12]) ?_ 1 _ rfl; (with_reducible repeat (first | refine bn_ ?_ _ | refine bd_ ?_ | refine ba_ ?_ _)); refine bp_ (cs := #[.bool x304000_1, .slice Ao12 x304001_1.length co12]) ?_ 0 _ rfl; (with_reducible repeat (first | refine bn_ ?_ _ | refine bd_ ?_ | refine ba_ ?_ _)); exact BK303.out⟩, ⟨bw_⟩⟩
    ·
     rw [if_neg c7] at H
     exact absurd H (by simp)
   ·
    rw [if_neg c6] at H
    have c6b0 : decide (x4_1 < (l0.length : Int)) = false := decide_eq_false c6
    clear c6
    simp only [Option.some.injEq, Prod.mk.injEq] at H
    obtain ⟨rfl, rfl⟩ := H
    have hnb18 := NB303_302.out
    have hnc18 := NB302_303.out
    have hcz19_0 : wr.cell? ⟨gb303, 0, none⟩ = some (.bool x304000_1) := (bc_ BK303.out 0).trans rfl
    have hcz19_1 : wr.cell? ⟨gb303, 1, none⟩ = some (u304001) := (bc_ BK303.out 1).trans rfl
    have hfz19_0 := bf_ BK303.out 0
    have hfz19_1 := bf_ BK303.out 1
    have hcz20_0 : wr.cell? ⟨gb302, 0, none⟩ = some (.bool false) := (bc_ BK302.out 0).trans rfl
    have hcz20_1 : wr.cell? ⟨gb302, 1, none⟩ = some (.slice none 0 0) := (bc_ BK302.out 1).trans rfl
    have hfz20_0 := bf_ BK302.out 0
    have hfz20_1 := bf_ BK302.out 1
    obtain ⟨Ao21, co21, eo21⟩ := Kd.V_slice HO_304001.out
    subst eo21
    go_wp2
    refine bodyPost_ret (results_cell_row rfl _ _ gb302 38 #[.bool x304000_1, .slice Ao21 x304001_1.length co21] (0, 0) _ rfl (by (with_reducible repeat (first | refine bn_ ?_ _ | refine bd_ ?_ | refine ba_ ?_ _)); refine bp_ (cs := #[.bool x304000_1, .slice none 0 0]) ?_ 1 _ rfl; (with_reducible repeat (first | refine bn_ ?_ _ | refine bd_ ?_ | refine ba_ ?_ _)); refine bp_ (cs := #[.bool false, .slice none 0 0]) ?_ 0 _ rfl; (with_reducible repeat (first | refine bn_ ?_ _ | refine bd_ ?_ | refine ba_ ?_ _)); exact BK302.out) Try.underlying38 rfl (by kernel_rfl)) rfl ?_
    exact ⟨_, by first | rfl | (simp [errW_none, errW_some] <;> rfl) | (simp [*, errW_none, errW_some] <;> rfl), by (with_reducible repeat (first | apply va_ | apply vn_ | apply vd_)); exact vm_ (Kd.V_far (p := ⟨gb302, 1, none⟩) (Kd.V_far (p := ⟨gb302, 0, none⟩) (vm_ HO_304001.out (fun k_ hk => (⟨hk, hk.2.1⟩ : _ ∧ k_ ≠ gb302))) (fun _ hk => hk.2) (.bool x304000_1)) (fun _ hk => hk.2) (.slice Ao21 x304001_1.length co21)) (fun _ hk => hk.1.1), bw_⟩
end Go.Proofs.Ytfbkgfffalppmaa.Wf
end
section
namespace Go.Proofs.Ytfbkgfffalppmaa.Wf
open Go.RowKit Go.Proofs.YtfbkgfffalppmaaW.PrintWords Go.Proofs.YtfbkgfffalppmaaW.PrintLast Go.Proofs.YtfbkgfffalppmaaW.PrintMore
attribute [local go_sem] max2_int min2_int max_two min_two max_three min_three max_four min_four   -- for this text's walks alone
set_option linter.unusedVariables false
set_option linter.unusedSimpArgs false
attribute [local go_sem] run_add64_any
def clevisref01_Compare.f (k : Nat) (a0_0 : Bool) (l0_1 : List Int) (a1_0 : Bool) (l1_1 : List Int) : Option (Int) := if (a0_0 != a1_0) = true then (if a0_0 = true then (some (-1)) else (some 1)) else ((clevisref01_size.f k l0_1 l1_1).bind fun t332 => (if a0_0 = true then (some (wrap64 (-t332))) else (some t332)))
set_option maxHeartbeats 8000000 in
set_option maxRecDepth 100000 in
theorem clevisref01_Compare.calls (k : Nat) (a0_0 : Bool) (A0_1 : Option Addr) (c0_1 : Nat) (l0_1 : List Int) (a1_0 : Bool) (A1_1 : Option Addr) (c1_1 : Nat) (l1_1 : List Int) (r : Int) (w : World) (hr0_1 : Kd.C (Kd.int .i64) w A0_1 l0_1.length l0_1) (hc0_1 : l0_1.length ≤ c0_1) (hr1_1 : Kd.C (Kd.int .i64) w A1_1 l1_1.length l1_1) (hc1_1 : l1_1.length ≤ c1_1) (h : clevisref01_Compare.f k a0_0 l0_1 a1_0 l1_1 = some r) :
  Calls Try.prog 14 #[.agg #[.bool a0_0, .slice A0_1 l0_1.length c0_1], .agg #[.bool a1_0, .slice A1_1 l1_1.length c1_1]] w fun e w' => e = .returned (.int .i64 r) ∧ Below w.heap.size w w' := by
 have hu38 := Try.underlying38
 have HR0_1 := A_ hr0_1
 have HC0_1 := A_ hc0_1
 clear hr0_1 hc0_1
 have HR1_1 := A_ hr1_1
 have HC1_1 := A_ hc1_1
 clear hr1_1 hc1_1
 have HB := A_ (Below.refl w.heap.size w)
 have H : (if (a0_0 != a1_0) = true then (if a0_0 = true then (some (-1)) else (some 1)) else ((clevisref01_size.f k l0_1 l1_1).bind fun t332 => (if a0_0 = true then (some (wrap64 (-t332))) else (some t332)))) = some r := h
 clear h
 by_cases c3 : (a0_0 != a1_0) = true
 ·
  rw [if_pos c3] at H
  have c3b0 : (a0_0 != a1_0) = true := c3
  (try (have c3b1 : decide (a0_0 = a1_0) = false := by simpa using c3))
  (try (have c3b2 : (a0_0 == a1_0) = false := by simpa using c3))
  (try (have c3b3 : ¬ (a0_0 = a1_0) := by simpa using c3))
  clear c3
  by_cases c4 : a0_0 = true
  ·
   subst c4
   have H1 : (some (-1)) = some r := by rw [if_pos rfl] at H; exact H
   clear H
   have H := H1
   clear H1
   obtain rfl := Option.some.inj H
   go_enter Try.func14, Try.ntmps14
   go_wp2_with (first | ((with_reducible refine gate_dst (N := 2) rfl ?_); refine box_event ?hg (N := 2) ?hd (cs := #[.bool true, .slice A0_1 l0_1.length c0_1]) (t := 38) ?hr ?_; (case hd => rfl); (case hg => rfl); (case hr => first | (go_simp; done) | (go_simp; rfl)); intro gb302 hg w5 hbox hb; have n0_ := A_ (bs_ bw_ hb); have n1_ := A_ (hbox); have n2_ := A_ ((by rw [hg]; exact (bz_ bw_) : w.heap.size ≤ gb302)); have n3_ := A_ ((by rw [hg]; exact (bz_ bw_) : w.heap.size ≤ gb302)); clear HB; have HB := n0_; have BK302 := n1_; have GW302 := n2_; have GE302 := n3_; clear n0_ n1_ n2_ n3_; clear hb hbox hg) | ((with_reducible refine gate_dst (N := 3) rfl ?_); refine box_event ?hg (N := 3) ?hd (cs := #[.bool a1_0, .slice A1_1 l1_1.length c1_1]) (t := 38) ?hr ?_; (case hd => rfl); (case hg => rfl); (case hr => first | (go_simp; done) | (go_simp; rfl)); intro gb303 hg w6 hbox hb; have n0_ := A_ (kb_ BK302 hb); have n1_ := A_ (bs_ bw_ hb); have n2_ := A_ (hbox); have n3_ := A_ ((by rw [hg]; exact (bz_ bw_) : w.heap.size ≤ gb303)); have n4_ := A_ ((by rw [hg]; exact (bz_ bw_) : w.heap.size ≤ gb303)); have n5_ := A_ ((by rw [hg]; exact nl_ (lt_ BK302) : gb302 ≠ gb303)); have n6_ := A_ ((by rw [hg]; exact ng_ (lt_ BK302) : gb303 ≠ gb302)); clear BK302; clear HB; have BK302 := n0_; have HB := n1_; have BK303 := n2_; have GW303 := n3_; have GE303 := n4_; have NB302_303 := n5_; have NB303_302 := n6_; clear n0_ n1_ n2_ n3_ n4_ n5_ n6_; clear hb hbox hg; have hnb7 := NB302_303.out; have hnc7 := NB303_302.out; have hcz8_0 : w6.cell? ⟨gb302, 0, none⟩ = some (.bool true) := (bc_ BK302.out 0).trans rfl; have hcz8_1 : w6.cell? ⟨gb302, 1, none⟩ = some (.slice A0_1 l0_1.length c0_1) := (bc_ BK302.out 1).trans rfl; have hfz8_0 := bf_ BK302.out 0; have hfz8_1 := bf_ BK302.out 1; have hcz9_0 : w6.cell? ⟨gb303, 0, none⟩ = some (.bool a1_0) := (bc_ BK303.out 0).trans rfl; have hcz9_1 : w6.cell? ⟨gb303, 1, none⟩ = some (.slice A1_1 l1_1.length c1_1) := (bc_ BK303.out 1).trans rfl; have hfz9_0 := bf_ BK303.out 0; have hfz9_1 := bf_ BK303.out 1))
   go_ret
   exact ⟨by first | rfl | (simp [errW_none, errW_some] <;> rfl) | (simp [*, errW_none, errW_some] <;> rfl), bw_⟩
  ·
   replace c4 := Bool.eq_false_iff.mpr c4
   subst c4
   have H1 : (some 1) = some r := by rw [if_neg (show ¬ (false = true) by decide)] at H; exact H
   clear H
   have H := H1
   clear H1
   obtain rfl := Option.some.inj H
   go_enter Try.func14, Try.ntmps14
   go_wp2_with (first | ((with_reducible refine gate_dst (N := 2) rfl ?_); refine box_event ?hg (N := 2) ?hd (cs := #[.bool false, .slice A0_1 l0_1.length c0_1]) (t := 38) ?hr ?_; (case hd => rfl); (case hg => rfl); (case hr => first | (go_simp; done) | (go_simp; rfl)); intro gb302 hg w10 hbox hb; have n0_ := A_ (bs_ bw_ hb); have n1_ := A_ (hbox); have n2_ := A_ ((by rw [hg]; exact (bz_ bw_) : w.heap.size ≤ gb302)); have n3_ := A_ ((by rw [hg]; exact (bz_ bw_) : w.heap.size ≤ gb302)); clear HB; have HB := n0_; have BK302 := n1_; have GW302 := n2_; have GE302 := n3_; clear n0_ n1_ n2_ n3_; clear hb hbox hg) | ((with_reducible refine gate_dst (N := 3) rfl ?_); refine box_event ?hg (N := 3) ?hd (cs := #[.bool a1_0, .slice A1_1 l1_1.length c1_1]) (t := 38) ?hr ?_; (case hd => rfl); (case hg => rfl); (case hr => first | (go_simp; done) | (go_simp; rfl)); intro gb303 hg w11 hbox hb; have n0_ := A_ (kb_ BK302 hb); have n1_ := A_ (bs_ bw_ hb); have n2_ := A_ (hbox); have n3_ := A_ ((by rw [hg]; exact (bz_ bw_) : w.heap.size ≤ gb303)); have n4_ := A_ ((by rw [hg]; exact (bz_ bw_) : w.heap.size ≤ gb303)); have n5_ := A_ ((by rw [hg]; exact nl_ (lt_ BK302) : gb302 ≠ gb303)); have n6_ := A_ ((by rw [hg]; exact ng_ (lt_ BK302) : gb303 ≠ gb302)); clear BK302; clear HB; have BK302 := n0_; have HB := n1_; have BK303 := n2_; have GW303 := n3_; have GE303 := n4_; have NB302_303 := n5_; have NB303_302 := n6_; clear n0_ n1_ n2_ n3_ n4_ n5_ n6_; clear hb hbox hg; have hnb12 := NB302_303.out; have hnc12 := NB303_302.out; have hcz13_0 : w11.cell? ⟨gb302, 0, none⟩ = some (.bool false) := (bc_ BK302.out 0).trans rfl; have hcz13_1 : w11.cell? ⟨gb302, 1, none⟩ = some (.slice A0_1 l0_1.length c0_1) := (bc_ BK302.out 1).trans rfl; have hfz13_0 := bf_ BK302.out 0; have hfz13_1 := bf_ BK302.out 1; have hcz14_0 : w11.cell? ⟨gb303, 0, none⟩ = some (.bool a1_0) := (bc_ BK303.out 0).trans rfl; have hcz14_1 : w11.cell? ⟨gb303, 1, none⟩ = some (.slice A1_1 l1_1.length c1_1) := (bc_ BK303.out 1).trans rfl; have hfz14_0 := bf_ BK303.out 0; have hfz14_1 := bf_ BK303.out 1))
   go_ret
   exact ⟨by first | rfl | (simp [errW_none, errW_some] <;> rfl) | (simp [*, errW_none, errW_some] <;> rfl), bw_⟩
 ·
  rw [if_neg c3] at H
  have c3b0 : (a0_0 != a1_0) = false := by simpa using c3
  (try (have c3b1 : decide (a0_0 = a1_0) = true := by simpa using c3))
  (try (have c3b2 : (a0_0 == a1_0) = true := by simpa using c3))
  clear c3
  replace H := os_ H
  obtain ⟨t332, A150, H⟩ := H
  replace H : (if a0_0 = true then (some (wrap64 (-t332))) else (some t332)) = some r := H
  have A15 := A_ A150
  clear A150
  by_cases c16 : a0_0 = true
  ·
   subst c16
   have H1 : (some (wrap64 (-t332))) = some r := by rw [if_pos rfl] at H; exact H
   clear H
   have H := H1
   clear H1
   obtain rfl := Option.some.inj H
   go_enter Try.func14, Try.ntmps14
   go_wp2_with (first | ((with_reducible refine gate_dst (N := 2) rfl ?_); refine box_event ?hg (N := 2) ?hd (cs := #[.bool true, .slice A0_1 l0_1.length c0_1]) (t := 38) ?hr ?_; (case hd => rfl); (case hg => rfl); (case hr => first | (go_simp; done) | (go_simp; rfl)); intro gb302 hg w17 hbox hb; have n0_ := A_ (bs_ bw_ hb); have n1_ := A_ (hbox); have n2_ := A_ ((by rw [hg]; exact (bz_ bw_) : w.heap.size ≤ gb302)); have n3_ := A_ ((by rw [hg]; exact (bz_ bw_) : w.heap.size ≤ gb302)); clear HB; have HB := n0_; have BK302 := n1_; have GW302 := n2_; have GE302 := n3_; clear n0_ n1_ n2_ n3_; clear hb hbox hg) | ((with_reducible refine gate_dst (N := 3) rfl ?_); refine box_event ?hg (N := 3) ?hd (cs := #[.bool a1_0, .slice A1_1 l1_1.length c1_1]) (t := 38) ?hr ?_; (case hd => rfl); (case hg => rfl); (case hr => first | (go_simp; done) | (go_simp; rfl)); intro gb303 hg w18 hbox hb; have n0_ := A_ (kb_ BK302 hb); have n1_ := A_ (bs_ bw_ hb); have n2_ := A_ (hbox); have n3_ := A_ ((by rw [hg]; exact (bz_ bw_) : w.heap.size ≤ gb303)); have n4_ := A_ ((by rw [hg]; exact (bz_ bw_) : w.heap.size ≤ gb303)); have n5_ := A_ ((by rw [hg]; exact nl_ (lt_ BK302) : gb302 ≠ gb303)); have n6_ := A_ ((by rw [hg]; exact ng_ (lt_ BK302) : gb303 ≠ gb302)); clear BK302; clear HB; have BK302 := n0_; have HB := n1_; have BK303 := n2_; have GW303 := n3_; have GE303 := n4_; have NB302_303 := n5_; have NB303_302 := n6_; clear n0_ n1_ n2_ n3_ n4_ n5_ n6_; clear hb hbox hg; have hnb19 := NB302_303.out; have hnc19 := NB303_302.out; have hcz20_0 : w18.cell? ⟨gb302, 0, none⟩ = some (.bool true) := (bc_ BK302.out 0).trans rfl; have hcz20_1 : w18.cell? ⟨gb302, 1, none⟩ = some (.slice A0_1 l0_1.length c0_1) := (bc_ BK302.out 1).trans rfl; have hfz20_0 := bf_ BK302.out 0; have hfz20_1 := bf_ BK302.out 1; have hcz21_0 : w18.cell? ⟨gb303, 0, none⟩ = some (.bool a1_0) := (bc_ BK303.out 0).trans rfl; have hcz21_1 : w18.cell? ⟨gb303, 1, none⟩ = some (.slice A1_1 l1_1.length c1_1) := (bc_ BK303.out 1).trans rfl; have hfz21_0 := bf_ BK303.out 0; have hfz21_1 := bf_ BK303.out 1) | ((with_reducible refine gate_callee (f := 36) rfl ?_); refine goesL_ (some 17) rfl rfl Try.func36 (by kernel_rfl) rfl #[.slice A0_1 l0_1.length c0_1, .slice A1_1 l1_1.length c1_1] rfl (by (try simp only [List.map_toArray, List.map_cons, List.map_nil]); first | done | rfl | (simp only [List.length_drop, List.length_take]; rfl)) ?_; (with_reducible refine (clevisref01_size.calls k _ _ l0_1 _ _ l1_1 t332 _ ?side1 ?side2 ?side3 ?side4 A15.out).mono ?_); (case side1 => repeat (first | exact (cb_ HR0_1.out HB.out) | (with_reducible refine ca_ ?_ _) | (with_reducible refine cn_ ?_ _) | (with_reducible refine cd_ ?_))); (case side2 => exact HC0_1.out); (case side3 => repeat (first | exact (cb_ HR1_1.out HB.out) | (with_reducible refine ca_ ?_ _) | (with_reducible refine cn_ ?_ _) | (with_reducible refine cd_ ?_))); (case side4 => exact HC1_1.out); rintro e w' ⟨rfl, ⟨nd, rfl⟩⟩; refine ⟨_, rfl, ?_⟩))
   go_ret
   exact ⟨by first | rfl | (simp [errW_none, errW_some] <;> rfl) | (simp [*, errW_none, errW_some] <;> rfl), bw_⟩
  ·
   replace c16 := Bool.eq_false_iff.mpr c16
   subst c16
   have H1 : (some t332) = some r := by rw [if_neg (show ¬ (false = true) by decide)] at H; exact H
   clear H
   have H := H1
   clear H1
   obtain rfl := Option.some.inj H
   go_enter Try.func14, Try.ntmps14
   go_wp2_with (first | ((with_reducible refine gate_dst (N := 2) rfl ?_); refine box_event ?hg (N := 2) ?hd (cs := #[.bool false, .slice A0_1 l0_1.length c0_1]) (t := 38) ?hr ?_; (case hd => rfl); (case hg => rfl); (case hr => first | (go_simp; done) | (go_simp; rfl)); intro gb302 hg w22 hbox hb; have n0_ := A_ (bs_ bw_ hb); have n1_ := A_ (hbox); have n2_ := A_ ((by rw [hg]; exact (bz_ bw_) : w.heap.size ≤ gb302)); have n3_ := A_ ((by rw [hg]; exact (bz_ bw_) : w.heap.size ≤ gb302)); clear HB; have HB := n0_; have BK302 := n1_; have GW302 := n2_; have GE302 := n3_; clear n0_ n1_ n2_ n3_; clear hb hbox hg) | ((with_reducible refine gate_dst (N := 3) rfl ?_); refine box_event ?hg (N := 3) ?hd (cs := #[.bool a1_0, .slice A1_1 l1_1.length c1_1]) (t := 38) ?hr ?_; (case hd => rfl); (case hg => rfl); (case hr => first | (go_simp; done) | (go_simp; rfl)); intro gb303 hg w23 hbox hb; have n0_ := A_ (kb_ BK302 hb); have n1_ := A_ (bs_ bw_ hb); have n2_ := A_ (hbox); have n3_ := A_ ((by rw [hg]; exact (bz_ bw_) : w.heap.size ≤ gb303)); have n4_ := A_ ((by rw [hg]; exact (bz_ bw_) : w.heap.size ≤ gb303)); have n5_ := A_ ((by rw [hg]; exact nl_ (lt_ BK302) : gb302 ≠ gb303)); have n6_ := A_ ((by rw [hg]; exact ng_ (lt_ BK302) : gb303 ≠ gb302)); clear BK302; clear HB; have BK302 := n0_; have HB := n1_; have BK303 := n2_; have GW303 := n3_; have GE303 := n4_; have NB302_303 := n5_; have NB303_302 := n6_; clear n0_ n1_ n2_ n3_ n4_ n5_ n6_; clear hb hbox hg; have hnb24 := NB302_303.out; have hnc24 := NB303_302.out; have hcz25_0 : w23.cell? ⟨gb302, 0, none⟩ = some (.bool false) := (bc_ BK302.out 0).trans rfl; have hcz25_1 : w23.cell? ⟨gb302, 1, none⟩ = some (.slice A0_1 l0_1.length c0_1) := (bc_ BK302.out 1).trans rfl; have hfz25_0 := bf_ BK302.out 0; have hfz25_1 := bf_ BK302.out 1; have hcz26_0 : w23.cell? ⟨gb303, 0, none⟩ = some (.bool a1_0) := (bc_ BK303.out 0).trans rfl; have hcz26_1 : w23.cell? ⟨gb303, 1, none⟩ = some (.slice A1_1 l1_1.length c1_1) := (bc_ BK303.out 1).trans rfl; have hfz26_0 := bf_ BK303.out 0; have hfz26_1 := bf_ BK303.out 1) | ((with_reducible refine gate_callee (f := 36) rfl ?_); refine goesL_ (some 17) rfl rfl Try.func36 (by kernel_rfl) rfl #[.slice A0_1 l0_1.length c0_1, .slice A1_1 l1_1.length c1_1] rfl (by (try simp only [List.map_toArray, List.map_cons, List.map_nil]); first | done | rfl | (simp only [List.length_drop, List.length_take]; rfl)) ?_; (with_reducible refine (clevisref01_size.calls k _ _ l0_1 _ _ l1_1 t332 _ ?side1 ?side2 ?side3 ?side4 A15.out).mono ?_); (case side1 => repeat (first | exact (cb_ HR0_1.out HB.out) | (with_reducible refine ca_ ?_ _) | (with_reducible refine cn_ ?_ _) | (with_reducible refine cd_ ?_))); (case side2 => exact HC0_1.out); (case side3 => repeat (first | exact (cb_ HR1_1.out HB.out) | (with_reducible refine ca_ ?_ _) | (with_reducible refine cn_ ?_ _) | (with_reducible refine cd_ ?_))); (case side4 => exact HC1_1.out); rintro e w' ⟨rfl, ⟨nd, rfl⟩⟩; refine ⟨_, rfl, ?_⟩))
   go_ret
   exact ⟨by first | rfl | (simp [errW_none, errW_some] <;> rfl) | (simp [*, errW_none, errW_some] <;> rfl), bw_⟩
end Go.Proofs.Ytfbkgfffalppmaa.Wf
end
section
namespace Go.Proofs.Ytfbkgfffalppmaa.Wf
open Go.RowKit Go.Proofs.YtfbkgfffalppmaaW.PrintWords Go.Proofs.YtfbkgfffalppmaaW.PrintLast Go.Proofs.YtfbkgfffalppmaaW.PrintMore
attribute [local go_sem] max2_int min2_int max_two min_two max_three min_three max_four min_four   -- for this text's walks alone
set_option linter.unusedVariables false
set_option linter.unusedSimpArgs false
attribute [local go_sem] run_add64_any
def clevisref01_Small.f (k : Nat) (a0 : Int) : Option (Bool × List Int) := if a0 < 0 then ((clevisref01_clean.f k true (([Int.tmod (wrap64 (-a0)) 65536, Int.tmod (wrap64 (Int.tdiv (wrap64 (-a0)) 65536)) 65536, wrap64 (Int.tdiv (wrap64 (Int.tdiv (wrap64 (-a0)) 65536)) 65536)] : List Int))).bind fun bt299 => (some (bt299.1, bt299.2))) else ((clevisref01_clean.f k false (([Int.tmod a0 65536, Int.tmod (wrap64 (Int.tdiv a0 65536)) 65536, wrap64 (Int.tdiv (wrap64 (Int.tdiv a0 65536)) 65536)] : List Int))).bind fun bt306 => (some (bt306.1, bt306.2)))
set_option maxHeartbeats 8000000 in
set_option maxRecDepth 100000 in
theorem clevisref01_Small.calls (k : Nat) (a0 : Int) (r1 : Bool) (r2 : List Int) (w : World) (h : clevisref01_Small.f k a0 = some (r1, r2)) :
  Calls Try.prog 42 #[.int .i64 a0] w fun e w' => ∃ v1_ : Value, e = .returned (.agg #[.bool r1, v1_]) ∧ Kd.V (Kd.int .i64) 3 w' w.heap.size (fun k_ => (w.heap.size ≤ k_)) v1_ r2 ∧ Below w.heap.size w w' := by
 have hu38 := Try.underlying38
 have HB := A_ (Below.refl w.heap.size w)
 have H : (if a0 < 0 then ((clevisref01_clean.f k true (([Int.tmod (wrap64 (-a0)) 65536, Int.tmod (wrap64 (Int.tdiv (wrap64 (-a0)) 65536)) 65536, wrap64 (Int.tdiv (wrap64 (Int.tdiv (wrap64 (-a0)) 65536)) 65536)] : List Int))).bind fun bt299 => (some (bt299.1, bt299.2))) else ((clevisref01_clean.f k false (([Int.tmod a0 65536, Int.tmod (wrap64 (Int.tdiv a0 65536)) 65536, wrap64 (Int.tdiv (wrap64 (Int.tdiv a0 65536)) 65536)] : List Int))).bind fun bt306 => (some (bt306.1, bt306.2)))) = some (r1, r2) := h
 clear h
 by_cases c2 : a0 < 0
 ·
  rw [if_pos c2] at H
  have c2b0 : decide (a0 < 0) = true := decide_eq_true c2
  clear c2
  obtain ⟨y296, hy296⟩ : ∃ y_ : List Int, y_ = (([Int.tmod (wrap64 (-a0)) 65536, Int.tmod (wrap64 (Int.tdiv (wrap64 (-a0)) 65536)) 65536, wrap64 (Int.tdiv (wrap64 (Int.tdiv (wrap64 (-a0)) 65536)) 65536)] : List Int)) := ⟨_, rfl⟩
  replace H : ((clevisref01_clean.f k true y296).bind fun bt299 => (some (bt299.1, bt299.2))) = some (r1, r2) := by first | (rw [hy296]; with_reducible exact H) | (have H2_ := (Option.bind_some _ _).symm.trans H; rw [hy296]; with_reducible exact H2_) | (have H2_ := (Option.bind_some _ _).symm.trans H; with_reducible exact H2_) | with_reducible exact H | (rw [hy296]; exact H) | exact H
  have Ny296 := A_ hy296
  clear hy296
  replace H := os_ H
  obtain ⟨⟨t299, t300⟩, A30, H⟩ := H
  replace H : (some (t299, t300)) = some (r1, r2) := H
  have A3 := A_ A30
  clear A30
  simp only [Option.some.injEq, Prod.mk.injEq] at H
  obtain ⟨rfl, rfl⟩ := H
  go_enter Try.func42, Try.ntmps42
  go_wp2_with (first | ((with_reducible refine gate_dst (N := 2) rfl ?_); refine box_event ?hg (N := 2) ?hd (cs := #[.bool false, .slice none 0 0]) (t := 38) ?hr ?_; (case hd => rfl); (case hg => rfl); (case hr => first | (go_simp; done) | (go_simp; rfl)); intro gb302 hg w4 hbox hb; have n0_ := A_ (bs_ bw_ hb); have n1_ := A_ (hbox); have n2_ := A_ ((by rw [hg]; exact (bz_ bw_) : w.heap.size ≤ gb302)); have n3_ := A_ ((by rw [hg]; exact (bz_ bw_) : w.heap.size ≤ gb302)); clear HB; have HB := n0_; have BK302 := n1_; have GW302 := n2_; have GE302 := n3_; clear n0_ n1_ n2_ n3_; clear hb hbox hg) | ((with_reducible refine gate_dst (N := 3) rfl ?_); refine box_event ?hg (N := 3) ?hd (cs := #[.bool false, .slice none 0 0]) (t := 38) ?hr ?_; (case hd => rfl); (case hg => rfl); (case hr => first | (go_simp; done) | (go_simp; rfl)); intro gb303 hg w5 hbox hb; have n0_ := A_ (kb_ BK302 hb); have n1_ := A_ (bs_ bw_ hb); have n2_ := A_ (hbox); have n3_ := A_ ((by rw [hg]; exact (bz_ bw_) : w.heap.size ≤ gb303)); have n4_ := A_ ((by rw [hg]; exact (bz_ bw_) : w.heap.size ≤ gb303)); have n5_ := A_ ((by rw [hg]; exact nl_ (lt_ BK302) : gb302 ≠ gb303)); have n6_ := A_ ((by rw [hg]; exact ng_ (lt_ BK302) : gb303 ≠ gb302)); clear BK302; clear HB; have BK302 := n0_; have HB := n1_; have BK303 := n2_; have GW303 := n3_; have GE303 := n4_; have NB302_303 := n5_; have NB303_302 := n6_; clear n0_ n1_ n2_ n3_ n4_ n5_ n6_; clear hb hbox hg; have hnb6 := NB303_302.out; have hnc6 := NB302_303.out; have hcz7_0 : w5.cell? ⟨gb303, 0, none⟩ = some (.bool false) := (bc_ BK303.out 0).trans rfl; have hcz7_1 : w5.cell? ⟨gb303, 1, none⟩ = some (.slice none 0 0) := (bc_ BK303.out 1).trans rfl; have hfz7_0 := bf_ BK303.out 0; have hfz7_1 := bf_ BK303.out 1) | ((with_reducible refine gate_dst (N := 19) rfl ?_); refine Kd.R_lit (Kd.int .i64) _ 3 ?hg (N := 19) ?hd (xs := ([Int.tmod (wrap64 (-a0)) 65536, Int.tmod (wrap64 (Int.tdiv (wrap64 (-a0)) 65536)) 65536, wrap64 (Int.tdiv (wrap64 (Int.tdiv (wrap64 (-a0)) 65536)) 65536)] : List Int)) (inner := [.int .i64 (Int.tmod (wrap64 (-a0)) 65536), .int .i64 (Int.tmod (wrap64 (Int.tdiv (wrap64 (-a0)) 65536)) 65536), .int .i64 (wrap64 (Int.tdiv (wrap64 (Int.tdiv (wrap64 (-a0)) 65536)) 65536))]) (ok := fun _ => True) (okp := fun _ => True) ?hr ?hp (fun _ hk => hk) trivial (Below.refl _ _) (Nat.le_refl _) (by simp) ?_; (case hd => rfl); (case hg => rfl); (case hr => first | (go_simp; done) | (go_simp; rfl)); (case hp => exact (Reps.one (show Kd.M (Kd.int .i64) _ _ _ (Int.tmod (wrap64 (-a0)) 65536) [.int .i64 (Int.tmod (wrap64 (-a0)) 65536)] from rfl) (Reps.one (show Kd.M (Kd.int .i64) _ _ _ (Int.tmod (wrap64 (Int.tdiv (wrap64 (-a0)) 65536)) 65536) [.int .i64 (Int.tmod (wrap64 (Int.tdiv (wrap64 (-a0)) 65536)) 65536)] from rfl) (Reps.one (show Kd.M (Kd.int .i64) _ _ _ (wrap64 (Int.tdiv (wrap64 (Int.tdiv (wrap64 (-a0)) 65536)) 65536)) [.int .i64 (wrap64 (Int.tdiv (wrap64 (Int.tdiv (wrap64 (-a0)) 65536)) 65536))] from rfl) (Reps.none _ _))))); intro v297 w8 ho9 hb hg_ hnew_; clear hg_ hnew_; (first | rw [← Ny296.out] at ho9 | (simp only [Int.reduceToNat] at ho9; rw [← Ny296.out] at ho9)); have n0_ := A_ (Kd.R_lower (Kd.R_newM (M := fun k_ => (w.heap.size ≤ k_)) ho9 (bz_ bw_) (fun k_ h_ => h_)) (bz_ bw_)); have n1_ := A_ (kb_ BK302 hb); have n2_ := A_ (blk_below (g := gb303) (o := .cells #[.bool true, .slice none 0 0] 38 (0, 0)) (by (with_reducible repeat (first | refine bn_ ?_ _ | refine bd_ ?_ | refine ba_ ?_ _)); refine bp_ (cs := #[.bool true, .slice none 0 0]) ?_ 1 _ rfl; (with_reducible repeat (first | refine bn_ ?_ _ | refine bd_ ?_ | refine ba_ ?_ _)); refine bp_ (cs := #[.bool false, .slice none 0 0]) ?_ 0 _ rfl; (with_reducible repeat (first | refine bn_ ?_ _ | refine bd_ ?_ | refine ba_ ?_ _)); exact BK303.out) hb); have n3_ := A_ (bs_ bw_ hb); clear BK302; clear BK303; clear HB; have HO298 := n0_; have BK302 := n1_; have BK303 := n2_; have HB := n3_; clear n0_ n1_ n2_ n3_; clear hb ho9; obtain ⟨Ao10, co10, eo10⟩ := Kd.R_slice HO298.out; subst eo10; have hcz11_0 : w8.cell? ⟨gb303, 0, none⟩ = some (.bool true) := (bc_ BK303.out 0).trans rfl; have hcz11_1 : w8.cell? ⟨gb303, 1, none⟩ = some (.slice none 0 0) := (bc_ BK303.out 1).trans rfl; have hfz11_0 := bf_ BK303.out 0; have hfz11_1 := bf_ BK303.out 1) | ((with_reducible refine gate_store (t := 36) (p := 20) rfl ?_); (first | (refine store_event (t := 36) (p := 20) (v := ?vo_w12) (w1 := (w8.setCell ⟨gb303, 1, none⟩ (.slice Ao10 y296.length co10))) ?hg ?ho ?hn ?hr ?_; (case ho => rfl); (case hg => rfl); (case hn => rfl); (case hr => first | (go_simp; done) | (go_simp; rfl)); intro w12 hw) | (refine store_event (t := 36) (p := 20) (v := ?vo_w12) (w1 := ((w8.drewN ?ndq_w12).setCell ⟨gb303, 1, none⟩ (.slice Ao10 y296.length co10))) ?hg ?ho ?hn ?hr ?_; (case ho => rfl); (case hg => rfl); (case hn => rfl); (case hr => first | (go_simp; done) | (go_simp; rfl)); intro w12 hw; rw [sd_eq] at hw)); have n0_ : Aside0 (Kd.R (Kd.int .i64) 3 w12 w.heap.size (fun k_ => (w.heap.size ≤ k_)) (.slice Ao10 y296.length co10) y296) := ⟨(by rw [hw]; first | (with_reducible exact (by (with_reducible repeat (first | apply Kd.R_alloc | apply Kd.R_drewN | apply Kd.R_drew)); exact Kd.R_mono (Kd.R_far (p := ⟨gb303, 1, none⟩) (Kd.R_types HO298.out BK303.out (by decide)) (fun _ hk => hk.2) (.slice Ao10 y296.length co10)) (fun _ hk => hk.1.1))) | (exact grown_dn ((by (with_reducible repeat (first | apply Kd.R_alloc | apply Kd.R_drewN | apply Kd.R_drew)); exact Kd.R_mono (Kd.R_far (p := ⟨gb303, 1, none⟩) (Kd.R_types HO298.out BK303.out (by decide)) (fun _ hk => hk.2) (.slice Ao10 y296.length co10)) (fun _ hk => hk.1.1))) _) | (exact pn_ ((by (with_reducible repeat (first | apply Kd.R_alloc | apply Kd.R_drewN | apply Kd.R_drew)); exact Kd.R_mono (Kd.R_far (p := ⟨gb303, 1, none⟩) (Kd.R_types HO298.out BK303.out (by decide)) (fun _ hk => hk.2) (.slice Ao10 y296.length co10)) (fun _ hk => hk.1.1))) _) | (exact Kd.R_drewN ((by (with_reducible repeat (first | apply Kd.R_alloc | apply Kd.R_drewN | apply Kd.R_drew)); exact Kd.R_mono (Kd.R_far (p := ⟨gb303, 1, none⟩) (Kd.R_types HO298.out BK303.out (by decide)) (fun _ hk => hk.2) (.slice Ao10 y296.length co10)) (fun _ hk => hk.1.1))) _) | exact (by (with_reducible repeat (first | apply Kd.R_alloc | apply Kd.R_drewN | apply Kd.R_drew)); exact Kd.R_mono (Kd.R_far (p := ⟨gb303, 1, none⟩) (Kd.R_types HO298.out BK303.out (by decide)) (fun _ hk => hk.2) (.slice Ao10 y296.length co10)) (fun _ hk => hk.1.1)))⟩; have n1_ : Aside0 (w12.heap[gb302]? = some (.cells #[.bool false, .slice none 0 0] 38 (0, 0))) := ⟨(by rw [hw]; first | (with_reducible exact bk_) | (exact grown_dn (bk_) _) | (exact pn_ (bk_) _) | (exact Kd.R_drewN (bk_) _) | exact bk_)⟩; have n2_ : Aside0 (w12.heap[gb303]? = some (.cells #[.bool true, .slice Ao10 y296.length co10] 38 (0, 0))) := ⟨(by rw [hw]; first | (with_reducible exact (by (with_reducible repeat (first | refine bn_ ?_ _ | refine bd_ ?_ | refine ba_ ?_ _)); refine bp_ (cs := #[.bool true, .slice none 0 0]) ?_ 1 _ rfl; (with_reducible repeat (first | refine bn_ ?_ _ | refine bd_ ?_ | refine ba_ ?_ _)); exact BK303.out)) | (exact grown_dn ((by (with_reducible repeat (first | refine bn_ ?_ _ | refine bd_ ?_ | refine ba_ ?_ _)); refine bp_ (cs := #[.bool true, .slice none 0 0]) ?_ 1 _ rfl; (with_reducible repeat (first | refine bn_ ?_ _ | refine bd_ ?_ | refine ba_ ?_ _)); exact BK303.out)) _) | (exact pn_ ((by (with_reducible repeat (first | refine bn_ ?_ _ | refine bd_ ?_ | refine ba_ ?_ _)); refine bp_ (cs := #[.bool true, .slice none 0 0]) ?_ 1 _ rfl; (with_reducible repeat (first | refine bn_ ?_ _ | refine bd_ ?_ | refine ba_ ?_ _)); exact BK303.out)) _) | (exact Kd.R_drewN ((by (with_reducible repeat (first | refine bn_ ?_ _ | refine bd_ ?_ | refine ba_ ?_ _)); refine bp_ (cs := #[.bool true, .slice none 0 0]) ?_ 1 _ rfl; (with_reducible repeat (first | refine bn_ ?_ _ | refine bd_ ?_ | refine ba_ ?_ _)); exact BK303.out)) _) | exact (by (with_reducible repeat (first | refine bn_ ?_ _ | refine bd_ ?_ | refine ba_ ?_ _)); refine bp_ (cs := #[.bool true, .slice none 0 0]) ?_ 1 _ rfl; (with_reducible repeat (first | refine bn_ ?_ _ | refine bd_ ?_ | refine ba_ ?_ _)); exact BK303.out))⟩; have n3_ : Aside0 (Below w.heap.size w w12) := ⟨(by rw [hw]; first | (with_reducible exact bw_) | (exact grown_dn (bw_) _) | (exact pn_ (bw_) _) | (exact Kd.R_drewN (bw_) _) | exact bw_)⟩; clear hw; clear HO298; clear BK302; clear BK303; clear HB; have HO298 := n0_; have BK302 := n1_; have BK303 := n2_; have HB := n3_; clear n0_ n1_ n2_ n3_; have hcz13_0 : w12.cell? ⟨gb303, 0, none⟩ = some (.bool true) := (bc_ BK303.out 0).trans rfl; have hcz13_1 : w12.cell? ⟨gb303, 1, none⟩ = some (.slice Ao10 y296.length co10) := (bc_ BK303.out 1).trans rfl; have hfz13_0 := bf_ BK303.out 0; have hfz13_1 := bf_ BK303.out 1) | ((with_reducible refine gate_callee (f := 45) rfl ?_); refine goesL_ (some 22) rfl rfl Try.func45 (by kernel_rfl) rfl #[.agg #[.bool true, .slice Ao10 y296.length co10]] rfl (by (try simp only [List.map_toArray, List.map_cons, List.map_nil]); first | done | rfl | (simp only [List.length_drop, List.length_take]; rfl)) ?_; (with_reducible refine (clevisref01_clean.calls k true (fun k_ => some k_ = (.slice Ao10 y296.length co10 : Value).ownBlock) _ _ y296 t299 t300 _ ?side1 A3.out).mono ?_); (case side1 => exact Kd.R_V (Kd.R_tight rfl (Kd.R_types (Kd.R_types (HO298.out) BK302.out (by decide)) BK303.out (by decide)))); rintro e w14 ⟨v301, rfl, ho0, hb⟩; refine ⟨_, rfl, ?_⟩; have n0_ := A_ (Kd.R_below (by (with_reducible repeat (first | apply Kd.R_alloc | apply Kd.R_drewN | apply Kd.R_drew)); exact HO298.out) hb); have n1_ := A_ (Kd.V_lower (vm_ (ok' := fun k_ => (w.heap.size ≤ k_) ∧ k_ ≠ gb302 ∧ k_ ≠ gb303) ho0 (fun k_ hk_ => ⟨Or.elim hk_ (fun hs_ => ((Kd.R_types (Kd.R_types (HO298.out) BK302.out (by decide)) BK303.out (by decide)).1 k_ hs_.symm).1.1) (fun hn_ => (Nat.le_trans (bz_ bw_) hn_)), Or.elim hk_ (fun hs_ => ((Kd.R_types (Kd.R_types (HO298.out) BK302.out (by decide)) BK303.out (by decide)).1 k_ hs_.symm).1.2) (fun hn_ => (Kd.freshB (g := gb302) (o := .cells #[.bool false, .slice none 0 0] 38 (0, 0)) bk_ k_ hn_)), Or.elim hk_ (fun hs_ => ((Kd.R_types (Kd.R_types (HO298.out) BK302.out (by decide)) BK303.out (by decide)).1 k_ hs_.symm).2) (fun hn_ => (Kd.freshB (g := gb303) (o := .cells #[.bool true, .slice Ao10 y296.length co10] 38 (0, 0)) bk_ k_ hn_))⟩)) (bz_ bw_)); have n2_ := A_ (kb_ BK302 hb); have n3_ := A_ (kb_ BK303 hb); have n4_ := A_ (bs_ bw_ hb); clear HO298; clear BK302; clear BK303; clear HB; have HO298 := n0_; have HO302 := n1_; have BK302 := n2_; have BK303 := n3_; have HB := n4_; clear n0_ n1_ n2_ n3_ n4_; (try clear hb); (try clear hb2); (try clear hk); (try clear hi); (try clear ho0); have hcz15_0 : w14.cell? ⟨gb302, 0, none⟩ = some (.bool false) := (bc_ BK302.out 0).trans rfl; have hcz15_1 : w14.cell? ⟨gb302, 1, none⟩ = some (.slice none 0 0) := (bc_ BK302.out 1).trans rfl; have hfz15_0 := bf_ BK302.out 0; have hfz15_1 := bf_ BK302.out 1; obtain ⟨Ao16, co16, eo16⟩ := Kd.V_slice HO302.out; subst eo16))
  refine bodyPost_ret (results_cell_row rfl _ _ gb302 38 #[.bool t299, .slice Ao16 t300.length co16] (0, 0) _ rfl (by (with_reducible repeat (first | refine bn_ ?_ _ | refine bd_ ?_ | refine ba_ ?_ _)); refine bp_ (cs := #[.bool t299, .slice none 0 0]) ?_ 1 _ rfl; (with_reducible repeat (first | refine bn_ ?_ _ | refine bd_ ?_ | refine ba_ ?_ _)); refine bp_ (cs := #[.bool false, .slice none 0 0]) ?_ 0 _ rfl; (with_reducible repeat (first | refine bn_ ?_ _ | refine bd_ ?_ | refine ba_ ?_ _)); exact BK302.out) Try.underlying38 rfl (by kernel_rfl)) rfl ?_
  exact ⟨_, by first | rfl | (simp [errW_none, errW_some] <;> rfl) | (simp [*, errW_none, errW_some] <;> rfl), by (with_reducible repeat (first | apply va_ | apply vn_ | apply vd_)); exact vm_ (Kd.V_far (p := ⟨gb302, 1, none⟩) (Kd.V_far (p := ⟨gb302, 0, none⟩) (vm_ HO302.out (fun k_ hk => (⟨hk, hk.2.1⟩ : _ ∧ k_ ≠ gb302))) (fun _ hk => hk.2) (.bool t299)) (fun _ hk => hk.2) (.slice Ao16 t300.length co16)) (fun _ hk => hk.1.1), bw_⟩
 ·
  rw [if_neg c2] at H
  have c2b0 : decide (a0 < 0) = false := decide_eq_false c2
  clear c2
  obtain ⟨y303, hy303⟩ : ∃ y_ : List Int, y_ = (([Int.tmod a0 65536, Int.tmod (wrap64 (Int.tdiv a0 65536)) 65536, wrap64 (Int.tdiv (wrap64 (Int.tdiv a0 65536)) 65536)] : List Int)) := ⟨_, rfl⟩
  replace H : ((clevisref01_clean.f k false y303).bind fun bt306 => (some (bt306.1, bt306.2))) = some (r1, r2) := by first | (rw [hy303]; with_reducible exact H) | (have H2_ := (Option.bind_some _ _).symm.trans H; rw [hy303]; with_reducible exact H2_) | (have H2_ := (Option.bind_some _ _).symm.trans H; with_reducible exact H2_) | with_reducible exact H | (rw [hy303]; exact H) | exact H
  have Ny303 := A_ hy303
  clear hy303
  replace H := os_ H
  obtain ⟨⟨t306, t307⟩, A170, H⟩ := H
  replace H : (some (t306, t307)) = some (r1, r2) := H
  have A17 := A_ A170
  clear A170
  simp only [Option.some.injEq, Prod.mk.injEq] at H
  obtain ⟨rfl, rfl⟩ := H
  go_enter Try.func42, Try.ntmps42
  go_wp2_with (first | ((with_reducible refine gate_dst (N := 2) rfl ?_); refine box_event ?hg (N := 2) ?hd (cs := #[.bool false, .slice none 0 0]) (t := 38) ?hr ?_; (case hd => rfl); (case hg => rfl); (case hr => first | (go_simp; done) | (go_simp; rfl)); intro gb302 hg w18 hbox hb; have n0_ := A_ (bs_ bw_ hb); have n1_ := A_ (hbox); have n2_ := A_ ((by rw [hg]; exact (bz_ bw_) : w.heap.size ≤ gb302)); have n3_ := A_ ((by rw [hg]; exact (bz_ bw_) : w.heap.size ≤ gb302)); clear HB; have HB := n0_; have BK302 := n1_; have GW302 := n2_; have GE302 := n3_; clear n0_ n1_ n2_ n3_; clear hb hbox hg) | ((with_reducible refine gate_dst (N := 3) rfl ?_); refine box_event ?hg (N := 3) ?hd (cs := #[.bool false, .slice none 0 0]) (t := 38) ?hr ?_; (case hd => rfl); (case hg => rfl); (case hr => first | (go_simp; done) | (go_simp; rfl)); intro gb303 hg w19 hbox hb; have n0_ := A_ (kb_ BK302 hb); have n1_ := A_ (bs_ bw_ hb); have n2_ := A_ (hbox); have n3_ := A_ ((by rw [hg]; exact (bz_ bw_) : w.heap.size ≤ gb303)); have n4_ := A_ ((by rw [hg]; exact (bz_ bw_) : w.heap.size ≤ gb303)); have n5_ := A_ ((by rw [hg]; exact nl_ (lt_ BK302) : gb302 ≠ gb303)); have n6_ := A_ ((by rw [hg]; exact ng_ (lt_ BK302) : gb303 ≠ gb302)); clear BK302; clear HB; have BK302 := n0_; have HB := n1_; have BK303 := n2_; have GW303 := n3_; have GE303 := n4_; have NB302_303 := n5_; have NB303_302 := n6_; clear n0_ n1_ n2_ n3_ n4_ n5_ n6_; clear hb hbox hg; have hnb20 := NB303_302.out; have hnc20 := NB302_303.out; have hcz21_0 : w19.cell? ⟨gb303, 0, none⟩ = some (.bool false) := (bc_ BK303.out 0).trans rfl; have hcz21_1 : w19.cell? ⟨gb303, 1, none⟩ = some (.slice none 0 0) := (bc_ BK303.out 1).trans rfl; have hfz21_0 := bf_ BK303.out 0; have hfz21_1 := bf_ BK303.out 1) | ((with_reducible refine gate_dst (N := 19) rfl ?_); refine Kd.R_lit (Kd.int .i64) _ 3 ?hg (N := 19) ?hd (xs := ([Int.tmod a0 65536, Int.tmod (wrap64 (Int.tdiv a0 65536)) 65536, wrap64 (Int.tdiv (wrap64 (Int.tdiv a0 65536)) 65536)] : List Int)) (inner := [.int .i64 (Int.tmod a0 65536), .int .i64 (Int.tmod (wrap64 (Int.tdiv a0 65536)) 65536), .int .i64 (wrap64 (Int.tdiv (wrap64 (Int.tdiv a0 65536)) 65536))]) (ok := fun _ => True) (okp := fun _ => True) ?hr ?hp (fun _ hk => hk) trivial (Below.refl _ _) (Nat.le_refl _) (by simp) ?_; (case hd => rfl); (case hg => rfl); (case hr => first | (go_simp; done) | (go_simp; rfl)); (case hp => exact (Reps.one (show Kd.M (Kd.int .i64) _ _ _ (Int.tmod a0 65536) [.int .i64 (Int.tmod a0 65536)] from rfl) (Reps.one (show Kd.M (Kd.int .i64) _ _ _ (Int.tmod (wrap64 (Int.tdiv a0 65536)) 65536) [.int .i64 (Int.tmod (wrap64 (Int.tdiv a0 65536)) 65536)] from rfl) (Reps.one (show Kd.M (Kd.int .i64) _ _ _ (wrap64 (Int.tdiv (wrap64 (Int.tdiv a0 65536)) 65536)) [.int .i64 (wrap64 (Int.tdiv (wrap64 (Int.tdiv a0 65536)) 65536))] from rfl) (Reps.none _ _))))); intro v304 w22 ho23 hb hg_ hnew_; clear hg_ hnew_; (first | rw [← Ny303.out] at ho23 | (simp only [Int.reduceToNat] at ho23; rw [← Ny303.out] at ho23)); have n0_ := A_ (Kd.R_lower (Kd.R_newM (M := fun k_ => (w.heap.size ≤ k_)) ho23 (bz_ bw_) (fun k_ h_ => h_)) (bz_ bw_)); have n1_ := A_ (kb_ BK302 hb); have n2_ := A_ (blk_below (g := gb303) (o := .cells #[.bool false, .slice none 0 0] 38 (0, 0)) (by (with_reducible repeat (first | refine bn_ ?_ _ | refine bd_ ?_ | refine ba_ ?_ _)); refine bp_ (cs := #[.bool false, .slice none 0 0]) ?_ 1 _ rfl; (with_reducible repeat (first | refine bn_ ?_ _ | refine bd_ ?_ | refine ba_ ?_ _)); refine bp_ (cs := #[.bool false, .slice none 0 0]) ?_ 0 _ rfl; (with_reducible repeat (first | refine bn_ ?_ _ | refine bd_ ?_ | refine ba_ ?_ _)); exact BK303.out) hb); have n3_ := A_ (bs_ bw_ hb); clear BK302; clear BK303; clear HB; have HO305 := n0_; have BK302 := n1_; have BK303 := n2_; have HB := n3_; clear n0_ n1_ n2_ n3_; clear hb ho23; obtain ⟨Ao24, co24, eo24⟩ := Kd.R_slice HO305.out; subst eo24; have hcz25_0 : w22.cell? ⟨gb303, 0, none⟩ = some (.bool false) := (bc_ BK303.out 0).trans rfl; have hcz25_1 : w22.cell? ⟨gb303, 1, none⟩ = some (.slice none 0 0) := (bc_ BK303.out 1).trans rfl; have hfz25_0 := bf_ BK303.out 0; have hfz25_1 := bf_ BK303.out 1) | ((with_reducible refine gate_store (t := 36) (p := 20) rfl ?_); (first | (refine store_event (t := 36) (p := 20) (v := ?vo_w26) (w1 := (w22.setCell ⟨gb303, 1, none⟩ (.slice Ao24 y303.length co24))) ?hg ?ho ?hn ?hr ?_; (case ho => rfl); (case hg => rfl); (case hn => rfl); (case hr => first | (go_simp; done) | (go_simp; rfl)); intro w26 hw) | (refine store_event (t := 36) (p := 20) (v := ?vo_w26) (w1 := ((w22.drewN ?ndq_w26).setCell ⟨gb303, 1, none⟩ (.slice Ao24 y303.length co24))) ?hg ?ho ?hn ?hr ?_; (case ho => rfl); (case hg => rfl); (case hn => rfl); (case hr => first | (go_simp; done) | (go_simp; rfl)); intro w26 hw; rw [sd_eq] at hw)); have n0_ : Aside0 (Kd.R (Kd.int .i64) 3 w26 w.heap.size (fun k_ => (w.heap.size ≤ k_)) (.slice Ao24 y303.length co24) y303) := ⟨(by rw [hw]; first | (with_reducible exact (by (with_reducible repeat (first | apply Kd.R_alloc | apply Kd.R_drewN | apply Kd.R_drew)); exact Kd.R_mono (Kd.R_far (p := ⟨gb303, 1, none⟩) (Kd.R_types HO305.out BK303.out (by decide)) (fun _ hk => hk.2) (.slice Ao24 y303.length co24)) (fun _ hk => hk.1.1))) | (exact grown_dn ((by (with_reducible repeat (first | apply Kd.R_alloc | apply Kd.R_drewN | apply Kd.R_drew)); exact Kd.R_mono (Kd.R_far (p := ⟨gb303, 1, none⟩) (Kd.R_types HO305.out BK303.out (by decide)) (fun _ hk => hk.2) (.slice Ao24 y303.length co24)) (fun _ hk => hk.1.1))) _) | (exact pn_ ((by (with_reducible repeat (first | apply Kd.R_alloc | apply Kd.R_drewN | apply Kd.R_drew)); exact Kd.R_mono (Kd.R_far (p := ⟨gb303, 1, none⟩) (Kd.R_types HO305.out BK303.out (by decide)) (fun _ hk => hk.2) (.slice Ao24 y303.length co24)) (fun _ hk => hk.1.1))) _) | (exact Kd.R_drewN ((by (with_reducible repeat (first | apply Kd.R_alloc | apply Kd.R_drewN | apply Kd.R_drew)); exact Kd.R_mono (Kd.R_far (p := ⟨gb303, 1, none⟩) (Kd.R_types HO305.out BK303.out (by decide)) (fun _ hk => hk.2) (.slice Ao24 y303.length co24)) (fun _ hk => hk.1.1))) _) | exact (by (with_reducible repeat (first | apply Kd.R_alloc | apply Kd.R_drewN | apply Kd.R_drew)); exact Kd.R_mono (Kd.R_far (p := ⟨gb303, 1, none⟩) (Kd.R_types HO305.out BK303.out (by decide)) (fun _ hk => hk.2) (.slice Ao24 y303.length co24)) (fun _ hk => hk.1.1)))⟩; have n1_ : Aside0 (w26.heap[gb302]? = some (.cells #[.bool false, .slice none 0 0] 38 (0, 0))) := ⟨(by rw [hw]; first | (with_reducible exact bk_) | (exact grown_dn (bk_) _) | (exact pn_ (bk_) _) | (exact Kd.R_drewN (bk_) _) | exact bk_)⟩; have n2_ : Aside0 (w26.heap[gb303]? = some (.cells #[.bool false, .slice Ao24 y303.length co24] 38 (0, 0))) := ⟨(by rw [hw]; first | (with_reducible exact (by (with_reducible repeat (first | refine bn_ ?_ _ | refine bd_ ?_ | refine ba_ ?_ _)); refine bp_ (cs := #[.bool false, .slice none 0 0]) ?_ 1 _ rfl; (with_reducible repeat (first | refine bn_ ?_ _ | refine bd_ ?_ | refine ba_ ?_ _)); exact BK303.out)) | (exact grown_dn ((by (with_reducible repeat (first | refine bn_ ?_ _ | refine bd_ ?_ | refine ba_ ?_ _)); refine bp_ (cs := #[.bool false, .slice none 0 0]) ?_ 1 _ rfl; (with_reducible repeat (first | refine bn_ ?_ _ | refine bd_ ?_ | refine ba_ ?_ _)); exact BK303.out)) _) | (exact pn_ ((by (with_reducible repeat (first | refine bn_ ?_ _ | refine bd_ ?_ | refine ba_ ?_ _)); refine bp_ (cs := #[.bool false, .slice none 0 0]) ?_ 1 _ rfl; (with_reducible repeat (first | refine bn_ ?_ _ | refine bd_ ?_ | refine ba_ ?_ _)); exact BK303.out)) _) | (exact Kd.R_drewN ((by (with_reducible repeat (first | refine bn_ ?_ _ | refine bd_ ?_ | refine ba_ ?_ _)); refine bp_ (cs := #[.bool false, .slice none 0 0]) ?_ 1 _ rfl; (with_reducible repeat (first | refine bn_ ?_ _ | refine bd_ ?_ | refine ba_ ?_ _)); exact BK303.out)) _) | exact (by (with_reducible repeat (first | refine bn_ ?_ _ | refine bd_ ?_ | refine ba_ ?_ _)); refine bp_ (cs := #[.bool false, .slice none 0 0]) ?_ 1 _ rfl; (with_reducible repeat (first | refine bn_ ?_ _ | refine bd_ ?_ | refine ba_ ?_ _)); exact BK303.out))⟩; have n3_ : Aside0 (Below w.heap.size w w26) := ⟨(by rw [hw]; first | (with_reducible exact bw_) | (exact grown_dn (bw_) _) | (exact pn_ (bw_) _) | (exact Kd.R_drewN (bw_) _) | exact bw_)⟩; clear hw; clear HO305; clear BK302; clear BK303; clear HB; have HO305 := n0_; have BK302 := n1_; have BK303 := n2_; have HB := n3_; clear n0_ n1_ n2_ n3_; have hcz27_0 : w26.cell? ⟨gb303, 0, none⟩ = some (.bool false) := (bc_ BK303.out 0).trans rfl; have hcz27_1 : w26.cell? ⟨gb303, 1, none⟩ = some (.slice Ao24 y303.length co24) := (bc_ BK303.out 1).trans rfl; have hfz27_0 := bf_ BK303.out 0; have hfz27_1 := bf_ BK303.out 1) | ((with_reducible refine gate_callee (f := 45) rfl ?_); refine goesL_ (some 22) rfl rfl Try.func45 (by kernel_rfl) rfl #[.agg #[.bool false, .slice Ao24 y303.length co24]] rfl (by (try simp only [List.map_toArray, List.map_cons, List.map_nil]); first | done | rfl | (simp only [List.length_drop, List.length_take]; rfl)) ?_; (with_reducible refine (clevisref01_clean.calls k false (fun k_ => some k_ = (.slice Ao24 y303.length co24 : Value).ownBlock) _ _ y303 t306 t307 _ ?side1 A17.out).mono ?_); (case side1 => exact Kd.R_V (Kd.R_tight rfl (Kd.R_types (Kd.R_types (HO305.out) BK302.out (by decide)) BK303.out (by decide)))); rintro e w28 ⟨v308, rfl, ho0, hb⟩; refine ⟨_, rfl, ?_⟩; have n0_ := A_ (Kd.R_below (by (with_reducible repeat (first | apply Kd.R_alloc | apply Kd.R_drewN | apply Kd.R_drew)); exact HO305.out) hb); have n1_ := A_ (Kd.V_lower (vm_ (ok' := fun k_ => (w.heap.size ≤ k_) ∧ k_ ≠ gb302 ∧ k_ ≠ gb303) ho0 (fun k_ hk_ => ⟨Or.elim hk_ (fun hs_ => ((Kd.R_types (Kd.R_types (HO305.out) BK302.out (by decide)) BK303.out (by decide)).1 k_ hs_.symm).1.1) (fun hn_ => (Nat.le_trans (bz_ bw_) hn_)), Or.elim hk_ (fun hs_ => ((Kd.R_types (Kd.R_types (HO305.out) BK302.out (by decide)) BK303.out (by decide)).1 k_ hs_.symm).1.2) (fun hn_ => (Kd.freshB (g := gb302) (o := .cells #[.bool false, .slice none 0 0] 38 (0, 0)) bk_ k_ hn_)), Or.elim hk_ (fun hs_ => ((Kd.R_types (Kd.R_types (HO305.out) BK302.out (by decide)) BK303.out (by decide)).1 k_ hs_.symm).2) (fun hn_ => (Kd.freshB (g := gb303) (o := .cells #[.bool false, .slice Ao24 y303.length co24] 38 (0, 0)) bk_ k_ hn_))⟩)) (bz_ bw_)); have n2_ := A_ (kb_ BK302 hb); have n3_ := A_ (kb_ BK303 hb); have n4_ := A_ (bs_ bw_ hb); clear HO305; clear BK302; clear BK303; clear HB; have HO305 := n0_; have HO309 := n1_; have BK302 := n2_; have BK303 := n3_; have HB := n4_; clear n0_ n1_ n2_ n3_ n4_; (try clear hb); (try clear hb2); (try clear hk); (try clear hi); (try clear ho0); have hcz29_0 : w28.cell? ⟨gb302, 0, none⟩ = some (.bool false) := (bc_ BK302.out 0).trans rfl; have hcz29_1 : w28.cell? ⟨gb302, 1, none⟩ = some (.slice none 0 0) := (bc_ BK302.out 1).trans rfl; have hfz29_0 := bf_ BK302.out 0; have hfz29_1 := bf_ BK302.out 1; obtain ⟨Ao30, co30, eo30⟩ := Kd.V_slice HO309.out; subst eo30))
  refine bodyPost_ret (results_cell_row rfl _ _ gb302 38 #[.bool t306, .slice Ao30 t307.length co30] (0, 0) _ rfl (by (with_reducible repeat (first | refine bn_ ?_ _ | refine bd_ ?_ | refine ba_ ?_ _)); refine bp_ (cs := #[.bool t306, .slice none 0 0]) ?_ 1 _ rfl; (with_reducible repeat (first | refine bn_ ?_ _ | refine bd_ ?_ | refine ba_ ?_ _)); refine bp_ (cs := #[.bool false, .slice none 0 0]) ?_ 0 _ rfl; (with_reducible repeat (first | refine bn_ ?_ _ | refine bd_ ?_ | refine ba_ ?_ _)); exact BK302.out) Try.underlying38 rfl (by kernel_rfl)) rfl ?_
  exact ⟨_, by first | rfl | (simp [errW_none, errW_some] <;> rfl) | (simp [*, errW_none, errW_some] <;> rfl), by (with_reducible repeat (first | apply va_ | apply vn_ | apply vd_)); exact vm_ (Kd.V_far (p := ⟨gb302, 1, none⟩) (Kd.V_far (p := ⟨gb302, 0, none⟩) (vm_ HO309.out (fun k_ hk => (⟨hk, hk.2.1⟩ : _ ∧ k_ ≠ gb302))) (fun _ hk => hk.2) (.bool t306)) (fun _ hk => hk.2) (.slice Ao30 t307.length co30)) (fun _ hk => hk.1.1), bw_⟩
end Go.Proofs.Ytfbkgfffalppmaa.Wf
end
section
namespace Go.Proofs.Ytfbkgfffalppmaa.Wf
open Go.RowKit Go.Proofs.YtfbkgfffalppmaaW.PrintWords Go.Proofs.YtfbkgfffalppmaaW.PrintLast Go.Proofs.YtfbkgfffalppmaaW.PrintMore
attribute [local go_sem] max2_int min2_int max_two min_two max_three min_three max_four min_four   -- for this text's walks alone
set_option linter.unusedVariables false
set_option linter.unusedSimpArgs false
attribute [local go_sem] run_add64_any
def clevisref01_power.f (k : Nat) (a0 : Int) (a1 : Int) : Option (Bool × List Int) := if 0 ≤ (wrap64 ((wrap64 (Int.tdiv a0 16)) + 1)) then (if (wrap64 ((wrap64 (Int.tdiv a0 16)) + 1) : Int).toNat ≤ 35184372088832 then ((some (List.replicate (wrap64 ((wrap64 (Int.tdiv a0 16)) + 1) : Int).toNat 0 : List Int)).bind fun y310 => (if 0 ≤ (Int.tmod a0 16) then (if 0 ≤ (wrap64 (Int.tdiv a0 16)) then (if (wrap64 (Int.tdiv a0 16)) < (y310.length : Int) then ((clevisref01_Small.f k (wrap64 (-a1))).bind fun bt314 => ((clevisref01_Add.f k false (y310.set ((wrap64 (Int.tdiv a0 16)) : Int).toNat (shl .i64 1 (Int.tmod a0 16))) bt314.1 bt314.2).bind fun bt318 => (some (bt318.1, bt318.2)))) else (none)) else (none)) else (none))) else (none)) else (none)
set_option maxHeartbeats 8000000 in
set_option maxRecDepth 100000 in
theorem clevisref01_power.calls (k : Nat) (a0 : Int) (a1 : Int) (r1 : Bool) (r2 : List Int) (w : World) (h : clevisref01_power.f k a0 a1 = some (r1, r2)) :
  Calls Try.prog 37 #[.int .i64 a0, .int .i64 a1] w fun e w' => ∃ v1_ : Value, e = .returned (.agg #[.bool r1, v1_]) ∧ Kd.V (Kd.int .i64) 3 w' w.heap.size (fun k_ => (w.heap.size ≤ k_)) v1_ r2 ∧ Below w.heap.size w w' := by
 have hu38 := Try.underlying38
 have HB := A_ (Below.refl w.heap.size w)
 have H : (if 0 ≤ (wrap64 ((wrap64 (Int.tdiv a0 16)) + 1)) then (if (wrap64 ((wrap64 (Int.tdiv a0 16)) + 1) : Int).toNat ≤ 35184372088832 then ((some (List.replicate (wrap64 ((wrap64 (Int.tdiv a0 16)) + 1) : Int).toNat 0 : List Int)).bind fun y310 => (if 0 ≤ (Int.tmod a0 16) then (if 0 ≤ (wrap64 (Int.tdiv a0 16)) then (if (wrap64 (Int.tdiv a0 16)) < (y310.length : Int) then ((clevisref01_Small.f k (wrap64 (-a1))).bind fun bt314 => ((clevisref01_Add.f k false (y310.set ((wrap64 (Int.tdiv a0 16)) : Int).toNat (shl .i64 1 (Int.tmod a0 16))) bt314.1 bt314.2).bind fun bt318 => (some (bt318.1, bt318.2)))) else (none)) else (none)) else (none))) else (none)) else (none)) = some (r1, r2) := h
 clear h
 obtain ⟨ji3, hji3⟩ : ∃ j_ : Int, (wrap64 ((wrap64 (Int.tdiv a0 16)) + 1)) = j_ := ⟨_, rfl⟩
 replace H : (if 0 ≤ (ji3) then (if (ji3 : Int).toNat ≤ 35184372088832 then ((some (List.replicate (ji3 : Int).toNat 0 : List Int)).bind fun y310 => (if 0 ≤ (Int.tmod a0 16) then (if 0 ≤ (wrap64 (Int.tdiv a0 16)) then (if (wrap64 (Int.tdiv a0 16)) < (y310.length : Int) then ((clevisref01_Small.f k (wrap64 (-a1))).bind fun bt314 => ((clevisref01_Add.f k false (y310.set ((wrap64 (Int.tdiv a0 16)) : Int).toNat (shl .i64 1 (Int.tmod a0 16))) bt314.1 bt314.2).bind fun bt318 => (some (bt318.1, bt318.2)))) else (none)) else (none)) else (none))) else (none)) else (none)) = some (r1, r2) := by first | (rw [hji3] at H; exact H) | (simp only [hji3] at H ⊢; exact H)
 have hji3w : (IntKind.i64.wrap ((wrap64 (Int.tdiv a0 16)) + 1)) = ji3 := (i64_w _).trans hji3
 by_cases c4 : 0 ≤ (ji3)
 ·
  rw [if_pos c4] at H
  have c4b0 := eq_true c4
  have c4b1 : decide (0 ≤ (ji3)) = true := decide_eq_true c4
  clear c4
  by_cases c5 : (ji3 : Int).toNat ≤ 35184372088832
  ·
   rw [if_pos c5] at H
   have c5b0 := eq_true c5
   have c5b1 : decide ((ji3 : Int).toNat ≤ 35184372088832) = true := decide_eq_true c5
   clear c5
   obtain ⟨y310, hy310⟩ : ∃ y_ : List Int, y_ = (List.replicate (ji3 : Int).toNat 0) := ⟨_, rfl⟩
   replace H : (if 0 ≤ (Int.tmod a0 16) then (if 0 ≤ (wrap64 (Int.tdiv a0 16)) then (if (wrap64 (Int.tdiv a0 16)) < (y310.length : Int) then ((clevisref01_Small.f k (wrap64 (-a1))).bind fun bt314 => ((clevisref01_Add.f k false (y310.set ((wrap64 (Int.tdiv a0 16)) : Int).toNat (shl .i64 1 (Int.tmod a0 16))) bt314.1 bt314.2).bind fun bt318 => (some (bt318.1, bt318.2)))) else (none)) else (none)) else (none)) = some (r1, r2) := by first | (rw [hy310]; with_reducible exact H) | (have H2_ := (Option.bind_some _ _).symm.trans H; rw [hy310]; with_reducible exact H2_) | (have H2_ := (Option.bind_some _ _).symm.trans H; with_reducible exact H2_) | with_reducible exact H | (rw [hy310]; exact H) | exact H
   have Ny310 := A_ hy310
   clear hy310
   obtain ⟨ji6, hji6⟩ : ∃ j_ : Int, (Int.tmod a0 16) = j_ := ⟨_, rfl⟩
   replace H : (if 0 ≤ (ji6) then (if 0 ≤ (wrap64 (Int.tdiv a0 16)) then (if (wrap64 (Int.tdiv a0 16)) < (y310.length : Int) then ((clevisref01_Small.f k (wrap64 (-a1))).bind fun bt314 => ((clevisref01_Add.f k false (y310.set ((wrap64 (Int.tdiv a0 16)) : Int).toNat (shl .i64 1 (ji6))) bt314.1 bt314.2).bind fun bt318 => (some (bt318.1, bt318.2)))) else (none)) else (none)) else (none)) = some (r1, r2) := by first | (rw [hji6] at H; exact H) | (simp only [hji6] at H ⊢; exact H)
   by_cases c7 : 0 ≤ (ji6)
   ·
    rw [if_pos c7] at H
    have c7b0 := eq_true c7
    have c7b1 : decide (0 ≤ (ji6)) = true := decide_eq_true c7
    clear c7
    obtain ⟨ji8, hji8⟩ : ∃ j_ : Int, (shl .i64 1 (ji6)) = j_ := ⟨_, rfl⟩
    replace H : (if 0 ≤ (wrap64 (Int.tdiv a0 16)) then (if (wrap64 (Int.tdiv a0 16)) < (y310.length : Int) then ((clevisref01_Small.f k (wrap64 (-a1))).bind fun bt314 => ((clevisref01_Add.f k false (y310.set ((wrap64 (Int.tdiv a0 16)) : Int).toNat (ji8)) bt314.1 bt314.2).bind fun bt318 => (some (bt318.1, bt318.2)))) else (none)) else (none)) = some (r1, r2) := by first | (rw [hji8] at H; exact H) | (simp only [hji8] at H ⊢; exact H)
    have hji8_ : (IntKind.i64.wrap (1 * 2 ^ min (ji6).toNat 64)) = ji8 := hji8
    have hji8z : (ji6) ≤ 64 → (IntKind.i64.wrap (1 * 2 ^ (ji6).toNat)) = ji8 := shl_small hji8
    have hji8u : (IntKind.i64.wrap (2 ^ min (ji6).toNat 64)) = ji8 := by have h_ := hji8_; rw [Int.one_mul] at h_; exact h_
    have hji8v : (ji6) ≤ 64 → (IntKind.i64.wrap (2 ^ (ji6).toNat)) = ji8 := fun hle_ => by have h_ := hji8z hle_; rw [Int.one_mul] at h_; exact h_
    have hji8y : (wrap64 (1 * 2 ^ min (ji6).toNat 64)) = ji8 := (i64_w _).symm.trans hji8_
    have hji8x : (ji6) ≤ 64 → (wrap64 (1 * 2 ^ (ji6).toNat)) = ji8 := fun h_ => (i64_w _).symm.trans (hji8z h_)
    obtain ⟨ji9, hji9⟩ : ∃ j_ : Int, (wrap64 (Int.tdiv a0 16)) = j_ := ⟨_, rfl⟩
    replace H : (if 0 ≤ (ji9) then (if (ji9) < (y310.length : Int) then ((clevisref01_Small.f k (wrap64 (-a1))).bind fun bt314 => ((clevisref01_Add.f k false (y310.set ((ji9) : Int).toNat (ji8)) bt314.1 bt314.2).bind fun bt318 => (some (bt318.1, bt318.2)))) else (none)) else (none)) = some (r1, r2) := by first | (rw [hji9] at H; exact H) | (simp only [hji9] at H ⊢; exact H)
    (try (have hji3_ji9 : (wrap64 (ji9 + 1)) = ji3 := by rw [← hji9]; exact hji3))
    (try (have hji3_ji9w : (IntKind.i64.wrap (ji9 + 1)) = ji3 := (i64_w _).trans hji3_ji9))
    have hji9w : (IntKind.i64.wrap (Int.tdiv a0 16)) = ji9 := (i64_w _).trans hji9
    by_cases c10 : 0 ≤ (ji9)
    ·
     rw [if_pos c10] at H
     have c10b0 : decide (0 ≤ (ji9)) = true := decide_eq_true c10
     clear c10
     by_cases c11 : (ji9) < (y310.length : Int)
     ·
      rw [if_pos c11] at H
      have c11b0 : decide ((ji9) < (y310.length : Int)) = true := decide_eq_true c11
      clear c11
      obtain ⟨y313, hy313⟩ : ∃ y_ : List Int, y_ = (y310.set ((ji9) : Int).toNat (ji8)) := ⟨_, rfl⟩
      replace H : ((clevisref01_Small.f k (wrap64 (-a1))).bind fun bt314 => ((clevisref01_Add.f k false y313 bt314.1 bt314.2).bind fun bt318 => (some (bt318.1, bt318.2)))) = some (r1, r2) := by first | (rw [hy313]; with_reducible exact H) | (have H2_ := (Option.bind_some _ _).symm.trans H; rw [hy313]; with_reducible exact H2_) | (have H2_ := (Option.bind_some _ _).symm.trans H; with_reducible exact H2_) | with_reducible exact H | (rw [hy313]; exact H) | exact H
      have Ny313 := A_ hy313
      clear hy313
      replace H := os_ H
      obtain ⟨⟨t314, t315⟩, A130, H⟩ := H
      replace H : ((clevisref01_Add.f k false y313 t314 t315).bind fun bt318 => (some (bt318.1, bt318.2))) = some (r1, r2) := H
      have A13 := A_ A130
      clear A130
      replace H := os_ H
      obtain ⟨⟨t318, t319⟩, A140, H⟩ := H
      replace H : (some (t318, t319)) = some (r1, r2) := H
      have A14 := A_ A140
      clear A140
      simp only [Option.some.injEq, Prod.mk.injEq] at H
      obtain ⟨rfl, rfl⟩ := H
      go_enter Try.func37, Try.ntmps37
      go_wp2_with (first | ((with_reducible refine gate_dst (N := 4) rfl ?_); refine box_event ?hg (N := 4) ?hd (cs := #[.bool false, .slice none 0 0]) (t := 38) ?hr ?_; (case hd => rfl); (case hg => rfl); (case hr => first | (go_simp; done) | (go_simp; rfl)); intro gb304 hg w15 hbox hb; have n0_ := A_ (bs_ bw_ hb); have n1_ := A_ (hbox); have n2_ := A_ ((by rw [hg]; exact (bz_ bw_) : w.heap.size ≤ gb304)); have n3_ := A_ ((by rw [hg]; exact (bz_ bw_) : w.heap.size ≤ gb304)); clear HB; have HB := n0_; have BK304 := n1_; have GW304 := n2_; have GE304 := n3_; clear n0_ n1_ n2_ n3_; clear hb hbox hg) | ((with_reducible refine gate_dst (N := 9) rfl ?_); refine Kd.R_make (Kd.int .i64) _ 3 rfl (N := 9) rfl 36 _ _ rfl ji3 rfl rfl Try.underlying36 (.int .i64 0) 8 info3 rfl (by decide) (by omega) 0 (ok := fun _ => True) (okp := fun _ => True) rfl (fun _ hk => hk) trivial (od_ (by first | (with_reducible assumption) | assumption)) (Nat.le_trans (Nat.mul_le_mul_right _ (od_ (by first | (with_reducible assumption) | assumption) : ji3.toNat ≤ 35184372088832)) (by omega)) (Below.refl _ _) (Nat.le_refl _) ?_; intro v311 w16 ho17 hb hg_ hnew_; clear hg_ hnew_; (first | rw [← Ny310.out] at ho17 | (simp only [Int.reduceToNat] at ho17; rw [← Ny310.out] at ho17)); have n0_ := A_ (Kd.R_lower (Kd.R_newM (M := fun k_ => (w.heap.size ≤ k_)) ho17 (bz_ bw_) (fun k_ h_ => h_)) (bz_ bw_)); have n1_ := A_ (kb_ BK304 hb); have n2_ := A_ (bs_ bw_ hb); clear BK304; clear HB; have HO312 := n0_; have BK304 := n1_; have HB := n2_; clear n0_ n1_ n2_; clear hb ho17; have p12 : 0 ≤ ((ji9) : Int) := od_ (by first | (with_reducible assumption) | assumption); have q12 : ((ji9) : Int) < ((y310.length : Int) : Int) := od_ (by first | (with_reducible assumption) | assumption); obtain ⟨go12, co12, eo12, gb12, gl12, cl12, HG12⟩ := Kd.R_form HO312.out (by omega); (first | cases eo12 | (injection eo12 with ea_ en_ ec_; (first | subst ea_ | (injection ea_ with ea_; subst ea_)); subst ec_; clear en_)); have GB12 := A_ gb12; have GG12 := A_ HG12; clear gb12 gl12 HG12; obtain ⟨hx12_0, hf12_0⟩ := Kd.R_celln 0 HO312.out ((ji9) : Int) p12 q12; replace p12 := eq_true p12; replace q12 := eq_true q12; have n_ := A_ (Kd.R_mono (ok' := (fun k_ => (w.heap.size ≤ k_))) HO312.out (fun k_ hk => hk.1)); clear HO312; have HO312 := n_; clear n_; obtain ⟨hy18_, hz18_⟩ := Kd.R_celln 0 HO312.out ((ji9) : Int) (od_ (by first | (with_reducible assumption) | assumption)) (od_ (by first | (with_reducible assumption) | assumption)); have HP18 := Kd.R_putg HO312.out ((ji9) : Int) ji8) | ((with_reducible refine gate_store (t := 3) (p := 16) rfl ?_); (first | (refine store_event (t := 3) (p := 16) (v := ?vo_w19) (w1 := (w16.setCell ⟨go12, ((ji9) : Int).toNat, none⟩ (.int .i64 ji8))) ?hg ?ho ?hn ?hr ?_; (case ho => rfl); (case hg => rfl); (case hn => rfl); (case hr => first | (go_simp; done) | (go_simp; rfl)); intro w19 hw) | (refine store_event (t := 3) (p := 16) (v := ?vo_w19) (w1 := ((w16.drewN ?ndq_w19).setCell ⟨go12, ((ji9) : Int).toNat, none⟩ (.int .i64 ji8))) ?hg ?ho ?hn ?hr ?_; (case ho => rfl); (case hg => rfl); (case hn => rfl); (case hr => first | (go_simp; done) | (go_simp; rfl)); intro w19 hw; rw [sd_eq] at hw)); have hg : w16.grownBy w19 (some go12) := (by rw [hw]; first | (with_reducible exact HP18.2) | (exact grown_dn (HP18.2) _) | (exact pn_ (HP18.2) _) | (exact Kd.R_drewN (HP18.2) _) | exact HP18.2); have hp_ : Kd.R (Kd.int .i64) 3 w19 w.heap.size (fun k_ => (w.heap.size ≤ k_)) (.slice (some ⟨go12, 0, none⟩) y310.length co12) y313 := (by rw [hw, Ny313.out]; first | (with_reducible exact HP18.1) | (exact grown_dn (HP18.1) _) | (exact pn_ (HP18.1) _) | (exact Kd.R_drewN (HP18.1) _) | exact HP18.1); clear HP18; have n0_ := A_ (blk_grown (g := gb304) (o := .cells #[.bool false, .slice none 0 0] 38 (0, 0)) bk_ hg (Kd.R_ne HO312.out BK304.out (by decide))); have n1_ := A_ (hp_); have n2_ := A_ ((by rw [hw]; first | (with_reducible exact bt_ (HB.out) GB12.out) | (exact grown_dn (bt_ (HB.out) GB12.out) _) | (exact pn_ (bt_ (HB.out) GB12.out) _) | (exact Kd.R_drewN (bt_ (HB.out) GB12.out) _) | exact bt_ (HB.out) GB12.out : Below w.heap.size w w19)); clear BK304; clear HO312; clear HB; have BK304 := n0_; have HO312 := n1_; have HB := n2_; clear n0_ n1_ n2_; clear hg hw hp_) | ((with_reducible refine gate_callee (f := 42) rfl ?_); refine goesL_ (some 21) rfl rfl Try.func42 (by kernel_rfl) rfl #[.int .i64 (wrap64 (-a1))] rfl (by (try simp only [List.map_toArray, List.map_cons, List.map_nil]); first | done | rfl | (simp only [List.length_drop, List.length_take]; rfl)) ?_; (with_reducible refine (clevisref01_Small.calls k (wrap64 (-a1)) t314 t315 _ A13.out).mono ?_); rintro e w20 ⟨v316, rfl, ho0, hb⟩; refine ⟨_, rfl, ?_⟩; have n0_ := A_ (Kd.R_below (by (with_reducible repeat (first | apply Kd.R_alloc | apply Kd.R_drewN | apply Kd.R_drew)); exact HO312.out) hb); have n1_ := A_ (Kd.V_lower (vm_ (ok' := fun k_ => (w.heap.size ≤ k_) ∧ some k_ ≠ (.slice (some ⟨go12, 0, none⟩) y310.length co12 : Value).ownBlock ∧ k_ ≠ gb304) ho0 (fun k_ hk_ => ⟨(Nat.le_trans (bz_ bw_) hk_), (Kd.fresh' (Kd.R_lt (by (with_reducible repeat (first | apply Kd.R_alloc | apply Kd.R_drewN | apply Kd.R_drew)); exact HO312.out)) k_ hk_), (Kd.freshB (g := gb304) (o := .cells #[.bool false, .slice none 0 0] 38 (0, 0)) bk_ k_ hk_)⟩)) (bz_ bw_)); have n2_ := A_ (kb_ BK304 hb); have n3_ := A_ (bs_ bw_ hb); clear HO312; clear BK304; clear HB; have HO312 := n0_; have HO317 := n1_; have BK304 := n2_; have HB := n3_; clear n0_ n1_ n2_ n3_; (try clear hb); (try clear hb2); (try clear hk); (try clear hi); (try clear ho0); obtain ⟨Ao21, co21, eo21⟩ := Kd.V_slice HO317.out; subst eo21) | ((with_reducible refine gate_callee (f := 20) rfl ?_); refine goesL_ (some 22) rfl rfl Try.func20 (by kernel_rfl) rfl #[.agg #[.bool false, .slice (some ⟨go12, 0, none⟩) y313.length co12], .agg #[.bool t314, .slice Ao21 t315.length co21]] rfl (by (try simp only [List.map_toArray, List.map_cons, List.map_nil]); first | done | (rw [show y313.length = y310.length from (Kd.R_reads' HO312.out).1.symm] <;> rfl) | rfl | (simp only [List.length_drop, List.length_take]; rfl)) ?_; (with_reducible refine (clevisref01_Add.calls k false _ _ y313 t314 _ _ t315 t318 t319 _ ?side1 ?side2 ?side3 ?side4 A14.out).mono ?_); (case side1 => repeat (first | exact (Kd.R_reads' HO312.out).2.2 | (with_reducible refine ca_ ?_ _) | (with_reducible refine cn_ ?_ _) | (with_reducible refine cd_ ?_))); (case side2 => rw [show y313.length = y310.length from (Kd.R_reads' HO312.out).1.symm]; exact (Kd.R_reads' HO312.out).2.1); (case side3 => repeat (first | exact (Kd.V_reads' HO317.out).2.2 | (with_reducible refine ca_ ?_ _) | (with_reducible refine cn_ ?_ _) | (with_reducible refine cd_ ?_))); (case side4 => exact (Kd.V_reads' HO317.out).2.1); rintro e w22 ⟨v320, rfl, ho0, hb⟩; refine ⟨_, rfl, ?_⟩; have n0_ := A_ (Kd.R_below (by (with_reducible repeat (first | apply Kd.R_alloc | apply Kd.R_drewN | apply Kd.R_drew)); exact HO312.out) hb); have n1_ := A_ (Kd.V_below (by (with_reducible repeat (first | apply va_ | apply vn_ | apply vd_)); exact HO317.out) hb); have n2_ := A_ (Kd.V_lower (vm_ (ok' := fun k_ => (w.heap.size ≤ k_) ∧ some k_ ≠ (.slice (some ⟨go12, 0, none⟩) y310.length co12 : Value).ownBlock ∧ k_ ≠ gb304) ho0 (fun k_ hk_ => ⟨(Nat.le_trans (bz_ bw_) hk_), (Kd.fresh' (Kd.R_lt (by (with_reducible repeat (first | apply Kd.R_alloc | apply Kd.R_drewN | apply Kd.R_drew)); exact HO312.out)) k_ hk_), (Kd.freshB (g := gb304) (o := .cells #[.bool false, .slice none 0 0] 38 (0, 0)) bk_ k_ hk_)⟩)) (bz_ bw_)); have n3_ := A_ (kb_ BK304 hb); have n4_ := A_ (bs_ bw_ hb); clear HO312; clear HO317; clear BK304; clear HB; have HO312 := n0_; have HO317 := n1_; have HO321 := n2_; have BK304 := n3_; have HB := n4_; clear n0_ n1_ n2_ n3_ n4_; (try clear hb); (try clear hb2); (try clear hk); (try clear hi); (try clear ho0); have hcz23_0 : w22.cell? ⟨gb304, 0, none⟩ = some (.bool false) := (bc_ BK304.out 0).trans rfl; have hcz23_1 : w22.cell? ⟨gb304, 1, none⟩ = some (.slice none 0 0) := (bc_ BK304.out 1).trans rfl; have hfz23_0 := bf_ BK304.out 0; have hfz23_1 := bf_ BK304.out 1; obtain ⟨Ao24, co24, eo24⟩ := Kd.V_slice HO321.out; subst eo24))
      refine bodyPost_ret (results_cell_row rfl _ _ gb304 38 #[.bool t318, .slice Ao24 t319.length co24] (0, 0) _ rfl (by (with_reducible repeat (first | refine bn_ ?_ _ | refine bd_ ?_ | refine ba_ ?_ _)); refine bp_ (cs := #[.bool t318, .slice none 0 0]) ?_ 1 _ rfl; (with_reducible repeat (first | refine bn_ ?_ _ | refine bd_ ?_ | refine ba_ ?_ _)); refine bp_ (cs := #[.bool false, .slice none 0 0]) ?_ 0 _ rfl; (with_reducible repeat (first | refine bn_ ?_ _ | refine bd_ ?_ | refine ba_ ?_ _)); exact BK304.out) Try.underlying38 rfl (by kernel_rfl)) rfl ?_
      exact ⟨_, by first | rfl | (simp [errW_none, errW_some] <;> rfl) | (simp only [← hji3, ← hji6, ← hji8, ← hji9]; first | rfl | (simp [errW_none, errW_some] <;> rfl)) | (simp [*, errW_none, errW_some] <;> rfl), by (with_reducible repeat (first | apply va_ | apply vn_ | apply vd_)); exact vm_ (Kd.V_far (p := ⟨gb304, 1, none⟩) (Kd.V_far (p := ⟨gb304, 0, none⟩) (vm_ HO321.out (fun k_ hk => (⟨hk, hk.2.2⟩ : _ ∧ k_ ≠ gb304))) (fun _ hk => hk.2) (.bool t318)) (fun _ hk => hk.2) (.slice Ao24 t319.length co24)) (fun _ hk => hk.1.1), bw_⟩
     ·
      rw [if_neg c11] at H
      exact absurd H (by simp)
    ·
     rw [if_neg c10] at H
     exact absurd H (by simp)
   ·
    rw [if_neg c7] at H
    exact absurd H (by simp)
  ·
   rw [if_neg c5] at H
   exact absurd H (by simp)
 ·
  rw [if_neg c4] at H
  exact absurd H (by simp)
end Go.Proofs.Ytfbkgfffalppmaa.Wf
end
section
namespace Go.Proofs.Ytfbkgfffalppmaa.Wf
open Go.RowKit Go.Proofs.YtfbkgfffalppmaaW.PrintWords Go.Proofs.YtfbkgfffalppmaaW.PrintLast Go.Proofs.YtfbkgfffalppmaaW.PrintMore
attribute [local go_sem] max2_int min2_int max_two min_two max_three min_three max_four min_four   -- for this text's walks alone
set_option linter.unusedVariables false
set_option linter.unusedSimpArgs false
attribute [local go_sem] run_add64_any
def waterfall_Room.f (k : Nat) (l0 : List (S35)) : Option (Int × Int) := (waterfall_Check.f k l0).bind fun t493 => (if t493 = 0 then ((waterfall_parts.f k l0).bind fun t494 => ((waterfall_room.f k t494).bind fun bt497 => (some (bt497.1, bt497.2)))) else (some (0, t493)))
set_option maxHeartbeats 8000000 in
set_option maxRecDepth 100000 in
theorem waterfall_Room.calls (k : Nat) (A0 : Option Addr) (c0 : Nat) (l0 : List (S35)) (r1 : Int) (r2 : Int) (w : World) (hr0 : Kd.C k35 w A0 l0.length l0) (hc0 : l0.length ≤ c0) (h : waterfall_Room.f k l0 = some (r1, r2)) :
  Calls Try.prog 19 #[.slice A0 l0.length c0] w fun e w' => e = .returned (.tuple #[.int .i64 r1, .int .i64 r2]) ∧ Below w.heap.size w w' := by
 have HR0 := A_ hr0
 have HC0 := A_ hc0
 clear hr0 hc0
 have HB := A_ (Below.refl w.heap.size w)
 have H : ((waterfall_Check.f k l0).bind fun t493 => (if t493 = 0 then ((waterfall_parts.f k l0).bind fun t494 => ((waterfall_room.f k t494).bind fun bt497 => (some (bt497.1, bt497.2)))) else (some (0, t493)))) = some (r1, r2) := h
 clear h
 replace H := os_ H
 obtain ⟨t493, A20, H⟩ := H
 replace H : (if t493 = 0 then ((waterfall_parts.f k l0).bind fun t494 => ((waterfall_room.f k t494).bind fun bt497 => (some (bt497.1, bt497.2)))) else (some (0, t493))) = some (r1, r2) := H
 have A2 := A_ A20
 clear A20
 by_cases c3 : t493 = 0
 ·
  rw [if_pos c3] at H
  have c3b0 : (t493 == 0) = true := q1_ c3
  have c3b1 : (t493 != 0) = false := q3_ c3
  clear c3
  replace H := os_ H
  obtain ⟨t494, A40, H⟩ := H
  replace H : ((waterfall_room.f k t494).bind fun bt497 => (some (bt497.1, bt497.2))) = some (r1, r2) := H
  have A4 := A_ A40
  clear A40
  replace H := os_ H
  obtain ⟨⟨t497, t498⟩, A50, H⟩ := H
  replace H : (some (t497, t498)) = some (r1, r2) := H
  have A5 := A_ A50
  clear A50
  simp only [Option.some.injEq, Prod.mk.injEq] at H
  obtain ⟨rfl, rfl⟩ := H
  go_enter Try.func19, Try.ntmps19
  go_wp2_with (first | ((with_reducible refine gate_callee (f := 21) rfl ?_); refine goesL_ (some 6) rfl rfl Try.func21 (by kernel_rfl) rfl #[.slice A0 l0.length c0] rfl (by (try simp only [List.map_toArray, List.map_cons, List.map_nil]); first | done | rfl | (simp only [List.length_drop, List.length_take]; rfl)) ?_; (with_reducible refine (waterfall_Check.calls k _ _ l0 t493 _ ?side1 ?side2 A2.out).mono ?_); (case side1 => repeat (first | exact HR0.out | (with_reducible refine ca_ ?_ _) | (with_reducible refine cn_ ?_ _) | (with_reducible refine cd_ ?_))); (case side2 => exact HC0.out); rintro e w6 ⟨rfl, hb⟩; refine ⟨_, rfl, ?_⟩; have n0_ := A_ (bs_ bw_ hb); clear HB; have HB := n0_; clear n0_; (try clear hb); (try clear hb2); (try clear hk); (try clear hi)) | ((with_reducible refine gate_callee (f := 43) rfl ?_); refine goesL_ (some 11) rfl rfl Try.func43 (by kernel_rfl) rfl #[.slice A0 l0.length c0] rfl (by (try simp only [List.map_toArray, List.map_cons, List.map_nil]); first | done | rfl | (simp only [List.length_drop, List.length_take]; rfl)) ?_; (with_reducible refine (waterfall_parts.calls k _ _ l0 t494 _ ?side1 ?side2 A4.out).mono ?_); (case side1 => repeat (first | exact (cb_ HR0.out HB.out) | (with_reducible refine ca_ ?_ _) | (with_reducible refine cn_ ?_ _) | (with_reducible refine cd_ ?_))); (case side2 => exact HC0.out); rintro e w7 ⟨v495, rfl, ho0, hb⟩; refine ⟨_, rfl, ?_⟩; have n0_ := A_ (Kd.R_lower ho0 (bz_ bw_)); have n1_ := A_ (bs_ bw_ hb); clear HB; have HO496 := n0_; have HB := n1_; clear n0_ n1_; (try clear hb); (try clear hb2); (try clear hk); (try clear hi); (try clear ho0); obtain ⟨Ao8, co8, eo8⟩ := Kd.R_slice HO496.out; subst eo8) | ((with_reducible refine gate_callee (f := 33) rfl ?_); refine goesL_ (some 12) rfl rfl Try.func33 (by kernel_rfl) rfl #[.slice Ao8 t494.length co8] rfl (by (try simp only [List.map_toArray, List.map_cons, List.map_nil]); first | done | rfl | (simp only [List.length_drop, List.length_take]; rfl)) ?_; (with_reducible refine (waterfall_room.calls k _ _ t494 t497 t498 _ ?side1 ?side2 A5.out).mono ?_); (case side1 => repeat (first | exact (Kd.R_reads' HO496.out).2.2 | (with_reducible refine ca_ ?_ _) | (with_reducible refine cn_ ?_ _) | (with_reducible refine cd_ ?_))); (case side2 => exact (Kd.R_reads' HO496.out).2.1); rintro e w9 ⟨rfl, hb⟩; refine ⟨_, rfl, ?_⟩; have n0_ := A_ (Kd.R_below (by (with_reducible repeat (first | apply Kd.R_alloc | apply Kd.R_drewN | apply Kd.R_drew)); exact HO496.out) hb); have n1_ := A_ (bs_ bw_ hb); clear HO496; clear HB; have HO496 := n0_; have HB := n1_; clear n0_ n1_; (try clear hb); (try clear hb2); (try clear hk); (try clear hi)))
  go_ret2
  exact ⟨by first | rfl | (simp [errW_none, errW_some] <;> rfl) | (simp [*, errW_none, errW_some] <;> rfl), bw_⟩
 ·
  rw [if_neg c3] at H
  have c3b0 : (t493 == 0) = false := q4_ c3
  have c3b1 : (t493 != 0) = true := q2_ c3
  simp only [Option.some.injEq, Prod.mk.injEq] at H
  obtain ⟨rfl, rfl⟩ := H
  go_enter Try.func19, Try.ntmps19
  go_wp2_with (first | ((with_reducible refine gate_callee (f := 21) rfl ?_); refine goesL_ (some 6) rfl rfl Try.func21 (by kernel_rfl) rfl #[.slice A0 l0.length c0] rfl (by (try simp only [List.map_toArray, List.map_cons, List.map_nil]); first | done | rfl | (simp only [List.length_drop, List.length_take]; rfl)) ?_; (with_reducible refine (waterfall_Check.calls k _ _ l0 t493 _ ?side1 ?side2 A2.out).mono ?_); (case side1 => repeat (first | exact HR0.out | (with_reducible refine ca_ ?_ _) | (with_reducible refine cn_ ?_ _) | (with_reducible refine cd_ ?_))); (case side2 => exact HC0.out); rintro e w10 ⟨rfl, hb⟩; refine ⟨_, rfl, ?_⟩; have n0_ := A_ (bs_ bw_ hb); clear HB; have HB := n0_; clear n0_; (try clear hb); (try clear hb2); (try clear hk); (try clear hi)))
  go_ret2
  exact ⟨by first | rfl | (simp [errW_none, errW_some] <;> rfl) | (simp [*, errW_none, errW_some] <;> rfl), bw_⟩
end Go.Proofs.Ytfbkgfffalppmaa.Wf
end
