/- The walk of the law FrameBent. -/
import Derived.Test.YtebdjhgboeadgaaJr
import Derived.Test.YtebdjhgboeadgaaFr13
namespace Go.Proofs.Ytebdjhgboeadgaa.Bent
set_option linter.unusedSimpArgs false
set_option linter.unusedVariables false
open Go Go.RowKit Go.Proofs.Ytebdjhgboeadgaa.Fr Go.Proofs.YtebdjhgboeadgaaW.PrintWords Go.Proofs.YtebdjhgboeadgaaW.PrintLast Go.Proofs.YtebdjhgboeadgaaW.PrintMore
attribute [local go_sem] max2_int min2_int max_two min_two max_three min_three max_four min_four
set_option maxRecDepth 100000 in
set_option maxHeartbeats 8000000 in
theorem walk3 (A : Option Addr) (c : Nat) (l : List Int) (a1 a2 : Int) (w : World) (hC : Jf.C5 w A l) (hc : l.length ≤ c) (hb : Jp.bytes l) (h2 : Jp.byte a2) (hl9 : l.length ≤ 140737488351232) : Calls Try.prog 13 #[.slice A l.length c, .int .i64 a1, .int .u8 a2] w fun e w' => e = .returned (.bool true) ∧ Below w.heap.size w w' := by
  obtain ⟨m, t, hm1, hm2, hmt, hlt, hcase⟩ : ∃ (m : Nat) (t : List Int), m ≤ l.length ∧ m ≤ 500 ∧ t = l.take m ∧ t.length = m ∧ ((l.length ≤ 500 ∧ m = l.length) ∨ (500 < l.length ∧ m = 500)) := by
    by_cases h : l.length ≤ 500
    · exact ⟨l.length, l.take l.length, Nat.le_refl _, h, rfl, by rw [List.length_take]; omega, Or.inl ⟨h, rfl⟩⟩
    · exact ⟨500, l.take 500, by omega, Nat.le_refl _, rfl, by rw [List.length_take]; omega, Or.inr ⟨by omega, rfl⟩⟩
  have htb : Jp.bytes t := fun x hx => by rw [hmt] at hx; exact hb x (List.mem_of_mem_take hx)
  have hCt : Jf.C5 w A t := by rw [hmt]; exact Kd.C_take hC hm1
  have hcut := Jf.cut_to A c l m hm1 hc
  clear hmt
  have hmk := Jr.iMake t htb (by omega)
  rw [if_neg (by omega)] at hmk
  have hfl := Jp.frameOf_length t
  have hfb := Jp.frameOf_bytes t htb
  obtain ⟨i, hi, hiv⟩ : ∃ i : Nat, i < m + 8 ∧ wrap64 ((IntKind.u64.wrap a1).tmod ((m : Int) + 8)) = (i : Int) := by
    have h : 0 ≤ IntKind.u64.wrap a1 := by rw [IntKind.wrap_u64]; omega
    generalize IntKind.u64.wrap a1 = u at h
    have h1 := Int.emod_nonneg u (by omega : ((m : Int) + 8) ≠ 0)
    have h2 := Int.emod_lt_of_pos u (by omega : (0 : Int) < (m : Int) + 8)
    rw [Int.tmod_eq_emod_of_nonneg h]
    generalize u % ((m : Int) + 8) = q at h1 h2
    refine ⟨q.toNat, by omega, ?_⟩
    unfold wrap64
    omega
  have hx : Jp.byte ((Jp.frameOf t).getD i 0) := by
    rw [List.getD_eq_getElem?_getD, List.getElem?_eq_getElem (by omega)]
    exact hfb _ (List.getElem_mem _)
  have hb1 := Jr.iBend (Jp.frameOf t) i a2 hfb h2 (by omega) (by omega)
  have hgb := Jp.set_bytes (Jp.frameOf t) i _ hfb (Jr.turned_byte hx h2)
  have hgl : ((Jp.frameOf t).set i (Jr.turned ((Jp.frameOf t).getD i 0) a2)).length = m + 8 := by rw [List.length_set]; omega
  have ho1 := Jr.iOpen _ hgb (by omega)
  have hb2 := Jr.iBend _ i a2 hgb h2 (by omega) (by omega)
  have hback : ((Jp.frameOf t).set i (Jr.turned ((Jp.frameOf t).getD i 0) a2)).set i (Jr.turned (((Jp.frameOf t).set i (Jr.turned ((Jp.frameOf t).getD i 0) a2)).getD i 0) a2) = Jp.frameOf t := by
    have e1 : ((Jp.frameOf t).set i (Jr.turned ((Jp.frameOf t).getD i 0) a2)).getD i 0 = Jr.turned ((Jp.frameOf t).getD i 0) a2 := by
      rw [List.getD_eq_getElem?_getD, List.getElem?_set, if_pos rfl, if_pos (by omega)]
      rfl
    rw [e1, Jr.turned_back hx h2, List.set_set]
    have e2 : (Jp.frameOf t).getD i 0 = (Jp.frameOf t)[i]'(by omega) := by rw [List.getD_eq_getElem?_getD, List.getElem?_eq_getElem (by omega)]; rfl
    rw [e2, List.set_getElem_self]
  rw [hback] at hb2
  have ho2 := Jr.iOpen _ hfb (by omega)
  rw [Jr.openL_frame t htb (by omega), Jp.open_frame t htb (by omega)] at ho2
  have hopen : Jp.openE ((Jp.frameOf t).set i (Jr.turned ((Jp.frameOf t).getD i 0) a2)) = 0 ↔ a2 = 0 := by
    constructor
    · intro h
      by_cases q : a2 = 0
      · exact q
      · exact absurd h (Jp.open_turned t htb (by omega) i (by omega) _ (Jr.turned_byte hx h2) (Jr.turned_ne hx h2 q))
    · intro h
      have e2 : (Jp.frameOf t).getD i 0 = (Jp.frameOf t)[i]'(by omega) := by rw [List.getD_eq_getElem?_getD, List.getElem?_eq_getElem (by omega)]; rfl
      rw [h, Jr.turned_zero hx, e2, List.set_getElem_self]
      exact Jp.open_frame t htb (by omega)
  have hb3 := Jr.iBend_out (Jp.frameOf t) ((m : Int) + 8) a2 (by omega) (Or.inr (by omega))
  have hb4 := Jr.iBend_out (Jp.frameOf t) (-1) a2 (by omega) (Or.inl (by omega))
  have hs1 := Jr.same_k t 1000 (by omega) (by omega)
  have hs2 := Jr.same_k (Jp.frameOf t) 1000 (by omega) (by omega)
  generalize Jp.frameOf t = f at *
  generalize f.set i (Jr.turned (f.getD i 0) a2) = g at *
  generalize Jr.openL g = gl at *
  generalize Jp.openE g = ge at *
  have hfl2 : f.length = m + 8 := by omega
  clear hback hx hgb hfb htb hb hfl
  have HC := Aside0.mk hC
  have HCT := Aside0.mk hCt
  have HMK := Aside0.mk hmk
  have HB1 := Aside0.mk hb1
  have HO1 := Aside0.mk ho1
  have HB2 := Aside0.mk hb2
  have HO2 := Aside0.mk ho2
  have HB3 := Aside0.mk hb3
  have HB4 := Aside0.mk hb4
  have HS1 := Aside0.mk hs1
  have HS2 := Aside0.mk hs2
  have HLT := Aside0.mk hlt
  have HFL := Aside0.mk hfl2
  have HGL := Aside0.mk hgl
  clear hC hCt hmk hb1 ho1 hb2 ho2 hb3 hb4 hs1 hs2
  have hwr : IntKind.u64.wrap ((m : Int) + 8) = (m : Int) + 8 := by rw [IntKind.wrap_u64]; omega
  have hne0 : ((m : Int) + 8 == 0) = false := beq_eq_false_iff_ne.mpr (by omega)
  have hcutm : ∀ (v : Int), v = (m : Int) → ∀ W : World, (Instr.slice 44 (.slice A l.length c) none (some (.int .i64 v)) none).run Try.prog W = .ok (.slice A m c) W := fun v hv => by rw [hv]; exact hcut
  have htail : ∀ K : Unit, True := fun _ => trivial
  have hcutv : ∀ W : World, (Instr.slice 44 (.slice A l.length c) none (some (.int .i64 (if 500 < (l.length : Int) then 500 else (l.length : Int)))) none).run Try.prog W = .ok (.slice A m c) W := hcutm _ (by split <;> omega)
  have HQ := Aside0.mk hcase
  have hcutA : l.length ≤ 500 → ∀ W : World, (Instr.slice 44 (.slice A l.length c) none (some (.int .i64 (l.length : Int))) none).run Try.prog W = .ok (.slice A m c) W := fun h => hcutm _ (by omega)
  have hcutB : 500 < l.length → ∀ W : World, (Instr.slice 44 (.slice A l.length c) none (some (.int .i64 500)) none).run Try.prog W = .ok (.slice A m c) W := fun h => hcutm _ (by omega)
  have hbe : ((ge == 0) == (a2 == 0)) = true := by
    by_cases q : a2 = 0
    · rw [hopen.2 q, q]
      rfl
    · have q2 : ¬ ge = 0 := fun e => q (hopen.1 e)
      rw [beq_eq_false_iff_ne.mpr q, beq_eq_false_iff_ne.mpr q2]
      rfl
  clear hopen hcase hlt hfl2 hgl hcut hcutm hcutv htail
  go_enter Try.func13, Try.ntmps13
  by_cases hq : l.length ≤ 500
  · replace hcutA := hcutA hq
    clear hcutB
    go_wp2_with fail
    refine (Jr.make_c HLT.out.symm HCT.out (by rw [HLT.out]; omega) HMK.out).mono ?_
    rintro e w1 ⟨A1, c1, rfl, hc1, hC1, hbb⟩
    rw [HFL.out]
    have CT_1 := Aside0.mk (Kd.C_below HCT.out hbb)
    have CF_1 := Aside0.mk hC1
    have HB_1 := Aside0.mk hbb
    clear hbb hC1
    clear HCT
    rw [HFL.out] at hc1
    go_wp2_with fail
    refine (Jr.bend_c HFL.out.symm CF_1.out (by rw [HFL.out]; exact hc1) HB1.out).mono ?_
    rintro e w2 ⟨A2, c2, rfl, hc2, hC2, hbb⟩
    rw [HGL.out]
    have CT_2 := Aside0.mk (Kd.C_below CT_1.out hbb)
    have CF_2 := Aside0.mk (Kd.C_below CF_1.out hbb)
    have CG_2 := Aside0.mk hC2
    have HB_2 := Aside0.mk (HB_1.out.trans (hbb.mono HB_1.out.size))
    clear hbb hC2
    clear CT_1
    clear CF_1
    rw [HGL.out] at hc2
    go_wp2_with fail
    refine (Jr.open_c HGL.out.symm CG_2.out (by rw [HGL.out]; exact hc2) HO1.out).mono ?_
    rintro e w3 ⟨A3, c3, rfl, hc3, hC3, hbb⟩
    have CT_3 := Aside0.mk (Kd.C_below CT_2.out hbb)
    have CF_3 := Aside0.mk (Kd.C_below CF_2.out hbb)
    have CG_3 := Aside0.mk (Kd.C_below CG_2.out hbb)
    have HB_3 := Aside0.mk (HB_2.out.trans (hbb.mono HB_2.out.size))
    clear hbb
    clear CT_2
    clear CF_2
    clear CG_2
    clear hC3 hc3
    go_wp2_with fail
    refine (Jr.bend_c HGL.out.symm CG_3.out (by rw [HGL.out]; exact hc2) HB2.out).mono ?_
    rintro e w4 ⟨A4, c4, rfl, hc4, hC4, hbb⟩
    rw [HFL.out]
    have CT_4 := Aside0.mk (Kd.C_below CT_3.out hbb)
    have CF_4 := Aside0.mk (Kd.C_below CF_3.out hbb)
    have CK_4 := Aside0.mk hC4
    have HB_4 := Aside0.mk (HB_3.out.trans (hbb.mono HB_3.out.size))
    clear hbb hC4
    clear CT_3
    clear CF_3
    clear CG_3
    rw [HFL.out] at hc4
    go_wp2_with fail
    refine (Jr.open_c HFL.out.symm CK_4.out (by rw [HFL.out]; exact hc4) HO2.out).mono ?_
    rintro e w5 ⟨A5, c5, rfl, hc5, hC5, hbb⟩
    rw [HLT.out]
    have CT_5 := Aside0.mk (Kd.C_below CT_4.out hbb)
    have CF_5 := Aside0.mk (Kd.C_below CF_4.out hbb)
    have CU_5 := Aside0.mk hC5
    have HB_5 := Aside0.mk (HB_4.out.trans (hbb.mono HB_4.out.size))
    clear hbb hC5
    clear CT_4
    clear CF_4
    clear CK_4
    rw [HLT.out] at hc5
    go_wp2_with fail
    refine (Jr.bend_c HFL.out.symm CF_5.out (by rw [HFL.out]; exact hc1) HB3.out).mono ?_
    rintro e w6 ⟨A6, c6, rfl, hc6, hC6, hbb⟩
    rw [HFL.out]
    have CT_6 := Aside0.mk (Kd.C_below CT_5.out hbb)
    have CF_6 := Aside0.mk (Kd.C_below CF_5.out hbb)
    have CU_6 := Aside0.mk (Kd.C_below CU_5.out hbb)
    have CV_6 := Aside0.mk hC6
    have HB_6 := Aside0.mk (HB_5.out.trans (hbb.mono HB_5.out.size))
    clear hbb hC6
    clear CT_5
    clear CF_5
    clear CU_5
    rw [HFL.out] at hc6
    go_wp2_with fail
    refine (clevislaw06_known.calls true _ rfl).mono ?_
    rintro e w7 ⟨rfl, hbb⟩
    have CT_7 := Aside0.mk (Kd.C_below CT_6.out hbb)
    have CF_7 := Aside0.mk (Kd.C_below CF_6.out hbb)
    have CU_7 := Aside0.mk (Kd.C_below CU_6.out hbb)
    have CV_7 := Aside0.mk (Kd.C_below CV_6.out hbb)
    have HB_7 := Aside0.mk (HB_6.out.trans (hbb.mono HB_6.out.size))
    clear hbb
    clear CT_6
    clear CF_6
    clear CU_6
    clear CV_6
    go_wp2_with fail
    refine (Jr.same_c HLT.out.symm HLT.out.symm CU_7.out (by rw [HLT.out]; exact hc5) CT_7.out (by rw [HLT.out]; omega) HS1.out).mono ?_
    rintro e w8 ⟨rfl, hbb⟩
    have CF_8 := Aside0.mk (Kd.C_below CF_7.out hbb)
    have CV_8 := Aside0.mk (Kd.C_below CV_7.out hbb)
    have HB_8 := Aside0.mk (HB_7.out.trans (hbb.mono HB_7.out.size))
    clear hbb
    clear CT_7
    clear CF_7
    clear CU_7
    clear CV_7
    go_wp2_with fail
    refine (Jr.same_c HFL.out.symm HFL.out.symm CV_8.out (by rw [HFL.out]; exact hc6) CF_8.out (by rw [HFL.out]; exact hc1) HS2.out).mono ?_
    rintro e w9 ⟨rfl, hbb⟩
    have CF_9 := Aside0.mk (Kd.C_below CF_8.out hbb)
    have HB_9 := Aside0.mk (HB_8.out.trans (hbb.mono HB_8.out.size))
    clear hbb
    clear CF_8
    clear CV_8
    go_wp2_with fail
    refine (Jr.bend_c HFL.out.symm CF_9.out (by rw [HFL.out]; exact hc1) HB4.out).mono ?_
    rintro e w10 ⟨A7, c7, rfl, hc7, hC7, hbb⟩
    rw [HFL.out]
    have CF_10 := Aside0.mk (Kd.C_below CF_9.out hbb)
    have CW_10 := Aside0.mk hC7
    have HB_10 := Aside0.mk (HB_9.out.trans (hbb.mono HB_9.out.size))
    clear hbb hC7
    clear CF_9
    rw [HFL.out] at hc7
    go_wp2_with fail
    refine (Jr.same_c HFL.out.symm HFL.out.symm CW_10.out (by rw [HFL.out]; exact hc7) CF_10.out (by rw [HFL.out]; exact hc1) HS2.out).mono ?_
    rintro e w11 ⟨rfl, hbb⟩
    have HB_11 := Aside0.mk (HB_10.out.trans (hbb.mono HB_10.out.size))
    clear hbb
    clear CF_10
    clear CW_10
    go_wp2
    go_ret
    exact ⟨rfl, HB_11.out⟩
  · replace hcutB := hcutB (by omega)
    clear hcutA
    go_wp2_with fail
    refine (Jr.make_c HLT.out.symm HCT.out (by rw [HLT.out]; omega) HMK.out).mono ?_
    rintro e w1 ⟨A1, c1, rfl, hc1, hC1, hbb⟩
    rw [HFL.out]
    have CT_1 := Aside0.mk (Kd.C_below HCT.out hbb)
    have CF_1 := Aside0.mk hC1
    have HB_1 := Aside0.mk hbb
    clear hbb hC1
    clear HCT
    rw [HFL.out] at hc1
    go_wp2_with fail
    refine (Jr.bend_c HFL.out.symm CF_1.out (by rw [HFL.out]; exact hc1) HB1.out).mono ?_
    rintro e w2 ⟨A2, c2, rfl, hc2, hC2, hbb⟩
    rw [HGL.out]
    have CT_2 := Aside0.mk (Kd.C_below CT_1.out hbb)
    have CF_2 := Aside0.mk (Kd.C_below CF_1.out hbb)
    have CG_2 := Aside0.mk hC2
    have HB_2 := Aside0.mk (HB_1.out.trans (hbb.mono HB_1.out.size))
    clear hbb hC2
    clear CT_1
    clear CF_1
    rw [HGL.out] at hc2
    go_wp2_with fail
    refine (Jr.open_c HGL.out.symm CG_2.out (by rw [HGL.out]; exact hc2) HO1.out).mono ?_
    rintro e w3 ⟨A3, c3, rfl, hc3, hC3, hbb⟩
    have CT_3 := Aside0.mk (Kd.C_below CT_2.out hbb)
    have CF_3 := Aside0.mk (Kd.C_below CF_2.out hbb)
    have CG_3 := Aside0.mk (Kd.C_below CG_2.out hbb)
    have HB_3 := Aside0.mk (HB_2.out.trans (hbb.mono HB_2.out.size))
    clear hbb
    clear CT_2
    clear CF_2
    clear CG_2
    clear hC3 hc3
    go_wp2_with fail
    refine (Jr.bend_c HGL.out.symm CG_3.out (by rw [HGL.out]; exact hc2) HB2.out).mono ?_
    rintro e w4 ⟨A4, c4, rfl, hc4, hC4, hbb⟩
    rw [HFL.out]
    have CT_4 := Aside0.mk (Kd.C_below CT_3.out hbb)
    have CF_4 := Aside0.mk (Kd.C_below CF_3.out hbb)
    have CK_4 := Aside0.mk hC4
    have HB_4 := Aside0.mk (HB_3.out.trans (hbb.mono HB_3.out.size))
    clear hbb hC4
    clear CT_3
    clear CF_3
    clear CG_3
    rw [HFL.out] at hc4
    go_wp2_with fail
    refine (Jr.open_c HFL.out.symm CK_4.out (by rw [HFL.out]; exact hc4) HO2.out).mono ?_
    rintro e w5 ⟨A5, c5, rfl, hc5, hC5, hbb⟩
    rw [HLT.out]
    have CT_5 := Aside0.mk (Kd.C_below CT_4.out hbb)
    have CF_5 := Aside0.mk (Kd.C_below CF_4.out hbb)
    have CU_5 := Aside0.mk hC5
    have HB_5 := Aside0.mk (HB_4.out.trans (hbb.mono HB_4.out.size))
    clear hbb hC5
    clear CT_4
    clear CF_4
    clear CK_4
    rw [HLT.out] at hc5
    go_wp2_with fail
    refine (Jr.bend_c HFL.out.symm CF_5.out (by rw [HFL.out]; exact hc1) HB3.out).mono ?_
    rintro e w6 ⟨A6, c6, rfl, hc6, hC6, hbb⟩
    rw [HFL.out]
    have CT_6 := Aside0.mk (Kd.C_below CT_5.out hbb)
    have CF_6 := Aside0.mk (Kd.C_below CF_5.out hbb)
    have CU_6 := Aside0.mk (Kd.C_below CU_5.out hbb)
    have CV_6 := Aside0.mk hC6
    have HB_6 := Aside0.mk (HB_5.out.trans (hbb.mono HB_5.out.size))
    clear hbb hC6
    clear CT_5
    clear CF_5
    clear CU_5
    rw [HFL.out] at hc6
    go_wp2_with fail
    refine (clevislaw06_known.calls true _ rfl).mono ?_
    rintro e w7 ⟨rfl, hbb⟩
    have CT_7 := Aside0.mk (Kd.C_below CT_6.out hbb)
    have CF_7 := Aside0.mk (Kd.C_below CF_6.out hbb)
    have CU_7 := Aside0.mk (Kd.C_below CU_6.out hbb)
    have CV_7 := Aside0.mk (Kd.C_below CV_6.out hbb)
    have HB_7 := Aside0.mk (HB_6.out.trans (hbb.mono HB_6.out.size))
    clear hbb
    clear CT_6
    clear CF_6
    clear CU_6
    clear CV_6
    go_wp2_with fail
    refine (Jr.same_c HLT.out.symm HLT.out.symm CU_7.out (by rw [HLT.out]; exact hc5) CT_7.out (by rw [HLT.out]; omega) HS1.out).mono ?_
    rintro e w8 ⟨rfl, hbb⟩
    have CF_8 := Aside0.mk (Kd.C_below CF_7.out hbb)
    have CV_8 := Aside0.mk (Kd.C_below CV_7.out hbb)
    have HB_8 := Aside0.mk (HB_7.out.trans (hbb.mono HB_7.out.size))
    clear hbb
    clear CT_7
    clear CF_7
    clear CU_7
    clear CV_7
    go_wp2_with fail
    refine (Jr.same_c HFL.out.symm HFL.out.symm CV_8.out (by rw [HFL.out]; exact hc6) CF_8.out (by rw [HFL.out]; exact hc1) HS2.out).mono ?_
    rintro e w9 ⟨rfl, hbb⟩
    have CF_9 := Aside0.mk (Kd.C_below CF_8.out hbb)
    have HB_9 := Aside0.mk (HB_8.out.trans (hbb.mono HB_8.out.size))
    clear hbb
    clear CF_8
    clear CV_8
    go_wp2_with fail
    refine (Jr.bend_c HFL.out.symm CF_9.out (by rw [HFL.out]; exact hc1) HB4.out).mono ?_
    rintro e w10 ⟨A7, c7, rfl, hc7, hC7, hbb⟩
    rw [HFL.out]
    have CF_10 := Aside0.mk (Kd.C_below CF_9.out hbb)
    have CW_10 := Aside0.mk hC7
    have HB_10 := Aside0.mk (HB_9.out.trans (hbb.mono HB_9.out.size))
    clear hbb hC7
    clear CF_9
    rw [HFL.out] at hc7
    go_wp2_with fail
    refine (Jr.same_c HFL.out.symm HFL.out.symm CW_10.out (by rw [HFL.out]; exact hc7) CF_10.out (by rw [HFL.out]; exact hc1) HS2.out).mono ?_
    rintro e w11 ⟨rfl, hbb⟩
    have HB_11 := Aside0.mk (HB_10.out.trans (hbb.mono HB_10.out.size))
    clear hbb
    clear CF_10
    clear CW_10
    go_wp2
    go_ret
    exact ⟨rfl, HB_11.out⟩
theorem walk4 (a0 : Option Addr) (len0 cap0 : Nat) (z0 : List Int) (a1 : Int) (a2 : Int) (w : World) (w0 : (a0 = none ∧ len0 = 0 ∧ cap0 = 0 ∧ z0 = []) ∨ ∃ x, a0 = some x ∧ len0 ≤ cap0 ∧ cap0 ≤ maxLen ∧ z0.length = cap0 ∧ (∀ i, i < z0.length → w.cell? (x.add i) = some (.int .u8 (z0.getD i 0))) ∧ ∀ n ∈ z0, (Lit.int .u8 n).wf = true) (y0 : len0 * 1 ≤ 140737488351232) (w1 : (Lit.int .i64 a1).wf = true) (w2 : (Lit.int .u8 a2).wf = true) :
    Calls Try.prog 13 #[.slice a0 len0 cap0, .int .i64 a1, .int .u8 a2] w fun e w' => e = .returned (.bool true) ∧ Below w.heap.size w w' := by
  have hw : ∀ n : Int, (Lit.int .u8 n).wf = true → 0 ≤ n ∧ n ≤ 255 := fun n h => by
    have e0 : IntKind.u8.min = 0 := rfl
    have e1 : IntKind.u8.max = 255 := rfl
    simp [Lit.wf] at h
    omega
  obtain ⟨l0, rfl, hr0, hm0, hw0, hc0⟩ := ReadsInt.ofRowC w0
  exact walk3 a0 cap0 l0 a1 a2 w (Kd.C_of_reads (d := (0 : Int)) (h1 := fun _ => rfl) hr0) hc0 (fun x hx => hw x (hw0 x hx)) (hw a2 w2) (by omega)
end Go.Proofs.Ytebdjhgboeadgaa.Bent
