/- The walk of the law FrameOpens. -/
import Derived.Test.YtebdjhgboeadgaaJs
import Derived.Test.YtebdjhgboeadgaaFr13
namespace Go.Proofs.Ytebdjhgboeadgaa.Opens
set_option linter.unusedSimpArgs false
set_option linter.unusedVariables false
open Go Go.RowKit Go.Proofs.Ytebdjhgboeadgaa.Fr Go.Proofs.YtebdjhgboeadgaaW.PrintWords Go.Proofs.YtebdjhgboeadgaaW.PrintLast Go.Proofs.YtebdjhgboeadgaaW.PrintMore
attribute [local go_sem] max2_int min2_int max_two min_two max_three min_three max_four min_four
theorem next_c {A : Option Addr} {c n : Nat} {l : List Int} {w : World} (hn : n = l.length) (hC : Jf.C5 w A l) (hc : l.length ≤ c) {r1 : List Int} {r2 r3 : Int} (h : frame_Next.f l = some (r1, r2, r3)) : Calls Try.prog 47 #[.slice A n c] w fun e w' => ∃ A' c', e = .returned (.tuple #[.slice A' r1.length c', .int .i64 r2, .int .i64 r3]) ∧ r1.length ≤ c' ∧ Jf.C5 w' A' r1 ∧ Below w.heap.size w w' := by
  subst hn
  refine (frame_Next.calls A c l r1 r2 r3 w hC hc h).mono ?_
  rintro e w' ⟨v, rfl, hR, hb⟩
  obtain ⟨A', c', rfl, hc', hC'⟩ := Kd.R_reads hR
  exact ⟨A', c', rfl, hc', hC', hb⟩
theorem ref_c {A : Option Addr} {c n : Nat} {l : List Int} {w : World} (hn : n = l.length) (hC : Jf.C5 w A l) (hc : l.length ≤ c) (hb : Jp.bytes l) (hl : l.length ≤ 1073741824) {r1 : List Int} {r2 r3 : Int} (h : Jp.nextOf l = (r1, r2, r3)) : Calls Try.prog 48 #[.slice A n c] w fun e w' => ∃ A' c', e = .returned (.tuple #[.slice A' r1.length c', .int .i64 r2, .int .i64 r3]) ∧ r1.length ≤ c' ∧ Jf.C5 w' A' r1 ∧ Below w.heap.size w w' := by
  subst hn
  exact Js.next_calls A c l r1 r2 r3 w hC hc hb hl h
set_option maxRecDepth 100000 in
set_option maxHeartbeats 8000000 in
theorem walk3 (A : Option Addr) (c : Nat) (l : List Int) (w : World) (hc : l.length ≤ c) (hC : Jf.C5 w A l) (hb : Jp.bytes l) (hl9 : l.length * 1 ≤ 140737488351232) : Calls Try.prog 11 #[.slice A l.length c] w fun e w' => e = .returned (.bool true) ∧ Below w.heap.size w w' := by
  obtain ⟨m, t, hm1, hm2, hmt, hlt, hcase⟩ : ∃ (m : Nat) (t : List Int), m ≤ l.length ∧ m ≤ 600 ∧ t = l.take m ∧ t.length = m ∧ ((l.length ≤ 600 ∧ m = l.length) ∨ (600 < l.length ∧ m = 600)) := by
    by_cases h : l.length ≤ 600
    · exact ⟨l.length, l.take l.length, Nat.le_refl _, h, rfl, by rw [List.length_take]; omega, Or.inl ⟨h, rfl⟩⟩
    · exact ⟨600, l.take 600, by omega, Nat.le_refl _, rfl, by rw [List.length_take]; omega, Or.inr ⟨by omega, rfl⟩⟩
  have htb : Jp.bytes t := fun x hx => by rw [hmt] at hx; exact hb x (List.mem_of_mem_take hx)
  have hCt : Jf.C5 w A t := by rw [hmt]; exact Kd.C_take hC hm1
  have hcut := Jf.cut_to A c l m hm1 hc
  clear hmt
  obtain ⟨r1, r2, r3, hr⟩ : ∃ r1 r2 r3, Jp.nextOf t = (r1, r2, r3) := ⟨_, _, _, rfl⟩
  have hrl : r1.length ≤ m := by
    have e : r1 = (Jp.nextOf t).1 := by rw [hr]
    rw [e]
    unfold Jp.nextOf
    split
    · simp
    · split
      · simp
      · split
        · simp
        · split
          · simp only [List.length_drop, List.length_take]; omega
          · simp
  have hnx := Jr.iNext t htb (by omega)
  have hop := Jr.iOpen t htb (by omega)
  rw [hr] at hnx
  have hol : Jr.openL t = if r3 = 0 then (if r2 < t.length then [] else r1) else [] := by unfold Jr.openL; rw [hr]
  have hoe : Jp.openE t = if r3 = 0 then (if r2 < t.length then 3 else 0) else r3 := by unfold Jp.openE; rw [hr]
  rw [hol, hoe, hlt] at hop
  have hs1 := Jr.same_k r1 1000 (by omega) (by omega)
  clear hol hoe hC hb
  have HLT := Aside0.mk hlt
  have HCT := Aside0.mk hCt
  have HNX := Aside0.mk hnx
  have HR := Aside0.mk hr
  have HS1 := Aside0.mk hs1
  have HTB := Aside0.mk htb
  have HOP := Aside0.mk hop
  have hcutm : ∀ (v : Int), v = (m : Int) → ∀ W : World, (Instr.slice 44 (.slice A l.length c) none (some (.int .i64 v)) none).run Try.prog W = .ok (.slice A m c) W := fun v hv => by rw [hv]; exact hcut
  have hcutA : l.length ≤ 600 → ∀ W : World, (Instr.slice 44 (.slice A l.length c) none (some (.int .i64 (l.length : Int))) none).run Try.prog W = .ok (.slice A m c) W := fun h => hcutm _ (by omega)
  have hcutB : 600 < l.length → ∀ W : World, (Instr.slice 44 (.slice A l.length c) none (some (.int .i64 600)) none).run Try.prog W = .ok (.slice A m c) W := fun h => hcutm _ (by omega)
  clear hcase hlt hcut hcutm hCt hnx hr hs1 htb hop
  go_enter Try.func11, Try.ntmps11
  by_cases hq : l.length ≤ 600
  · replace hcutA := hcutA hq
    clear hcutB
    go_wp2_with fail
    refine (next_c HLT.out.symm HCT.out (by rw [HLT.out]; omega) HNX.out).mono ?_
    rintro e w1 ⟨A1, c1, rfl, hc1, hC1, hbb⟩
    have CT_1 := Aside0.mk (Kd.C_below HCT.out hbb)
    have CX_1 := Aside0.mk hC1
    have HB_1 := Aside0.mk hbb
    clear hbb hC1
    clear HCT
    go_wp2_with fail
    refine (ref_c HLT.out.symm CT_1.out (by rw [HLT.out]; omega) HTB.out (by rw [HLT.out]; omega) HR.out).mono ?_
    rintro e w2 ⟨A2, c2, rfl, hc2, hC2, hbb⟩
    have CT_2 := Aside0.mk (Kd.C_below CT_1.out hbb)
    have CX_2 := Aside0.mk (Kd.C_below CX_1.out hbb)
    have CY_2 := Aside0.mk hC2
    have HB_2 := Aside0.mk (HB_1.out.trans (hbb.mono HB_1.out.size))
    clear hbb hC2
    clear CT_1
    clear CX_1
    go_wp2_with fail
    by_cases h3 : r3 = 0
    · by_cases h2 : r2 < (m : Int)
      · skip
        have hop2 := HOP.out
        rw [if_pos h3, if_pos h2, if_pos h3, if_pos h2] at hop2
        have HOP2 := Aside0.mk hop2
        clear hop2
        subst h3
        refine (Jr.open_c HLT.out.symm CT_2.out (by rw [HLT.out]; omega) HOP2.out).mono ?_
        rintro e w3 ⟨A3, c3, rfl, hc3, hC3, hbb⟩
        have CX_3 := Aside0.mk (Kd.C_below CX_2.out hbb)
        have CY_3 := Aside0.mk (Kd.C_below CY_2.out hbb)
        have CZ_3 := Aside0.mk hC3
        have HB_3 := Aside0.mk (HB_2.out.trans (hbb.mono HB_2.out.size))
        clear hbb hC3
        clear CT_2
        clear CX_2
        clear CY_2
        go_wp2_with fail
        refine (clevislaw06_known.calls true _ rfl).mono ?_
        rintro e w4 ⟨rfl, hbb⟩
        have CX_4 := Aside0.mk (Kd.C_below CX_3.out hbb)
        have CY_4 := Aside0.mk (Kd.C_below CY_3.out hbb)
        have CZ_4 := Aside0.mk (Kd.C_below CZ_3.out hbb)
        have HB_4 := Aside0.mk (HB_3.out.trans (hbb.mono HB_3.out.size))
        clear hbb
        clear CX_3
        clear CY_3
        clear CZ_3
        go_wp2_with fail
        refine (Jr.same_c rfl rfl CX_4.out hc1 CY_4.out hc2 HS1.out).mono ?_
        rintro e w5 ⟨rfl, hbb⟩
        have CX_5 := Aside0.mk (Kd.C_below CX_4.out hbb)
        have CY_5 := Aside0.mk (Kd.C_below CY_4.out hbb)
        have CZ_5 := Aside0.mk (Kd.C_below CZ_4.out hbb)
        have HB_5 := Aside0.mk (HB_4.out.trans (hbb.mono HB_4.out.size))
        clear hbb
        clear CX_4
        clear CY_4
        clear CZ_4
        go_wp2
        go_ret
        exact ⟨rfl, HB_5.out⟩
      · skip
        have hop2 := HOP.out
        rw [if_pos h3, if_neg h2, if_pos h3, if_neg h2] at hop2
        have HOP2 := Aside0.mk hop2
        clear hop2
        subst h3
        refine (Jr.open_c HLT.out.symm CT_2.out (by rw [HLT.out]; omega) HOP2.out).mono ?_
        rintro e w3 ⟨A3, c3, rfl, hc3, hC3, hbb⟩
        have CX_3 := Aside0.mk (Kd.C_below CX_2.out hbb)
        have CY_3 := Aside0.mk (Kd.C_below CY_2.out hbb)
        have CZ_3 := Aside0.mk hC3
        have HB_3 := Aside0.mk (HB_2.out.trans (hbb.mono HB_2.out.size))
        clear hbb hC3
        clear CT_2
        clear CX_2
        clear CY_2
        go_wp2_with fail
        refine (clevislaw06_known.calls true _ rfl).mono ?_
        rintro e w4 ⟨rfl, hbb⟩
        have CX_4 := Aside0.mk (Kd.C_below CX_3.out hbb)
        have CY_4 := Aside0.mk (Kd.C_below CY_3.out hbb)
        have CZ_4 := Aside0.mk (Kd.C_below CZ_3.out hbb)
        have HB_4 := Aside0.mk (HB_3.out.trans (hbb.mono HB_3.out.size))
        clear hbb
        clear CX_3
        clear CY_3
        clear CZ_3
        go_wp2_with fail
        refine (Jr.same_c rfl rfl CX_4.out hc1 CY_4.out hc2 HS1.out).mono ?_
        rintro e w5 ⟨rfl, hbb⟩
        have CX_5 := Aside0.mk (Kd.C_below CX_4.out hbb)
        have CY_5 := Aside0.mk (Kd.C_below CY_4.out hbb)
        have CZ_5 := Aside0.mk (Kd.C_below CZ_4.out hbb)
        have HB_5 := Aside0.mk (HB_4.out.trans (hbb.mono HB_4.out.size))
        clear hbb
        clear CX_4
        clear CY_4
        clear CZ_4
        go_wp2_with fail
        refine (Jr.same_c rfl rfl CZ_5.out hc3 CY_5.out hc2 HS1.out).mono ?_
        rintro e w6 ⟨rfl, hbb⟩
        have CX_6 := Aside0.mk (Kd.C_below CX_5.out hbb)
        have CY_6 := Aside0.mk (Kd.C_below CY_5.out hbb)
        have CZ_6 := Aside0.mk (Kd.C_below CZ_5.out hbb)
        have HB_6 := Aside0.mk (HB_5.out.trans (hbb.mono HB_5.out.size))
        clear hbb
        clear CX_5
        clear CY_5
        clear CZ_5
        go_wp2
        go_ret
        exact ⟨rfl, HB_6.out⟩
    · skip
      have hop2 := HOP.out
      rw [if_neg h3, if_neg h3] at hop2
      have HOP2 := Aside0.mk hop2
      have hb3 : (r3 != 0) = true := bne_iff_ne.mpr h3
      clear hop2
      refine (Jr.open_c HLT.out.symm CT_2.out (by rw [HLT.out]; omega) HOP2.out).mono ?_
      rintro e w3 ⟨A3, c3, rfl, hc3, hC3, hbb⟩
      have CX_3 := Aside0.mk (Kd.C_below CX_2.out hbb)
      have CY_3 := Aside0.mk (Kd.C_below CY_2.out hbb)
      have CZ_3 := Aside0.mk hC3
      have HB_3 := Aside0.mk (HB_2.out.trans (hbb.mono HB_2.out.size))
      clear hbb hC3
      clear CT_2
      clear CX_2
      clear CY_2
      go_wp2_with fail
      refine (clevislaw06_known.calls true _ rfl).mono ?_
      rintro e w4 ⟨rfl, hbb⟩
      have CX_4 := Aside0.mk (Kd.C_below CX_3.out hbb)
      have CY_4 := Aside0.mk (Kd.C_below CY_3.out hbb)
      have CZ_4 := Aside0.mk (Kd.C_below CZ_3.out hbb)
      have HB_4 := Aside0.mk (HB_3.out.trans (hbb.mono HB_3.out.size))
      clear hbb
      clear CX_3
      clear CY_3
      clear CZ_3
      go_wp2_with fail
      refine (Jr.same_c rfl rfl CX_4.out hc1 CY_4.out hc2 HS1.out).mono ?_
      rintro e w5 ⟨rfl, hbb⟩
      have CX_5 := Aside0.mk (Kd.C_below CX_4.out hbb)
      have CY_5 := Aside0.mk (Kd.C_below CY_4.out hbb)
      have CZ_5 := Aside0.mk (Kd.C_below CZ_4.out hbb)
      have HB_5 := Aside0.mk (HB_4.out.trans (hbb.mono HB_4.out.size))
      clear hbb
      clear CX_4
      clear CY_4
      clear CZ_4
      go_wp2
      go_ret
      exact ⟨rfl, HB_5.out⟩
  · replace hcutB := hcutB (by omega)
    clear hcutA
    go_wp2_with fail
    refine (next_c HLT.out.symm HCT.out (by rw [HLT.out]; omega) HNX.out).mono ?_
    rintro e w1 ⟨A1, c1, rfl, hc1, hC1, hbb⟩
    have CT_1 := Aside0.mk (Kd.C_below HCT.out hbb)
    have CX_1 := Aside0.mk hC1
    have HB_1 := Aside0.mk hbb
    clear hbb hC1
    clear HCT
    go_wp2_with fail
    refine (ref_c HLT.out.symm CT_1.out (by rw [HLT.out]; omega) HTB.out (by rw [HLT.out]; omega) HR.out).mono ?_
    rintro e w2 ⟨A2, c2, rfl, hc2, hC2, hbb⟩
    have CT_2 := Aside0.mk (Kd.C_below CT_1.out hbb)
    have CX_2 := Aside0.mk (Kd.C_below CX_1.out hbb)
    have CY_2 := Aside0.mk hC2
    have HB_2 := Aside0.mk (HB_1.out.trans (hbb.mono HB_1.out.size))
    clear hbb hC2
    clear CT_1
    clear CX_1
    go_wp2_with fail
    by_cases h3 : r3 = 0
    · by_cases h2 : r2 < (m : Int)
      · skip
        have hop2 := HOP.out
        rw [if_pos h3, if_pos h2, if_pos h3, if_pos h2] at hop2
        have HOP2 := Aside0.mk hop2
        clear hop2
        subst h3
        refine (Jr.open_c HLT.out.symm CT_2.out (by rw [HLT.out]; omega) HOP2.out).mono ?_
        rintro e w3 ⟨A3, c3, rfl, hc3, hC3, hbb⟩
        have CX_3 := Aside0.mk (Kd.C_below CX_2.out hbb)
        have CY_3 := Aside0.mk (Kd.C_below CY_2.out hbb)
        have CZ_3 := Aside0.mk hC3
        have HB_3 := Aside0.mk (HB_2.out.trans (hbb.mono HB_2.out.size))
        clear hbb hC3
        clear CT_2
        clear CX_2
        clear CY_2
        go_wp2_with fail
        refine (clevislaw06_known.calls true _ rfl).mono ?_
        rintro e w4 ⟨rfl, hbb⟩
        have CX_4 := Aside0.mk (Kd.C_below CX_3.out hbb)
        have CY_4 := Aside0.mk (Kd.C_below CY_3.out hbb)
        have CZ_4 := Aside0.mk (Kd.C_below CZ_3.out hbb)
        have HB_4 := Aside0.mk (HB_3.out.trans (hbb.mono HB_3.out.size))
        clear hbb
        clear CX_3
        clear CY_3
        clear CZ_3
        go_wp2_with fail
        refine (Jr.same_c rfl rfl CX_4.out hc1 CY_4.out hc2 HS1.out).mono ?_
        rintro e w5 ⟨rfl, hbb⟩
        have CX_5 := Aside0.mk (Kd.C_below CX_4.out hbb)
        have CY_5 := Aside0.mk (Kd.C_below CY_4.out hbb)
        have CZ_5 := Aside0.mk (Kd.C_below CZ_4.out hbb)
        have HB_5 := Aside0.mk (HB_4.out.trans (hbb.mono HB_4.out.size))
        clear hbb
        clear CX_4
        clear CY_4
        clear CZ_4
        go_wp2
        go_ret
        exact ⟨rfl, HB_5.out⟩
      · skip
        have hop2 := HOP.out
        rw [if_pos h3, if_neg h2, if_pos h3, if_neg h2] at hop2
        have HOP2 := Aside0.mk hop2
        clear hop2
        subst h3
        refine (Jr.open_c HLT.out.symm CT_2.out (by rw [HLT.out]; omega) HOP2.out).mono ?_
        rintro e w3 ⟨A3, c3, rfl, hc3, hC3, hbb⟩
        have CX_3 := Aside0.mk (Kd.C_below CX_2.out hbb)
        have CY_3 := Aside0.mk (Kd.C_below CY_2.out hbb)
        have CZ_3 := Aside0.mk hC3
        have HB_3 := Aside0.mk (HB_2.out.trans (hbb.mono HB_2.out.size))
        clear hbb hC3
        clear CT_2
        clear CX_2
        clear CY_2
        go_wp2_with fail
        refine (clevislaw06_known.calls true _ rfl).mono ?_
        rintro e w4 ⟨rfl, hbb⟩
        have CX_4 := Aside0.mk (Kd.C_below CX_3.out hbb)
        have CY_4 := Aside0.mk (Kd.C_below CY_3.out hbb)
        have CZ_4 := Aside0.mk (Kd.C_below CZ_3.out hbb)
        have HB_4 := Aside0.mk (HB_3.out.trans (hbb.mono HB_3.out.size))
        clear hbb
        clear CX_3
        clear CY_3
        clear CZ_3
        go_wp2_with fail
        refine (Jr.same_c rfl rfl CX_4.out hc1 CY_4.out hc2 HS1.out).mono ?_
        rintro e w5 ⟨rfl, hbb⟩
        have CX_5 := Aside0.mk (Kd.C_below CX_4.out hbb)
        have CY_5 := Aside0.mk (Kd.C_below CY_4.out hbb)
        have CZ_5 := Aside0.mk (Kd.C_below CZ_4.out hbb)
        have HB_5 := Aside0.mk (HB_4.out.trans (hbb.mono HB_4.out.size))
        clear hbb
        clear CX_4
        clear CY_4
        clear CZ_4
        go_wp2_with fail
        refine (Jr.same_c rfl rfl CZ_5.out hc3 CY_5.out hc2 HS1.out).mono ?_
        rintro e w6 ⟨rfl, hbb⟩
        have CX_6 := Aside0.mk (Kd.C_below CX_5.out hbb)
        have CY_6 := Aside0.mk (Kd.C_below CY_5.out hbb)
        have CZ_6 := Aside0.mk (Kd.C_below CZ_5.out hbb)
        have HB_6 := Aside0.mk (HB_5.out.trans (hbb.mono HB_5.out.size))
        clear hbb
        clear CX_5
        clear CY_5
        clear CZ_5
        go_wp2
        go_ret
        exact ⟨rfl, HB_6.out⟩
    · skip
      have hop2 := HOP.out
      rw [if_neg h3, if_neg h3] at hop2
      have HOP2 := Aside0.mk hop2
      have hb3 : (r3 != 0) = true := bne_iff_ne.mpr h3
      clear hop2
      refine (Jr.open_c HLT.out.symm CT_2.out (by rw [HLT.out]; omega) HOP2.out).mono ?_
      rintro e w3 ⟨A3, c3, rfl, hc3, hC3, hbb⟩
      have CX_3 := Aside0.mk (Kd.C_below CX_2.out hbb)
      have CY_3 := Aside0.mk (Kd.C_below CY_2.out hbb)
      have CZ_3 := Aside0.mk hC3
      have HB_3 := Aside0.mk (HB_2.out.trans (hbb.mono HB_2.out.size))
      clear hbb hC3
      clear CT_2
      clear CX_2
      clear CY_2
      go_wp2_with fail
      refine (clevislaw06_known.calls true _ rfl).mono ?_
      rintro e w4 ⟨rfl, hbb⟩
      have CX_4 := Aside0.mk (Kd.C_below CX_3.out hbb)
      have CY_4 := Aside0.mk (Kd.C_below CY_3.out hbb)
      have CZ_4 := Aside0.mk (Kd.C_below CZ_3.out hbb)
      have HB_4 := Aside0.mk (HB_3.out.trans (hbb.mono HB_3.out.size))
      clear hbb
      clear CX_3
      clear CY_3
      clear CZ_3
      go_wp2_with fail
      refine (Jr.same_c rfl rfl CX_4.out hc1 CY_4.out hc2 HS1.out).mono ?_
      rintro e w5 ⟨rfl, hbb⟩
      have CX_5 := Aside0.mk (Kd.C_below CX_4.out hbb)
      have CY_5 := Aside0.mk (Kd.C_below CY_4.out hbb)
      have CZ_5 := Aside0.mk (Kd.C_below CZ_4.out hbb)
      have HB_5 := Aside0.mk (HB_4.out.trans (hbb.mono HB_4.out.size))
      clear hbb
      clear CX_4
      clear CY_4
      clear CZ_4
      go_wp2
      go_ret
      exact ⟨rfl, HB_5.out⟩
end Go.Proofs.Ytebdjhgboeadgaa.Opens
