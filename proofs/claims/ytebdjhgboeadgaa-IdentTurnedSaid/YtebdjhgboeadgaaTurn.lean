/- The walk of the law IdentTurned. -/
import Derived.Test.YtebdjhgboeadgaaTurnQ
namespace Go.Proofs.Ytebdjhgboeadgaa.Turn
set_option linter.unusedSimpArgs false
set_option linter.unusedVariables false
open Go Go.RowKit Go.Proofs.Ytebdjhgboeadgaa.Id Go.Proofs.YtebdjhgboeadgaaW.PrintWords Go.Proofs.YtebdjhgboeadgaaW.PrintLast Go.Proofs.YtebdjhgboeadgaaW.PrintMore Go.Proofs.Ytebdjhgboeadgaa.Ja Go.Proofs.Ytebdjhgboeadgaa.Jb Go.Proofs.Ytebdjhgboeadgaa.Jc Go.Proofs.Ytebdjhgboeadgaa.Pure Go.Proofs.Ytebdjhgboeadgaa.TurnP
attribute [local go_sem] max2_int min2_int max_two min_two max_three min_three max_four min_four
set_option maxRecDepth 100000 in
set_option maxHeartbeats 4000000 in
theorem walk (a0 : ByteArray) (w0 : a0.size ≤ 140737488351232) (a1 : Int) (w1 : (Lit.int .i64 a1).wf = true) (a2 : Int) (w2 : (Lit.int .u8 a2).wf = true) (w : World) : Calls Try.prog 6 #[.string a0, .int .i64 a1, .int .u8 a2] w fun e w' => e = .returned (.bool true) ∧ Below w.heap.size w w' := by
  obtain ⟨at12, ha0, ha1, ha⟩ : ∃ n : Nat, 0 ≤ n ∧ n < 12 ∧ wrap64 ((IntKind.u64.wrap a1).tmod 12) = (n : Int) := by
    have h : 0 ≤ IntKind.u64.wrap a1 := by rw [IntKind.wrap_u64]; omega
    generalize IntKind.u64.wrap a1 = u at h
    refine ⟨(u % 12).toNat, by omega, by omega, ?_⟩
    rw [Int.tmod_eq_emod_of_nonneg h]
    unfold wrap64
    omega
  have hc2 : 0 ≤ a2 ∧ a2 ≤ 255 := by
    have e0 : IntKind.u8.min = 0 := rfl
    have e1 : IntKind.u8.max = 255 := rfl
    simp [Lit.wf] at w2
    omega
  by_cases h11 : a0.size ≤ 11
  · have e1 : a0.extract 0 11 = a0 := by
      apply ByteArray.ext
      simp
      omega
    cases hk : okS a0 with
    | true =>
      have hmk := iMake a0 (by omega)
      rw [hk, if_pos rfl] at hmk
      have hms : (a0 ++ strOfNums [48 + chk a0]).size = 12 := by rw [ByteArray.size_append, one_size, okS_size hk]
      obtain ⟨m, hm⟩ : ∃ m, a0 ++ strOfNums [48 + chk a0] = m := ⟨_, rfl⟩
      rw [hm] at hmk hms
      have hmz : (m.size : Int) = 12 := by omega
      have hbytes := fun W_ => print_bytes (P := Try.prog) 9 44 5 Try.underlying9 Try.underlying44 Try.underlying5 m W_
      have hcell : ∀ W : World, (Lib.bytesWorld W 5 m).cell? ⟨W.heap.size, at12, none⟩ = some (.int .u8 (bt m at12)) := fun W => by
        obtain ⟨_, _, h3⟩ := bytes_reads W 5 m (by omega)
        obtain ⟨ad, he, hc⟩ := h3 (by omega)
        have h4 := hc at12 (by omega)
        cases he
        rw [add_plain] at h4
        rw [h4, ← rd_bytesOf]
        rfl
      have hfrz : ∀ W : World, (Lib.bytesWorld W 5 m).frozen? ⟨W.heap.size, at12, none⟩ = false := fun W => by
        have h1 := Lib.bytesWorld_at_new W 5 m
        have h3 := hcell W
        simp only [World.cell?, h1] at h3
        have h4 : at12 < (Lib.bytesCells W 5 m).size := (Array.getElem?_eq_some_iff.1 h3).1
        simp [World.frozen?, h1]
        omega
      have hset : ∀ W : World, ∀ j : Nat, j < 12 → ((Lib.bytesWorld W 5 m).setCell ⟨W.heap.size, at12, none⟩ (.int .u8 a2)).cell? ⟨W.heap.size, j, none⟩ = some (.int .u8 (((bytesOf m).set at12 a2).getD j 0)) := fun W j hj => by
        have hl : at12 < (bytesOf m).length := by rw [bytesOf_length]; omega
        by_cases e : j = at12
        · subst e
          rw [World.cell?_setCell_same _ _ _ (hcell W)]
          simp [List.getD_eq_getElem?_getD, hl]
        · rw [World.cell?_setCell_other _ _ _ _ (by intro q; simp only [Addr.mk.injEq] at q; omega)]
          obtain ⟨_, _, h3⟩ := bytes_reads W 5 m (by omega)
          obtain ⟨ad, he, hc⟩ := h3 (by omega)
          have h4 := hc j (by omega)
          cases he
          rw [add_plain] at h4
          rw [h4, List.getD_eq_getElem?_getD, List.getD_eq_getElem?_getD, List.getElem?_set_ne (fun q => e q.symm)]
      have hback : ∀ (W : World) (cp : Nat), (convert 44 9 (.slice (some ⟨W.heap.size, 0, none⟩) 12 cp)).run Try.prog ((Lib.bytesWorld W 5 m).setCell ⟨W.heap.size, at12, none⟩ (.int .u8 a2)) = .ok (.string (turn m at12 a2)) ((Lib.bytesWorld W 5 m).setCell ⟨W.heap.size, at12, none⟩ (.int .u8 a2)) := fun W cp =>
        string_of_reads Try.underlying44 Try.underlying5 Try.underlying9 ⟨by rw [List.length_set, bytesOf_length]; omega, by omega, fun _ => ⟨_, rfl, fun j hj => by rw [add_plain]; exact hset W _ (by omega)⟩⟩
      have hsame : bt m at12 = a2 → isinE (turn m at12 a2) = 0 := by
        rw [← hm]; intro q; exact turn_same a0 hk at12 (by omega) a2 (by omega) (by omega) q
      have hother : isD (bt m at12) = true → isD a2 = true → bt m at12 ≠ a2 → isinE (turn m at12 a2) = 11 := by
        rw [← hm]; intro q1 q2 q3; exact turn_other a0 hk at12 (by omega) a2 (by omega) (by omega) q1 q2 q3
      clear hm
      go_enter Try.func6, Try.ntmps6
      go_wp2_with fail
      all_goals (try simp only [e1])
      all_goals (refine (ident_Make.calls a0 _ _ w hmk).mono ?_; rintro e w' ⟨rfl, hb⟩)
      all_goals (go_wp2_with fail)
      all_goals (refine (ident_Isin.calls 1 _ _ _ (iIsin (turn m at12 a2) 0)).mono ?_; rintro e w2 ⟨rfl, hb2⟩)
      all_goals (have hb1 : Below w.heap.size w ((Lib.bytesWorld w' 5 m).setCell ⟨w'.heap.size, at12, none⟩ (.int .u8 a2)) := (bytes_below hb hb.size 5 m).setCell hb.size _)
      all_goals (replace hb2 := hb1.trans (hb2.mono hb1.size))
      all_goals (go_wp2_with fail)
      all_goals (refine (clevislaw02_known.calls 70 true _ known_f).mono ?_; rintro e w3 ⟨rfl, hb3⟩)
      all_goals (replace hb3 := hb2.trans (hb3.mono hb2.size))
      all_goals (generalize isinE (turn m at12 a2) = q at hsame hother ⊢)
      all_goals go_wp2
      all_goals go_ret
      all_goals (refine ⟨?_, hb3⟩)
      all_goals first
        | rfl
        | (have hq := hsame (by assumption); subst hq; first | rfl | (simp; done))
        | (have hq := hother (by simp [isD]; omega) (by simp [isD]; omega) (by assumption); subst hq; first | rfl | (simp; done))
        | (simp; done)
        | skip
    | false =>
      have hmk := iMake a0 (by omega)
      rw [hk, if_neg (by simp)] at hmk
      go_enter Try.func6, Try.ntmps6
      go_wp2_with fail
      all_goals (try simp only [e1])
      all_goals (refine (ident_Make.calls a0 _ _ w hmk).mono ?_; rintro e w' ⟨rfl, hb⟩)
      all_goals (go_wp2_with fail)
      all_goals (refine (clevislaw02_known.calls 70 true _ known_f).mono ?_; rintro e w2 ⟨rfl, hb2⟩)
      all_goals go_wp2
      all_goals go_ret
      all_goals exact ⟨rfl, hb.trans (hb2.mono hb.size)⟩
  · obtain ⟨t, e1⟩ : ∃ t, a0.extract 0 11 = t := ⟨_, rfl⟩
    have hts : t.size = 11 := by rw [← e1, ByteArray.size_extract]; omega
    cases hk : okS t with
    | true =>
      have hmk := iMake t (by omega)
      rw [hk, if_pos rfl] at hmk
      have hms : (t ++ strOfNums [48 + chk t]).size = 12 := by rw [ByteArray.size_append, one_size, okS_size hk]
      obtain ⟨m, hm⟩ : ∃ m, t ++ strOfNums [48 + chk t] = m := ⟨_, rfl⟩
      rw [hm] at hmk hms
      have hmz : (m.size : Int) = 12 := by omega
      have hbytes := fun W_ => print_bytes (P := Try.prog) 9 44 5 Try.underlying9 Try.underlying44 Try.underlying5 m W_
      have hcell : ∀ W : World, (Lib.bytesWorld W 5 m).cell? ⟨W.heap.size, at12, none⟩ = some (.int .u8 (bt m at12)) := fun W => by
        obtain ⟨_, _, h3⟩ := bytes_reads W 5 m (by omega)
        obtain ⟨ad, he, hc⟩ := h3 (by omega)
        have h4 := hc at12 (by omega)
        cases he
        rw [add_plain] at h4
        rw [h4, ← rd_bytesOf]
        rfl
      have hfrz : ∀ W : World, (Lib.bytesWorld W 5 m).frozen? ⟨W.heap.size, at12, none⟩ = false := fun W => by
        have h1 := Lib.bytesWorld_at_new W 5 m
        have h3 := hcell W
        simp only [World.cell?, h1] at h3
        have h4 : at12 < (Lib.bytesCells W 5 m).size := (Array.getElem?_eq_some_iff.1 h3).1
        simp [World.frozen?, h1]
        omega
      have hset : ∀ W : World, ∀ j : Nat, j < 12 → ((Lib.bytesWorld W 5 m).setCell ⟨W.heap.size, at12, none⟩ (.int .u8 a2)).cell? ⟨W.heap.size, j, none⟩ = some (.int .u8 (((bytesOf m).set at12 a2).getD j 0)) := fun W j hj => by
        have hl : at12 < (bytesOf m).length := by rw [bytesOf_length]; omega
        by_cases e : j = at12
        · subst e
          rw [World.cell?_setCell_same _ _ _ (hcell W)]
          simp [List.getD_eq_getElem?_getD, hl]
        · rw [World.cell?_setCell_other _ _ _ _ (by intro q; simp only [Addr.mk.injEq] at q; omega)]
          obtain ⟨_, _, h3⟩ := bytes_reads W 5 m (by omega)
          obtain ⟨ad, he, hc⟩ := h3 (by omega)
          have h4 := hc j (by omega)
          cases he
          rw [add_plain] at h4
          rw [h4, List.getD_eq_getElem?_getD, List.getD_eq_getElem?_getD, List.getElem?_set_ne (fun q => e q.symm)]
      have hback : ∀ (W : World) (cp : Nat), (convert 44 9 (.slice (some ⟨W.heap.size, 0, none⟩) 12 cp)).run Try.prog ((Lib.bytesWorld W 5 m).setCell ⟨W.heap.size, at12, none⟩ (.int .u8 a2)) = .ok (.string (turn m at12 a2)) ((Lib.bytesWorld W 5 m).setCell ⟨W.heap.size, at12, none⟩ (.int .u8 a2)) := fun W cp =>
        string_of_reads Try.underlying44 Try.underlying5 Try.underlying9 ⟨by rw [List.length_set, bytesOf_length]; omega, by omega, fun _ => ⟨_, rfl, fun j hj => by rw [add_plain]; exact hset W _ (by omega)⟩⟩
      have hsame : bt m at12 = a2 → isinE (turn m at12 a2) = 0 := by
        rw [← hm]; intro q; exact turn_same t hk at12 (by omega) a2 (by omega) (by omega) q
      have hother : isD (bt m at12) = true → isD a2 = true → bt m at12 ≠ a2 → isinE (turn m at12 a2) = 11 := by
        rw [← hm]; intro q1 q2 q3; exact turn_other t hk at12 (by omega) a2 (by omega) (by omega) q1 q2 q3
      clear hm
      go_enter Try.func6, Try.ntmps6
      go_wp2_with fail
      all_goals (try simp only [e1])
      all_goals (refine (ident_Make.calls t _ _ w hmk).mono ?_; rintro e w' ⟨rfl, hb⟩)
      all_goals (go_wp2_with fail)
      all_goals (refine (ident_Isin.calls 1 _ _ _ (iIsin (turn m at12 a2) 0)).mono ?_; rintro e w2 ⟨rfl, hb2⟩)
      all_goals (have hb1 : Below w.heap.size w ((Lib.bytesWorld w' 5 m).setCell ⟨w'.heap.size, at12, none⟩ (.int .u8 a2)) := (bytes_below hb hb.size 5 m).setCell hb.size _)
      all_goals (replace hb2 := hb1.trans (hb2.mono hb1.size))
      all_goals (go_wp2_with fail)
      all_goals (refine (clevislaw02_known.calls 70 true _ known_f).mono ?_; rintro e w3 ⟨rfl, hb3⟩)
      all_goals (replace hb3 := hb2.trans (hb3.mono hb2.size))
      all_goals (generalize isinE (turn m at12 a2) = q at hsame hother ⊢)
      all_goals go_wp2
      all_goals go_ret
      all_goals (refine ⟨?_, hb3⟩)
      all_goals first
        | rfl
        | (have hq := hsame (by assumption); subst hq; first | rfl | (simp; done))
        | (have hq := hother (by simp [isD]; omega) (by simp [isD]; omega) (by assumption); subst hq; first | rfl | (simp; done))
        | (simp; done)
        | skip
    | false =>
      have hmk := iMake t (by omega)
      rw [hk, if_neg (by simp)] at hmk
      go_enter Try.func6, Try.ntmps6
      go_wp2_with fail
      all_goals (try simp only [e1])
      all_goals (refine (ident_Make.calls t _ _ w hmk).mono ?_; rintro e w' ⟨rfl, hb⟩)
      all_goals (go_wp2_with fail)
      all_goals (refine (clevislaw02_known.calls 70 true _ known_f).mono ?_; rintro e w2 ⟨rfl, hb2⟩)
      all_goals go_wp2
      all_goals go_ret
      all_goals exact ⟨rfl, hb.trans (hb2.mono hb.size)⟩
end Go.Proofs.Ytebdjhgboeadgaa.Turn
