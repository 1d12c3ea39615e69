/- Texts of this seat, put together (Zs4). -/
import Derived.Laws.NewBlocks
import Derived.Test.YtfbkgfffalppmaaZs3
section
namespace Go.Proofs.Ytfbkgfffalppmaa.Nu
set_option linter.unusedSimpArgs false
set_option linter.unusedVariables false
open Go Go.RowKit Go.Proofs.YtfbkgfffalppmaaW.PrintWords Go.Proofs.YtfbkgfffalppmaaW.PrintLast Go.Proofs.YtfbkgfffalppmaaW.PrintMore Go.Proofs.Ytfbkgfffalppmaa.Hd
section
variable {w : World} {ok ok' ok3 : Nat → Prop} {A A' A3 : Option Addr} {c c' c3 : Nat} {d d' : List Int}
theorem dig_pow (q : Nat) : dig (B q * 32768) = List.replicate q 0 ++ [32768] ∧ neg (B q * 32768) = false := by
  have hp := B_pos q
  have h0 : 0 ≤ B q * 32768 := by omega
  refine ⟨?_, neg_no (by omega)⟩
  have hd : Ds (List.replicate q 0 ++ [32768]) := Ds.snoc (fun z hz => by rw [(List.mem_replicate.1 hz).2]; exact ⟨by omega, by omega⟩) ⟨by omega, by omega⟩
  have ht : Top (List.replicate q (0 : Int) ++ [32768]) := fun h => by rw [List.getLast_append_right (by simp)]; simp
  have hv : V (List.replicate q 0 ++ [32768]) = B q * 32768 := by rw [V_snoc, V_zeros, List.length_replicate]; omega
  have e := dig_of (n := false) hd ht
  rw [e]
  congr 1
  unfold val
  rw [if_neg (by simp), hv]
theorem dig_le (x : Int) (n : Nat) (h : (x.natAbs : Int) < B n) {m : Nat} (hm : n ≤ m) : (dig x).length ≤ m := Nat.le_trans (dig_len h) hm
instance (x : Int) : Decidable (I64 x) := inferInstanceAs (Decidable (_ ∧ _))
theorem B8 : B 8 = 340282366920938463463374607431768211456 := by rw [show 8 = 4 + 4 from rfl, B_add, B4]; rfl
theorem B_le8 {q : Nat} (h : q ≤ 8) : B q ≤ 340282366920938463463374607431768211456 := by rw [← B8]; exact B_mono h
set_option maxRecDepth 100000 in
set_option maxHeartbeats 1000000 in
theorem power_c (q : Nat) (hq : q ≤ 8) (less : Int) (h0 : 0 ≤ less) (h1 : less ≤ 1) : Gives Try.prog 37 #[.int .i64 (16 * (q : Int) + 15), .int .i64 less] w (Num (B q * 32768 - less)) := by
  have hu38 := Try.underlying38
  have hu36 := Try.underlying36
  have hmk : ∀ W : World, (Instr.makeSlice 36 (.int .i64 ((q : Int) + 1)) (.int .i64 ((q : Int) + 1))).run Try.prog W = .ok (.slice (some ⟨W.heap.size, 0, none⟩) (q + 1) (q + 1)) (W.alloc (.cells (madeCells #[.int .i64 0] (q + 1)) 3)) := fun W => print_make (P := Try.prog) 36 3 .i64 8 hu36 info_int (by decide) (q + 1) (by omega) W
  have e1 : (16 * (q : Int) + 15) / 16 = (q : Int) := by omega
  have e2 : (16 * (q : Int) + 15) % 16 = 15 := by omega
  have e3 : (0 : Int) ≤ 16 * (q : Int) + 15 := by omega
  unfold Gives
  go_enter Try.func37, Try.ntmps37
  have H := ((All.start w).box w.heap.size 38 #[.bool false, .slice none 0 0]).made .i64 (w.heap.size + 1) (q + 1) 3
  obtain ⟨f1, f2⟩ := ow_at (H.at 0 rfl) q (by omega) (p := 0) (by simp [List.getD_eq_getElem?_getD])
  replace H := H.store 0 rfl q 32768 (Nat.le_succ _)
  rw [World.setCell_alloc_at _ _ _ _ _ (by simp)] at H
  obtain ⟨hdp, hnp⟩ := dig_pow q
  have hset : (List.replicate (q + 1) (0 : Int)).set q 32768 = dig (B q * 32768) := by
    rw [hdp, List.replicate_succ', List.set_append_right _ _ (by simp)]
    simp
  have hlen : (dig (B q * 32768)).length = q + 1 := by rw [hdp]; simp
  have hnum : num (B q * 32768) (some ⟨w.heap.size + 1, 0, none⟩) (q + 1) = .agg #[.bool false, .slice (some ⟨w.heap.size + 1, 0, none⟩) (q + 1) (q + 1)] := by unfold num; rw [hnp, hlen]
  have hb8 := B_le8 hq
  have hbp := B_pos q
  replace hset := Aside0.mk hset
  replace hlen := Aside0.mk hlen
  replace hnum := Aside0.mk hnum
  clear hdp hnp
  have hl5 : Aside0 ((dig (-less)).length ≤ 1 ∧ (dig (B q * 32768)).length ≤ 900000) := ⟨dig_le _ 1 (by rw [B_succ, B_zero]; omega) (Nat.le_refl _), by rw [hlen.out]; omega⟩
  replace hbp := Aside0.mk hbp
  replace hb8 := Aside0.mk hb8
  go_wp2_with fail
  refine (small_c (a := -less) (by omega) (by omega)).on H fun v w1 H z1 => ?_
  obtain ⟨A2, c2, rfl, hc2, hR2⟩ := num_open (H.get 0 rfl)
  obtain ⟨_, _, hR⟩ := held_reads (H.get 1 rfl)
  rw [hset.out] at hR
  go_wp2_with fail
  rw [← hnum.out]
  refine (add_c (hR.imp fun W hW => by unfold Cs; rw [hlen.out]; exact hW) (by rw [hlen.out]; exact Nat.le_refl _) hR2 hc2 hl5.out.2 (Nat.le_trans hl5.out.1 (by decide))).on H fun v w2 H z2 => ?_
  rw [← Int.sub_eq_add_neg] at H
  obtain ⟨A3, c3, rfl, hc3, hR3⟩ := num_open (H.get 0 rfl)
  have r := H.rd 3 rfl
  have z := H.fz 3 rfl
  go_wp2
  replace H := (H.set 3 rfl 0 (.bool (neg (B q * 32768 - less)))).set 3 rfl 1 (.slice A3 (dig (B q * 32768 - less)).length c3)
  exact H.ret 3 rfl rfl rfl hu38 rfl (by kernel_rfl) rfl ⟨_, rfl, H.old, (H.get 0 rfl).out (in_le z2)⟩
theorem fits_q {x : Int} (q : Nat) (hq : q ≤ 8) (h : Held w ok (Cs A (dig x))) (hc : (dig x).length ≤ c) (hl : (dig x).length ≤ 1000000) :
    Tells Try.prog 13 #[num x A c, .int .i64 (16 * (q : Int) + 16)] w (.bool (decide (-(B q * 32768) ≤ x ∧ x < B q * 32768))) := by
  have hu38 := Try.underlying38
  have hbp := B_pos q
  have hb8 := B_le8 hq
  have hw : wrap64 (16 * (q : Int) + 16 - 1) = 16 * (q : Int) + 15 := by rw [w64 (by omega) (by omega)]; omega
  have hwk : IntKind.i64.wrap (16 * (q : Int) + 16 - 1) = 16 * (q : Int) + 15 := by rw [i64_w]; exact hw
  have hfld : ∀ (s : Bool) (A : Option Addr) (n c : Nat) (w : World), (Instr.field 38 (.agg #[.bool s, .slice A n c]) 1).run Try.prog w = .ok (.slice A n c) w := fun _ _ _ _ _ => by kernel_rfl
  have hlen : ∀ less : Int, 0 ≤ less → less ≤ 1 → (dig (B q * 32768 - less)).length ≤ 1000000 := fun less l0 l1 => dig_le _ 9 (by rw [show 9 = 8 + 1 from rfl, B_succ, B8]; omega) (by decide)
  unfold Tells num
  cases hs : neg x
  · have hx : ¬ x < 0 := of_decide_eq_false hs
    have hres : Aside0 (decide (sgn x.natAbs (B q * 32768 - 1).natAbs ≤ 0) = decide (-(B q * 32768) ≤ x ∧ x < B q * 32768)) := ⟨by
      unfold sgn
      rw [decide_eq_decide]
      split
      · constructor <;> intro _ <;> omega
      · split
        · constructor <;> intro _ <;> omega
        · constructor <;> intro _ <;> omega⟩
    clear hx
    have hp := fun w => power_c (w := w) q hq 1 (by omega) (by omega)
    have hl2 := hlen 1 (by omega) (by omega)
    clear hbp hb8 hlen hq
    generalize B q * 32768 - 1 = P at hp hl2 hres
    go_enter Try.func13, Try.ntmps13
    have H := ((All.start w).arg h).box w.heap.size 38 #[.bool false, .slice A (dig x).length c]
    go_wp2
    refine plan_ (true, [([], []), ([0], [0]), ([], []), ([2], [2]), ([3], [3]), ([4], [4]), ([1, 5, 4], [1, 5]), ([6], [6]), ([7, 6, 0, 1, 2, 3, 4, 5, 6, 7], [7])]) [.p 0, .t 1, .p 2, .p 3, .c 4, .p 5, .c 6, .p 7, .p 8] H (by kernel_rfl) (by kernel_rfl) rfl rfl (by kernel_rfl) (by intro c a w d v h; cases d <;> exact h) (fun w1 H => ?_)
    refine pl_P (h := ?_)
    refine pl_L 0 1 H rfl (h := ?_)
    repeat refine pl_P (h := ?_)
    refine pl_G (hp _) H Try.func37 (h := fun v w2 H z2 => ?_)
    obtain ⟨A3, c3, rfl, hc3, hR3⟩ := num_open (H.get 0 rfl)
    unfold num
    refine pl_P (h := ?_)
    refine pl_S (size_c (H.get 2 rfl) hc hR3 hc3 hl hl2) H Try.func36 (h := fun w3 H => ?_)
    repeat refine pl_P (h := ?_)
    refine pl_done ?_
    go_wp2
    go_ret
    exact ⟨by rw [← hres.out]; rfl, H.old⟩
  · have hx : x < 0 := of_decide_eq_true hs
    have hres : Aside0 (decide (sgn x.natAbs (B q * 32768 - 0).natAbs ≤ 0) = decide (-(B q * 32768) ≤ x ∧ x < B q * 32768)) := ⟨by
      unfold sgn
      rw [decide_eq_decide]
      split
      · constructor <;> intro _ <;> omega
      · split
        · constructor <;> intro _ <;> omega
        · constructor <;> intro _ <;> omega⟩
    clear hx
    have hp := fun w => power_c (w := w) q hq 0 (by omega) (by omega)
    have hl2 := hlen 0 (by omega) (by omega)
    clear hbp hb8 hlen hq
    generalize B q * 32768 - 0 = P at hp hl2 hres
    go_enter Try.func13, Try.ntmps13
    have H := ((All.start w).arg h).box w.heap.size 38 #[.bool true, .slice A (dig x).length c]
    go_wp2
    refine plan_ (true, [([], []), ([0], [0]), ([], []), ([2], [2]), ([3], [3]), ([4], [4]), ([1, 5, 4], [1, 5]), ([6], [6]), ([7, 6, 0, 1, 2, 3, 4, 5, 6, 7], [7])]) [.p 0, .t 1, .p 2, .p 3, .c 4, .p 5, .c 6, .p 7, .p 8] H (by kernel_rfl) (by kernel_rfl) rfl rfl (by kernel_rfl) (by intro c a w d v h; cases d <;> exact h) (fun w1 H => ?_)
    refine pl_P (h := ?_)
    refine pl_L 0 1 H rfl (h := ?_)
    repeat refine pl_P (h := ?_)
    refine pl_G (hp _) H Try.func37 (h := fun v w2 H z2 => ?_)
    obtain ⟨A3, c3, rfl, hc3, hR3⟩ := num_open (H.get 0 rfl)
    unfold num
    refine pl_P (h := ?_)
    refine pl_S (size_c (H.get 2 rfl) hc hR3 hc3 hl hl2) H Try.func36 (h := fun w3 H => ?_)
    repeat refine pl_P (h := ?_)
    refine pl_done ?_
    go_wp2
    go_ret
    exact ⟨by rw [← hres.out]; rfl, H.old⟩
theorem fits64_c {x : Int} (h : Held w ok (Cs A (dig x))) (hc : (dig x).length ≤ c) (hl : (dig x).length ≤ 1000000) : Tells Try.prog 13 #[num x A c, .int .i64 64] w (.bool (decide (I64 x))) := by
  have := fits_q 3 (by decide) h hc hl
  have e : decide (-(B 3 * 32768) ≤ x ∧ x < B 3 * 32768) = decide (I64 x) := by
    rw [decide_eq_decide, show B 3 = 281474976710656 by rw [B_succ, B_succ, B_succ, B_zero]; rfl]
    unfold I64
    omega
  rw [e] at this
  exact this
def I128 (x : Int) : Prop := -170141183460469231731687303715884105728 ≤ x ∧ x ≤ 170141183460469231731687303715884105727
instance (x : Int) : Decidable (I128 x) := inferInstanceAs (Decidable (_ ∧ _))
set_option maxRecDepth 100000 in
set_option maxHeartbeats 2000000 in
theorem floor_c {x y q : Int} (h : Held w ok (Cs A (dig x))) (hc : (dig x).length ≤ c) (h' : Held w ok' (Cs A' (dig y))) (hc' : (dig y).length ≤ c') (h3 : Held w ok3 (Cs A3 (dig q))) (hc3 : (dig q).length ≤ c3) (hl : (dig x).length ≤ 1000) (hl' : (dig y).length ≤ 1000) (hl3 : (dig q).length ≤ 1000) (hy : 0 ≤ y) :
    Tells Try.prog 41 #[num x A c, num y A' c', num q A3 c3] w (.bool (decide (q * y ≤ x ∧ x < q * y + y))) := by
  have hu38 := Try.underlying38
  have hny : neg y = false := neg_no (by omega)
  have hlp : Aside0 ((dig (q * y)).length ≤ 2000) := ⟨dig_le _ 2000 (by
    have h1 := V_lt (dig_nm q).1
    have h2 := V_lt (dig_nm y).1
    rw [(dig_nm q).2.2] at h1
    rw [(dig_nm y).2.2] at h2
    rw [Int.natAbs_mul, show ((q.natAbs * y.natAbs : Nat) : Int) = (q.natAbs : Int) * y.natAbs from Int.natCast_mul _ _]
    have h3 : B 2000 = B 1000 * B 1000 := by rw [show 2000 = 1000 + 1000 from rfl, B_add]
    have h4 := B_mono hl3
    have h5 := B_mono hl'
    rw [h3]
    exact Int.lt_of_le_of_lt (Int.mul_le_mul_of_nonneg_left (Int.le_of_lt h2) (by omega)) (Int.lt_of_lt_of_le (Int.mul_lt_mul_of_pos_right h1 (B_pos _)) (Int.mul_le_mul h4 h5 (Int.le_of_lt (B_pos _)) (Int.le_of_lt (B_pos _))))) (Nat.le_refl _)⟩
  have hlq : Aside0 ((dig (q * y + y)).length ≤ 3000) := ⟨dig_le _ 3000 (by
    have h1 := V_lt (dig_nm (q * y)).1
    have h2 := V_lt (dig_nm y).1
    rw [(dig_nm (q * y)).2.2] at h1
    rw [(dig_nm y).2.2] at h2
    have h4 := B_mono hlp.out
    have h5 := B_mono (Nat.le_trans hl' (show 1000 ≤ 2000 by decide))
    have h6 := B_mono (show 2001 ≤ 3000 by decide)
    rw [B_succ] at h6
    have h7 := B_pos 2000
    omega) (Nat.le_refl _)⟩
  obtain ⟨res, hr0⟩ : ∃ r, decide (q * y ≤ x ∧ x < q * y + y) = r := ⟨_, rfl⟩
  rw [hr0]
  replace hr0 := Aside0.mk hr0
  unfold Tells num
  rw [hny]
  go_enter Try.func41, Try.ntmps41
  have H := (((((All.start w).arg h).arg h').arg h3).box w.heap.size 38 #[.bool (neg x), .slice A (dig x).length c]).box (w.heap.size + 1) 38 #[.bool false, .slice A' (dig y).length c'] |>.box (w.heap.size + 1 + 1) 38 #[.bool (neg q), .slice A3 (dig q).length c3]
  go_wp2_with fail
  have hm := mul_c (H.get 3 rfl) hc3 (H.get 4 rfl) hc' (Nat.le_trans hl3 (by decide)) (Nat.le_trans hl' (by decide))
  unfold num at hm
  rw [hny] at hm
  refine hm.on H fun v w1 H z1 => ?_
  clear hm
  obtain ⟨A4, c4, rfl, hc4, hR4⟩ := num_open (H.get 0 rfl)
  replace H := H.turn 0 rfl hR4
  unfold num
  go_wp2
  replace H := H.box w1.heap.size 38 #[.bool (neg (q * y)), .slice A4 (dig (q * y)).length c4]
  refine plan_ (true, [([], []), ([], []), ([0, 1], [0, 1]), ([2], [2]), ([3, 2], [3]), ([4], [4]), ([4], [4]), ([4], [4]), ([6, 7, 4, 4], [4, 6, 7]), ([5, 8, 8, 4], [4, 5, 8]), ([9, 4], [4, 9]), ([4, 10], [4, 10]), ([11, 9, 0, 1, 2, 3, 4, 5, 6, 7, 8, 9, 10, 11], [11])]) [.t 0, .t 1, .c 2, .p 3, .p 4, .t 5, .t 6, .t 7, .c 8, .c 9, .p 10, .p 11, .p 12] H (by kernel_rfl) (by kernel_rfl) rfl rfl (by kernel_rfl) (by intro c a w d v h; cases d <;> exact h) (fun w2 H => ?_)
  refine pl_B 0 H rfl (h := ?_)
  refine pl_B 4 H rfl (h := ?_)
  refine pl_S (cmp_c (H.get 1 rfl) hc4 (H.get 7 rfl) hc (Nat.le_trans hlp.out (by decide)) (Nat.le_trans hl (by decide))) H Try.func14 (h := fun w3 H => ?_)
  by_cases hle : q * y ≤ x
  · have e1 : decide (sgn (q * y) x ≤ 0) = true := decide_eq_true (by unfold sgn; (repeat' split) <;> omega)
    have hres : Aside0 (decide (sgn x (q * y + y) < 0) = res) := ⟨by rw [← hr0.out, decide_eq_decide]; unfold sgn; (repeat' split) <;> omega⟩
    replace hle := Aside0.mk hle
    repeat refine pl_P (h := ?_)
    refine pl_B 4 H rfl (h := ?_)
    refine pl_B 0 H rfl (h := ?_)
    refine pl_B 3 H rfl (h := ?_)
    have ha := add_c (x := q * y) (y := y) (H.get 1 rfl) hc4 (H.get 6 rfl) hc' (Nat.le_trans hlp.out (by decide)) (Nat.le_trans hl' (by decide))
    unfold num at ha
    rw [hny] at ha
    refine pl_G ha H Try.func20 (h := fun v w4 H z4 => ?_)
    clear ha
    obtain ⟨A5, c5, rfl, hc5, hR5⟩ := num_open (H.get 0 rfl)
    refine pl_S (cmp_c (H.get 8 rfl) hc hR5 hc5 (Nat.le_trans hl (by decide)) (Nat.le_trans hlq.out (by decide))) H Try.func14 (h := fun w5 H => ?_)
    repeat refine pl_P (h := ?_)
    refine pl_done ?_
    go_wp2
    go_ret
    exact ⟨by rw [← hres.out]; rfl, H.old⟩
  · have e1 : decide (sgn (q * y) x ≤ 0) = false := decide_eq_false (by unfold sgn; (repeat' split) <;> omega)
    have hres : Aside0 (res = false) := ⟨by rw [← hr0.out]; exact decide_eq_false (fun h => hle h.1)⟩
    replace hle := Aside0.mk hle
    repeat refine pl_P (h := ?_)
    refine pl_kT H (h := ?_)
    refine pl_kT H (h := ?_)
    refine pl_kT H (h := ?_)
    refine pl_kC H (h := ?_)
    refine pl_kC H (h := ?_)
    refine pl_kP (h := ?_)
    repeat refine pl_P (h := ?_)
    refine pl_done ?_
    go_wp2
    go_ret
    exact ⟨by rw [hres.out]; rfl, H.old⟩
end
end Go.Proofs.Ytfbkgfffalppmaa.Nu
end
