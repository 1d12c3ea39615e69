/- Texts of this seat, put together (Zg5). -/
import Derived.Laws.NewBlocks
import Derived.Test.YthhgcjlgnafdcaaZg4
section
namespace Go.Proofs.Ythhgcjlgnafdcaa.Nu
set_option linter.unusedSimpArgs false
set_option linter.unusedVariables false
open Go Go.RowKit Go.Proofs.YthhgcjlgnafdcaaW.PrintWords Go.Proofs.YthhgcjlgnafdcaaW.PrintLast Go.Proofs.YthhgcjlgnafdcaaW.PrintMore Go.Proofs.Ythhgcjlgnafdcaa.Hd
section
variable {w : World} {ok ok' ok3 : Nat → Prop} {A A' A3 : Option Addr} {c c' c3 : Nat} {d d' : List Int}
theorem dig_pow (q : Nat) : dig (B q * 32768) = List.replicate q 0 ++ [32768] ∧ neg (B q * 32768) = false := by
  have hp := B_pos q
  have h0 : 0 ≤ B q * 32768 := by omega
  refine ⟨?_, neg_no (by omega)⟩
  have hd : Ds (List.replicate q 0 ++ [32768]) := Ds.snoc (fun z hz => by rw [(List.mem_replicate.1 hz).2]; exact ⟨by omega, by omega⟩) ⟨by omega, by omega⟩
  have ht : Top (List.replicate q (0 : Int) ++ [32768]) := fun h => by rw [List.getLast_append_right (by simp)]; simp
  have hv : V (List.replicate q 0 ++ [32768]) = B q * 32768 := by rw [V_snoc, V_zeros, List.length_replicate]; omega
  have e := dig_of (n := false) hd ht
  rw [e]
  congr 1
  unfold val
  rw [if_neg (by simp), hv]
theorem dig_le (x : Int) (n : Nat) (h : (x.natAbs : Int) < B n) {m : Nat} (hm : n ≤ m) : (dig x).length ≤ m := Nat.le_trans (dig_len h) hm
instance (x : Int) : Decidable (I64 x) := inferInstanceAs (Decidable (_ ∧ _))
theorem B8 : B 8 = 340282366920938463463374607431768211456 := by rw [show 8 = 4 + 4 from rfl, B_add, B4]; rfl
theorem B_le8 {q : Nat} (h : q ≤ 8) : B q ≤ 340282366920938463463374607431768211456 := by rw [← B8]; exact B_mono h
set_option maxRecDepth 100000 in
set_option maxHeartbeats 1000000 in
theorem power_c (q : Nat) (hq : q ≤ 8) (less : Int) (h0 : 0 ≤ less) (h1 : less ≤ 1) : Gives Try.prog 108 #[.int .i64 (16 * (q : Int) + 15), .int .i64 less] w (Num (B q * 32768 - less)) := by
  have hu38 := Try.underlying52
  have hu36 := Try.underlying50
  have hmk : ∀ W : World, (Instr.makeSlice 50 (.int .i64 ((q : Int) + 1)) (.int .i64 ((q : Int) + 1))).run Try.prog W = .ok (.slice (some ⟨W.heap.size, 0, none⟩) (q + 1) (q + 1)) (W.alloc (.cells (madeCells #[.int .i64 0] (q + 1)) 3)) := fun W => print_make (P := Try.prog) 50 3 .i64 8 hu36 info_int (by decide) (q + 1) (by omega) W
  have e1 : (16 * (q : Int) + 15) / 16 = (q : Int) := by omega
  have e2 : (16 * (q : Int) + 15) % 16 = 15 := by omega
  have e3 : (0 : Int) ≤ 16 * (q : Int) + 15 := by omega
  unfold Gives
  go_enter Try.func108, Try.ntmps108
  have H := ((All.start w).box w.heap.size 52 #[.bool false, .slice none 0 0]).made .i64 (w.heap.size + 1) (q + 1) 3
  obtain ⟨f1, f2⟩ := ow_at (H.at 0 rfl) q (by omega) (p := 0) (by simp [List.getD_eq_getElem?_getD])
  replace H := H.store 0 rfl q 32768 (Nat.le_succ _)
  rw [World.setCell_alloc_at _ _ _ _ _ (by simp)] at H
  obtain ⟨hdp, hnp⟩ := dig_pow q
  have hset : (List.replicate (q + 1) (0 : Int)).set q 32768 = dig (B q * 32768) := by
    rw [hdp, List.replicate_succ', List.set_append_right _ _ (by simp)]
    simp
  have hlen : (dig (B q * 32768)).length = q + 1 := by rw [hdp]; simp
  have hnum : num (B q * 32768) (some ⟨w.heap.size + 1, 0, none⟩) (q + 1) = .agg #[.bool false, .slice (some ⟨w.heap.size + 1, 0, none⟩) (q + 1) (q + 1)] := by unfold num; rw [hnp, hlen]
  have hb8 := B_le8 hq
  have hbp := B_pos q
  replace hset := Aside0.mk hset
  replace hlen := Aside0.mk hlen
  replace hnum := Aside0.mk hnum
  clear hdp hnp
  have hl5 : Aside0 ((dig (-less)).length ≤ 1 ∧ (dig (B q * 32768)).length ≤ 900000) := ⟨dig_le _ 1 (by rw [B_succ, B_zero]; omega) (Nat.le_refl _), by rw [hlen.out]; omega⟩
  replace hbp := Aside0.mk hbp
  replace hb8 := Aside0.mk hb8
  go_wp2_with fail
  refine (small_c (a := -less) (by omega) (by omega)).on H fun v w1 H z1 => ?_
  obtain ⟨A2, c2, rfl, hc2, hR2⟩ := num_open (H.get 0 rfl)
  obtain ⟨_, _, hR⟩ := held_reads (H.get 1 rfl)
  rw [hset.out] at hR
  go_wp2_with fail
  rw [← hnum.out]
  refine (add_c (hR.imp fun W hW => by unfold Cs; rw [hlen.out]; exact hW) (by rw [hlen.out]; exact Nat.le_refl _) hR2 hc2 hl5.out.2 (Nat.le_trans hl5.out.1 (by decide))).on H fun v w2 H z2 => ?_
  rw [← Int.sub_eq_add_neg] at H
  obtain ⟨A3, c3, rfl, hc3, hR3⟩ := num_open (H.get 0 rfl)
  have r := H.rd 3 rfl
  have z := H.fz 3 rfl
  go_wp2
  replace H := (H.set 3 rfl 0 (.bool (neg (B q * 32768 - less)))).set 3 rfl 1 (.slice A3 (dig (B q * 32768 - less)).length c3)
  exact H.ret 3 rfl rfl rfl hu38 rfl (by kernel_rfl) rfl ⟨_, rfl, H.old, (H.get 0 rfl).out (in_le z2)⟩
theorem fits_q {x : Int} (q : Nat) (hq : q ≤ 8) (h : Held w ok (Cs A (dig x))) (hc : (dig x).length ≤ c) (hl : (dig x).length ≤ 1000000) :
    Tells Try.prog 68 #[num x A c, .int .i64 (16 * (q : Int) + 16)] w (.bool (decide (-(B q * 32768) ≤ x ∧ x < B q * 32768))) := by
  have hu38 := Try.underlying52
  have hbp := B_pos q
  have hb8 := B_le8 hq
  have hw : wrap64 (16 * (q : Int) + 16 - 1) = 16 * (q : Int) + 15 := by rw [w64 (by omega) (by omega)]; omega
  have hwk : IntKind.i64.wrap (16 * (q : Int) + 16 - 1) = 16 * (q : Int) + 15 := by rw [i64_w]; exact hw
  have hfld : ∀ (s : Bool) (A : Option Addr) (n c : Nat) (w : World), (Instr.field 52 (.agg #[.bool s, .slice A n c]) 1).run Try.prog w = .ok (.slice A n c) w := fun _ _ _ _ _ => by kernel_rfl
  have hlen : ∀ less : Int, 0 ≤ less → less ≤ 1 → (dig (B q * 32768 - less)).length ≤ 1000000 := fun less l0 l1 => dig_le _ 9 (by rw [show 9 = 8 + 1 from rfl, B_succ, B8]; omega) (by decide)
  unfold Tells num
  cases hs : neg x
  · have hx : ¬ x < 0 := of_decide_eq_false hs
    have hres : Aside0 (decide (sgn x.natAbs (B q * 32768 - 1).natAbs ≤ 0) = decide (-(B q * 32768) ≤ x ∧ x < B q * 32768)) := ⟨by
      unfold sgn
      rw [decide_eq_decide]
      split
      · constructor <;> intro _ <;> omega
      · split
        · constructor <;> intro _ <;> omega
        · constructor <;> intro _ <;> omega⟩
    clear hx
    have hp := fun w => power_c (w := w) q hq 1 (by omega) (by omega)
    have hl2 := hlen 1 (by omega) (by omega)
    clear hbp hb8 hlen hq
    generalize B q * 32768 - 1 = P at hp hl2 hres
    go_enter Try.func68, Try.ntmps68
    have H := ((All.start w).arg h).box w.heap.size 52 #[.bool false, .slice A (dig x).length c]
    go_wp2
    refine plan_ (true, [([], []), ([0], [0]), ([], []), ([2], [2]), ([3], [3]), ([4], [4]), ([1, 5, 4], [1, 5]), ([6], [6]), ([7, 6, 0, 1, 2, 3, 4, 5, 6, 7], [7])]) [.p 0, .t 1, .p 2, .p 3, .c 4, .p 5, .c 6, .p 7, .p 8] H (by kernel_rfl) (by kernel_rfl) rfl rfl (by kernel_rfl) (by intro c a w d v h; cases d <;> exact h) (fun w1 H => ?_)
    refine pl_P (h := ?_)
    refine pl_L 0 1 H rfl (h := ?_)
    repeat refine pl_P (h := ?_)
    refine pl_G (hp _) H Try.func108 (h := fun v w2 H z2 => ?_)
    obtain ⟨A3, c3, rfl, hc3, hR3⟩ := num_open (H.get 0 rfl)
    unfold num
    refine pl_P (h := ?_)
    refine pl_S (size_c (H.get 2 rfl) hc hR3 hc3 hl hl2) H Try.func88 (h := fun w3 H => ?_)
    repeat refine pl_P (h := ?_)
    refine pl_done ?_
    go_wp2
    go_ret
    exact ⟨by rw [← hres.out]; rfl, H.old⟩
  · have hx : x < 0 := of_decide_eq_true hs
    have hres : Aside0 (decide (sgn x.natAbs (B q * 32768 - 0).natAbs ≤ 0) = decide (-(B q * 32768) ≤ x ∧ x < B q * 32768)) := ⟨by
      unfold sgn
      rw [decide_eq_decide]
      split
      · constructor <;> intro _ <;> omega
      · split
        · constructor <;> intro _ <;> omega
        · constructor <;> intro _ <;> omega⟩
    clear hx
    have hp := fun w => power_c (w := w) q hq 0 (by omega) (by omega)
    have hl2 := hlen 0 (by omega) (by omega)
    clear hbp hb8 hlen hq
    generalize B q * 32768 - 0 = P at hp hl2 hres
    go_enter Try.func68, Try.ntmps68
    have H := ((All.start w).arg h).box w.heap.size 52 #[.bool true, .slice A (dig x).length c]
    go_wp2
    refine plan_ (true, [([], []), ([0], [0]), ([], []), ([2], [2]), ([3], [3]), ([4], [4]), ([1, 5, 4], [1, 5]), ([6], [6]), ([7, 6, 0, 1, 2, 3, 4, 5, 6, 7], [7])]) [.p 0, .t 1, .p 2, .p 3, .c 4, .p 5, .c 6, .p 7, .p 8] H (by kernel_rfl) (by kernel_rfl) rfl rfl (by kernel_rfl) (by intro c a w d v h; cases d <;> exact h) (fun w1 H => ?_)
    refine pl_P (h := ?_)
    refine pl_L 0 1 H rfl (h := ?_)
    repeat refine pl_P (h := ?_)
    refine pl_G (hp _) H Try.func108 (h := fun v w2 H z2 => ?_)
    obtain ⟨A3, c3, rfl, hc3, hR3⟩ := num_open (H.get 0 rfl)
    unfold num
    refine pl_P (h := ?_)
    refine pl_S (size_c (H.get 2 rfl) hc hR3 hc3 hl hl2) H Try.func88 (h := fun w3 H => ?_)
    repeat refine pl_P (h := ?_)
    refine pl_done ?_
    go_wp2
    go_ret
    exact ⟨by rw [← hres.out]; rfl, H.old⟩
def I128 (x : Int) : Prop := -170141183460469231731687303715884105728 ≤ x ∧ x ≤ 170141183460469231731687303715884105727
instance (x : Int) : Decidable (I128 x) := inferInstanceAs (Decidable (_ ∧ _))
theorem fits128_c {x : Int} (h : Held w ok (Cs A (dig x))) (hc : (dig x).length ≤ c) (hl : (dig x).length ≤ 1000000) : Tells Try.prog 68 #[num x A c, .int .i64 128] w (.bool (decide (I128 x))) := by
  have := fits_q 7 (by decide) h hc hl
  have e : decide (-(B 7 * 32768) ≤ x ∧ x < B 7 * 32768) = decide (I128 x) := by
    rw [decide_eq_decide, show 7 = 4 + 3 from rfl, B_add, B4, show B 3 = 281474976710656 by rw [B_succ, B_succ, B_succ, B_zero]; rfl]
    unfold I128
    omega
  rw [e] at this
  exact this
end
end Go.Proofs.Ythhgcjlgnafdcaa.Nu
end
