/- Texts of this seat, put together (Zb16). -/
import Derived.Test.YtcbpmmcpidfllaaZb12
import Derived.Test.YtcbpmmcpidfllaaZb15
section
namespace Go.Proofs.Ytcbpmmcpidfllaa.Yn
set_option linter.unusedVariables false
set_option linter.unusedSimpArgs false
open Go Go.RowKit Go.Proofs.YtcbpmmcpidfllaaW.PrintWords Go.Proofs.YtcbpmmcpidfllaaW.PrintLast Go.Proofs.Ytcbpmmcpidfllaa.Hd Go.Proofs.Ytcbpmmcpidfllaa.Os Go.Proofs.Ytcbpmmcpidfllaa.Tb Go.Proofs.Ytcbpmmcpidfllaa.Tm Go.Proofs.Ytcbpmmcpidfllaa.Ro Go.Proofs.Ytcbpmmcpidfllaa.Ip Go.Proofs.Ytcbpmmcpidfllaa.Rs Go.Proofs.Ytcbpmmcpidfllaa.Rn Go.Proofs.Ytcbpmmcpidfllaa.Rp Go.Proofs.Ytcbpmmcpidfllaa.Rq Go.Proofs.Ytcbpmmcpidfllaa.Rk Go.Proofs.Ytcbpmmcpidfllaa.Ry
theorem rcheck_c {w : World} {nodes : Int} {A B : Option Addr} {is : List ByteArray} {ms : List S63} {ci cm : Nat} (hI : CS A is w) (hM : CM B ms w) (hci : is.length ≤ ci) (hcm : ms.length ≤ cm) (hl : is.length ≤ 1000) (hm : ms.length ≤ 1000) :
    Tells Try.prog 10 #[.agg #[.int .i64 nodes, .slice A is.length ci, .slice B ms.length cm]] w (.int .i64 (newE nodes is ms)) := by
  obtain ⟨K, hK⟩ := check_f (nodes := nodes) hl hm
  exact clevisref08_Check.calls K nodes A ci is B cm ms _ w hI hci hM hcm (hK K (Nat.le_refl _))
theorem arg_c {w : World} (x : Rt.RA) (g : Rt.GoodR w x) : All w w [(fun k => k < w.heap.size, CS x.A (x.is.take 40)), (fun k => k < w.heap.size, CM x.B (x.ms.take 70))] :=
  ((All.start w).arg ((held_C g.ms).imp fun W h => C_cut h _)).arg ((held_C g.is).imp fun W h => C_cut h _)
set_option maxRecDepth 100000 in
set_option maxHeartbeats 4000000 in
theorem walk (x : Rt.RA) {w : World} (g : Rt.GoodR w x) : Calls Try.prog 3 #[x.val] w fun e w' => e = .returned (.bool true) ∧ Below w.heap.size w w' := by
  have H0 := (arg_c x g).box w.heap.size 25 #[.int .i64 x.nodes, .slice x.A x.is.length x.ci, .slice x.B x.ms.length x.cm]
  have hci := g.ci
  have hcm := g.cm
  have l1 : (x.is.take 40).length ≤ x.ci := by rw [List.length_take]; omega
  have l2 : (x.ms.take 70).length ≤ x.cm := by rw [List.length_take]; omega
  have l3 : (x.is.take 40).length ≤ 1000 := by rw [List.length_take]; omega
  have l4 : (x.ms.take 70).length ≤ 1000 := by rw [List.length_take]; omega
  have hto := to_c (nodes := x.nodes) (qi := 1) (qm := 2) (is := x.is) (ms := x.ms) (ci := x.ci) (cm := x.cm) H0 rfl rfl hci hcm
  have hck := fun W (hI : CS x.A (x.is.take 40) W) (hM : CM x.B (x.ms.take 70) W) => rcheck_c (nodes := x.nodes) hI hM l1 l2 l3 l4
  obtain ⟨nodes, A, ci, is, B, cm, ms⟩ := x
  simp only at *
  unfold Rt.RA.val
  simp only
  generalize is.take 40 = xs at *
  generalize ms.take 70 = ys at *
  obtain ⟨E, hE⟩ : ∃ E, newE nodes xs ys = E := ⟨_, rfl⟩
  rw [hE] at hto hck
  have r0 := H0.rd 0 rfl
  clear hE g
  by_cases h0 : E = 0
  · subst h0
    go_enter Try.func3, Try.ntmps3
    go_wp2_with fail
    refine hto.mono ?_
    rintro e w1 ⟨p, rfl, hN⟩
    obtain ⟨h1, h2, ⟨R, bh, bi, A2, c2, B2, d2, rfl, hR, hbh, hbi, H1⟩⟩ := hN.good rfl
    clear hto hN H0 r0 h1 h2
    have H2 := H1.box w1.heap.size 25 #[.int .i64 nodes, .slice A xs.length ci, .slice B ys.length cm]
    go_wp2_with fail
    refine plan_ (true, [([], []), ([0, 0], [0]), ([1], [1]), ([1], [1]), ([3, 1, 1], [1, 3]), ([2, 4, 1], [1, 2, 4]), ([1, 5], [1, 5]), ([6, 4], [6]), ([7], [7]), ([8, 7], [7, 8]), ([7], [7]), ([10, 7], [7, 10]), ([9, 11, 7], [7, 9, 11]), ([7, 12], [7, 12]), ([13, 7], [13]), ([14], [14]), ([15, 14], [14, 15]), ([16, 14, 14], [14, 16]), ([17], [17]), ([18, 17, 17], [17, 18]), ([17], [17]), ([20, 17], [17, 20]), ([19, 21, 17], [17, 19, 21]), ([17, 22, 14], [14, 17, 22]), ([14, 23], [14, 23]), ([24, 19, 0, 1, 2, 3, 4, 5, 6, 7, 8, 9, 10, 11, 12, 13, 14, 15, 16, 17, 18, 19, 20, 21, 22, 23, 24], [24])]) [.c 0, .p 1, .p 2, .t 3, .c 4, .p 5, .p 6, .p 7, .p 8, .p 9, .p 10, .p 11, .p 12, .p 13, .p 14, .p 15, .p 16, .p 17, .p 18, .p 20, .t 21, .c 19, .p 22, .p 23, .p 24, .p 25] H2 (by kernel_rfl) (by kernel_rfl) rfl rfl (by kernel_rfl) (by intro c a w d v h; cases d <;> exact h) (fun w2 H => ?_)
    refine pl_S known_c H Try.func9 (h := fun w3 H => ?_)
    refine pl_P (h := ?_)
    refine pl_P (h := ?_)
    refine pl_B 0 H rfl (h := ?_)
    refine pl_S (hck w3 (H.at 7 rfl) (H.at 8 rfl)) H Try.func10 (h := fun w4 H => ?_)
    refine pl_P (h := ?_)
    repeat refine pl_P (h := ?_)
    refine pl_L 0 0 H rfl (h := ?_)
    refine pl_S (nodes_c H.tail) H Try.func11 (h := fun w5 H => ?_)
    refine pl_P (h := ?_)
    refine pl_P (h := ?_)
    refine pl_P (h := ?_)
    refine pl_P (h := ?_)
    refine pl_done ?_
    go_wp2
    go_ret
    exact ⟨rfl, H.old⟩
  · have hb : (E == 0) = false := by simpa using h0
    have hb2 : (E != 0) = true := by simpa using h0
    go_enter Try.func3, Try.ntmps3
    go_wp2_with fail
    refine hto.mono ?_
    rintro e w1 ⟨p, rfl, hN⟩
    obtain ⟨rfl, H1⟩ := hN.bad h0
    clear hto hN H0 r0
    have H2 := H1.box w1.heap.size 25 #[.int .i64 nodes, .slice A xs.length ci, .slice B ys.length cm]
    go_wp2_with fail
    refine plan_ (true, [([], []), ([0, 0], [0]), ([1], [1]), ([1], [1]), ([3, 1, 1], [1, 3]), ([2, 4, 1], [1, 2, 4]), ([1, 5], [1, 5]), ([6, 4], [6]), ([7], [7]), ([8, 7], [7, 8]), ([7], [7]), ([10, 7], [7, 10]), ([9, 11, 7], [7, 9, 11]), ([7, 12], [7, 12]), ([13, 7], [13]), ([14], [14]), ([15, 14], [14, 15]), ([16, 14, 14], [14, 16]), ([17], [17]), ([18, 17, 17], [17, 18]), ([17], [17]), ([20, 17], [17, 20]), ([19, 21, 17], [17, 19, 21]), ([17, 22, 14], [14, 17, 22]), ([14, 23], [14, 23]), ([24, 19, 0, 1, 2, 3, 4, 5, 6, 7, 8, 9, 10, 11, 12, 13, 14, 15, 16, 17, 18, 19, 20, 21, 22, 23, 24], [24])]) [.c 0, .p 1, .p 2, .t 3, .c 4, .p 5, .p 6, .p 7, .p 8, .p 9, .p 10, .p 11, .p 12, .p 13, .p 14, .p 15, .p 16, .p 17, .p 18, .p 20, .t 21, .c 19, .p 22, .p 23, .p 24, .p 25] H2 (by kernel_rfl) (by kernel_rfl) rfl rfl (by kernel_rfl) (by intro c a w d v h; cases d <;> exact h) (fun w2 H => ?_)
    refine pl_S known_c H Try.func9 (h := fun w3 H => ?_)
    refine pl_P (h := ?_)
    refine pl_P (h := ?_)
    refine pl_B 0 H rfl (h := ?_)
    refine pl_S (hck w3 (H.at 2 rfl) (H.at 3 rfl)) H Try.func10 (h := fun w4 H => ?_)
    repeat refine pl_P (h := ?_)
    refine pl_kP (h := ?_)
    refine pl_kP (h := ?_)
    refine pl_kT H (h := ?_)
    refine pl_kC H (h := ?_)
    refine pl_kP (h := ?_)
    refine pl_P (h := ?_)
    refine pl_P (h := ?_)
    refine pl_P (h := ?_)
    refine pl_done ?_
    go_wp2
    go_ret
    exact ⟨rfl, H.old⟩
end Go.Proofs.Ytcbpmmcpidfllaa.Yn
end
