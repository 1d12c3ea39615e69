/- Texts of this seat, put together (Zc18). -/
import Derived.Test.YtcbpmmcpidfllaaZc12
import Derived.Test.YtcbpmmcpidfllaaZc14
import Derived.Test.YtcbpmmcpidfllaaZc17
section
namespace Go.Proofs.Ytcbpmmcpidfllaa.Yn
set_option linter.unusedVariables false
set_option linter.unusedSimpArgs false
open Go Go.RowKit Go.Proofs.YtcbpmmcpidfllaaW.PrintWords Go.Proofs.YtcbpmmcpidfllaaW.PrintLast Go.Proofs.Ytcbpmmcpidfllaa.Hd Go.Proofs.Ytcbpmmcpidfllaa.Os Go.Proofs.Ytcbpmmcpidfllaa.Tb Go.Proofs.Ytcbpmmcpidfllaa.Tm Go.Proofs.Ytcbpmmcpidfllaa.Ro Go.Proofs.Ytcbpmmcpidfllaa.Ip Go.Proofs.Ytcbpmmcpidfllaa.Rs Go.Proofs.Ytcbpmmcpidfllaa.Rn Go.Proofs.Ytcbpmmcpidfllaa.Rp Go.Proofs.Ytcbpmmcpidfllaa.Rq Go.Proofs.Ytcbpmmcpidfllaa.Rk Go.Proofs.Ytcbpmmcpidfllaa.Ry
theorem rcheck_c {w : World} {nodes : Int} {A B : Option Addr} {is : List ByteArray} {ms : List S63} {ci cm : Nat} (hI : CS A is w) (hM : CM B ms w) (hci : is.length ≤ ci) (hcm : ms.length ≤ cm) (hl : is.length ≤ 1000) (hm : ms.length ≤ 1000) :
    Tells Try.prog 10 #[.agg #[.int .i64 nodes, .slice A is.length ci, .slice B ms.length cm]] w (.int .i64 (newE nodes is ms)) := by
  obtain ⟨K, hK⟩ := check_f (nodes := nodes) hl hm
  exact clevisref08_Check.calls K nodes A ci is B cm ms _ w hI hci hM hcm (hK K (Nat.le_refl _))
theorem arg_c {w : World} (x : Rt.RA) (g : Rt.GoodR w x) : All w w [(fun k => k < w.heap.size, CS x.A (x.is.take 40)), (fun k => k < w.heap.size, CM x.B (x.ms.take 70))] :=
  ((All.start w).arg ((held_C g.ms).imp fun W h => C_cut h _)).arg ((held_C g.is).imp fun W h => C_cut h _)
set_option maxRecDepth 100000 in
set_option maxHeartbeats 4000000 in
theorem walk (x : Rt.RA) {w : World} (g : Rt.GoodR w x) : Calls Try.prog 3 #[x.val] w fun e w' => e = .returned (.bool true) ∧ Below w.heap.size w w' := by
  have H0 := (arg_c x g).box w.heap.size 25 #[.int .i64 x.nodes, .slice x.A x.is.length x.ci, .slice x.B x.ms.length x.cm]
  have hci := g.ci
  have hcm := g.cm
  have l1 : (x.is.take 40).length ≤ x.ci := by rw [List.length_take]; omega
  have l2 : (x.ms.take 70).length ≤ x.cm := by rw [List.length_take]; omega
  have l3 : (x.is.take 40).length ≤ 1000 := by rw [List.length_take]; omega
  have l4 : (x.ms.take 70).length ≤ 1000 := by rw [List.length_take]; omega
  have hto := to_c (nodes := x.nodes) (qi := 1) (qm := 2) (is := x.is) (ms := x.ms) (ci := x.ci) (cm := x.cm) H0 rfl rfl hci hcm
  have hck := fun W (hI : CS x.A (x.is.take 40) W) (hM : CM x.B (x.ms.take 70) W) => rcheck_c (nodes := x.nodes) hI hM l1 l2 l3 l4
  obtain ⟨nodes, A, ci, is, B, cm, ms⟩ := x
  simp only at *
  unfold Rt.RA.val
  simp only
  generalize is.take 40 = xs at *
  generalize ms.take 70 = ys at *
  obtain ⟨E, hE⟩ : ∃ E, newE nodes xs ys = E := ⟨_, rfl⟩
  rw [hE] at hto hck
  have r0 := H0.rd 0 rfl
  clear hE g
  by_cases h0 : E = 0
  · subst h0
    go_enter Try.func3, Try.ntmps3
    go_wp2_with fail
    refine hto.mono ?_
    rintro e w1 ⟨p, rfl, hN⟩
    obtain ⟨h1, h2, ⟨R, bh, bi, A2, c2, B2, d2, rfl, hR, hbh, hbi, H1⟩⟩ := hN.good rfl
    clear hto hN H0 r0 h1 h2
    have H2 := H1.box w1.heap.size 25 #[.int .i64 nodes, .slice A xs.length ci, .slice B ys.length cm]
    go_wp2_with fail
    refine plan_ (true, [([], []), ([0, 0], [0]), ([1], [1]), ([1], [1]), ([3, 1, 1], [1, 3]), ([2, 4, 1], [1, 2, 4]), ([1, 5], [1, 5]), ([6, 4], [6]), ([7], [7]), ([8, 7], [7, 8]), ([7], [7]), ([10, 7], [7, 10]), ([9, 11, 7], [7, 9, 11]), ([7, 12], [7, 12]), ([13, 7], [13]), ([14], [14]), ([15, 14], [14, 15]), ([16, 14, 14], [14, 16]), ([17], [17]), ([18, 17, 17], [17, 18]), ([17], [17]), ([20, 17], [17, 20]), ([19, 21, 17], [17, 19, 21]), ([17, 22, 14], [14, 17, 22]), ([14, 23], [14, 23]), ([24, 19, 0, 1, 2, 3, 4, 5, 6, 7, 8, 9, 10, 11, 12, 13, 14, 15, 16, 17, 18, 19, 20, 21, 22, 23, 24], [24])]) [.c 0, .p 1, .p 2, .t 3, .c 4, .p 5, .p 6, .p 7, .p 8, .p 9, .p 10, .p 11, .p 12, .p 13, .p 14, .p 15, .p 16, .p 17, .p 18, .p 20, .t 21, .c 19, .p 22, .p 23, .p 24, .p 25] H2 (by kernel_rfl) (by kernel_rfl) rfl rfl (by kernel_rfl) (by intro c a w d v h; cases d <;> exact h) (fun w2 H => ?_)
    refine pl_S known_c H Try.func9 (h := fun w3 H => ?_)
    refine pl_P (h := ?_)
    refine pl_P (h := ?_)
    refine pl_B 0 H rfl (h := ?_)
    refine pl_S (hck w3 (H.at 7 rfl) (H.at 8 rfl)) H Try.func10 (h := fun w4 H => ?_)
    refine pl_P (h := ?_)
    repeat refine pl_P (h := ?_)
    refine pl_L 0 0 H rfl (h := ?_)
    refine pl_S (nodes_c H.tail) H Try.func11 (h := fun w5 H => ?_)
    refine pl_P (h := ?_)
    refine pl_P (h := ?_)
    refine pl_P (h := ?_)
    refine pl_P (h := ?_)
    refine pl_done ?_
    go_wp2
    go_ret
    exact ⟨rfl, H.old⟩
  · have hb : (E == 0) = false := by simpa using h0
    have hb2 : (E != 0) = true := by simpa using h0
    go_enter Try.func3, Try.ntmps3
    go_wp2_with fail
    refine hto.mono ?_
    rintro e w1 ⟨p, rfl, hN⟩
    obtain ⟨rfl, H1⟩ := hN.bad h0
    clear hto hN H0 r0
    have H2 := H1.box w1.heap.size 25 #[.int .i64 nodes, .slice A xs.length ci, .slice B ys.length cm]
    go_wp2_with fail
    refine plan_ (true, [([], []), ([0, 0], [0]), ([1], [1]), ([1], [1]), ([3, 1, 1], [1, 3]), ([2, 4, 1], [1, 2, 4]), ([1, 5], [1, 5]), ([6, 4], [6]), ([7], [7]), ([8, 7], [7, 8]), ([7], [7]), ([10, 7], [7, 10]), ([9, 11, 7], [7, 9, 11]), ([7, 12], [7, 12]), ([13, 7], [13]), ([14], [14]), ([15, 14], [14, 15]), ([16, 14, 14], [14, 16]), ([17], [17]), ([18, 17, 17], [17, 18]), ([17], [17]), ([20, 17], [17, 20]), ([19, 21, 17], [17, 19, 21]), ([17, 22, 14], [14, 17, 22]), ([14, 23], [14, 23]), ([24, 19, 0, 1, 2, 3, 4, 5, 6, 7, 8, 9, 10, 11, 12, 13, 14, 15, 16, 17, 18, 19, 20, 21, 22, 23, 24], [24])]) [.c 0, .p 1, .p 2, .t 3, .c 4, .p 5, .p 6, .p 7, .p 8, .p 9, .p 10, .p 11, .p 12, .p 13, .p 14, .p 15, .p 16, .p 17, .p 18, .p 20, .t 21, .c 19, .p 22, .p 23, .p 24, .p 25] H2 (by kernel_rfl) (by kernel_rfl) rfl rfl (by kernel_rfl) (by intro c a w d v h; cases d <;> exact h) (fun w2 H => ?_)
    refine pl_S known_c H Try.func9 (h := fun w3 H => ?_)
    refine pl_P (h := ?_)
    refine pl_P (h := ?_)
    refine pl_B 0 H rfl (h := ?_)
    refine pl_S (hck w3 (H.at 2 rfl) (H.at 3 rfl)) H Try.func10 (h := fun w4 H => ?_)
    repeat refine pl_P (h := ?_)
    refine pl_kP (h := ?_)
    refine pl_kP (h := ?_)
    refine pl_kT H (h := ?_)
    refine pl_kC H (h := ?_)
    refine pl_kP (h := ?_)
    refine pl_P (h := ?_)
    refine pl_P (h := ?_)
    refine pl_P (h := ?_)
    refine pl_done ?_
    go_wp2
    go_ret
    exact ⟨rfl, H.old⟩
end Go.Proofs.Ytcbpmmcpidfllaa.Yn
end
section
namespace Go.Proofs.Ytcbpmmcpidfllaa.Yr
set_option linter.unusedVariables false
set_option linter.unusedSimpArgs false
open Go Go.RowKit Go.Proofs.YtcbpmmcpidfllaaW.PrintWords Go.Proofs.YtcbpmmcpidfllaaW.PrintLast Go.Proofs.Ytcbpmmcpidfllaa.Hd Go.Proofs.Ytcbpmmcpidfllaa.Os Go.Proofs.Ytcbpmmcpidfllaa.Tb Go.Proofs.Ytcbpmmcpidfllaa.Tm Go.Proofs.Ytcbpmmcpidfllaa.Ro Go.Proofs.Ytcbpmmcpidfllaa.Ip Go.Proofs.Ytcbpmmcpidfllaa.Tp Go.Proofs.Ytcbpmmcpidfllaa.Rs Go.Proofs.Ytcbpmmcpidfllaa.Rn Go.Proofs.Ytcbpmmcpidfllaa.Rp Go.Proofs.Ytcbpmmcpidfllaa.Rq Go.Proofs.Ytcbpmmcpidfllaa.Rk Go.Proofs.Ytcbpmmcpidfllaa.Ru Go.Proofs.Ytcbpmmcpidfllaa.Ry Go.Proofs.Ytcbpmmcpidfllaa.Yq
section
variable {w w1 : World} {y : Array Value} {hD : ByteArray → Int} {hb ib : ByteArray → Bool} {a0 a4 a5 : Int} {a1 a2 a3 : ByteArray}
set_option maxRecDepth 100000 in
set_option maxHeartbeats 4000000 in
theorem rroute_c {L : List F2} (H : All w w L) (hH : ∀ W, All w W L → ∀ s, Tells Try.prog 16 #[.agg y, .string s] W (.int .i64 (hD s))) (hI : ∀ W, All w W L → ∀ s, Tells Try.prog 21 #[.agg y, .string s] W (.bool (ib s)))
    (hb1 : ∀ s, hb s = true → 0 ≤ hD s) (hb2 : ∀ s, hb s = false → hD s < 0) {q0 : Int} {q1 q2 : Value} (hy : y = #[.int .i64 q0, q1, q2]) (ho1 : q1.oneCell' = true) (ho2 : q2.oneCell' = true) {n1 n2 c1 c2 : Nat} {A1 A2 : Option Addr} (e1 : q1 = .slice A1 n1 c1) (e2 : q2 = .slice A2 n2 c2) :
    Tells Try.prog 25 #[.agg y, .agg #[.int .i64 a0, .string a1, .string a2, .string a3, .int .i64 a4, .int .i64 a5]] w (.tuple #[.int .i64 (if rE hb ib a0 a1 a2 a3 a4 a5 = 0 then hD a1 else 0), .int .i64 (if rE hb ib a0 a1 a2 a3 a4 a5 = 0 then hD a2 else 0), .int .i64 (rE hb ib a0 a1 a2 a3 a4 a5)]) := by
  subst e1 e2 hy
  have hCk := fun w => clevisref07_Check.calls 80 a0 a1 a2 a3 a4 a5 _ w (rCheck a0 a1 a2 a3 a4 a5 80 (by omega))
  have H0 := (H.box w.heap.size 25 #[.int .i64 q0, .slice A1 n1 c1, .slice A2 n2 c2]).box (w.heap.size + 1) 49 #[.int .i64 a0, .string a1, .string a2, .string a3, .int .i64 a4, .int .i64 a5]
  have r0 := H0.rd 0 rfl
  obtain ⟨E, hE⟩ : ∃ E, rE hb ib a0 a1 a2 a3 a4 a5 = E := ⟨_, rfl⟩
  rw [hE]
  unfold rE at hE
  unfold Tells
  by_cases c0 : chkT a0 a1 a2 a3 a4 a5 ≠ 0
  · rw [if_pos c0] at hE
    rw [hE] at hCk c0
    rw [if_neg c0, if_neg c0]
    clear hE
    go_enter Try.func25, Try.ntmps25
    go_wp2_with fail
    refine Tells.on (hCk _) H0 fun w1 H1 => ?_
    go_wp2
    go_ret3
    exact ⟨rfl, H1.old⟩
  have c0 : chkT a0 a1 a2 a3 a4 a5 = 0 := by omega
  rw [c0, if_neg (by decide)] at hE
  rw [c0] at hCk
  clear c0
  go_enter Try.func25, Try.ntmps25
  go_wp2_with fail
  refine Tells.on (hCk _) H0 fun w1 H1 => ?_
  clear H0 r0 hCk
  go_wp2_with fail
  refine plan_ (true, [([], []), ([], []), ([1], [1]), ([0, 2], [0, 2]), ([], []), ([], []), ([5], [5]), ([4, 6, 3], [4, 6]), ([3, 7, 0, 1, 2, 3], [3]), ([7, 8, 0, 1, 2, 3, 4, 5, 6, 7, 8], [7])]) [.t 0, .p 1, .t 2, .t 4, .p 5, .t 6, .c 3, .c 7, .p 8, .p 9] H1 (by kernel_rfl) (by kernel_rfl) rfl rfl (by kernel_rfl) (by intro c a w d v h; cases d <;> exact h) (fun w2 H2 => ?_)
  refine pl_B 1 H2 rfl (h := ?_)
  refine pl_P (h := ?_)
  refine pl_L 0 1 H2 rfl (h := ?_)
  refine pl_B 1 H2 rfl (h := ?_)
  refine pl_P (h := ?_)
  refine pl_L 0 2 H2 rfl (h := ?_)
  refine pl_S (hH w2 H2.tail.tail a1) H2 Try.func16 (h := fun w3 H3 => ?_)
  refine pl_S (hH w3 H3.tail.tail a2) H3 Try.func16 (h := fun w4 H4 => ?_)
  refine pl_P (h := ?_)
  refine pl_P (h := ?_)
  refine pl_done ?_
  have r4 := H4.rd 0 rfl
  have r5 := H4.rd 1 rfl
  have q3 := hI w4 H4.tail.tail a3
  clear H1 H2 H3 hH hI
  cases b1 : hb a1 with
  | false =>
    rw [b1] at hE
    obtain rfl : 5 = E := by rw [← hE]; rfl
    have z := hb2 _ b1
    have d1 : decide (hD a1 < 0) = true := decide_eq_true z
    clear hE hb1 hb2
    go_wp2
    go_ret3
    exact ⟨rfl, H4.old⟩
  | true =>
    have z1 := hb1 _ b1
    have d1 : decide (hD a1 < 0) = false := decide_eq_false (by omega)
    cases b2 : hb a2 with
    | false =>
      rw [b1, b2] at hE
      obtain rfl : 5 = E := by rw [← hE]; rfl
      have z := hb2 _ b2
      have d2 : decide (hD a2 < 0) = true := decide_eq_true z
      clear hE hb1 hb2
      go_wp2
      go_ret3
      exact ⟨rfl, H4.old⟩
    | true =>
      have z2 := hb1 _ b2
      have d2 : decide (hD a2 < 0) = false := decide_eq_false (by omega)
      cases b3 : ib a3 with
      | false =>
        rw [b1, b2, b3] at hE
        rw [b3] at q3
        obtain rfl : 5 = E := by rw [← hE]; rfl
        clear hE hb1 hb2
        go_wp2_with fail
        refine q3.on H4 fun w5 H5 => ?_
        go_wp2
        go_ret3
        exact ⟨rfl, H5.old⟩
      | true =>
        rw [b1, b2, b3] at hE
        rw [b3] at q3
        obtain rfl : 0 = E := by rw [← hE]; rfl
        clear hE hb1 hb2
        go_wp2_with fail
        refine q3.on H4 fun w5 H5 => ?_
        go_wp2
        go_ret3
        exact ⟨rfl, H5.old⟩
end
theorem asks_c {w0 w : World} {L : List F2} {f g : F2} {R bh bi c d : Nat} {nodes : Int} {A B : Option Addr} {lh li : Rws} {hi : ByteArray → Int} {ib : ByteArray → Bool} (H0 : All w0 w (f :: g :: bx R 73 #[.pointer (some ⟨bh, 0, none⟩), .int .i64 nodes, .pointer (some ⟨bi, 0, none⟩)] :: bx bh 97 #[.slice A lh.length c] :: ow w0.heap.size 95 2 (.slice A lh.length c) lh.length (flat lh) :: bx bi 104 #[.slice B li.length d] :: ow w0.heap.size 102 2 (.slice B li.length d) li.length (flat li) :: L)) (u1 : Up cmpS lh) (u2 : Up cmpS li) (n1 : lh.length ≤ 1000) (n2 : li.length ≤ 1000)
    (hget : ∀ s, (Tb.get cmpS lh s).getD (.int .i64 0) = .int .i64 (hi s)) (hib : ∀ s, has cmpS li s = ib s) :
    Asks w0 (f :: g :: bx R 73 #[.pointer (some ⟨bh, 0, none⟩), .int .i64 nodes, .pointer (some ⟨bi, 0, none⟩)] :: bx bh 97 #[.slice A lh.length c] :: ow w0.heap.size 95 2 (.slice A lh.length c) lh.length (flat lh) :: bx bi 104 #[.slice B li.length d] :: ow w0.heap.size 102 2 (.slice B li.length d) li.length (flat li) :: L)
      (.pointer (some ⟨R, 0, none⟩)) (fun s => .int .i64 (hi s)) (fun s => has cmpS lh s) ib := ⟨fun w' s H => by
    have := home_c (s := s) H.tail.tail u1 n1
    rw [hget] at this
    exact this, fun w' s H => by
    have := has_c (s := s) H.tail.tail u2 n2
    rw [hib] at this
    exact this⟩
theorem rE_zero {hb ib : ByteArray → Bool} {a0 a4 a5 : Int} {a1 a2 a3 : ByteArray} (h : rE hb ib a0 a1 a2 a3 a4 a5 = 0) : hb a1 = true ∧ hb a2 = true := by
  unfold rE at h
  split at h
  · contradiction
  split at h
  · rename_i q
    exact ⟨q.1, q.2.1⟩
  · contradiction
set_option maxRecDepth 100000 in
set_option maxHeartbeats 8000000 in
theorem walk (x : Rt.RA) (a0 : Int) (a1 a2 a3 : ByteArray) (a4 a5 : Int) {w : World} (g : Rt.GoodR w x) :
    Calls Try.prog 6 #[x.val, .agg #[.int .i64 a0, .string a1, .string a2, .string a3, .int .i64 a4, .int .i64 a5]] w fun e w' => e = .returned (.bool true) ∧ Below w.heap.size w w' := by
  have H0 := ((Yn.arg_c x g).box w.heap.size 25 #[.int .i64 x.nodes, .slice x.A x.is.length x.ci, .slice x.B x.ms.length x.cm]).box (w.heap.size + 1) 49 #[.int .i64 a0, .string a1, .string a2, .string a3, .int .i64 a4, .int .i64 a5]
  have hci := g.ci
  have hcm := g.cm
  have l1 : (x.is.take 40).length ≤ x.ci := by rw [List.length_take]; omega
  have l2 : (x.ms.take 70).length ≤ x.cm := by rw [List.length_take]; omega
  have l3 : (x.is.take 40).length ≤ 1000 := by rw [List.length_take]; omega
  have l4 : (x.ms.take 70).length ≤ 1000 := by rw [List.length_take]; omega
  have hto := to_c (nodes := x.nodes) (qi := 2) (qm := 3) (is := x.is) (ms := x.ms) (ci := x.ci) (cm := x.cm) H0 rfl rfl hci hcm
  have hck := fun W (hI : CS x.A (x.is.take 40) W) (hM : CM x.B (x.ms.take 70) W) => Yn.rcheck_c (nodes := x.nodes) hI hM l1 l2 l3 l4
  obtain ⟨nodes, A, ci, is, B, cm, ms⟩ := x
  simp only at *
  unfold Rt.RA.val
  simp only
  generalize is.take 40 = xs at *
  generalize ms.take 70 = ys at *
  have r0 := H0.rd 1 rfl
  clear g
  by_cases h0 : newE nodes xs ys = 0
  · rw [h0] at hto
    obtain ⟨x0, x1, x2, x3, x4, x5, hto7⟩ : ∃ x0 x1 x2 x3 x4 x5, clevislaw07_To.f a0 a1 a2 a3 a4 a5 = some (x0, x1, x2, x3, x4, x5) := ⟨_, _, _, _, _, _, Rv.to_some _ _ _ _ _ _⟩
    have hTo := fun w => clevislaw07_To.calls a0 a1 a2 a3 a4 a5 _ _ _ _ _ _ w hto7
    have hOf := fun w => clevislaw07_Of.calls x0 x1 x2 x3 x4 x5 _ _ _ _ _ _ w rfl
    clear hto7 hck
    go_enter Try.func6, Try.ntmps6
    go_wp2_with fail
    refine hto.mono ?_
    rintro e w1 ⟨p, rfl, hN⟩
    obtain ⟨h1, h2, ⟨R, bh, bi, A2, c2, B2, d2, rfl, hR, hbh, hbi, H1⟩⟩ := hN.good rfl
    have t1 := tab_home h2
    have t2 := tab_has h1
    have u1 := (ms_tab ys [] .nil h2).1
    have u2 := (is_tab xs [] .nil h1).1
    have n1 : (msE nodes [] ys).2.length ≤ 1000 := by rw [(ms_tab ys [] .nil h2).2.1]; simpa using l4
    have n2 : (isE [] xs).2.length ≤ 1000 := by rw [(is_tab xs [] .nil h1).2.1]; simpa using l3
    clear hto hN H0 r0 h0 h1 h2
    generalize (msE nodes [] ys).2 = lh at *
    generalize (isE [] xs).2 = li at *
    obtain ⟨hi, hhi⟩ : ∃ hi : ByteArray → Int, hi = fun s => if has cmpS lh s = true then homeD ys s else 0 := ⟨_, rfl⟩
    have hget : ∀ s, (Tb.get cmpS lh s).getD (.int .i64 0) = .int .i64 (hi s) := fun s => by
      subst hhi
      cases hh : has cmpS lh s with
      | true => rw [((t1 s).1 hh).1]; simp [hh]
      | false => rw [(get_none good_S u1).2 hh]; simp [hh]
    have hib : ∀ s, has cmpS li s = hasD xs s := t2
    have H2 := H1.box w1.heap.size 25 #[.int .i64 nodes, .slice A xs.length ci, .slice B ys.length cm]
    have r2 := H2.rd 6 rfl
    go_wp2_with fail
    refine Tells.on (hTo _) H2 fun w2 H3 => ?_
    have H4 := H3.box w2.heap.size 50 #[.int .i64 x0, .string x1, .string x2, .string x3, .int .i64 x4, .int .i64 x5]
    have r4 := H4.rd 0 rfl
    clear H2 r2 H3 H1
    have Q := asks_c H4 u1 u2 n1 n2 hget hib
    have hr := route_c (a0 := x0) (a1 := x1) (a2 := x2) (a3 := x3) (a4 := x4) (a5 := x5) H4 Q
    have hl := fun w' H => local_c (w := w') (a0 := x0) (a1 := x1) (a2 := x2) (a3 := x3) (a4 := x4) (a5 := x5) H Q hi (fun _ => rfl)
    have hrr := fun w' okI okM (hI : Held w' okI (CS A xs)) (hM : Held w' okM (CM B ys)) =>
      rroute_c (hb := fun s => has cmpS lh s) (ib := fun s => hasD xs s) (hD := fun s => homeD ys s) (y := #[.int .i64 nodes, .slice A xs.length ci, .slice B ys.length cm]) (a0 := x0) (a1 := x1) (a2 := x2) (a3 := x3) (a4 := x4) (a5 := x5) (((All.start w').arg hM).arg hI)
        (fun W H s => rhome_c (H.at 0 rfl) (H.at 1 rfl) l1 l2 l4 s) (fun W H s => rhas_c (H.at 0 rfl) (H.at 1 rfl) l1 l2 l3 s) (fun s h => ((t1 s).1 h).2.1) (fun s h => by rw [(t1 s).2 h]; decide) rfl rfl rfl rfl rfl
    obtain ⟨G, hG⟩ : ∃ G, rE (fun s => has cmpS lh s) (fun s => hasD xs s) x0 x1 x2 x3 x4 x5 = G := ⟨_, rfl⟩
    have e1 : G = 0 → hi x1 = homeD ys x1 := fun h => by
      rw [← hG] at h
      have := (rE_zero h).1
      subst hhi
      simp only
      rw [if_pos this]
    have e2 : G = 0 → hi x2 = homeD ys x2 := fun h => by
      rw [← hG] at h
      have := (rE_zero h).2
      subst hhi
      simp only
      rw [if_pos this]
    rw [hG] at hr
    replace hl := fun w' H => by have := hl w' H; rw [hG] at this; exact this
    simp only [hG] at hrr
    have e3 : (if G = 0 then Value.int .i64 (hi x1) else .int .i64 0) = .int .i64 (if G = 0 then homeD ys x1 else 0) := by split; rw [e1 ‹_›]; rfl
    have e4 : (if G = 0 then Value.int .i64 (hi x2) else .int .i64 0) = .int .i64 (if G = 0 then homeD ys x2 else 0) := by split; rw [e2 ‹_›]; rfl
    have e5 : (decide (G = 0) && decide (hi x1 = hi x2)) = (decide (G = 0) && decide ((if G = 0 then homeD ys x1 else 0) = (if G = 0 then homeD ys x2 else 0))) := by
      by_cases h : G = 0
      · rw [e1 h, e2 h, if_pos h, if_pos h]
      · rw [decide_eq_false h]; rfl
    rw [e3, e4] at hr
    rw [e5] at hl
    clear e1 e2 e3 e4 e5 hG hget hhi t1 t2 Q hib
    generalize (if G = 0 then homeD ys x1 else 0) = c at *
    generalize (if G = 0 then homeD ys x2 else 0) = d at *
    go_wp2_with fail
    refine hr.mono ?_
    rintro e w5 ⟨rfl, H5⟩
    clear hr H4 r4
    go_wp2_with fail
    refine plan_ (true, [([], []), ([], []), ([1], [1]), ([0, 2, 2], [0, 2]), ([3], [3]), ([4], [4]), ([4], [4]), ([4], [4]), ([5, 3, 0, 1, 2, 3, 4, 5], [5]), ([6, 8, 0, 1, 2, 3, 4, 5, 6, 8], [6]), ([7, 9, 0, 1, 2, 3, 4, 5, 6, 7, 8, 9], [7])]) [.t 0, .t 1, .c 2, .c 3, .p 4, .p 5, .p 6, .p 7, .p 8, .p 9, .p 10] H5 (by kernel_rfl) (by kernel_rfl) rfl rfl (by kernel_rfl) (by intro c a w d v h; cases d <;> exact h) (fun w6 H6 => ?_)
    refine pl_B 1 H6 rfl (h := ?_)
    refine pl_B 0 H6 rfl (h := ?_)
    refine pl_S (hOf _) H6 Try.func26 (h := fun w7 H7 => ?_)
    refine pl_S (hrr _ _ _ (H7.get 9 rfl) (H7.get 10 rfl)) H7 Try.func25 (h := fun w8 H8 => ?_)
    repeat refine pl_P (h := ?_)
    refine pl_done ?_
    clear H5 H6 H7 hOf hrr
    go_wp2_with fail
    refine known_c.on H8 fun w9 H9 => ?_
    have r9 := H9.rd 0 rfl
    go_wp2_with fail
    refine (hl _ H9).mono ?_
    rintro e w10 ⟨rfl, H10⟩
    by_cases hg0 : G = 0
    · subst hg0
      go_wp2
      go_ret
      exact ⟨by simp; exact Bool.eq_iff_iff.2 (by simp), H10.old⟩
    · go_wp2
      go_ret
      exact ⟨by simp [hg0], H10.old⟩
  · have hb : (newE nodes xs ys == 0) = false := by simpa using h0
    have hb2 : (newE nodes xs ys != 0) = true := by simpa using h0
    generalize newE nodes xs ys = E at *
    go_enter Try.func6, Try.ntmps6
    go_wp2_with fail
    refine hto.mono ?_
    rintro e w1 ⟨p, rfl, hN⟩
    obtain ⟨rfl, H1⟩ := hN.bad h0
    have H2 := H1.box w1.heap.size 25 #[.int .i64 nodes, .slice A xs.length ci, .slice B ys.length cm]
    clear hto hN H0 r0 H1
    go_wp2_with fail
    refine known_c.on H2 fun w2 H3 => ?_
    have r3 := H3.rd 0 rfl
    go_wp2_with fail
    refine (hck _ (H3.at 3 rfl) (H3.at 4 rfl)).on H3 fun w4 H4 => ?_
    go_wp2
    go_ret
    exact ⟨rfl, H4.old⟩
end Go.Proofs.Ytcbpmmcpidfllaa.Yr
end
