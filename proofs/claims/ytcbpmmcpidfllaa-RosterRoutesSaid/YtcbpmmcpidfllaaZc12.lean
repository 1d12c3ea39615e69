/- Texts of this seat, put together (Zc12). -/
import Derived.OwnWalk
import Derived.Test.YtcbpmmcpidfllaaZc8
import Derived.Test.YtcbpmmcpidfllaaZc11
section
namespace Go.Proofs.Ytcbpmmcpidfllaa.Rs
set_option linter.unusedVariables false
set_option linter.unusedSimpArgs false
open Go Go.RowKit Go.Proofs.YtcbpmmcpidfllaaW.PrintWords Go.Proofs.YtcbpmmcpidfllaaW.PrintLast Go.Proofs.Ytcbpmmcpidfllaa.Hd Go.Proofs.Ytcbpmmcpidfllaa.Os Go.Proofs.Ytcbpmmcpidfllaa.Tb Go.Proofs.Ytcbpmmcpidfllaa.Tm Go.Proofs.Ytcbpmmcpidfllaa.Ro Go.Proofs.Ytcbpmmcpidfllaa.Ip
section
variable {w0 w : World} {L : List F2} {R bh bi n c m d : Nat} {nodes home : Int} {A B : Option Addr} {lh li : Rws} {s : ByteArray}
def isinR (li : Rws) (s : ByteArray) : Int := if isinE s ≠ 0 then isinE s else if has cmpS li s = true then 6 else 0
def isinL (li : Rws) (s : ByteArray) : Rws := if isinE s ≠ 0 then li else put cmpS li s (.bool true)
set_option maxRecDepth 100000 in
set_option maxHeartbeats 4000000 in
theorem isin_c (H : All w0 w (bx R 73 #[.pointer (some ⟨bh, 0, none⟩), .int .i64 nodes, .pointer (some ⟨bi, 0, none⟩)] :: bx bh 97 #[.slice A n c] :: ow w0.heap.size 95 2 (.slice A n c) n (flat lh) :: bx bi 104 #[.slice B m d] :: ow w0.heap.size 102 2 (.slice B m d) m (flat li) :: L))
    (hbi : w0.heap.size ≤ bi) (hu : Up cmpS li) (h1 : Ones li) (hb : m ≤ 1000) :
    Calls Try.prog 39 #[.pointer (some ⟨R, 0, none⟩), .string s] w fun e w' => e = .returned (.int .i64 (isinR li s)) ∧ w.heap.size ≤ w'.heap.size ∧
      ∃ B' d', All w0 w' (bx R 73 #[.pointer (some ⟨bh, 0, none⟩), .int .i64 nodes, .pointer (some ⟨bi, 0, none⟩)] :: bx bh 97 #[.slice A n c] :: ow w0.heap.size 95 2 (.slice A n c) n (flat lh) :: bx bi 104 #[.slice B' (isinL li s).length d'] :: ow w0.heap.size 102 2 (.slice B' (isinL li s).length d') (isinL li s).length (flat (isinL li s)) :: L) := by
  have hm := (ow_rng (H.at 4 rfl)).1
  unfold isinR isinL
  have hi := ident_Isin.calls 1 s _ w (iIsin s 0)
  by_cases h0 : isinE s ≠ 0
  · simp only [if_pos h0]
    rw [hm]
    go_enter Try.func39, Try.ntmps39
    go_wp2_with fail
    refine hi.mono fun e w1 ⟨he, hB⟩ => ?_
    subst he
    have H1 := H.grow hB
    have hsz := hB.size
    clear hi H
    go_wp2
    go_ret
    exact ⟨rfl, hsz, B, d, H1⟩
  · simp only [if_neg h0]
    have h0 : isinE s = 0 := by omega
    rw [h0] at hi
    have hput := fun w1 (H1 : All w0 w1 _) => Tq.put_c (x := .bool true) (k := s) (i := 3) (j := 4) true rfl (L := bx R 73 #[.pointer (some ⟨bh, 0, none⟩), .int .i64 nodes, .pointer (some ⟨bi, 0, none⟩)] :: bx bh 97 #[.slice A n c] :: ow w0.heap.size 95 2 (.slice A n c) n (flat lh) :: bx bi 104 #[.slice B m d] :: ow w0.heap.size 102 2 (.slice B m d) m (flat li) :: L) H1 (by decide) rfl rfl hbi (Nat.le_refl _) H1.old.size hu h1 (by omega)
    generalize put cmpS li s (.bool true) = l2 at *
    cases hh : has cmpS li s
    all_goals
      rw [hh] at hput
      go_enter Try.func39, Try.ntmps39
      go_wp2_with fail
      refine hi.mono fun e w1 ⟨he, hB⟩ => ?_
      subst he
      have H1 := H.grow hB
      have hsz := hB.size
      have r0 := H1.rd 0 rfl
      have hput' := hput w1 H1
      clear hput hi H H1
      go_wp2_with fail
      refine hput'.mono ?_
      rintro e w2 ⟨rfl, hsz2, B', d', H2⟩
      clear hput' r0
      go_wp2
      go_ret
      exact ⟨rfl, by omega, B', d', H2⟩
def memR (nodes : Int) (lh : Rws) (s : ByteArray) (home : Int) : Int := if memN s ≠ 0 then memN s else if has cmpS lh s = true then 6 else if home < 0 ∨ home ≥ nodes then 5 else 0
def memL (nodes : Int) (lh : Rws) (s : ByteArray) (home : Int) : Rws := if memR nodes lh s home = 0 then put cmpS lh s (.int .i64 home) else lh
set_option maxRecDepth 100000 in
set_option maxHeartbeats 4000000 in
theorem member_c (H : All w0 w (bx R 73 #[.pointer (some ⟨bh, 0, none⟩), .int .i64 nodes, .pointer (some ⟨bi, 0, none⟩)] :: bx bh 97 #[.slice A n c] :: ow w0.heap.size 95 2 (.slice A n c) n (flat lh) :: bx bi 104 #[.slice B m d] :: ow w0.heap.size 102 2 (.slice B m d) m (flat li) :: L))
    (hbh : w0.heap.size ≤ bh) (hu : Up cmpS lh) (h1 : Ones lh) (hb : n ≤ 1000) :
    Calls Try.prog 40 #[.pointer (some ⟨R, 0, none⟩), .agg #[.string s, .int .i64 home]] w fun e w' => e = .returned (.int .i64 (memR nodes lh s home)) ∧ w.heap.size ≤ w'.heap.size ∧
      ∃ A' c', All w0 w' (bx R 73 #[.pointer (some ⟨bh, 0, none⟩), .int .i64 nodes, .pointer (some ⟨bi, 0, none⟩)] :: bx bh 97 #[.slice A' (memL nodes lh s home).length c'] :: ow w0.heap.size 95 2 (.slice A' (memL nodes lh s home).length c') (memL nodes lh s home).length (flat (memL nodes lh s home)) :: bx bi 104 #[.slice B m d] :: ow w0.heap.size 102 2 (.slice B m d) m (flat li) :: L) := by
  have hn := (ow_rng (H.at 2 rfl)).1
  have hi := fun w => ident_Member.calls 70 s _ w (iMember' s 70 (by omega))
  replace H := H.box w.heap.size 64 #[.string s, .int .i64 home]
  have hget : Aside0 (∀ w2, All w0 w2 (bx w.heap.size 64 #[.string s, .int .i64 home] :: bx R 73 #[.pointer (some ⟨bh, 0, none⟩), .int .i64 nodes, .pointer (some ⟨bi, 0, none⟩)] :: bx bh 97 #[.slice A n c] :: ow w0.heap.size 95 2 (.slice A n c) n (flat lh) :: bx bi 104 #[.slice B m d] :: ow w0.heap.size 102 2 (.slice B m d) m (flat li) :: L) → _) := ⟨fun w2 H2 => Ti.get_c (i := 2) (j := 3) H2 rfl rfl hu (by omega) s⟩
  by_cases h0 : memN s ≠ 0
  · have e1 : memR nodes lh s home = memN s := by unfold memR; rw [if_pos h0]
    have e2 : memL nodes lh s home = lh := by unfold memL; rw [e1, if_neg h0]
    rw [e1, e2, hn]
    clear e1 e2 hget
    go_enter Try.func40, Try.ntmps40
    go_wp2_with fail
    refine (hi _).mono fun e w1 ⟨he, hB⟩ => ?_
    subst he
    have H1 := H.grow hB
    have hsz := hB.size
    clear hi H
    go_wp2
    go_ret
    exact ⟨rfl, by simp at hsz; omega, A, c, H1.tail⟩
  · have h0' : memN s = 0 := by omega
    rw [h0'] at hi
    obtain ⟨u, hu0⟩ : ∃ u, (Tb.get cmpS lh s).getD (.int .i64 0) = u := ⟨_, rfl⟩
    have hget : Aside0 (∀ w2, All w0 w2 (bx w.heap.size 64 #[.string s, .int .i64 home] :: bx R 73 #[.pointer (some ⟨bh, 0, none⟩), .int .i64 nodes, .pointer (some ⟨bi, 0, none⟩)] :: bx bh 97 #[.slice A n c] :: ow w0.heap.size 95 2 (.slice A n c) n (flat lh) :: bx bi 104 #[.slice B m d] :: ow w0.heap.size 102 2 (.slice B m d) m (flat li) :: L) → Tells Try.prog 33 #[.pointer (some ⟨bh, 0, none⟩), .string s] w2 (.tuple #[u, .bool (has cmpS lh s)])) := ⟨fun w2 H2 => by rw [← hu0]; exact hget.out w2 H2⟩
    clear hu0
    cases hh : has cmpS lh s with
    | true =>
      have e1 : memR nodes lh s home = 6 := by unfold memR; rw [if_neg h0, if_pos hh]
      have e2 : memL nodes lh s home = lh := by unfold memL; rw [e1]; rfl
      rw [e1, e2, hn]
      rw [hh] at hget
      clear e1 e2 hh h0 h0'
      go_enter Try.func40, Try.ntmps40
      go_wp2_with fail
      refine (hi _).mono fun e w1 ⟨he, hB⟩ => ?_
      subst he
      have H1 := H.grow hB
      have hsz := hB.size
      go_wp2_with fail
      refine plan_ (true, [([], []), ([0], [0]), ([1], [1]), ([2], [2]), ([3], [3]), ([], []), ([5], [5]), ([4, 6], [4, 6]), ([7], [7]), ([8], [8]), ([8], [8]), ([9, 7, 0, 1, 2, 3, 4, 5, 6, 7, 8, 9], [9]), ([10, 11, 0, 1, 2, 3, 4, 5, 6, 7, 8, 9, 10, 11], [10])]) [.p 0, .p 1, .p 2, .p 3, .t 4, .p 5, .t 6, .c 7, .p 8, .p 9, .p 10, .p 11, .p 12] H1 (by kernel_rfl) (by kernel_rfl) rfl rfl (by kernel_rfl) (by intro c a w d v h; cases d <;> exact h) (fun w2 H2 => ?_)
      refine pl_P (h := ?_)
      refine pl_P (h := ?_)
      refine pl_P (h := ?_)
      refine pl_P (h := ?_)
      refine pl_L 1 0 H2 rfl (h := ?_)
      refine pl_P (h := ?_)
      refine pl_L 0 0 H2 rfl (h := ?_)
      have hsz2 := H2.old.size
      refine pl_S (hget.out w2 H2) H2 Try.func33 (h := fun w3 H3 => ?_)
      refine pl_P (h := ?_)
      refine pl_P (h := ?_)
      refine pl_P (h := ?_)
      refine pl_P (h := ?_)
      refine pl_P (h := ?_)
      refine pl_done ?_
      clear H1 H2
      go_wp2
      go_ret
      exact ⟨rfl, Nat.le_of_lt (blk_lt (H3.at 0 rfl)), A, c, H3.tail⟩
    | false =>
      rw [hh] at hget
      by_cases hneg : home < 0
      · have e1 : memR nodes lh s home = 5 := by unfold memR; rw [if_neg h0, if_neg (by rw [hh]; decide), if_pos (.inl hneg)]
        have e2 : memL nodes lh s home = lh := by unfold memL; rw [e1]; rfl
        have hd : decide (home < 0) = true := decide_eq_true hneg
        rw [e1, e2, hn]
        clear e1 e2 hh h0 h0'
        go_enter Try.func40, Try.ntmps40
        go_wp2_with fail
        refine (hi _).mono fun e w1 ⟨he, hB⟩ => ?_
        subst he
        have H1 := H.grow hB
        have hsz := hB.size
        go_wp2_with fail
        refine plan_ (true, [([], []), ([0], [0]), ([1], [1]), ([2], [2]), ([3], [3]), ([], []), ([5], [5]), ([4, 6], [4, 6]), ([7], [7]), ([8], [8]), ([8], [8]), ([9, 7, 0, 1, 2, 3, 4, 5, 6, 7, 8, 9], [9]), ([10, 11, 0, 1, 2, 3, 4, 5, 6, 7, 8, 9, 10, 11], [10])]) [.p 0, .p 1, .p 2, .p 3, .t 4, .p 5, .t 6, .c 7, .p 8, .p 9, .p 10, .p 11, .p 12] H1 (by kernel_rfl) (by kernel_rfl) rfl rfl (by kernel_rfl) (by intro c a w d v h; cases d <;> exact h) (fun w2 H2 => ?_)
        refine pl_P (h := ?_)
        refine pl_P (h := ?_)
        refine pl_P (h := ?_)
        refine pl_P (h := ?_)
        refine pl_L 1 0 H2 rfl (h := ?_)
        refine pl_P (h := ?_)
        refine pl_L 0 0 H2 rfl (h := ?_)
        have hsz2 := H2.old.size
        refine pl_S (hget.out w2 H2) H2 Try.func33 (h := fun w3 H3 => ?_)
        refine pl_P (h := ?_)
        refine pl_P (h := ?_)
        refine pl_P (h := ?_)
        refine pl_P (h := ?_)
        refine pl_P (h := ?_)
        refine pl_done ?_
        clear H1 H2
        go_wp2_with fail
        refine plan_ (true, [([], []), ([0], [0]), ([1], [1]), ([2], [2]), ([3], [3]), ([4, 3], [3, 4]), ([3], [3]), ([6, 3], [3, 6]), ([7, 3], [3, 7]), ([8, 3], [3, 8]), ([5, 9, 3], [3, 5, 9]), ([3, 10], [3, 10]), ([11, 3], [11])]) [.p 0, .t 1, .p 2, .p 3, .p 4, .t 5, .p 6, .p 7, .p 8, .t 9, .p 10, .p 11, .p 12] H3 (by kernel_rfl) (by kernel_rfl) rfl rfl (by kernel_rfl) (by intro c a w d v h; cases d <;> exact h) (fun w4 H4 => ?_)
        refine pl_P (h := ?_)
        refine pl_L 0 1 H4 rfl (h := ?_)
        refine pl_P (h := ?_)
        refine pl_P (h := ?_)
        refine pl_kP (h := ?_)
        refine pl_kT H4 (h := ?_)
        refine pl_kP (h := ?_)
        refine pl_kP (h := ?_)
        refine pl_kP (h := ?_)
        refine pl_kT H4 (h := ?_)
        refine pl_kP (h := ?_)
        refine pl_P (h := ?_)
        refine pl_P (h := ?_)
        refine pl_done ?_
        go_wp2
        go_ret
        exact ⟨rfl, Nat.le_of_lt (blk_lt (H4.at 0 rfl)), A, c, H4.tail⟩
      · have hd : decide (home < 0) = false := decide_eq_false hneg
        by_cases hge : home ≥ nodes
        · have e1 : memR nodes lh s home = 5 := by unfold memR; rw [if_neg h0, if_neg (by rw [hh]; decide), if_pos (.inr hge)]
          have e2 : memL nodes lh s home = lh := by unfold memL; rw [e1]; rfl
          have hg : decide (home ≥ nodes) = true := decide_eq_true hge
          rw [e1, e2, hn]
          clear e1 e2 hh h0 h0'
          go_enter Try.func40, Try.ntmps40
          go_wp2_with fail
          refine (hi _).mono fun e w1 ⟨he, hB⟩ => ?_
          subst he
          have H1 := H.grow hB
          have hsz := hB.size
          go_wp2_with fail
          refine plan_ (true, [([], []), ([0], [0]), ([1], [1]), ([2], [2]), ([3], [3]), ([], []), ([5], [5]), ([4, 6], [4, 6]), ([7], [7]), ([8], [8]), ([8], [8]), ([9, 7, 0, 1, 2, 3, 4, 5, 6, 7, 8, 9], [9]), ([10, 11, 0, 1, 2, 3, 4, 5, 6, 7, 8, 9, 10, 11], [10])]) [.p 0, .p 1, .p 2, .p 3, .t 4, .p 5, .t 6, .c 7, .p 8, .p 9, .p 10, .p 11, .p 12] H1 (by kernel_rfl) (by kernel_rfl) rfl rfl (by kernel_rfl) (by intro c a w d v h; cases d <;> exact h) (fun w2 H2 => ?_)
          refine pl_P (h := ?_)
          refine pl_P (h := ?_)
          refine pl_P (h := ?_)
          refine pl_P (h := ?_)
          refine pl_L 1 0 H2 rfl (h := ?_)
          refine pl_P (h := ?_)
          refine pl_L 0 0 H2 rfl (h := ?_)
          have hsz2 := H2.old.size
          refine pl_S (hget.out w2 H2) H2 Try.func33 (h := fun w3 H3 => ?_)
          refine pl_P (h := ?_)
          refine pl_P (h := ?_)
          refine pl_P (h := ?_)
          refine pl_P (h := ?_)
          refine pl_P (h := ?_)
          refine pl_done ?_
          clear H1 H2
          go_wp2_with fail
          refine plan_ (true, [([], []), ([0], [0]), ([1], [1]), ([2], [2]), ([3], [3]), ([4, 3], [3, 4]), ([3], [3]), ([6, 3], [3, 6]), ([7, 3], [3, 7]), ([8, 3], [3, 8]), ([5, 9, 3], [3, 5, 9]), ([3, 10], [3, 10]), ([11, 3], [11])]) [.p 0, .t 1, .p 2, .p 3, .p 4, .t 5, .p 6, .p 7, .p 8, .t 9, .p 10, .p 11, .p 12] H3 (by kernel_rfl) (by kernel_rfl) rfl rfl (by kernel_rfl) (by intro c a w d v h; cases d <;> exact h) (fun w4 H4 => ?_)
          refine pl_P (h := ?_)
          refine pl_L 0 1 H4 rfl (h := ?_)
          refine pl_P (h := ?_)
          refine pl_P (h := ?_)
          refine pl_P (h := ?_)
          refine pl_L 0 1 H4 rfl (h := ?_)
          refine pl_P (h := ?_)
          refine pl_P (h := ?_)
          refine pl_P (h := ?_)
          refine pl_L 1 1 H4 rfl (h := ?_)
          refine pl_P (h := ?_)
          refine pl_P (h := ?_)
          refine pl_P (h := ?_)
          refine pl_done ?_
          go_wp2
          go_ret
          exact ⟨rfl, Nat.le_of_lt (blk_lt (H4.at 0 rfl)), A, c, H4.tail⟩
        · have e1 : memR nodes lh s home = 0 := by unfold memR; rw [if_neg h0, if_neg (by rw [hh]; decide), if_neg (by omega)]
          have e2 : memL nodes lh s home = put cmpS lh s (.int .i64 home) := by unfold memL; rw [e1]; rfl
          have hg : decide (home ≥ nodes) = false := decide_eq_false hge
          rw [e1, e2]
          have hput := fun w1 (H1 : All w0 w1 (bx w.heap.size 64 #[.string s, .int .i64 home] :: bx R 73 #[.pointer (some ⟨bh, 0, none⟩), .int .i64 nodes, .pointer (some ⟨bi, 0, none⟩)] :: bx bh 97 #[.slice A n c] :: ow w0.heap.size 95 2 (.slice A n c) n (flat lh) :: bx bi 104 #[.slice B m d] :: ow w0.heap.size 102 2 (.slice B m d) m (flat li) :: L)) => Ti.put_c (x := .int .i64 home) (k := s) (i := 2) (j := 3) home rfl H1 (by decide) rfl rfl hbh (Nat.le_refl _) H1.old.size hu h1 (by omega)
          generalize put cmpS lh s (.int .i64 home) = l2 at *
          rw [hh] at hput
          clear e1 e2 hh h0 h0'
          go_enter Try.func40, Try.ntmps40
          go_wp2_with fail
          refine (hi _).mono fun e w1 ⟨he, hB⟩ => ?_
          subst he
          have H1 := H.grow hB
          have hsz := hB.size
          go_wp2_with fail
          refine plan_ (true, [([], []), ([0], [0]), ([1], [1]), ([2], [2]), ([3], [3]), ([], []), ([5], [5]), ([4, 6], [4, 6]), ([7], [7]), ([8], [8]), ([8], [8]), ([9, 7, 0, 1, 2, 3, 4, 5, 6, 7, 8, 9], [9]), ([10, 11, 0, 1, 2, 3, 4, 5, 6, 7, 8, 9, 10, 11], [10])]) [.p 0, .p 1, .p 2, .p 3, .t 4, .p 5, .t 6, .c 7, .p 8, .p 9, .p 10, .p 11, .p 12] H1 (by kernel_rfl) (by kernel_rfl) rfl rfl (by kernel_rfl) (by intro c a w d v h; cases d <;> exact h) (fun w2 H2 => ?_)
          refine pl_P (h := ?_)
          refine pl_P (h := ?_)
          refine pl_P (h := ?_)
          refine pl_P (h := ?_)
          refine pl_L 1 0 H2 rfl (h := ?_)
          refine pl_P (h := ?_)
          refine pl_L 0 0 H2 rfl (h := ?_)
          have hsz2 := H2.old.size
          refine pl_S (hget.out w2 H2) H2 Try.func33 (h := fun w3 H3 => ?_)
          refine pl_P (h := ?_)
          refine pl_P (h := ?_)
          refine pl_P (h := ?_)
          refine pl_P (h := ?_)
          refine pl_P (h := ?_)
          refine pl_done ?_
          clear H1 H2
          go_wp2_with fail
          refine plan_ (true, [([], []), ([0], [0]), ([1], [1]), ([2], [2]), ([3], [3]), ([4, 3], [3, 4]), ([3], [3]), ([6, 3], [3, 6]), ([7, 3], [3, 7]), ([8, 3], [3, 8]), ([5, 9, 3], [3, 5, 9]), ([3, 10], [3, 10]), ([11, 3], [11])]) [.p 0, .t 1, .p 2, .p 3, .p 4, .t 5, .p 6, .p 7, .p 8, .t 9, .p 10, .p 11, .p 12] H3 (by kernel_rfl) (by kernel_rfl) rfl rfl (by kernel_rfl) (by intro c a w d v h; cases d <;> exact h) (fun w4 H4 => ?_)
          refine pl_P (h := ?_)
          refine pl_L 0 1 H4 rfl (h := ?_)
          refine pl_P (h := ?_)
          refine pl_P (h := ?_)
          refine pl_P (h := ?_)
          refine pl_L 0 1 H4 rfl (h := ?_)
          refine pl_P (h := ?_)
          refine pl_P (h := ?_)
          refine pl_P (h := ?_)
          refine pl_L 1 1 H4 rfl (h := ?_)
          refine pl_P (h := ?_)
          refine pl_P (h := ?_)
          refine pl_P (h := ?_)
          refine pl_done ?_
          go_wp2_with fail
          refine planD_ [9] (true, [([], []), ([0], [0]), ([1], [1]), ([2], [2]), ([3], [3]), ([], []), ([5], [5]), ([], []), ([7], [7]), ([4, 6, 8], [4, 6, 8])]) [.p 0, .p 1, .p 2, .p 3, .t 4, .p 5, .t 6, .p 7, .t 8, .l 9] H4 (by kernel_rfl) (by kernel_rfl) rfl rfl (by kernel_rfl) (by intro c a w d v h; cases d <;> exact h) (fun w5 H5 => ?_)
          refine pl_P (h := ?_)
          refine pl_P (h := ?_)
          refine pl_P (h := ?_)
          refine pl_P (h := ?_)
          refine pl_L 1 0 H5 rfl (h := ?_)
          refine pl_P (h := ?_)
          refine pl_L 0 0 H5 rfl (h := ?_)
          refine pl_P (h := ?_)
          refine pl_L 0 1 H5 rfl (h := ?_)
          refine pl_callL Try.func51 #[.pointer (some ⟨bh, 0, none⟩), .string s, .int .i64 home] ?_
          refine (hput w5 H5).mono ?_
          rintro e w6 ⟨rfl, hsz6, A', c', H6⟩
          refine ⟨_, rfl, pl_done ?_⟩
          clear H4 H5 H3 hput
          go_wp2
          go_ret
          exact ⟨rfl, Nat.le_of_lt (blk_lt (H6.at 0 rfl)), A', c', H6.tail⟩
end
end Go.Proofs.Ytcbpmmcpidfllaa.Rs
end
section
namespace Go.Proofs.Ytcbpmmcpidfllaa.Rn
set_option linter.unusedVariables false
set_option linter.unusedSimpArgs false
open Go Go.RowKit Go.Proofs.YtcbpmmcpidfllaaW.PrintWords Go.Proofs.YtcbpmmcpidfllaaW.PrintLast Go.Proofs.Ytcbpmmcpidfllaa.Hd Go.Proofs.Ytcbpmmcpidfllaa.Os Go.Proofs.Ytcbpmmcpidfllaa.Tb Go.Proofs.Ytcbpmmcpidfllaa.Tm Go.Proofs.Ytcbpmmcpidfllaa.Ro Go.Proofs.Ytcbpmmcpidfllaa.Ip Go.Proofs.Ytcbpmmcpidfllaa.Rs
theorem of_i {w : World} : Calls Try.prog 37 #[.slice none 0 0] w fun e w' => e = .returned (.pointer (some ⟨w.heap.size, 0, none⟩)) ∧ w' = w.alloc (.cells #[.slice none 0 0] 97) := by
  go_enter Try.func37, Try.ntmps37
  go_wp2_with fail
  go_loopg [10] 0 (fun kx s10 wr => s10 = .int .i64 0 ∧ wr = w.alloc (.cells #[.slice none 0 0] 97))
  case atStart => exact ⟨rfl, rfl⟩
  case round =>
    obtain ⟨rfl, rfl⟩ := hrel
    go_wp2
    go_ret
    exact ⟨rfl, rfl⟩
theorem of_q {w : World} : Calls Try.prog 38 #[.slice none 0 0] w fun e w' => e = .returned (.pointer (some ⟨w.heap.size, 0, none⟩)) ∧ w' = w.alloc (.cells #[.slice none 0 0] 104) := by
  go_enter Try.func38, Try.ntmps38
  go_wp2_with fail
  go_loopg [10] 0 (fun kx s10 wr => s10 = .int .i64 0 ∧ wr = w.alloc (.cells #[.slice none 0 0] 104))
  case atStart => exact ⟨rfl, rfl⟩
  case round =>
    obtain ⟨rfl, rfl⟩ := hrel
    go_wp2
    go_ret
    exact ⟨rfl, rfl⟩
abbrev CS (A : Option Addr) (l : List ByteArray) (W : World) : Prop := Kd.C Kd.string W A l.length l
abbrev CM (A : Option Addr) (l : List S63) (W : World) : Prop := Kd.C k63 W A l.length l
def isE : Rws → List ByteArray → Int × Rws
  | li, [] => (0, li)
  | li, s :: r => if isinR li s ≠ 0 then (isinR li s, li) else isE (isinL li s) r
def msE (nodes : Int) : Rws → List S63 → Int × Rws
  | lh, [] => (0, lh)
  | lh, x :: r => if memR nodes lh x.f0 x.f1 ≠ 0 then (memR nodes lh x.f0 x.f1, lh) else msE nodes (memL nodes lh x.f0 x.f1) r
def newE (nodes : Int) (is : List ByteArray) (ms : List S63) : Int := if nodes < 1 ∨ nodes > 3 then 1 else if is.length > 32 ∨ ms.length > 64 then 2 else if (isE [] is).1 ≠ 0 then (isE [] is).1 else (msE nodes [] ms).1
structure Ok (l : Rws) (i : Nat) : Prop where
  up : Up cmpS l
  one : Ones l
  len : l.length ≤ i
theorem ok_nil : Ok [] 0 := ⟨.nil, (fun _ h => by cases h), Nat.le_refl _⟩
theorem put_le {l : Rws} {k : ByteArray} {x : Value} : (put cmpS l k x).length ≤ l.length + 1 := by
  cases h : has cmpS l k
  · rw [put_len h]; omega
  · rw [put_len_has h]; omega
theorem Ok.put {l : Rws} {i : Nat} (h : Ok l i) {k : ByteArray} {x : Value} (hx : x.oneCell' = true) : Ok (Tb.put cmpS l k x) (i + 1) := ⟨put_up good_S h.up, h.one.put hx, Nat.le_trans put_le (by have := h.len; omega)⟩
theorem Ok.wide {l : Rws} {i : Nat} (h : Ok l i) : Ok l (i + 1) := ⟨h.up, h.one, by have := h.len; omega⟩
theorem ok_isin {l : Rws} {i : Nat} (h : Ok l i) (s : ByteArray) : Ok (isinL l s) (i + 1) := by
  unfold isinL
  split
  · exact h.wide
  · exact h.put rfl
theorem ok_mem {nodes home : Int} {l : Rws} {i : Nat} (h : Ok l i) (s : ByteArray) : Ok (memL nodes l s home) (i + 1) := by
  unfold memL
  split
  · exact h.put rfl
  · exact h.wide
structure Has (w0 w : World) (nodes : Int) (lh li : Rws) (L : List F2) (p : Option Addr) : Prop where
  at_ : ∃ R bh bi A c B d, p = some ⟨R, 0, none⟩ ∧ w0.heap.size ≤ R ∧ w0.heap.size ≤ bh ∧ w0.heap.size ≤ bi ∧ All w0 w (bx R 73 #[.pointer (some ⟨bh, 0, none⟩), .int .i64 nodes, .pointer (some ⟨bi, 0, none⟩)] :: bx bh 97 #[.slice A lh.length c] :: ow w0.heap.size 95 2 (.slice A lh.length c) lh.length (flat lh) :: bx bi 104 #[.slice B li.length d] :: ow w0.heap.size 102 2 (.slice B li.length d) li.length (flat li) :: L)
structure New (w0 w : World) (nodes : Int) (is : List ByteArray) (ms : List S63) (L : List F2) (p : Option Addr) (E : Int) : Prop where
  bad : E ≠ 0 → p = none ∧ All w0 w L
  good : E = 0 → (isE [] is).1 = 0 ∧ (msE nodes [] ms).1 = 0 ∧ Has w0 w nodes (msE nodes [] ms).2 (isE [] is).2 L p
section
variable {w0 w : World} {L : List F2} {qi qm ci cm : Nat} {nodes : Int} {Ai Am : Option Addr} {is : List ByteArray} {ms : List S63} {okI okM : Nat → Prop}
set_option maxRecDepth 100000 in
set_option maxHeartbeats 4000000 in
theorem new_c (H : All w0 w L) (hqi : L[qi]? = some (okI, CS Ai is)) (hqm : L[qm]? = some (okM, CM Am ms)) (hci : is.length ≤ ci) (hcm : ms.length ≤ cm) :
    Calls Try.prog 29 #[.int .i64 nodes, .slice Ai is.length ci, .slice Am ms.length cm] w fun e w' => ∃ p, e = .returned (.tuple #[.pointer p, .int .i64 (newE nodes is ms)]) ∧ New w0 w' nodes is ms L p (newE nodes is ms) := by
  by_cases c1 : nodes < 1 ∨ nodes > 3
  · have e1 : newE nodes is ms = 1 := by unfold newE; rw [if_pos c1]
    rw [e1]
    clear e1
    by_cases c2 : nodes < 1
    · go_enter Try.func29, Try.ntmps29
      go_wp2
      go_ret2
      exact ⟨none, rfl, ⟨fun _ => ⟨rfl, H⟩, fun h => absurd h (by decide)⟩⟩
    · have c3 : 3 < nodes := by omega
      go_enter Try.func29, Try.ntmps29
      go_wp2
      go_ret2
      exact ⟨none, rfl, ⟨fun _ => ⟨rfl, H⟩, fun h => absurd h (by decide)⟩⟩
  have n1 : 1 ≤ nodes := by omega
  have n3 : nodes ≤ 3 := by omega
  by_cases c2 : is.length > 32 ∨ ms.length > 64
  · have e1 : newE nodes is ms = 2 := by unfold newE; rw [if_neg c1, if_pos c2]
    rw [e1]
    clear e1 c1
    rcases Nat.lt_or_ge 32 is.length with c3 | c3
    · have c4 : (32 : Int) < (is.length : Int) := by omega
      go_enter Try.func29, Try.ntmps29
      go_wp2
      go_ret2
      exact ⟨none, rfl, ⟨fun _ => ⟨rfl, H⟩, fun h => absurd h (by decide)⟩⟩
    · have c4 : (64 : Int) < (ms.length : Int) := by omega
      have c5 : (is.length : Int) ≤ 32 := by omega
      go_enter Try.func29, Try.ntmps29
      go_wp2
      go_ret2
      exact ⟨none, rfl, ⟨fun _ => ⟨rfl, H⟩, fun h => absurd h (by decide)⟩⟩
  have e0 : newE nodes is ms = if (isE [] is).1 ≠ 0 then (isE [] is).1 else (msE nodes [] ms).1 := by unfold newE; rw [if_neg c1, if_neg c2]
  have l1 : (is.length : Int) ≤ 32 := by omega
  have l2 : (ms.length : Int) ≤ 64 := by omega
  obtain ⟨E, hE⟩ : ∃ E, newE nodes is ms = E := ⟨_, rfl⟩
  rw [hE] at e0 ⊢
  replace e0 := Aside0.mk e0
  clear c1 c2 hE
  have H0 := (((((H.row w0.heap.size 102 2).row w0.heap.size 95 2).box w.heap.size 97 #[.slice none 0 0]).box (w.heap.size + 1) 104 #[.slice none 0 0]).box (w.heap.size + 1 + 1) 73 #[.pointer (some ⟨w.heap.size, 0, none⟩), .int .i64 nodes, .pointer (some ⟨w.heap.size + 1, 0, none⟩)]).perm (.cons _ ((List.Perm.swap _ _ _).trans (.cons _ (.swap _ _ _))))
  have hw0 := H.old.size
  clear H
  go_enter Try.func29, Try.ntmps29
  go_wp2_with fail
  refine of_i.mono ?_
  rintro e w1 ⟨rfl, rfl⟩
  go_wp2_with fail
  refine of_q.mono ?_
  rintro e w2 ⟨rfl, rfl⟩
  go_wp2_with fail
  go_loopg [39] is.length (fun kx s39 wr => ∃ (i : Nat) (li : Rws) (B : Option Addr) (d : Nat), s39 = .int .i64 (i : Int) ∧ i ≤ is.length ∧ is.length - i ≤ kx ∧ Aside0 (Ok li i ∧ isE [] is = isE li (is.drop i)) ∧
    All w0 wr (bx (w.heap.size + 1 + 1) 73 #[.pointer (some ⟨w.heap.size, 0, none⟩), .int .i64 nodes, .pointer (some ⟨w.heap.size + 1, 0, none⟩)] :: bx w.heap.size 97 #[.slice none 0 0] :: ow w0.heap.size 95 2 (.slice none 0 0) 0 (flat []) :: bx (w.heap.size + 1) 104 #[.slice B li.length d] :: ow w0.heap.size 102 2 (.slice B li.length d) li.length (flat li) :: L))
  case atStart => exact ⟨0, [], none, 0, rfl, Nat.zero_le _, by omega, ⟨ok_nil, rfl⟩, H0⟩
  case round =>
    clear H0
    obtain ⟨i, li, B, d, rfl, hil, hik, hok, H⟩ := hrel
    by_cases hlt : i < is.length
    · have hli : (i : Int) < (is.length : Int) := by omega
      obtain ⟨ad, rfl, hc0⟩ := Kd.at_string (H.at (qi + 5) hqi) (i : Int) (by omega) hli
      rw [Int.toNat_natCast] at hc0
      obtain ⟨s, hs⟩ : ∃ s, is[i] = s := ⟨_, rfl⟩
      have e1 : rdOf ByteArray.empty is (i : Int) = s := by unfold rdOf; rw [Int.toNat_natCast, List.getD_eq_getElem?_getD, List.getElem?_eq_getElem hlt, hs]; rfl
      rw [e1] at hc0
      have e2 : isE li (is.drop i) = if isinR li s ≠ 0 then (isinR li s, li) else isE (isinL li s) (is.drop (i + 1)) := by rw [List.drop_eq_getElem_cons hlt, hs, isE]
      have hlen := hok.out.1.len
      have hcall := isin_c (s := s) H (by omega) hok.out.1.up hok.out.1.one (by omega)
      obtain ⟨r, hr⟩ : ∃ r, isinR li s = r := ⟨_, rfl⟩
      rw [hr] at hcall e2
      have e3 := hok.out.2.trans e2
      replace e3 := Aside0.mk e3
      clear e1 e2
      by_cases hz : r = 0
      · subst hz
        go_wp2_with fail
        refine hcall.mono ?_
        rintro e w3 ⟨rfl, hsz, B', d', H2⟩
        clear hcall H hc0
        go_wp2_with fail
        go_roundg (is.length - (i + 1))
        case measure => omega
        case rel => exact ⟨i + 1, isinL li s, B', d', rfl, by omega, by omega, ⟨ok_isin hok.out.1 s, by rw [e3.out]; simp⟩, H2⟩
      · go_wp2_with fail
        refine hcall.mono ?_
        rintro e w3 ⟨rfl, hsz, B', d', H2⟩
        clear hcall H hc0
        have hE : E = r := by rw [e0.out, e3.out]; simp [hz]
        subst hE
        clear e3 hr
        go_wp2
        go_ret2
        exact ⟨none, rfl, ⟨fun _ => ⟨rfl, H2.drop 5⟩, fun h => absurd h hz⟩⟩
    · obtain rfl : i = is.length := by omega
      have e3 : isE [] is = (0, li) := by rw [hok.out.2, List.drop_length, isE]
      replace e3 := Aside0.mk e3
      clear hok hlt hik
      go_wp2_with fail
      go_loopg [52] ms.length (fun kx s52 w4 => ∃ (j : Nat) (lh : Rws) (A : Option Addr) (c : Nat), s52 = .int .i64 (j : Int) ∧ j ≤ ms.length ∧ ms.length - j ≤ kx ∧ Aside0 (Ok lh j ∧ msE nodes [] ms = msE nodes lh (ms.drop j)) ∧
        All w0 w4 (bx (w.heap.size + 1 + 1) 73 #[.pointer (some ⟨w.heap.size, 0, none⟩), .int .i64 nodes, .pointer (some ⟨w.heap.size + 1, 0, none⟩)] :: bx w.heap.size 97 #[.slice A lh.length c] :: ow w0.heap.size 95 2 (.slice A lh.length c) lh.length (flat lh) :: bx (w.heap.size + 1) 104 #[.slice B li.length d] :: ow w0.heap.size 102 2 (.slice B li.length d) li.length (flat li) :: L))
      case atStart => exact ⟨0, [], none, 0, rfl, Nat.zero_le _, by omega, ⟨ok_nil, rfl⟩, H⟩
      case round =>
        clear H
        obtain ⟨j, lh, A, c, rfl, hjl, hjk, hok, H⟩ := hrel
        by_cases hlt : j < ms.length
        · have hlj : (j : Int) < (ms.length : Int) := by omega
          obtain ⟨ad, rfl, hc0, hc1⟩ := at_T63 (H.at (qm + 5) hqm) (j : Int) (by omega) hlj
          rw [Int.toNat_natCast] at hc0 hc1
          obtain ⟨x, hx⟩ : ∃ x, ms[j] = x := ⟨_, rfl⟩
          have e1 : rd_T63 ms (j : Int) = x := by unfold rd_T63; rw [Int.toNat_natCast, List.getD_eq_getElem?_getD, List.getElem?_eq_getElem hlt, hx]; rfl
          rw [e1] at hc0 hc1
          have e2 : msE nodes lh (ms.drop j) = if memR nodes lh x.f0 x.f1 ≠ 0 then (memR nodes lh x.f0 x.f1, lh) else msE nodes (memL nodes lh x.f0 x.f1) (ms.drop (j + 1)) := by rw [List.drop_eq_getElem_cons hlt, hx, msE]
          have hlen := hok.out.1.len
          have hM := H.box _ 64 #[.string x.f0, .int .i64 x.f1] rfl
          have r0 := hM.rd 0 rfl
          have hcall := member_c (s := x.f0) (home := x.f1) (H.any (.cells #[.string x.f0, .int .i64 x.f1] 64 (0, 0))) hw0 hok.out.1.up hok.out.1.one (by omega)
          obtain ⟨r, hr⟩ : ∃ r, memR nodes lh x.f0 x.f1 = r := ⟨_, rfl⟩
          rw [hr] at hcall e2
          have e4 := hok.out.2.trans e2
          replace e4 := Aside0.mk e4
          clear e1 e2 hM hx
          by_cases hz : r = 0
          · subst hz
            go_wp2_with fail
            refine hcall.mono ?_
            rintro e w5 ⟨rfl, hsz, A', c', H2⟩
            clear hcall H hc0 hc1 r0
            go_wp2_with fail
            go_roundg (ms.length - (j + 1))
            case measure => omega
            case rel => exact ⟨j + 1, memL nodes lh x.f0 x.f1, A', c', rfl, by omega, by omega, ⟨ok_mem hok.out.1 x.f0, by rw [e4.out]; simp⟩, H2⟩
          · go_wp2_with fail
            refine hcall.mono ?_
            rintro e w5 ⟨rfl, hsz, A', c', H2⟩
            clear hcall H hc0 hc1 r0
            have hE : E = r := by rw [e0.out, e3.out, e4.out]; simp [hz]
            subst hE
            clear e4 hr
            go_wp2
            go_ret2
            exact ⟨none, rfl, ⟨fun _ => ⟨rfl, H2.drop 5⟩, fun h => absurd h hz⟩⟩
        · obtain rfl : j = ms.length := by omega
          have e4 : msE nodes [] ms = (0, lh) := by rw [hok.out.2, List.drop_length, msE]
          have hE : E = 0 := by rw [e0.out, e3.out, e4]; simp
          have e5 := e3.out
          subst hE
          replace e4 := Aside0.mk e4
          clear hok hlt hjk e5
          go_wp2
          go_ret2
          refine ⟨some ⟨w.heap.size + 1 + 1, 0, none⟩, rfl, ⟨fun h => absurd rfl h, fun _ => ⟨by rw [e3.out], by rw [e4.out], ⟨w.heap.size + 1 + 1, w.heap.size, w.heap.size + 1, A, c, B, d, rfl, by omega, hw0, by omega, ?_⟩⟩⟩⟩
          rw [e3.out, e4.out]
          exact H
end
end Go.Proofs.Ytcbpmmcpidfllaa.Rn
end
section
namespace Go.Proofs.Ytcbpmmcpidfllaa.Rq
set_option linter.unusedVariables false
set_option linter.unusedSimpArgs false
open Go Go.RowKit Go.Proofs.YtcbpmmcpidfllaaW.PrintWords Go.Proofs.YtcbpmmcpidfllaaW.PrintLast Go.Proofs.Ytcbpmmcpidfllaa.Hd Go.Proofs.Ytcbpmmcpidfllaa.Os Go.Proofs.Ytcbpmmcpidfllaa.Tb Go.Proofs.Ytcbpmmcpidfllaa.Tm Go.Proofs.Ytcbpmmcpidfllaa.Ro Go.Proofs.Ytcbpmmcpidfllaa.Ip Go.Proofs.Ytcbpmmcpidfllaa.Rs Go.Proofs.Ytcbpmmcpidfllaa.Rn
section
variable {w0 w : World} {L : List F2} {R bh bi n c m d : Nat} {nodes : Int} {A B : Option Addr} {lh li : Rws} {s : ByteArray}
theorem nodes_c (H : All w0 w (bx R 73 #[.pointer (some ⟨bh, 0, none⟩), .int .i64 nodes, .pointer (some ⟨bi, 0, none⟩)] :: L)) : Tells Try.prog 11 #[.pointer (some ⟨R, 0, none⟩)] w (.int .i64 nodes) := by
  have H' : All w w [(_, _)] := (All.start w).arg (H.get 0 rfl)
  clear H
  unfold Tells
  go_enter Try.func11, Try.ntmps11
  have r0 := H'.rd 0 rfl
  go_wp2
  go_ret
  exact ⟨rfl, Below.refl _ _⟩
theorem nodes_nil : Tells Try.prog 11 #[.pointer none] w (.int .i64 0) := by
  unfold Tells
  go_enter Try.func11, Try.ntmps11
  go_wp2
  go_ret
  exact ⟨rfl, Below.refl _ _⟩
theorem home_c (H : All w0 w (bx R 73 #[.pointer (some ⟨bh, 0, none⟩), .int .i64 nodes, .pointer (some ⟨bi, 0, none⟩)] :: bx bh 97 #[.slice A n c] :: ow w0.heap.size 95 2 (.slice A n c) n (flat lh) :: L)) (hu : Up cmpS lh) (hb : n ≤ 1000) :
    Tells Try.prog 13 #[.pointer (some ⟨R, 0, none⟩), .string s] w (.tuple #[(Tb.get cmpS lh s).getD (.int .i64 0), .int .i64 (if has cmpS lh s = true then 0 else 5)]) := by
  have hg := Ti.get_c (i := 1) (j := 2) H rfl rfl hu (by omega) s
  have H' : All w w [(_, _)] := (All.start w).arg (H.get 0 rfl)
  clear H
  unfold Tells
  cases hh : has cmpS lh s with
  | true =>
    rw [hh] at hg
    generalize (Tb.get cmpS lh s).getD (.int .i64 0) = u at *
    go_enter Try.func13, Try.ntmps13
    have r0 := H'.rd 0 rfl
    go_wp2_with fail
    refine hg.on H' fun w1 H1 => ?_
    go_wp2
    go_ret2
    exact ⟨rfl, H1.old⟩
  | false =>
    have e : Tb.get cmpS lh s = none := (get_none good_S hu).2 hh
    rw [hh] at hg
    rw [e] at hg ⊢
    go_enter Try.func13, Try.ntmps13
    have r0 := H'.rd 0 rfl
    go_wp2_with fail
    refine hg.on H' fun w1 H1 => ?_
    go_wp2
    go_ret2
    exact ⟨rfl, H1.old⟩
theorem home_nil : Tells Try.prog 13 #[.pointer none, .string s] w (.tuple #[.int .i64 0, .int .i64 5]) := by
  unfold Tells
  go_enter Try.func13, Try.ntmps13
  go_wp2
  go_ret2
  exact ⟨rfl, Below.refl _ _⟩
theorem has_c (H : All w0 w (bx R 73 #[.pointer (some ⟨bh, 0, none⟩), .int .i64 nodes, .pointer (some ⟨bi, 0, none⟩)] :: bx bh 97 #[.slice A n c] :: ow w0.heap.size 95 2 (.slice A n c) n (flat lh) :: bx bi 104 #[.slice B m d] :: ow w0.heap.size 102 2 (.slice B m d) m (flat li) :: L)) (hu : Up cmpS li) (hb : m ≤ 1000) :
    Tells Try.prog 20 #[.pointer (some ⟨R, 0, none⟩), .string s] w (.bool (has cmpS li s)) := by
  have hg := Tq.get_c (i := 3) (j := 4) H rfl rfl hu (by omega) s
  have H' : All w w [(_, _)] := (All.start w).arg (H.get 0 rfl)
  clear H
  unfold Tells
  generalize (Tb.get cmpS li s).getD (.bool false) = u at *
  generalize has cmpS li s = q at *
  go_enter Try.func20, Try.ntmps20
  have r0 := H'.rd 0 rfl
  go_wp2_with fail
  refine hg.on H' fun w1 H1 => ?_
  go_wp2
  go_ret
  exact ⟨rfl, H1.old⟩
theorem has_nil : Tells Try.prog 20 #[.pointer none, .string s] w (.bool false) := by
  unfold Tells
  go_enter Try.func20, Try.ntmps20
  go_wp2
  go_ret
  exact ⟨rfl, Below.refl _ _⟩
def pe (node : Int) : Nat → List Int
  | 0 => []
  | i + 1 => if (i : Int) = node then pe node i else pe node i ++ [(i : Int)]
theorem pe_len (node : Int) : ∀ i, (pe node i).length ≤ i
  | 0 => Nat.le_refl _
  | i + 1 => by
    have := pe_len node i
    unfold pe
    split
    · omega
    · rw [List.length_append]; simp; omega
theorem peers_nil {node : Int} : Tells Try.prog 14 #[.pointer none, .int .i64 node] w (.slice none 0 0) := by
  unfold Tells
  have H0 := All.start w
  by_cases h : node < 0
  · go_enter Try.func14, Try.ntmps14
    go_wp2
    go_ret
    exact ⟨rfl, Below.refl _ _⟩
  · have h2 : (0 : Int) ≤ node := by omega
    go_enter Try.func14, Try.ntmps14
    go_wp2_with fail
    refine nodes_nil.on H0 fun w1 H1 => ?_
    go_wp2
    go_ret
    exact ⟨rfl, H1.old⟩
theorem peers_c {node : Int} (H : All w0 w (bx R 73 #[.pointer (some ⟨bh, 0, none⟩), .int .i64 nodes, .pointer (some ⟨bi, 0, none⟩)] :: L)) (h0 : 0 ≤ node) (h1 : node < nodes) (h3 : nodes ≤ 3) :
    Calls Try.prog 14 #[.pointer (some ⟨R, 0, none⟩), .int .i64 node] w fun e w' => ∃ A c, e = .returned (.slice A (pe node nodes.toNat).length c) ∧
      All w0 w' (ow w0.heap.size 3 1 (.slice A (pe node nodes.toNat).length c) (pe node nodes.toNat).length (nums .i64 (pe node nodes.toNat)) :: bx R 73 #[.pointer (some ⟨bh, 0, none⟩), .int .i64 nodes, .pointer (some ⟨bi, 0, none⟩)] :: L) := by
  have hN := fun w' (h : All w0 w' (bx R 73 #[.pointer (some ⟨bh, 0, none⟩), .int .i64 nodes, .pointer (some ⟨bi, 0, none⟩)] :: L)) => nodes_c h
  obtain ⟨N, rfl⟩ : ∃ N : Nat, nodes = (N : Int) := ⟨nodes.toNat, by omega⟩
  rw [Int.toNat_natCast]
  go_enter Try.func14, Try.ntmps14
  go_wp2_with fail
  refine (hN _ H).on H fun w1 H1 => ?_
  go_wp2_with fail
  refine (hN _ H1).on H1 fun w2 H2 => ?_
  have H3 := H2.row w0.heap.size 3 1
  clear H H1 H2 hN
  go_wp2_with fail
  go_loopg [5, 17] N (fun kx s5 s17 wr => ∃ (i : Nat) (A : Option Addr) (c : Nat), s5 = .slice A (pe node i).length c ∧ s17 = .int .i64 (i : Int) ∧ i ≤ N ∧ N - i ≤ kx ∧
    All w0 wr (ow w0.heap.size 3 1 (.slice A (pe node i).length c) (pe node i).length (nums .i64 (pe node i)) :: bx R 73 #[.pointer (some ⟨bh, 0, none⟩), .int .i64 (N : Int), .pointer (some ⟨bi, 0, none⟩)] :: L))
  case atStart => exact ⟨0, none, 0, rfl, rfl, Nat.zero_le _, by omega, H3⟩
  case round =>
    clear H3
    obtain ⟨i, A, c, rfl, rfl, hi, hik, H⟩ := hrel
    have hz := H.old.size
    have hpl := pe_len node i
    have hsz : ((pe node i).length + 1) * 8 ≤ 140737488355328 := by omega
    by_cases hlt : i < N
    · have hlt' : (i : Int) < (N : Int) := by omega
      by_cases he : (i : Int) = node
      · have e1 : pe node (i + 1) = pe node i := by rw [pe, if_pos he]
        go_wp2_with fail
        go_roundg (N - (i + 1))
        case measure => omega
        case rel => exact ⟨i + 1, A, c, by rw [e1], by rw [← he]; rfl, by omega, by omega, by rw [e1]; exact H⟩
      · have e1 : pe node (i + 1) = pe node i ++ [(i : Int)] := by rw [pe, if_neg he]
        have e2 : (pe node (i + 1)).length = (pe node i).length + 1 := by rw [e1, List.length_append]; rfl
        replace e1 := Aside0.mk e1
        replace e2 := Aside0.mk e2
        go_wp2_with ((with_reducible refine gate_builtin (b := .append) rfl ?_); refine app_num (i : Int) H 0 rfl (Nat.le_refl _) hz hsz (.tmp 23) (.tmp 25) 37 info3 Try.underlying37 rfl rfl (by decide) rfl rfl ?_; intro A1 c1 w4 H4 z4)
        go_roundg (N - (i + 1))
        case measure => omega
        case rel => exact ⟨i + 1, A1, c1, by rw [e2.out], rfl, by omega, by omega, by rw [e2.out, e1.out]; exact H4⟩
    · obtain rfl : i = N := by omega
      go_wp2
      go_ret
      exact ⟨A, c, rfl, H⟩
end
end Go.Proofs.Ytcbpmmcpidfllaa.Rq
end
section
namespace Go.Proofs.Ytcbpmmcpidfllaa.Rk
set_option linter.unusedVariables false
set_option linter.unusedSimpArgs false
open Go Go.RowKit Go.Proofs.YtcbpmmcpidfllaaW.PrintWords Go.Proofs.YtcbpmmcpidfllaaW.PrintLast Go.Proofs.Ytcbpmmcpidfllaa.Hd Go.Proofs.Ytcbpmmcpidfllaa.Os Go.Proofs.Ytcbpmmcpidfllaa.Tb Go.Proofs.Ytcbpmmcpidfllaa.Tm Go.Proofs.Ytcbpmmcpidfllaa.Ro Go.Proofs.Ytcbpmmcpidfllaa.Ip Go.Proofs.Ytcbpmmcpidfllaa.Rs Go.Proofs.Ytcbpmmcpidfllaa.Rn Go.Proofs.Ytcbpmmcpidfllaa.Rq
def alfa : ByteArray := ⟨#[97, 108, 102, 97]⟩
def beta : ByteArray := ⟨#[98, 101, 116, 97]⟩
theorem new_ok : newE 3 [] [⟨alfa, 0⟩, ⟨beta, 1⟩] = 0 := by kernel_rfl
theorem has_ok : has cmpS (msE 3 [] [⟨alfa, 0⟩, ⟨beta, 1⟩]).2 beta = true := by kernel_rfl
theorem get_ok : (Tb.get cmpS (msE 3 [] [⟨alfa, 0⟩, ⟨beta, 1⟩]).2 beta).getD (.int .i64 0) = .int .i64 1 := by kernel_rfl
theorem two_members {W : World} {b : Nat} (h : Box b 64 #[.string alfa, .int .i64 0, .string beta, .int .i64 1] W) : CM (some ⟨b, 0, none⟩) [⟨alfa, 0⟩, ⟨beta, 1⟩] W := by
  refine ⟨rfl, by decide, fun _ => ⟨_, rfl, fun j p hj => ⟨[.string p.f0, .int .i64 p.f1], rfl, k63_mk _ _, fun i u hu => ?_⟩⟩⟩
  have hj2 : j < 2 := (List.getElem?_eq_some_iff.1 hj).1
  have hi2 : i < 2 := (List.getElem?_eq_some_iff.1 hu).1
  rw [Addr.add_mid, Nat.zero_add, blk_cell h]
  rcases j with _ | _ | j
  · obtain rfl : _ = p := by simpa using hj
    rcases i with _ | _ | i
    · exact hu
    · exact hu
    · omega
  · obtain rfl : _ = p := by simpa using hj
    rcases i with _ | _ | i
    · exact hu
    · exact hu
    · omega
  · omega
theorem ok_msE {nodes : Int} : ∀ (ms : List S63) (lh : Rws) (i : Nat), Ok lh i → Ok (msE nodes lh ms).2 (i + ms.length)
  | [], lh, i, h => h
  | x :: r, lh, i, h => by
    unfold msE
    split
    · exact ⟨h.up, h.one, Nat.le_trans h.len (Nat.le_add_right _ _)⟩
    · have := ok_msE (nodes := nodes) r (memL nodes lh x.f0 x.f1) (i + 1) (ok_mem h x.f0)
      rw [List.length_cons, show i + (r.length + 1) = i + 1 + r.length by omega]
      exact this
theorem pe_ok : pe 0 (3 : Int).toNat = [1, 2] := by kernel_rfl
set_option maxRecDepth 100000 in
set_option maxHeartbeats 4000000 in
theorem known_c {w : World} : Tells Try.prog 9 #[] w (.bool true) := by
  unfold Tells
  have H0 := ((All.start w).box w.heap.size 64 #[.string alfa, .int .i64 0, .string beta, .int .i64 1])
  have H1 := H0.turn 0 rfl ((H0.get 0 rfl).imp fun W hW => two_members hW)
  have H2 := H1.put (ok := fun _ => False) (T := CS none []) ⟨(fun k h => h.elim), fun W _ => Kd.C_nil _ W⟩ (fun _ _ _ h => h.elim)
  have hnew := new_c (nodes := 3) (qi := 0) (qm := 1) (ci := 0) (cm := 2) H2 rfl rfl (Nat.le_refl _) (Nat.le_refl _)
  rw [new_ok] at hnew
  clear H0 H1 H2
  have oM := ok_msE (nodes := 3) [⟨alfa, 0⟩, ⟨beta, 1⟩] [] 0 ok_nil
  go_enter Try.func9, Try.ntmps9
  go_wp2_with fail
  refine hnew.mono ?_
  rintro e w1 ⟨p, rfl, hres⟩
  clear hnew
  obtain ⟨h1, h2, ⟨R, bh, bi, A, c, B, d, rfl, hR, hbh, hbi, H3⟩⟩ := hres.good rfl
  have hh := home_c (s := beta) H3 oM.up (by have := oM.len; simp at this; omega)
  rw [has_ok, get_ok] at hh
  clear hres h1 h2
  go_wp2_with fail
  refine hh.on H3 fun w2 H4 => ?_
  have hp := peers_c (node := 0) H4 (by decide) (by decide) (by decide)
  rw [pe_ok] at hp
  clear hh H3
  go_wp2_with fail
  refine hp.mono ?_
  rintro e w3 ⟨A1, c1, rfl, H5⟩
  clear hp H4
  have H6 := H5.lit .i64 w3.heap.size [1, 2] 3
  have hs := clevisref04_Same.calls 10 A1 c1 [1, 2] (some ⟨w3.heap.size, 0, none⟩) 2 [1, 2] true _ (by have h := (held_reads (H6.get 1 rfl)).2.2.now; exact h) (by have h := (held_reads (H6.get 1 rfl)).2.1; exact h) (H6.at 0 rfl) (Nat.le_refl _) (by kernel_rfl)
  go_wp2_with fail
  refine hs.mono ?_
  rintro e w4 ⟨rfl, hd⟩
  have H7 := H6.grow (hd.below)
  go_wp2
  go_ret
  exact ⟨rfl, H7.old⟩
end Go.Proofs.Ytcbpmmcpidfllaa.Rk
end
section
namespace Go.Proofs.Ytcbpmmcpidfllaa.Ru
set_option linter.unusedVariables false
set_option linter.unusedSimpArgs false
open Go Go.RowKit Go.Proofs.YtcbpmmcpidfllaaW.PrintWords Go.Proofs.YtcbpmmcpidfllaaW.PrintLast Go.Proofs.Ytcbpmmcpidfllaa.Hd Go.Proofs.Ytcbpmmcpidfllaa.Os Go.Proofs.Ytcbpmmcpidfllaa.Tb Go.Proofs.Ytcbpmmcpidfllaa.Tm Go.Proofs.Ytcbpmmcpidfllaa.Ro Go.Proofs.Ytcbpmmcpidfllaa.Ip Go.Proofs.Ytcbpmmcpidfllaa.Tp Go.Proofs.Ytcbpmmcpidfllaa.Rs Go.Proofs.Ytcbpmmcpidfllaa.Rn Go.Proofs.Ytcbpmmcpidfllaa.Rq
structure Asks (w0 : World) (L : List F2) (p : Value) (hv : ByteArray → Value) (hb ib : ByteArray → Bool) : Prop where
  home : ∀ w s, All w0 w L → Tells Try.prog 13 #[p, .string s] w (.tuple #[hv s, .int .i64 (if hb s = true then 0 else 5)])
  has : ∀ w s, All w0 w L → Tells Try.prog 20 #[p, .string s] w (.bool (ib s))
def rE (hb ib : ByteArray → Bool) (a0 : Int) (a1 a2 a3 : ByteArray) (a4 a5 : Int) : Int := if chkT a0 a1 a2 a3 a4 a5 ≠ 0 then chkT a0 a1 a2 a3 a4 a5 else if hb a1 = true ∧ hb a2 = true ∧ ib a3 = true then 0 else 5
section
variable {w0 w : World} {L : List F2} {p : Value} {hv : ByteArray → Value} {hb ib : ByteArray → Bool} {a0 a4 a5 : Int} {a1 a2 a3 : ByteArray}
set_option maxRecDepth 100000 in
set_option maxHeartbeats 4000000 in
theorem route_c (H : All w0 w L) (Q : Asks w0 L p hv hb ib) :
    Calls Try.prog 24 #[p, .agg #[.int .i64 a0, .string a1, .string a2, .string a3, .int .i64 a4, .int .i64 a5]] w fun e w' => e = .returned (.tuple #[if rE hb ib a0 a1 a2 a3 a4 a5 = 0 then hv a1 else .int .i64 0, if rE hb ib a0 a1 a2 a3 a4 a5 = 0 then hv a2 else .int .i64 0, .int .i64 (rE hb ib a0 a1 a2 a3 a4 a5)]) ∧ All w0 w' L := by
  have hchk := fun w => trade_Check.calls 80 a0 a1 a2 a3 a4 a5 _ w (iCheck a0 a1 a2 a3 a4 a5 80 (by omega))
  have H0 := H.box w.heap.size 50 #[.int .i64 a0, .string a1, .string a2, .string a3, .int .i64 a4, .int .i64 a5]
  have r0 := H0.rd 0 rfl
  obtain ⟨E, hE⟩ : ∃ E, rE hb ib a0 a1 a2 a3 a4 a5 = E := ⟨_, rfl⟩
  rw [hE]
  unfold rE at hE
  by_cases c0 : chkT a0 a1 a2 a3 a4 a5 ≠ 0
  · rw [if_pos c0] at hE
    rw [hE] at hchk c0
    rw [if_neg c0, if_neg c0]
    clear hE
    go_enter Try.func24, Try.ntmps24
    go_wp2_with fail
    refine Tells.on (hchk _) H0 fun w1 H1 => ?_
    go_wp2
    go_ret3
    exact ⟨rfl, H1.tail⟩
  have c0 : chkT a0 a1 a2 a3 a4 a5 = 0 := by omega
  rw [c0, if_neg (by decide)] at hE
  rw [c0] at hchk
  clear c0
  have q1 := fun w => Q.home w a1
  have q2 := fun w => Q.home w a2
  have q3 := fun w => Q.has w a3
  generalize hv a1 = u1 at *
  generalize hv a2 = u2 at *
  cases b1 : hb a1 with
  | false =>
    rw [b1] at q1 hE
    obtain rfl : 5 = E := by rw [← hE]; rfl
    cases b2 : hb a2
    all_goals
      rw [b2] at q2
      go_enter Try.func24, Try.ntmps24
      go_wp2_with fail
      refine Tells.on (hchk _) H0 fun w1 H1 => ?_
      have r1 := H1.rd 0 rfl
      go_wp2_with fail
      refine (q1 w1 H1.tail).on H1 fun w2 H2 => ?_
      have r2 := H2.rd 0 rfl
      go_wp2_with fail
      refine (q2 w2 H2.tail).on H2 fun w3 H3 => ?_
      have r3 := H3.rd 0 rfl
      go_wp2
      go_ret3
      exact ⟨rfl, H3.tail⟩
  | true =>
    rw [b1] at q1 hE
    cases b2 : hb a2 with
    | false =>
      rw [b2] at q2 hE
      obtain rfl : 5 = E := by rw [← hE]; rfl
      go_enter Try.func24, Try.ntmps24
      go_wp2_with fail
      refine Tells.on (hchk _) H0 fun w1 H1 => ?_
      have r1 := H1.rd 0 rfl
      go_wp2_with fail
      refine (q1 w1 H1.tail).on H1 fun w2 H2 => ?_
      have r2 := H2.rd 0 rfl
      go_wp2_with fail
      refine (q2 w2 H2.tail).on H2 fun w3 H3 => ?_
      have r3 := H3.rd 0 rfl
      go_wp2
      go_ret3
      exact ⟨rfl, H3.tail⟩
    | true =>
      rw [b2] at q2 hE
      cases b3 : ib a3 with
      | false =>
        rw [b3] at q3 hE
        obtain rfl : 5 = E := by rw [← hE]; rfl
        go_enter Try.func24, Try.ntmps24
        go_wp2_with fail
        refine Tells.on (hchk _) H0 fun w1 H1 => ?_
        have r1 := H1.rd 0 rfl
        go_wp2_with fail
        refine (q1 w1 H1.tail).on H1 fun w2 H2 => ?_
        have r2 := H2.rd 0 rfl
        go_wp2_with fail
        refine (q2 w2 H2.tail).on H2 fun w3 H3 => ?_
        have r3 := H3.rd 0 rfl
        go_wp2_with fail
        refine (q3 w3 H3.tail).on H3 fun w4 H4 => ?_
        go_wp2
        go_ret3
        exact ⟨rfl, H4.tail⟩
      | true =>
        rw [b3] at q3 hE
        obtain rfl : 0 = E := by rw [← hE]; rfl
        go_enter Try.func24, Try.ntmps24
        go_wp2_with fail
        refine Tells.on (hchk _) H0 fun w1 H1 => ?_
        have r1 := H1.rd 0 rfl
        go_wp2_with fail
        refine (q1 w1 H1.tail).on H1 fun w2 H2 => ?_
        have r2 := H2.rd 0 rfl
        go_wp2_with fail
        refine (q2 w2 H2.tail).on H2 fun w3 H3 => ?_
        have r3 := H3.rd 0 rfl
        go_wp2_with fail
        refine (q3 w3 H3.tail).on H3 fun w4 H4 => ?_
        go_wp2
        go_ret3
        exact ⟨rfl, H4.tail⟩
theorem local_c (H : All w0 w L) (Q : Asks w0 L p hv hb ib) (hi : ByteArray → Int) (hh : ∀ s, hv s = .int .i64 (hi s)) :
    Calls Try.prog 27 #[p, .agg #[.int .i64 a0, .string a1, .string a2, .string a3, .int .i64 a4, .int .i64 a5]] w fun e w' => e = .returned (.bool (decide (rE hb ib a0 a1 a2 a3 a4 a5 = 0) && decide (hi a1 = hi a2))) ∧ All w0 w' L := by
  have H0 := H.box w.heap.size 50 #[.int .i64 a0, .string a1, .string a2, .string a3, .int .i64 a4, .int .i64 a5]
  have r0 := H0.rd 0 rfl
  have hr := fun w (H : All w0 w L) => route_c (a0 := a0) (a1 := a1) (a2 := a2) (a3 := a3) (a4 := a4) (a5 := a5) H Q
  obtain ⟨E, hE⟩ : ∃ E, rE hb ib a0 a1 a2 a3 a4 a5 = E := ⟨_, rfl⟩
  simp only [hE, hh] at hr ⊢
  clear hE
  by_cases h0 : E = 0
  · subst h0
    simp only [if_true] at hr
    go_enter Try.func27, Try.ntmps27
    go_wp2_with fail
    refine (hr _ H0.tail).mono ?_
    rintro e w1 ⟨rfl, H1⟩
    go_wp2
    go_ret
    exact ⟨by simp; exact Bool.eq_iff_iff.2 (by simp), H1⟩
  · simp only [if_neg h0] at hr
    go_enter Try.func27, Try.ntmps27
    go_wp2_with fail
    refine (hr _ H0.tail).mono ?_
    rintro e w1 ⟨rfl, H1⟩
    go_wp2
    go_ret
    exact ⟨by simp [h0], H1⟩
theorem asks_nil : Asks w0 L (.pointer none) (fun _ => .int .i64 0) (fun _ => false) (fun _ => false) := ⟨fun w s _ => home_nil, fun w s _ => has_nil⟩
end
end Go.Proofs.Ytcbpmmcpidfllaa.Ru
end
section
namespace Go.Proofs.Ytcbpmmcpidfllaa.Rv
set_option linter.unusedVariables false
set_option linter.unusedSimpArgs false
open Go Go.RowKit Go.Proofs.YtcbpmmcpidfllaaW.PrintWords Go.Proofs.YtcbpmmcpidfllaaW.PrintLast Go.Proofs.YtcbpmmcpidfllaaW.PrintMore Go.Proofs.Ytcbpmmcpidfllaa.Hd Go.Proofs.Ytcbpmmcpidfllaa.Os Go.Proofs.Ytcbpmmcpidfllaa.Tb Go.Proofs.Ytcbpmmcpidfllaa.Tm Go.Proofs.Ytcbpmmcpidfllaa.Ro Go.Proofs.Ytcbpmmcpidfllaa.Ip Go.Proofs.Ytcbpmmcpidfllaa.Tp Go.Proofs.Ytcbpmmcpidfllaa.Rs Go.Proofs.Ytcbpmmcpidfllaa.Rn Go.Proofs.Ytcbpmmcpidfllaa.Rq Go.Proofs.Ytcbpmmcpidfllaa.Ru Go.Proofs.Ytcbpmmcpidfllaa.Rk
theorem to_some (a0 : Int) (a1 a2 a3 : ByteArray) (a4 a5 : Int) : clevislaw07_To.f a0 a1 a2 a3 a4 a5 = some (a0, a1.extract 0 (mn (a1.size : Int) 40).toNat, a2.extract 0 (mn (a2.size : Int) 40).toNat, a3.extract 0 (mn (a3.size : Int) 40).toNat, a4, a5) := by
  unfold clevislaw07_To.f
  have h : ∀ s : ByteArray, 0 ≤ mn (s.size : Int) 40 ∧ mn (s.size : Int) 40 ≤ s.size := fun s => by unfold mn; omega
  rw [if_pos (h a1).1, if_pos (h a1).2, if_pos (h a2).1, if_pos (h a2).2, if_pos (h a3).1, if_pos (h a3).2]
theorem members_nil {w : World} {node : Int} : Tells Try.prog 12 #[.pointer none, .int .i64 node] w (.slice none 0 0) := by
  unfold Tells
  go_enter Try.func12, Try.ntmps12
  go_wp2
  go_ret
  exact ⟨rfl, below_alloc (Below.refl _ _) _⟩
theorem isins_nil {w : World} : Tells Try.prog 15 #[.pointer none] w (.slice none 0 0) := by
  unfold Tells
  go_enter Try.func15, Try.ntmps15
  go_wp2
  go_ret
  exact ⟨rfl, Below.refl _ _⟩
set_option maxRecDepth 100000 in
set_option maxHeartbeats 8000000 in
theorem walk (name : ByteArray) (node a0 : Int) (a1 a2 a3 : ByteArray) (a4 a5 : Int) (w : World) :
    Calls Try.prog 7 #[.string name, .int .i64 node, .agg #[.int .i64 a0, .string a1, .string a2, .string a3, .int .i64 a4, .int .i64 a5]] w fun e w' => e = .returned (.bool true) ∧ Below w.heap.size w w' := by
  obtain ⟨x0, x1, x2, x3, x4, x5, hto⟩ : ∃ x0 x1 x2 x3 x4 x5, clevislaw07_To.f a0 a1 a2 a3 a4 a5 = some (x0, x1, x2, x3, x4, x5) := ⟨_, _, _, _, _, _, to_some _ _ _ _ _ _⟩
  have hTo := fun w => clevislaw07_To.calls a0 a1 a2 a3 a4 a5 _ _ _ _ _ _ w hto
  have hOf := fun w => clevislaw07_Of.calls x0 x1 x2 x3 x4 x5 _ _ _ _ _ _ w rfl
  have hCk := fun w => clevisref07_Check.calls 80 x0 x1 x2 x3 x4 x5 _ w (rCheck x0 x1 x2 x3 x4 x5 80 (by omega))
  have hr := fun {L : List F2} (w1 : World) (H : All w w1 L) => route_c (a0 := x0) (a1 := x1) (a2 := x2) (a3 := x3) (a4 := x4) (a5 := x5) H asks_nil
  have hl := fun {L : List F2} (w1 : World) (H : All w w1 L) => local_c (a0 := x0) (a1 := x1) (a2 := x2) (a3 := x3) (a4 := x4) (a5 := x5) H asks_nil (fun _ => 0) (fun _ => rfl)
  have hE : rE (fun _ => false) (fun _ => false) x0 x1 x2 x3 x4 x5 = if chkT x0 x1 x2 x3 x4 x5 ≠ 0 then chkT x0 x1 x2 x3 x4 x5 else 5 := by unfold rE; simp
  rw [hE] at hr hl
  have H0 := (All.start w).box w.heap.size 49 #[.int .i64 a0, .string a1, .string a2, .string a3, .int .i64 a4, .int .i64 a5]
  have r0 := H0.rd 0 rfl
  clear hto hE
  generalize chkT x0 x1 x2 x3 x4 x5 = E at *
  have body : ∀ F : Int, F ≠ 0 → (if E ≠ 0 then E else 5) = F → Calls Try.prog 7 #[.string name, .int .i64 node, .agg #[.int .i64 a0, .string a1, .string a2, .string a3, .int .i64 a4, .int .i64 a5]] w fun e w' => e = .returned (.bool true) ∧ Below w.heap.size w w' := by
    intro F hF hEF
    rw [hEF] at hr hl
    simp only [if_neg hF, decide_eq_false hF, Bool.false_and] at hr hl
    by_cases hE0 : E = 0
    all_goals
      first
      | (rw [if_neg (by omega)] at hEF)
      | (rw [if_pos (by omega)] at hEF)
      subst hEF
      go_enter Try.func7, Try.ntmps7
      go_wp2_with fail
      refine home_nil.on H0 fun w1 H1 => ?_
      have r1 := H1.rd 0 rfl
      go_wp2_with fail
      refine Tells.on (hTo _) H1 fun w2 H2 => ?_
      have H3 := H2.box w2.heap.size 50 #[.int .i64 x0, .string x1, .string x2, .string x3, .int .i64 x4, .int .i64 x5]
      have r3 := H3.rd 0 rfl
      clear H0 r0 H1 r1 H2
      go_wp2_with fail
      refine (hr _ H3).mono ?_
      rintro e w4 ⟨rfl, H4⟩
      have r4 := H4.rd 0 rfl
      go_wp2_with fail
      refine Tells.on (hOf _) H4 fun w5 H5 => ?_
      go_wp2_with fail
      refine Tells.on (hCk _) H5 fun w6 H6 => ?_
      go_wp2_with fail
      refine known_c.on H6 fun w7 H7 => ?_
      go_wp2_with fail
      refine nodes_nil.on H7 fun w8 H8 => ?_
      go_wp2_with fail
      refine members_nil.on H8 fun w9 H9 => ?_
      go_wp2_with fail
      refine isins_nil.on H9 fun w10 H10 => ?_
      go_wp2_with fail
      refine has_nil.on H10 fun w11 H11 => ?_
      go_wp2_with fail
      refine peers_nil.on H11 fun w12 H12 => ?_
      have r12 := H12.rd 0 rfl
      go_wp2_with fail
      refine (hl _ H12).mono ?_
      rintro e w13 ⟨rfl, H13⟩
      go_wp2
      go_ret
      exact ⟨rfl, H13.old⟩
  by_cases h : E = 0
  · exact body 5 (by decide) (by rw [if_neg (by omega)])
  · exact body E h (by rw [if_pos h])
end Go.Proofs.Ytcbpmmcpidfllaa.Rv
end
