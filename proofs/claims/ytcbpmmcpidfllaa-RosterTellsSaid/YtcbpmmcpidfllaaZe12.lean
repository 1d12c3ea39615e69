/- Texts of this seat, put together (Ze12). -/
import Derived.Test.YtcbpmmcpidfllaaZe3
import Derived.Test.YtcbpmmcpidfllaaZe8
import Derived.Test.YtcbpmmcpidfllaaZe11
section
namespace Go.Proofs.Ytcbpmmcpidfllaa.Rs
set_option linter.unusedVariables false
set_option linter.unusedSimpArgs false
open Go Go.RowKit Go.Proofs.YtcbpmmcpidfllaaW.PrintWords Go.Proofs.YtcbpmmcpidfllaaW.PrintLast Go.Proofs.Ytcbpmmcpidfllaa.Hd Go.Proofs.Ytcbpmmcpidfllaa.Os Go.Proofs.Ytcbpmmcpidfllaa.Tb Go.Proofs.Ytcbpmmcpidfllaa.Tm Go.Proofs.Ytcbpmmcpidfllaa.Ro Go.Proofs.Ytcbpmmcpidfllaa.Ip
section
variable {w0 w : World} {L : List F2} {R bh bi n c m d : Nat} {nodes home : Int} {A B : Option Addr} {lh li : Rws} {s : ByteArray}
def isinR (li : Rws) (s : ByteArray) : Int := if isinE s ≠ 0 then isinE s else if has cmpS li s = true then 6 else 0
def isinL (li : Rws) (s : ByteArray) : Rws := if isinE s ≠ 0 then li else put cmpS li s (.bool true)
set_option maxRecDepth 100000 in
set_option maxHeartbeats 4000000 in
theorem isin_c (H : All w0 w (bx R 73 #[.pointer (some ⟨bh, 0, none⟩), .int .i64 nodes, .pointer (some ⟨bi, 0, none⟩)] :: bx bh 97 #[.slice A n c] :: ow w0.heap.size 95 2 (.slice A n c) n (flat lh) :: bx bi 104 #[.slice B m d] :: ow w0.heap.size 102 2 (.slice B m d) m (flat li) :: L))
    (hbi : w0.heap.size ≤ bi) (hu : Up cmpS li) (h1 : Ones li) (hb : m ≤ 1000) :
    Calls Try.prog 39 #[.pointer (some ⟨R, 0, none⟩), .string s] w fun e w' => e = .returned (.int .i64 (isinR li s)) ∧ w.heap.size ≤ w'.heap.size ∧
      ∃ B' d', All w0 w' (bx R 73 #[.pointer (some ⟨bh, 0, none⟩), .int .i64 nodes, .pointer (some ⟨bi, 0, none⟩)] :: bx bh 97 #[.slice A n c] :: ow w0.heap.size 95 2 (.slice A n c) n (flat lh) :: bx bi 104 #[.slice B' (isinL li s).length d'] :: ow w0.heap.size 102 2 (.slice B' (isinL li s).length d') (isinL li s).length (flat (isinL li s)) :: L) := by
  have hm := (ow_rng (H.at 4 rfl)).1
  unfold isinR isinL
  have hi := ident_Isin.calls 1 s _ w (iIsin s 0)
  by_cases h0 : isinE s ≠ 0
  · simp only [if_pos h0]
    rw [hm]
    go_enter Try.func39, Try.ntmps39
    go_wp2_with fail
    refine hi.mono fun e w1 ⟨he, hB⟩ => ?_
    subst he
    have H1 := H.grow hB
    have hsz := hB.size
    clear hi H
    go_wp2
    go_ret
    exact ⟨rfl, hsz, B, d, H1⟩
  · simp only [if_neg h0]
    have h0 : isinE s = 0 := by omega
    rw [h0] at hi
    have hput := fun w1 (H1 : All w0 w1 _) => Tq.put_c (x := .bool true) (k := s) (i := 3) (j := 4) true rfl (L := bx R 73 #[.pointer (some ⟨bh, 0, none⟩), .int .i64 nodes, .pointer (some ⟨bi, 0, none⟩)] :: bx bh 97 #[.slice A n c] :: ow w0.heap.size 95 2 (.slice A n c) n (flat lh) :: bx bi 104 #[.slice B m d] :: ow w0.heap.size 102 2 (.slice B m d) m (flat li) :: L) H1 (by decide) rfl rfl hbi (Nat.le_refl _) H1.old.size hu h1 (by omega)
    generalize put cmpS li s (.bool true) = l2 at *
    cases hh : has cmpS li s
    all_goals
      rw [hh] at hput
      go_enter Try.func39, Try.ntmps39
      go_wp2_with fail
      refine hi.mono fun e w1 ⟨he, hB⟩ => ?_
      subst he
      have H1 := H.grow hB
      have hsz := hB.size
      have r0 := H1.rd 0 rfl
      have hput' := hput w1 H1
      clear hput hi H H1
      go_wp2_with fail
      refine hput'.mono ?_
      rintro e w2 ⟨rfl, hsz2, B', d', H2⟩
      clear hput' r0
      go_wp2
      go_ret
      exact ⟨rfl, by omega, B', d', H2⟩
def memR (nodes : Int) (lh : Rws) (s : ByteArray) (home : Int) : Int := if memN s ≠ 0 then memN s else if has cmpS lh s = true then 6 else if home < 0 ∨ home ≥ nodes then 5 else 0
def memL (nodes : Int) (lh : Rws) (s : ByteArray) (home : Int) : Rws := if memR nodes lh s home = 0 then put cmpS lh s (.int .i64 home) else lh
set_option maxRecDepth 100000 in
set_option maxHeartbeats 4000000 in
theorem member_c (H : All w0 w (bx R 73 #[.pointer (some ⟨bh, 0, none⟩), .int .i64 nodes, .pointer (some ⟨bi, 0, none⟩)] :: bx bh 97 #[.slice A n c] :: ow w0.heap.size 95 2 (.slice A n c) n (flat lh) :: bx bi 104 #[.slice B m d] :: ow w0.heap.size 102 2 (.slice B m d) m (flat li) :: L))
    (hbh : w0.heap.size ≤ bh) (hu : Up cmpS lh) (h1 : Ones lh) (hb : n ≤ 1000) :
    Calls Try.prog 40 #[.pointer (some ⟨R, 0, none⟩), .agg #[.string s, .int .i64 home]] w fun e w' => e = .returned (.int .i64 (memR nodes lh s home)) ∧ w.heap.size ≤ w'.heap.size ∧
      ∃ A' c', All w0 w' (bx R 73 #[.pointer (some ⟨bh, 0, none⟩), .int .i64 nodes, .pointer (some ⟨bi, 0, none⟩)] :: bx bh 97 #[.slice A' (memL nodes lh s home).length c'] :: ow w0.heap.size 95 2 (.slice A' (memL nodes lh s home).length c') (memL nodes lh s home).length (flat (memL nodes lh s home)) :: bx bi 104 #[.slice B m d] :: ow w0.heap.size 102 2 (.slice B m d) m (flat li) :: L) := by
  have hn := (ow_rng (H.at 2 rfl)).1
  have hi := fun w => ident_Member.calls 70 s _ w (iMember' s 70 (by omega))
  replace H := H.box w.heap.size 64 #[.string s, .int .i64 home]
  have hget : Aside0 (∀ w2, All w0 w2 (bx w.heap.size 64 #[.string s, .int .i64 home] :: bx R 73 #[.pointer (some ⟨bh, 0, none⟩), .int .i64 nodes, .pointer (some ⟨bi, 0, none⟩)] :: bx bh 97 #[.slice A n c] :: ow w0.heap.size 95 2 (.slice A n c) n (flat lh) :: bx bi 104 #[.slice B m d] :: ow w0.heap.size 102 2 (.slice B m d) m (flat li) :: L) → _) := ⟨fun w2 H2 => Ti.get_c (i := 2) (j := 3) H2 rfl rfl hu (by omega) s⟩
  by_cases h0 : memN s ≠ 0
  · have e1 : memR nodes lh s home = memN s := by unfold memR; rw [if_pos h0]
    have e2 : memL nodes lh s home = lh := by unfold memL; rw [e1, if_neg h0]
    rw [e1, e2, hn]
    clear e1 e2 hget
    go_enter Try.func40, Try.ntmps40
    go_wp2_with fail
    refine (hi _).mono fun e w1 ⟨he, hB⟩ => ?_
    subst he
    have H1 := H.grow hB
    have hsz := hB.size
    clear hi H
    go_wp2
    go_ret
    exact ⟨rfl, by simp at hsz; omega, A, c, H1.tail⟩
  · have h0' : memN s = 0 := by omega
    rw [h0'] at hi
    obtain ⟨u, hu0⟩ : ∃ u, (Tb.get cmpS lh s).getD (.int .i64 0) = u := ⟨_, rfl⟩
    have hget : Aside0 (∀ w2, All w0 w2 (bx w.heap.size 64 #[.string s, .int .i64 home] :: bx R 73 #[.pointer (some ⟨bh, 0, none⟩), .int .i64 nodes, .pointer (some ⟨bi, 0, none⟩)] :: bx bh 97 #[.slice A n c] :: ow w0.heap.size 95 2 (.slice A n c) n (flat lh) :: bx bi 104 #[.slice B m d] :: ow w0.heap.size 102 2 (.slice B m d) m (flat li) :: L) → Tells Try.prog 33 #[.pointer (some ⟨bh, 0, none⟩), .string s] w2 (.tuple #[u, .bool (has cmpS lh s)])) := ⟨fun w2 H2 => by rw [← hu0]; exact hget.out w2 H2⟩
    clear hu0
    cases hh : has cmpS lh s with
    | true =>
      have e1 : memR nodes lh s home = 6 := by unfold memR; rw [if_neg h0, if_pos hh]
      have e2 : memL nodes lh s home = lh := by unfold memL; rw [e1]; rfl
      rw [e1, e2, hn]
      rw [hh] at hget
      clear e1 e2 hh h0 h0'
      go_enter Try.func40, Try.ntmps40
      go_wp2_with fail
      refine (hi _).mono fun e w1 ⟨he, hB⟩ => ?_
      subst he
      have H1 := H.grow hB
      have hsz := hB.size
      go_wp2_with fail
      refine plan_ (true, [([], []), ([0], [0]), ([1], [1]), ([2], [2]), ([3], [3]), ([], []), ([5], [5]), ([4, 6], [4, 6]), ([7], [7]), ([8], [8]), ([8], [8]), ([9, 7, 0, 1, 2, 3, 4, 5, 6, 7, 8, 9], [9]), ([10, 11, 0, 1, 2, 3, 4, 5, 6, 7, 8, 9, 10, 11], [10])]) [.p 0, .p 1, .p 2, .p 3, .t 4, .p 5, .t 6, .c 7, .p 8, .p 9, .p 10, .p 11, .p 12] H1 (by kernel_rfl) (by kernel_rfl) rfl rfl (by kernel_rfl) (by intro c a w d v h; cases d <;> exact h) (fun w2 H2 => ?_)
      refine pl_P (h := ?_)
      refine pl_P (h := ?_)
      refine pl_P (h := ?_)
      refine pl_P (h := ?_)
      refine pl_L 1 0 H2 rfl (h := ?_)
      refine pl_P (h := ?_)
      refine pl_L 0 0 H2 rfl (h := ?_)
      have hsz2 := H2.old.size
      refine pl_S (hget.out w2 H2) H2 Try.func33 (h := fun w3 H3 => ?_)
      refine pl_P (h := ?_)
      refine pl_P (h := ?_)
      refine pl_P (h := ?_)
      refine pl_P (h := ?_)
      refine pl_P (h := ?_)
      refine pl_done ?_
      clear H1 H2
      go_wp2
      go_ret
      exact ⟨rfl, Nat.le_of_lt (blk_lt (H3.at 0 rfl)), A, c, H3.tail⟩
    | false =>
      rw [hh] at hget
      by_cases hneg : home < 0
      · have e1 : memR nodes lh s home = 5 := by unfold memR; rw [if_neg h0, if_neg (by rw [hh]; decide), if_pos (.inl hneg)]
        have e2 : memL nodes lh s home = lh := by unfold memL; rw [e1]; rfl
        have hd : decide (home < 0) = true := decide_eq_true hneg
        rw [e1, e2, hn]
        clear e1 e2 hh h0 h0'
        go_enter Try.func40, Try.ntmps40
        go_wp2_with fail
        refine (hi _).mono fun e w1 ⟨he, hB⟩ => ?_
        subst he
        have H1 := H.grow hB
        have hsz := hB.size
        go_wp2_with fail
        refine plan_ (true, [([], []), ([0], [0]), ([1], [1]), ([2], [2]), ([3], [3]), ([], []), ([5], [5]), ([4, 6], [4, 6]), ([7], [7]), ([8], [8]), ([8], [8]), ([9, 7, 0, 1, 2, 3, 4, 5, 6, 7, 8, 9], [9]), ([10, 11, 0, 1, 2, 3, 4, 5, 6, 7, 8, 9, 10, 11], [10])]) [.p 0, .p 1, .p 2, .p 3, .t 4, .p 5, .t 6, .c 7, .p 8, .p 9, .p 10, .p 11, .p 12] H1 (by kernel_rfl) (by kernel_rfl) rfl rfl (by kernel_rfl) (by intro c a w d v h; cases d <;> exact h) (fun w2 H2 => ?_)
        refine pl_P (h := ?_)
        refine pl_P (h := ?_)
        refine pl_P (h := ?_)
        refine pl_P (h := ?_)
        refine pl_L 1 0 H2 rfl (h := ?_)
        refine pl_P (h := ?_)
        refine pl_L 0 0 H2 rfl (h := ?_)
        have hsz2 := H2.old.size
        refine pl_S (hget.out w2 H2) H2 Try.func33 (h := fun w3 H3 => ?_)
        refine pl_P (h := ?_)
        refine pl_P (h := ?_)
        refine pl_P (h := ?_)
        refine pl_P (h := ?_)
        refine pl_P (h := ?_)
        refine pl_done ?_
        clear H1 H2
        go_wp2_with fail
        refine plan_ (true, [([], []), ([0], [0]), ([1], [1]), ([2], [2]), ([3], [3]), ([4, 3], [3, 4]), ([3], [3]), ([6, 3], [3, 6]), ([7, 3], [3, 7]), ([8, 3], [3, 8]), ([5, 9, 3], [3, 5, 9]), ([3, 10], [3, 10]), ([11, 3], [11])]) [.p 0, .t 1, .p 2, .p 3, .p 4, .t 5, .p 6, .p 7, .p 8, .t 9, .p 10, .p 11, .p 12] H3 (by kernel_rfl) (by kernel_rfl) rfl rfl (by kernel_rfl) (by intro c a w d v h; cases d <;> exact h) (fun w4 H4 => ?_)
        refine pl_P (h := ?_)
        refine pl_L 0 1 H4 rfl (h := ?_)
        refine pl_P (h := ?_)
        refine pl_P (h := ?_)
        refine pl_kP (h := ?_)
        refine pl_kT H4 (h := ?_)
        refine pl_kP (h := ?_)
        refine pl_kP (h := ?_)
        refine pl_kP (h := ?_)
        refine pl_kT H4 (h := ?_)
        refine pl_kP (h := ?_)
        refine pl_P (h := ?_)
        refine pl_P (h := ?_)
        refine pl_done ?_
        go_wp2
        go_ret
        exact ⟨rfl, Nat.le_of_lt (blk_lt (H4.at 0 rfl)), A, c, H4.tail⟩
      · have hd : decide (home < 0) = false := decide_eq_false hneg
        by_cases hge : home ≥ nodes
        · have e1 : memR nodes lh s home = 5 := by unfold memR; rw [if_neg h0, if_neg (by rw [hh]; decide), if_pos (.inr hge)]
          have e2 : memL nodes lh s home = lh := by unfold memL; rw [e1]; rfl
          have hg : decide (home ≥ nodes) = true := decide_eq_true hge
          rw [e1, e2, hn]
          clear e1 e2 hh h0 h0'
          go_enter Try.func40, Try.ntmps40
          go_wp2_with fail
          refine (hi _).mono fun e w1 ⟨he, hB⟩ => ?_
          subst he
          have H1 := H.grow hB
          have hsz := hB.size
          go_wp2_with fail
          refine plan_ (true, [([], []), ([0], [0]), ([1], [1]), ([2], [2]), ([3], [3]), ([], []), ([5], [5]), ([4, 6], [4, 6]), ([7], [7]), ([8], [8]), ([8], [8]), ([9, 7, 0, 1, 2, 3, 4, 5, 6, 7, 8, 9], [9]), ([10, 11, 0, 1, 2, 3, 4, 5, 6, 7, 8, 9, 10, 11], [10])]) [.p 0, .p 1, .p 2, .p 3, .t 4, .p 5, .t 6, .c 7, .p 8, .p 9, .p 10, .p 11, .p 12] H1 (by kernel_rfl) (by kernel_rfl) rfl rfl (by kernel_rfl) (by intro c a w d v h; cases d <;> exact h) (fun w2 H2 => ?_)
          refine pl_P (h := ?_)
          refine pl_P (h := ?_)
          refine pl_P (h := ?_)
          refine pl_P (h := ?_)
          refine pl_L 1 0 H2 rfl (h := ?_)
          refine pl_P (h := ?_)
          refine pl_L 0 0 H2 rfl (h := ?_)
          have hsz2 := H2.old.size
          refine pl_S (hget.out w2 H2) H2 Try.func33 (h := fun w3 H3 => ?_)
          refine pl_P (h := ?_)
          refine pl_P (h := ?_)
          refine pl_P (h := ?_)
          refine pl_P (h := ?_)
          refine pl_P (h := ?_)
          refine pl_done ?_
          clear H1 H2
          go_wp2_with fail
          refine plan_ (true, [([], []), ([0], [0]), ([1], [1]), ([2], [2]), ([3], [3]), ([4, 3], [3, 4]), ([3], [3]), ([6, 3], [3, 6]), ([7, 3], [3, 7]), ([8, 3], [3, 8]), ([5, 9, 3], [3, 5, 9]), ([3, 10], [3, 10]), ([11, 3], [11])]) [.p 0, .t 1, .p 2, .p 3, .p 4, .t 5, .p 6, .p 7, .p 8, .t 9, .p 10, .p 11, .p 12] H3 (by kernel_rfl) (by kernel_rfl) rfl rfl (by kernel_rfl) (by intro c a w d v h; cases d <;> exact h) (fun w4 H4 => ?_)
          refine pl_P (h := ?_)
          refine pl_L 0 1 H4 rfl (h := ?_)
          refine pl_P (h := ?_)
          refine pl_P (h := ?_)
          refine pl_P (h := ?_)
          refine pl_L 0 1 H4 rfl (h := ?_)
          refine pl_P (h := ?_)
          refine pl_P (h := ?_)
          refine pl_P (h := ?_)
          refine pl_L 1 1 H4 rfl (h := ?_)
          refine pl_P (h := ?_)
          refine pl_P (h := ?_)
          refine pl_P (h := ?_)
          refine pl_done ?_
          go_wp2
          go_ret
          exact ⟨rfl, Nat.le_of_lt (blk_lt (H4.at 0 rfl)), A, c, H4.tail⟩
        · have e1 : memR nodes lh s home = 0 := by unfold memR; rw [if_neg h0, if_neg (by rw [hh]; decide), if_neg (by omega)]
          have e2 : memL nodes lh s home = put cmpS lh s (.int .i64 home) := by unfold memL; rw [e1]; rfl
          have hg : decide (home ≥ nodes) = false := decide_eq_false hge
          rw [e1, e2]
          have hput := fun w1 (H1 : All w0 w1 (bx w.heap.size 64 #[.string s, .int .i64 home] :: bx R 73 #[.pointer (some ⟨bh, 0, none⟩), .int .i64 nodes, .pointer (some ⟨bi, 0, none⟩)] :: bx bh 97 #[.slice A n c] :: ow w0.heap.size 95 2 (.slice A n c) n (flat lh) :: bx bi 104 #[.slice B m d] :: ow w0.heap.size 102 2 (.slice B m d) m (flat li) :: L)) => Ti.put_c (x := .int .i64 home) (k := s) (i := 2) (j := 3) home rfl H1 (by decide) rfl rfl hbh (Nat.le_refl _) H1.old.size hu h1 (by omega)
          generalize put cmpS lh s (.int .i64 home) = l2 at *
          rw [hh] at hput
          clear e1 e2 hh h0 h0'
          go_enter Try.func40, Try.ntmps40
          go_wp2_with fail
          refine (hi _).mono fun e w1 ⟨he, hB⟩ => ?_
          subst he
          have H1 := H.grow hB
          have hsz := hB.size
          go_wp2_with fail
          refine plan_ (true, [([], []), ([0], [0]), ([1], [1]), ([2], [2]), ([3], [3]), ([], []), ([5], [5]), ([4, 6], [4, 6]), ([7], [7]), ([8], [8]), ([8], [8]), ([9, 7, 0, 1, 2, 3, 4, 5, 6, 7, 8, 9], [9]), ([10, 11, 0, 1, 2, 3, 4, 5, 6, 7, 8, 9, 10, 11], [10])]) [.p 0, .p 1, .p 2, .p 3, .t 4, .p 5, .t 6, .c 7, .p 8, .p 9, .p 10, .p 11, .p 12] H1 (by kernel_rfl) (by kernel_rfl) rfl rfl (by kernel_rfl) (by intro c a w d v h; cases d <;> exact h) (fun w2 H2 => ?_)
          refine pl_P (h := ?_)
          refine pl_P (h := ?_)
          refine pl_P (h := ?_)
          refine pl_P (h := ?_)
          refine pl_L 1 0 H2 rfl (h := ?_)
          refine pl_P (h := ?_)
          refine pl_L 0 0 H2 rfl (h := ?_)
          have hsz2 := H2.old.size
          refine pl_S (hget.out w2 H2) H2 Try.func33 (h := fun w3 H3 => ?_)
          refine pl_P (h := ?_)
          refine pl_P (h := ?_)
          refine pl_P (h := ?_)
          refine pl_P (h := ?_)
          refine pl_P (h := ?_)
          refine pl_done ?_
          clear H1 H2
          go_wp2_with fail
          refine plan_ (true, [([], []), ([0], [0]), ([1], [1]), ([2], [2]), ([3], [3]), ([4, 3], [3, 4]), ([3], [3]), ([6, 3], [3, 6]), ([7, 3], [3, 7]), ([8, 3], [3, 8]), ([5, 9, 3], [3, 5, 9]), ([3, 10], [3, 10]), ([11, 3], [11])]) [.p 0, .t 1, .p 2, .p 3, .p 4, .t 5, .p 6, .p 7, .p 8, .t 9, .p 10, .p 11, .p 12] H3 (by kernel_rfl) (by kernel_rfl) rfl rfl (by kernel_rfl) (by intro c a w d v h; cases d <;> exact h) (fun w4 H4 => ?_)
          refine pl_P (h := ?_)
          refine pl_L 0 1 H4 rfl (h := ?_)
          refine pl_P (h := ?_)
          refine pl_P (h := ?_)
          refine pl_P (h := ?_)
          refine pl_L 0 1 H4 rfl (h := ?_)
          refine pl_P (h := ?_)
          refine pl_P (h := ?_)
          refine pl_P (h := ?_)
          refine pl_L 1 1 H4 rfl (h := ?_)
          refine pl_P (h := ?_)
          refine pl_P (h := ?_)
          refine pl_P (h := ?_)
          refine pl_done ?_
          go_wp2_with fail
          refine planD_ [9] (true, [([], []), ([0], [0]), ([1], [1]), ([2], [2]), ([3], [3]), ([], []), ([5], [5]), ([], []), ([7], [7]), ([4, 6, 8], [4, 6, 8])]) [.p 0, .p 1, .p 2, .p 3, .t 4, .p 5, .t 6, .p 7, .t 8, .l 9] H4 (by kernel_rfl) (by kernel_rfl) rfl rfl (by kernel_rfl) (by intro c a w d v h; cases d <;> exact h) (fun w5 H5 => ?_)
          refine pl_P (h := ?_)
          refine pl_P (h := ?_)
          refine pl_P (h := ?_)
          refine pl_P (h := ?_)
          refine pl_L 1 0 H5 rfl (h := ?_)
          refine pl_P (h := ?_)
          refine pl_L 0 0 H5 rfl (h := ?_)
          refine pl_P (h := ?_)
          refine pl_L 0 1 H5 rfl (h := ?_)
          refine pl_callL Try.func51 #[.pointer (some ⟨bh, 0, none⟩), .string s, .int .i64 home] ?_
          refine (hput w5 H5).mono ?_
          rintro e w6 ⟨rfl, hsz6, A', c', H6⟩
          refine ⟨_, rfl, pl_done ?_⟩
          clear H4 H5 H3 hput
          go_wp2
          go_ret
          exact ⟨rfl, Nat.le_of_lt (blk_lt (H6.at 0 rfl)), A', c', H6.tail⟩
end
end Go.Proofs.Ytcbpmmcpidfllaa.Rs
end
section
namespace Go.Proofs.Ytcbpmmcpidfllaa.Rn
set_option linter.unusedVariables false
set_option linter.unusedSimpArgs false
open Go Go.RowKit Go.Proofs.YtcbpmmcpidfllaaW.PrintWords Go.Proofs.YtcbpmmcpidfllaaW.PrintLast Go.Proofs.Ytcbpmmcpidfllaa.Hd Go.Proofs.Ytcbpmmcpidfllaa.Os Go.Proofs.Ytcbpmmcpidfllaa.Tb Go.Proofs.Ytcbpmmcpidfllaa.Tm Go.Proofs.Ytcbpmmcpidfllaa.Ro Go.Proofs.Ytcbpmmcpidfllaa.Ip Go.Proofs.Ytcbpmmcpidfllaa.Rs
theorem of_i {w : World} : Calls Try.prog 37 #[.slice none 0 0] w fun e w' => e = .returned (.pointer (some ⟨w.heap.size, 0, none⟩)) ∧ w' = w.alloc (.cells #[.slice none 0 0] 97) := by
  go_enter Try.func37, Try.ntmps37
  go_wp2_with fail
  go_loopg [10] 0 (fun kx s10 wr => s10 = .int .i64 0 ∧ wr = w.alloc (.cells #[.slice none 0 0] 97))
  case atStart => exact ⟨rfl, rfl⟩
  case round =>
    obtain ⟨rfl, rfl⟩ := hrel
    go_wp2
    go_ret
    exact ⟨rfl, rfl⟩
theorem of_q {w : World} : Calls Try.prog 38 #[.slice none 0 0] w fun e w' => e = .returned (.pointer (some ⟨w.heap.size, 0, none⟩)) ∧ w' = w.alloc (.cells #[.slice none 0 0] 104) := by
  go_enter Try.func38, Try.ntmps38
  go_wp2_with fail
  go_loopg [10] 0 (fun kx s10 wr => s10 = .int .i64 0 ∧ wr = w.alloc (.cells #[.slice none 0 0] 104))
  case atStart => exact ⟨rfl, rfl⟩
  case round =>
    obtain ⟨rfl, rfl⟩ := hrel
    go_wp2
    go_ret
    exact ⟨rfl, rfl⟩
abbrev CS (A : Option Addr) (l : List ByteArray) (W : World) : Prop := Kd.C Kd.string W A l.length l
abbrev CM (A : Option Addr) (l : List S63) (W : World) : Prop := Kd.C k63 W A l.length l
def isE : Rws → List ByteArray → Int × Rws
  | li, [] => (0, li)
  | li, s :: r => if isinR li s ≠ 0 then (isinR li s, li) else isE (isinL li s) r
def msE (nodes : Int) : Rws → List S63 → Int × Rws
  | lh, [] => (0, lh)
  | lh, x :: r => if memR nodes lh x.f0 x.f1 ≠ 0 then (memR nodes lh x.f0 x.f1, lh) else msE nodes (memL nodes lh x.f0 x.f1) r
def newE (nodes : Int) (is : List ByteArray) (ms : List S63) : Int := if nodes < 1 ∨ nodes > 3 then 1 else if is.length > 32 ∨ ms.length > 64 then 2 else if (isE [] is).1 ≠ 0 then (isE [] is).1 else (msE nodes [] ms).1
structure Ok (l : Rws) (i : Nat) : Prop where
  up : Up cmpS l
  one : Ones l
  len : l.length ≤ i
theorem ok_nil : Ok [] 0 := ⟨.nil, (fun _ h => by cases h), Nat.le_refl _⟩
theorem put_le {l : Rws} {k : ByteArray} {x : Value} : (put cmpS l k x).length ≤ l.length + 1 := by
  cases h : has cmpS l k
  · rw [put_len h]; omega
  · rw [put_len_has h]; omega
theorem Ok.put {l : Rws} {i : Nat} (h : Ok l i) {k : ByteArray} {x : Value} (hx : x.oneCell' = true) : Ok (Tb.put cmpS l k x) (i + 1) := ⟨put_up good_S h.up, h.one.put hx, Nat.le_trans put_le (by have := h.len; omega)⟩
theorem Ok.wide {l : Rws} {i : Nat} (h : Ok l i) : Ok l (i + 1) := ⟨h.up, h.one, by have := h.len; omega⟩
theorem ok_isin {l : Rws} {i : Nat} (h : Ok l i) (s : ByteArray) : Ok (isinL l s) (i + 1) := by
  unfold isinL
  split
  · exact h.wide
  · exact h.put rfl
theorem ok_mem {nodes home : Int} {l : Rws} {i : Nat} (h : Ok l i) (s : ByteArray) : Ok (memL nodes l s home) (i + 1) := by
  unfold memL
  split
  · exact h.put rfl
  · exact h.wide
structure Has (w0 w : World) (nodes : Int) (lh li : Rws) (L : List F2) (p : Option Addr) : Prop where
  at_ : ∃ R bh bi A c B d, p = some ⟨R, 0, none⟩ ∧ w0.heap.size ≤ R ∧ w0.heap.size ≤ bh ∧ w0.heap.size ≤ bi ∧ All w0 w (bx R 73 #[.pointer (some ⟨bh, 0, none⟩), .int .i64 nodes, .pointer (some ⟨bi, 0, none⟩)] :: bx bh 97 #[.slice A lh.length c] :: ow w0.heap.size 95 2 (.slice A lh.length c) lh.length (flat lh) :: bx bi 104 #[.slice B li.length d] :: ow w0.heap.size 102 2 (.slice B li.length d) li.length (flat li) :: L)
structure New (w0 w : World) (nodes : Int) (is : List ByteArray) (ms : List S63) (L : List F2) (p : Option Addr) (E : Int) : Prop where
  bad : E ≠ 0 → p = none ∧ All w0 w L
  good : E = 0 → (isE [] is).1 = 0 ∧ (msE nodes [] ms).1 = 0 ∧ Has w0 w nodes (msE nodes [] ms).2 (isE [] is).2 L p
section
variable {w0 w : World} {L : List F2} {qi qm ci cm : Nat} {nodes : Int} {Ai Am : Option Addr} {is : List ByteArray} {ms : List S63} {okI okM : Nat → Prop}
set_option maxRecDepth 100000 in
set_option maxHeartbeats 4000000 in
theorem new_c (H : All w0 w L) (hqi : L[qi]? = some (okI, CS Ai is)) (hqm : L[qm]? = some (okM, CM Am ms)) (hci : is.length ≤ ci) (hcm : ms.length ≤ cm) :
    Calls Try.prog 29 #[.int .i64 nodes, .slice Ai is.length ci, .slice Am ms.length cm] w fun e w' => ∃ p, e = .returned (.tuple #[.pointer p, .int .i64 (newE nodes is ms)]) ∧ New w0 w' nodes is ms L p (newE nodes is ms) := by
  by_cases c1 : nodes < 1 ∨ nodes > 3
  · have e1 : newE nodes is ms = 1 := by unfold newE; rw [if_pos c1]
    rw [e1]
    clear e1
    by_cases c2 : nodes < 1
    · go_enter Try.func29, Try.ntmps29
      go_wp2
      go_ret2
      exact ⟨none, rfl, ⟨fun _ => ⟨rfl, H⟩, fun h => absurd h (by decide)⟩⟩
    · have c3 : 3 < nodes := by omega
      go_enter Try.func29, Try.ntmps29
      go_wp2
      go_ret2
      exact ⟨none, rfl, ⟨fun _ => ⟨rfl, H⟩, fun h => absurd h (by decide)⟩⟩
  have n1 : 1 ≤ nodes := by omega
  have n3 : nodes ≤ 3 := by omega
  by_cases c2 : is.length > 32 ∨ ms.length > 64
  · have e1 : newE nodes is ms = 2 := by unfold newE; rw [if_neg c1, if_pos c2]
    rw [e1]
    clear e1 c1
    rcases Nat.lt_or_ge 32 is.length with c3 | c3
    · have c4 : (32 : Int) < (is.length : Int) := by omega
      go_enter Try.func29, Try.ntmps29
      go_wp2
      go_ret2
      exact ⟨none, rfl, ⟨fun _ => ⟨rfl, H⟩, fun h => absurd h (by decide)⟩⟩
    · have c4 : (64 : Int) < (ms.length : Int) := by omega
      have c5 : (is.length : Int) ≤ 32 := by omega
      go_enter Try.func29, Try.ntmps29
      go_wp2
      go_ret2
      exact ⟨none, rfl, ⟨fun _ => ⟨rfl, H⟩, fun h => absurd h (by decide)⟩⟩
  have e0 : newE nodes is ms = if (isE [] is).1 ≠ 0 then (isE [] is).1 else (msE nodes [] ms).1 := by unfold newE; rw [if_neg c1, if_neg c2]
  have l1 : (is.length : Int) ≤ 32 := by omega
  have l2 : (ms.length : Int) ≤ 64 := by omega
  obtain ⟨E, hE⟩ : ∃ E, newE nodes is ms = E := ⟨_, rfl⟩
  rw [hE] at e0 ⊢
  replace e0 := Aside0.mk e0
  clear c1 c2 hE
  have H0 := (((((H.row w0.heap.size 102 2).row w0.heap.size 95 2).box w.heap.size 97 #[.slice none 0 0]).box (w.heap.size + 1) 104 #[.slice none 0 0]).box (w.heap.size + 1 + 1) 73 #[.pointer (some ⟨w.heap.size, 0, none⟩), .int .i64 nodes, .pointer (some ⟨w.heap.size + 1, 0, none⟩)]).perm (.cons _ ((List.Perm.swap _ _ _).trans (.cons _ (.swap _ _ _))))
  have hw0 := H.old.size
  clear H
  go_enter Try.func29, Try.ntmps29
  go_wp2_with fail
  refine of_i.mono ?_
  rintro e w1 ⟨rfl, rfl⟩
  go_wp2_with fail
  refine of_q.mono ?_
  rintro e w2 ⟨rfl, rfl⟩
  go_wp2_with fail
  go_loopg [39] is.length (fun kx s39 wr => ∃ (i : Nat) (li : Rws) (B : Option Addr) (d : Nat), s39 = .int .i64 (i : Int) ∧ i ≤ is.length ∧ is.length - i ≤ kx ∧ Aside0 (Ok li i ∧ isE [] is = isE li (is.drop i)) ∧
    All w0 wr (bx (w.heap.size + 1 + 1) 73 #[.pointer (some ⟨w.heap.size, 0, none⟩), .int .i64 nodes, .pointer (some ⟨w.heap.size + 1, 0, none⟩)] :: bx w.heap.size 97 #[.slice none 0 0] :: ow w0.heap.size 95 2 (.slice none 0 0) 0 (flat []) :: bx (w.heap.size + 1) 104 #[.slice B li.length d] :: ow w0.heap.size 102 2 (.slice B li.length d) li.length (flat li) :: L))
  case atStart => exact ⟨0, [], none, 0, rfl, Nat.zero_le _, by omega, ⟨ok_nil, rfl⟩, H0⟩
  case round =>
    clear H0
    obtain ⟨i, li, B, d, rfl, hil, hik, hok, H⟩ := hrel
    by_cases hlt : i < is.length
    · have hli : (i : Int) < (is.length : Int) := by omega
      obtain ⟨ad, rfl, hc0⟩ := Kd.at_string (H.at (qi + 5) hqi) (i : Int) (by omega) hli
      rw [Int.toNat_natCast] at hc0
      obtain ⟨s, hs⟩ : ∃ s, is[i] = s := ⟨_, rfl⟩
      have e1 : rdOf ByteArray.empty is (i : Int) = s := by unfold rdOf; rw [Int.toNat_natCast, List.getD_eq_getElem?_getD, List.getElem?_eq_getElem hlt, hs]; rfl
      rw [e1] at hc0
      have e2 : isE li (is.drop i) = if isinR li s ≠ 0 then (isinR li s, li) else isE (isinL li s) (is.drop (i + 1)) := by rw [List.drop_eq_getElem_cons hlt, hs, isE]
      have hlen := hok.out.1.len
      have hcall := isin_c (s := s) H (by omega) hok.out.1.up hok.out.1.one (by omega)
      obtain ⟨r, hr⟩ : ∃ r, isinR li s = r := ⟨_, rfl⟩
      rw [hr] at hcall e2
      have e3 := hok.out.2.trans e2
      replace e3 := Aside0.mk e3
      clear e1 e2
      by_cases hz : r = 0
      · subst hz
        go_wp2_with fail
        refine hcall.mono ?_
        rintro e w3 ⟨rfl, hsz, B', d', H2⟩
        clear hcall H hc0
        go_wp2_with fail
        go_roundg (is.length - (i + 1))
        case measure => omega
        case rel => exact ⟨i + 1, isinL li s, B', d', rfl, by omega, by omega, ⟨ok_isin hok.out.1 s, by rw [e3.out]; simp⟩, H2⟩
      · go_wp2_with fail
        refine hcall.mono ?_
        rintro e w3 ⟨rfl, hsz, B', d', H2⟩
        clear hcall H hc0
        have hE : E = r := by rw [e0.out, e3.out]; simp [hz]
        subst hE
        clear e3 hr
        go_wp2
        go_ret2
        exact ⟨none, rfl, ⟨fun _ => ⟨rfl, H2.drop 5⟩, fun h => absurd h hz⟩⟩
    · obtain rfl : i = is.length := by omega
      have e3 : isE [] is = (0, li) := by rw [hok.out.2, List.drop_length, isE]
      replace e3 := Aside0.mk e3
      clear hok hlt hik
      go_wp2_with fail
      go_loopg [52] ms.length (fun kx s52 w4 => ∃ (j : Nat) (lh : Rws) (A : Option Addr) (c : Nat), s52 = .int .i64 (j : Int) ∧ j ≤ ms.length ∧ ms.length - j ≤ kx ∧ Aside0 (Ok lh j ∧ msE nodes [] ms = msE nodes lh (ms.drop j)) ∧
        All w0 w4 (bx (w.heap.size + 1 + 1) 73 #[.pointer (some ⟨w.heap.size, 0, none⟩), .int .i64 nodes, .pointer (some ⟨w.heap.size + 1, 0, none⟩)] :: bx w.heap.size 97 #[.slice A lh.length c] :: ow w0.heap.size 95 2 (.slice A lh.length c) lh.length (flat lh) :: bx (w.heap.size + 1) 104 #[.slice B li.length d] :: ow w0.heap.size 102 2 (.slice B li.length d) li.length (flat li) :: L))
      case atStart => exact ⟨0, [], none, 0, rfl, Nat.zero_le _, by omega, ⟨ok_nil, rfl⟩, H⟩
      case round =>
        clear H
        obtain ⟨j, lh, A, c, rfl, hjl, hjk, hok, H⟩ := hrel
        by_cases hlt : j < ms.length
        · have hlj : (j : Int) < (ms.length : Int) := by omega
          obtain ⟨ad, rfl, hc0, hc1⟩ := at_T63 (H.at (qm + 5) hqm) (j : Int) (by omega) hlj
          rw [Int.toNat_natCast] at hc0 hc1
          obtain ⟨x, hx⟩ : ∃ x, ms[j] = x := ⟨_, rfl⟩
          have e1 : rd_T63 ms (j : Int) = x := by unfold rd_T63; rw [Int.toNat_natCast, List.getD_eq_getElem?_getD, List.getElem?_eq_getElem hlt, hx]; rfl
          rw [e1] at hc0 hc1
          have e2 : msE nodes lh (ms.drop j) = if memR nodes lh x.f0 x.f1 ≠ 0 then (memR nodes lh x.f0 x.f1, lh) else msE nodes (memL nodes lh x.f0 x.f1) (ms.drop (j + 1)) := by rw [List.drop_eq_getElem_cons hlt, hx, msE]
          have hlen := hok.out.1.len
          have hM := H.box _ 64 #[.string x.f0, .int .i64 x.f1] rfl
          have r0 := hM.rd 0 rfl
          have hcall := member_c (s := x.f0) (home := x.f1) (H.any (.cells #[.string x.f0, .int .i64 x.f1] 64 (0, 0))) hw0 hok.out.1.up hok.out.1.one (by omega)
          obtain ⟨r, hr⟩ : ∃ r, memR nodes lh x.f0 x.f1 = r := ⟨_, rfl⟩
          rw [hr] at hcall e2
          have e4 := hok.out.2.trans e2
          replace e4 := Aside0.mk e4
          clear e1 e2 hM hx
          by_cases hz : r = 0
          · subst hz
            go_wp2_with fail
            refine hcall.mono ?_
            rintro e w5 ⟨rfl, hsz, A', c', H2⟩
            clear hcall H hc0 hc1 r0
            go_wp2_with fail
            go_roundg (ms.length - (j + 1))
            case measure => omega
            case rel => exact ⟨j + 1, memL nodes lh x.f0 x.f1, A', c', rfl, by omega, by omega, ⟨ok_mem hok.out.1 x.f0, by rw [e4.out]; simp⟩, H2⟩
          · go_wp2_with fail
            refine hcall.mono ?_
            rintro e w5 ⟨rfl, hsz, A', c', H2⟩
            clear hcall H hc0 hc1 r0
            have hE : E = r := by rw [e0.out, e3.out, e4.out]; simp [hz]
            subst hE
            clear e4 hr
            go_wp2
            go_ret2
            exact ⟨none, rfl, ⟨fun _ => ⟨rfl, H2.drop 5⟩, fun h => absurd h hz⟩⟩
        · obtain rfl : j = ms.length := by omega
          have e4 : msE nodes [] ms = (0, lh) := by rw [hok.out.2, List.drop_length, msE]
          have hE : E = 0 := by rw [e0.out, e3.out, e4]; simp
          have e5 := e3.out
          subst hE
          replace e4 := Aside0.mk e4
          clear hok hlt hjk e5
          go_wp2
          go_ret2
          refine ⟨some ⟨w.heap.size + 1 + 1, 0, none⟩, rfl, ⟨fun h => absurd rfl h, fun _ => ⟨by rw [e3.out], by rw [e4.out], ⟨w.heap.size + 1 + 1, w.heap.size, w.heap.size + 1, A, c, B, d, rfl, by omega, hw0, by omega, ?_⟩⟩⟩⟩
          rw [e3.out, e4.out]
          exact H
end
end Go.Proofs.Ytcbpmmcpidfllaa.Rn
end
section
namespace Go.Proofs.Ytcbpmmcpidfllaa.Rq
set_option linter.unusedVariables false
set_option linter.unusedSimpArgs false
open Go Go.RowKit Go.Proofs.YtcbpmmcpidfllaaW.PrintWords Go.Proofs.YtcbpmmcpidfllaaW.PrintLast Go.Proofs.Ytcbpmmcpidfllaa.Hd Go.Proofs.Ytcbpmmcpidfllaa.Os Go.Proofs.Ytcbpmmcpidfllaa.Tb Go.Proofs.Ytcbpmmcpidfllaa.Tm Go.Proofs.Ytcbpmmcpidfllaa.Ro Go.Proofs.Ytcbpmmcpidfllaa.Ip Go.Proofs.Ytcbpmmcpidfllaa.Rs Go.Proofs.Ytcbpmmcpidfllaa.Rn
section
variable {w0 w : World} {L : List F2} {R bh bi n c m d : Nat} {nodes : Int} {A B : Option Addr} {lh li : Rws} {s : ByteArray}
theorem nodes_c (H : All w0 w (bx R 73 #[.pointer (some ⟨bh, 0, none⟩), .int .i64 nodes, .pointer (some ⟨bi, 0, none⟩)] :: L)) : Tells Try.prog 11 #[.pointer (some ⟨R, 0, none⟩)] w (.int .i64 nodes) := by
  have H' : All w w [(_, _)] := (All.start w).arg (H.get 0 rfl)
  clear H
  unfold Tells
  go_enter Try.func11, Try.ntmps11
  have r0 := H'.rd 0 rfl
  go_wp2
  go_ret
  exact ⟨rfl, Below.refl _ _⟩
theorem home_c (H : All w0 w (bx R 73 #[.pointer (some ⟨bh, 0, none⟩), .int .i64 nodes, .pointer (some ⟨bi, 0, none⟩)] :: bx bh 97 #[.slice A n c] :: ow w0.heap.size 95 2 (.slice A n c) n (flat lh) :: L)) (hu : Up cmpS lh) (hb : n ≤ 1000) :
    Tells Try.prog 13 #[.pointer (some ⟨R, 0, none⟩), .string s] w (.tuple #[(Tb.get cmpS lh s).getD (.int .i64 0), .int .i64 (if has cmpS lh s = true then 0 else 5)]) := by
  have hg := Ti.get_c (i := 1) (j := 2) H rfl rfl hu (by omega) s
  have H' : All w w [(_, _)] := (All.start w).arg (H.get 0 rfl)
  clear H
  unfold Tells
  cases hh : has cmpS lh s with
  | true =>
    rw [hh] at hg
    generalize (Tb.get cmpS lh s).getD (.int .i64 0) = u at *
    go_enter Try.func13, Try.ntmps13
    have r0 := H'.rd 0 rfl
    go_wp2_with fail
    refine hg.on H' fun w1 H1 => ?_
    go_wp2
    go_ret2
    exact ⟨rfl, H1.old⟩
  | false =>
    have e : Tb.get cmpS lh s = none := (get_none good_S hu).2 hh
    rw [hh] at hg
    rw [e] at hg ⊢
    go_enter Try.func13, Try.ntmps13
    have r0 := H'.rd 0 rfl
    go_wp2_with fail
    refine hg.on H' fun w1 H1 => ?_
    go_wp2
    go_ret2
    exact ⟨rfl, H1.old⟩
theorem has_c (H : All w0 w (bx R 73 #[.pointer (some ⟨bh, 0, none⟩), .int .i64 nodes, .pointer (some ⟨bi, 0, none⟩)] :: bx bh 97 #[.slice A n c] :: ow w0.heap.size 95 2 (.slice A n c) n (flat lh) :: bx bi 104 #[.slice B m d] :: ow w0.heap.size 102 2 (.slice B m d) m (flat li) :: L)) (hu : Up cmpS li) (hb : m ≤ 1000) :
    Tells Try.prog 20 #[.pointer (some ⟨R, 0, none⟩), .string s] w (.bool (has cmpS li s)) := by
  have hg := Tq.get_c (i := 3) (j := 4) H rfl rfl hu (by omega) s
  have H' : All w w [(_, _)] := (All.start w).arg (H.get 0 rfl)
  clear H
  unfold Tells
  generalize (Tb.get cmpS li s).getD (.bool false) = u at *
  generalize has cmpS li s = q at *
  go_enter Try.func20, Try.ntmps20
  have r0 := H'.rd 0 rfl
  go_wp2_with fail
  refine hg.on H' fun w1 H1 => ?_
  go_wp2
  go_ret
  exact ⟨rfl, H1.old⟩
def pe (node : Int) : Nat → List Int
  | 0 => []
  | i + 1 => if (i : Int) = node then pe node i else pe node i ++ [(i : Int)]
theorem pe_len (node : Int) : ∀ i, (pe node i).length ≤ i
  | 0 => Nat.le_refl _
  | i + 1 => by
    have := pe_len node i
    unfold pe
    split
    · omega
    · rw [List.length_append]; simp; omega
theorem peers_c {node : Int} (H : All w0 w (bx R 73 #[.pointer (some ⟨bh, 0, none⟩), .int .i64 nodes, .pointer (some ⟨bi, 0, none⟩)] :: L)) (h0 : 0 ≤ node) (h1 : node < nodes) (h3 : nodes ≤ 3) :
    Calls Try.prog 14 #[.pointer (some ⟨R, 0, none⟩), .int .i64 node] w fun e w' => ∃ A c, e = .returned (.slice A (pe node nodes.toNat).length c) ∧
      All w0 w' (ow w0.heap.size 3 1 (.slice A (pe node nodes.toNat).length c) (pe node nodes.toNat).length (nums .i64 (pe node nodes.toNat)) :: bx R 73 #[.pointer (some ⟨bh, 0, none⟩), .int .i64 nodes, .pointer (some ⟨bi, 0, none⟩)] :: L) := by
  have hN := fun w' (h : All w0 w' (bx R 73 #[.pointer (some ⟨bh, 0, none⟩), .int .i64 nodes, .pointer (some ⟨bi, 0, none⟩)] :: L)) => nodes_c h
  obtain ⟨N, rfl⟩ : ∃ N : Nat, nodes = (N : Int) := ⟨nodes.toNat, by omega⟩
  rw [Int.toNat_natCast]
  go_enter Try.func14, Try.ntmps14
  go_wp2_with fail
  refine (hN _ H).on H fun w1 H1 => ?_
  go_wp2_with fail
  refine (hN _ H1).on H1 fun w2 H2 => ?_
  have H3 := H2.row w0.heap.size 3 1
  clear H H1 H2 hN
  go_wp2_with fail
  go_loopg [5, 17] N (fun kx s5 s17 wr => ∃ (i : Nat) (A : Option Addr) (c : Nat), s5 = .slice A (pe node i).length c ∧ s17 = .int .i64 (i : Int) ∧ i ≤ N ∧ N - i ≤ kx ∧
    All w0 wr (ow w0.heap.size 3 1 (.slice A (pe node i).length c) (pe node i).length (nums .i64 (pe node i)) :: bx R 73 #[.pointer (some ⟨bh, 0, none⟩), .int .i64 (N : Int), .pointer (some ⟨bi, 0, none⟩)] :: L))
  case atStart => exact ⟨0, none, 0, rfl, rfl, Nat.zero_le _, by omega, H3⟩
  case round =>
    clear H3
    obtain ⟨i, A, c, rfl, rfl, hi, hik, H⟩ := hrel
    have hz := H.old.size
    have hpl := pe_len node i
    have hsz : ((pe node i).length + 1) * 8 ≤ 140737488355328 := by omega
    by_cases hlt : i < N
    · have hlt' : (i : Int) < (N : Int) := by omega
      by_cases he : (i : Int) = node
      · have e1 : pe node (i + 1) = pe node i := by rw [pe, if_pos he]
        go_wp2_with fail
        go_roundg (N - (i + 1))
        case measure => omega
        case rel => exact ⟨i + 1, A, c, by rw [e1], by rw [← he]; rfl, by omega, by omega, by rw [e1]; exact H⟩
      · have e1 : pe node (i + 1) = pe node i ++ [(i : Int)] := by rw [pe, if_neg he]
        have e2 : (pe node (i + 1)).length = (pe node i).length + 1 := by rw [e1, List.length_append]; rfl
        replace e1 := Aside0.mk e1
        replace e2 := Aside0.mk e2
        go_wp2_with ((with_reducible refine gate_builtin (b := .append) rfl ?_); refine app_num (i : Int) H 0 rfl (Nat.le_refl _) hz hsz (.tmp 23) (.tmp 25) 37 info3 Try.underlying37 rfl rfl (by decide) rfl rfl ?_; intro A1 c1 w4 H4 z4)
        go_roundg (N - (i + 1))
        case measure => omega
        case rel => exact ⟨i + 1, A1, c1, by rw [e2.out], rfl, by omega, by omega, by rw [e2.out, e1.out]; exact H4⟩
    · obtain rfl : i = N := by omega
      go_wp2
      go_ret
      exact ⟨A, c, rfl, H⟩
end
end Go.Proofs.Ytcbpmmcpidfllaa.Rq
end
section
namespace Go.Proofs.Ytcbpmmcpidfllaa.Rk
set_option linter.unusedVariables false
set_option linter.unusedSimpArgs false
open Go Go.RowKit Go.Proofs.YtcbpmmcpidfllaaW.PrintWords Go.Proofs.YtcbpmmcpidfllaaW.PrintLast Go.Proofs.Ytcbpmmcpidfllaa.Hd Go.Proofs.Ytcbpmmcpidfllaa.Os Go.Proofs.Ytcbpmmcpidfllaa.Tb Go.Proofs.Ytcbpmmcpidfllaa.Tm Go.Proofs.Ytcbpmmcpidfllaa.Ro Go.Proofs.Ytcbpmmcpidfllaa.Ip Go.Proofs.Ytcbpmmcpidfllaa.Rs Go.Proofs.Ytcbpmmcpidfllaa.Rn Go.Proofs.Ytcbpmmcpidfllaa.Rq
def alfa : ByteArray := ⟨#[97, 108, 102, 97]⟩
def beta : ByteArray := ⟨#[98, 101, 116, 97]⟩
theorem new_ok : newE 3 [] [⟨alfa, 0⟩, ⟨beta, 1⟩] = 0 := by kernel_rfl
theorem has_ok : has cmpS (msE 3 [] [⟨alfa, 0⟩, ⟨beta, 1⟩]).2 beta = true := by kernel_rfl
theorem get_ok : (Tb.get cmpS (msE 3 [] [⟨alfa, 0⟩, ⟨beta, 1⟩]).2 beta).getD (.int .i64 0) = .int .i64 1 := by kernel_rfl
theorem two_members {W : World} {b : Nat} (h : Box b 64 #[.string alfa, .int .i64 0, .string beta, .int .i64 1] W) : CM (some ⟨b, 0, none⟩) [⟨alfa, 0⟩, ⟨beta, 1⟩] W := by
  refine ⟨rfl, by decide, fun _ => ⟨_, rfl, fun j p hj => ⟨[.string p.f0, .int .i64 p.f1], rfl, k63_mk _ _, fun i u hu => ?_⟩⟩⟩
  have hj2 : j < 2 := (List.getElem?_eq_some_iff.1 hj).1
  have hi2 : i < 2 := (List.getElem?_eq_some_iff.1 hu).1
  rw [Addr.add_mid, Nat.zero_add, blk_cell h]
  rcases j with _ | _ | j
  · obtain rfl : _ = p := by simpa using hj
    rcases i with _ | _ | i
    · exact hu
    · exact hu
    · omega
  · obtain rfl : _ = p := by simpa using hj
    rcases i with _ | _ | i
    · exact hu
    · exact hu
    · omega
  · omega
theorem ok_msE {nodes : Int} : ∀ (ms : List S63) (lh : Rws) (i : Nat), Ok lh i → Ok (msE nodes lh ms).2 (i + ms.length)
  | [], lh, i, h => h
  | x :: r, lh, i, h => by
    unfold msE
    split
    · exact ⟨h.up, h.one, Nat.le_trans h.len (Nat.le_add_right _ _)⟩
    · have := ok_msE (nodes := nodes) r (memL nodes lh x.f0 x.f1) (i + 1) (ok_mem h x.f0)
      rw [List.length_cons, show i + (r.length + 1) = i + 1 + r.length by omega]
      exact this
theorem pe_ok : pe 0 (3 : Int).toNat = [1, 2] := by kernel_rfl
set_option maxRecDepth 100000 in
set_option maxHeartbeats 4000000 in
theorem known_c {w : World} : Tells Try.prog 9 #[] w (.bool true) := by
  unfold Tells
  have H0 := ((All.start w).box w.heap.size 64 #[.string alfa, .int .i64 0, .string beta, .int .i64 1])
  have H1 := H0.turn 0 rfl ((H0.get 0 rfl).imp fun W hW => two_members hW)
  have H2 := H1.put (ok := fun _ => False) (T := CS none []) ⟨(fun k h => h.elim), fun W _ => Kd.C_nil _ W⟩ (fun _ _ _ h => h.elim)
  have hnew := new_c (nodes := 3) (qi := 0) (qm := 1) (ci := 0) (cm := 2) H2 rfl rfl (Nat.le_refl _) (Nat.le_refl _)
  rw [new_ok] at hnew
  clear H0 H1 H2
  have oM := ok_msE (nodes := 3) [⟨alfa, 0⟩, ⟨beta, 1⟩] [] 0 ok_nil
  go_enter Try.func9, Try.ntmps9
  go_wp2_with fail
  refine hnew.mono ?_
  rintro e w1 ⟨p, rfl, hres⟩
  clear hnew
  obtain ⟨h1, h2, ⟨R, bh, bi, A, c, B, d, rfl, hR, hbh, hbi, H3⟩⟩ := hres.good rfl
  have hh := home_c (s := beta) H3 oM.up (by have := oM.len; simp at this; omega)
  rw [has_ok, get_ok] at hh
  clear hres h1 h2
  go_wp2_with fail
  refine hh.on H3 fun w2 H4 => ?_
  have hp := peers_c (node := 0) H4 (by decide) (by decide) (by decide)
  rw [pe_ok] at hp
  clear hh H3
  go_wp2_with fail
  refine hp.mono ?_
  rintro e w3 ⟨A1, c1, rfl, H5⟩
  clear hp H4
  have H6 := H5.lit .i64 w3.heap.size [1, 2] 3
  have hs := clevisref04_Same.calls 10 A1 c1 [1, 2] (some ⟨w3.heap.size, 0, none⟩) 2 [1, 2] true _ (by have h := (held_reads (H6.get 1 rfl)).2.2.now; exact h) (by have h := (held_reads (H6.get 1 rfl)).2.1; exact h) (H6.at 0 rfl) (Nat.le_refl _) (by kernel_rfl)
  go_wp2_with fail
  refine hs.mono ?_
  rintro e w4 ⟨rfl, hd⟩
  have H7 := H6.grow (hd.below)
  go_wp2
  go_ret
  exact ⟨rfl, H7.old⟩
end Go.Proofs.Ytcbpmmcpidfllaa.Rk
end
section
namespace Go.Proofs.Ytcbpmmcpidfllaa.Rp
set_option linter.unusedVariables false
set_option linter.unusedSimpArgs false
open Go Go.RowKit Go.Proofs.YtcbpmmcpidfllaaW.PrintWords Go.Proofs.YtcbpmmcpidfllaaW.PrintLast Go.Proofs.Ytcbpmmcpidfllaa.Hd Go.Proofs.Ytcbpmmcpidfllaa.Os Go.Proofs.Ytcbpmmcpidfllaa.Tb Go.Proofs.Ytcbpmmcpidfllaa.Tm Go.Proofs.Ytcbpmmcpidfllaa.Ro Go.Proofs.Ytcbpmmcpidfllaa.Ip Go.Proofs.Ytcbpmmcpidfllaa.Rs Go.Proofs.Ytcbpmmcpidfllaa.Rn
def Ends {α : Type} (g : Nat → Option α) (v : α) : Prop := ∃ K, ∀ k, K ≤ k → g k = some v
theorem Ends.step {α : Type} {g g' : Nat → Option α} {v : α} (K0 : Nat) (h : Ends g v) (e : ∀ k, K0 ≤ k → g' (k + 1) = g k) : Ends g' v := by
  obtain ⟨K, hK⟩ := h
  refine ⟨max K K0 + 1, fun k hk => ?_⟩
  obtain ⟨k, rfl⟩ : ∃ m, k = m + 1 := ⟨k - 1, by omega⟩
  rw [e k (by omega)]
  exact hK k (by omega)
theorem Ends.now {α : Type} {g : Nat → Option α} {v : α} (K0 : Nat) (e : ∀ k, K0 ≤ k → g (k + 1) = some v) : Ends g v :=
  ⟨K0 + 1, fun k hk => by
    obtain ⟨k, rfl⟩ : ∃ m, k = m + 1 := ⟨k - 1, by omega⟩
    exact e k (by omega)⟩
theorem wrap_succ {i : Nat} (h : i ≤ 1000000) : wrap64 ((i : Int) + 1) = ((i + 1 : Nat) : Int) := by unfold wrap64; omega
theorem rd_is {is : List ByteArray} {i : Nat} (h : i < is.length) : rdOf ByteArray.empty is (i : Int) = is[i] := by
  unfold rdOf
  rw [Int.toNat_natCast, List.getD_eq_getElem?_getD, List.getElem?_eq_getElem h]
  rfl
theorem rd_ms {ms : List S63} {i : Nat} (h : i < ms.length) : rd_T63 ms (i : Int) = ms[i] := by
  unfold rd_T63
  rw [Int.toNat_natCast, List.getD_eq_getElem?_getD, List.getElem?_eq_getElem h]
  rfl
theorem same_s {a b : ByteArray} : a.toList = b.toList ↔ a = b := ⟨fun h => good_S.one _ _ (cmpS_eq.2 h), fun h => by rw [h]⟩
section
variable {nodes : Int} {is : List ByteArray} {ms : List S63} {v : Int}
theorem l1_step {i j : Nat} (hi : i < is.length) (hl : is.length ≤ 1000) (hji : j < i) (k : Nat) : clevisref08_Check.l1 (k + 1) i j nodes is ms = if is[j] = is[i] then some 6 else clevisref08_Check.l1 k i ((j + 1 : Nat) : Int) nodes is ms := by
  simp only [clevisref08_Check.l1]
  rw [if_pos (by omega), if_pos (by omega), if_pos (by omega), if_pos (by omega), if_pos (by omega), rd_is hi, rd_is (show j < is.length by omega), wrap_succ (by omega)]
  simp only [same_s]
theorem l1_dup {i : Nat} (hi : i < is.length) (hl : is.length ≤ 1000) :
    ∀ n j, j + n = i → is[i] ∈ (is.take i).drop j → Ends (fun k => clevisref08_Check.l1 k i j nodes is ms) 6 := by
  intro n
  induction n with
  | zero =>
    intro j hj hm
    rw [List.drop_of_length_le (by rw [List.length_take]; omega)] at hm
    cases hm
  | succ n ih =>
    intro j hj hm
    have hji : j < i := by omega
    have hjt : j < (is.take i).length := by rw [List.length_take]; omega
    rw [List.drop_eq_getElem_cons hjt, List.getElem_take, List.mem_cons] at hm
    by_cases e : is[j] = is[i]
    · exact Ends.now 0 fun k _ => by show clevisref08_Check.l1 (k + 1) i j nodes is ms = _; rw [l1_step hi hl hji, if_pos e]
    · exact (ih (j + 1) (by omega) (hm.resolve_left fun q => e q.symm)).step 0 fun k _ => by show clevisref08_Check.l1 (k + 1) i j nodes is ms = _; rw [l1_step hi hl hji, if_neg e]
theorem l1_no {i : Nat} (hi : i < is.length) (hl : is.length ≤ 1000) (h0 : Ends (fun k => clevisref08_Check.l0 k ((i + 1 : Nat) : Int) nodes is ms) v) :
    ∀ n j, j + n = i → is[i] ∉ (is.take i).drop j → Ends (fun k => clevisref08_Check.l1 k i j nodes is ms) v := by
  intro n
  induction n with
  | zero =>
    intro j hj hm
    obtain rfl : j = i := by omega
    refine h0.step 0 fun k _ => ?_
    simp only [clevisref08_Check.l1]
    rw [if_neg (by omega), wrap_succ (by omega)]
  | succ n ih =>
    intro j hj hm
    have hji : j < i := by omega
    have hjt : j < (is.take i).length := by rw [List.length_take]; omega
    rw [List.drop_eq_getElem_cons hjt, List.getElem_take, List.mem_cons] at hm
    have e : ¬ is[j] = is[i] := fun q => hm (.inl q.symm)
    exact (ih (j + 1) (by omega) fun q => hm (.inr q)).step 0 fun k _ => by show clevisref08_Check.l1 (k + 1) i j nodes is ms = _; rw [l1_step hi hl hji, if_neg e]
theorem l0_ends (hl : is.length ≤ 1000) (h2 : Ends (fun k => clevisref08_Check.l2 k 0 nodes is ms) v) :
    ∀ n i li, i + n = is.length → Ok li i → (∀ s, s ∈ li.map (·.1) ↔ s ∈ is.take i) → Ends (fun k => clevisref08_Check.l0 k (i : Nat) nodes is ms) (if (isE li (is.drop i)).1 ≠ 0 then (isE li (is.drop i)).1 else v) := by
  intro n
  induction n with
  | zero =>
    intro i li hi hok hk
    rw [List.drop_of_length_le (by omega), isE, if_neg (by simp)]
    refine h2.step 0 fun k _ => ?_
    simp only [clevisref08_Check.l0]
    rw [if_neg (by omega)]
  | succ n ih =>
    intro i li hi hok hk
    have hil : i < is.length := by omega
    have hstep : ∀ k, 61 ≤ k → clevisref08_Check.l0 (k + 1) (i : Nat) nodes is ms = if isinE is[i] = 0 then clevisref08_Check.l1 k (i : Nat) 0 nodes is ms else some (isinE is[i]) := fun k hk => by
      simp only [clevisref08_Check.l0]
      rw [if_pos (by omega), if_pos (by omega), rd_is hil, rIsin _ k hk, Option.bind_some]
    rw [List.drop_eq_getElem_cons hil, isE]
    have hh : has cmpS li is[i] = true ↔ is[i] ∈ is.take i := (has_iff good_S hok.up).trans (hk _)
    by_cases e0 : isinE is[i] ≠ 0
    · have e1 : isinR li is[i] = isinE is[i] := by unfold isinR; rw [if_pos e0]
      simp only [e1, if_pos e0]
      exact Ends.now 61 fun k hk => by show clevisref08_Check.l0 (k + 1) (i : Nat) nodes is ms = _; rw [hstep k hk, if_neg e0]
    · have e0' : isinE is[i] = 0 := by omega
      have hgo : ∀ {u}, Ends (fun k => clevisref08_Check.l1 k (i : Nat) (0 : Nat) nodes is ms) u → Ends (fun k => clevisref08_Check.l0 k (i : Nat) nodes is ms) u := fun h => h.step 61 fun k hk => by
        show clevisref08_Check.l0 (k + 1) (i : Nat) nodes is ms = _
        rw [hstep k hk, if_pos e0']
        rfl
      by_cases e2 : is[i] ∈ is.take i
      · have e1 : isinR li is[i] = 6 := by unfold isinR; rw [if_neg e0, if_pos (hh.2 e2)]
        have e3 : (if isinR li is[i] ≠ 0 then (isinR li is[i], li) else isE (isinL li is[i]) (is.drop (i + 1))).1 = 6 := by rw [e1]; rfl
        rw [e3, if_pos (by decide)]
        exact hgo (l1_dup hil hl i 0 (by omega) (by rw [List.drop_zero]; exact e2))
      · have e1 : isinR li is[i] = 0 := by unfold isinR; rw [if_neg e0, if_neg (fun h => e2 (hh.1 h))]
        have e3 : (if isinR li is[i] ≠ 0 then (isinR li is[i], li) else isE (isinL li is[i]) (is.drop (i + 1))) = isE (isinL li is[i]) (is.drop (i + 1)) := by rw [e1]; rfl
        rw [e3]
        have hL : isinL li is[i] = put cmpS li is[i] (.bool true) := by unfold isinL; rw [if_neg e0]
        have hI := ih (i + 1) (isinL li is[i]) (by omega) (ok_isin hok _) (fun s => by
          rw [hL, List.take_succ_eq_append_getElem hil, List.mem_append, List.mem_singleton, ← hk s]
          constructor
          · intro h
            obtain ⟨⟨a, x⟩, hm, rfl⟩ := List.mem_map.1 h
            rcases (put_mem good_S hok.up).1 hm with ⟨rfl, _⟩ | ⟨_, h3⟩
            · exact .inr rfl
            · exact .inl (List.mem_map.2 ⟨_, h3, rfl⟩)
          · rintro (h | rfl)
            · obtain ⟨⟨a, x⟩, hm, rfl⟩ := List.mem_map.1 h
              by_cases q : a = is[i]
              · exact List.mem_map.2 ⟨(a, .bool true), (put_mem good_S hok.up).2 (.inl ⟨q, rfl⟩), rfl⟩
              · exact List.mem_map.2 ⟨(a, x), (put_mem good_S hok.up).2 (.inr ⟨q, hm⟩), rfl⟩
            · exact List.mem_map.2 ⟨(is[i], .bool true), (put_mem good_S hok.up).2 (.inl ⟨rfl, rfl⟩), rfl⟩)
        exact hgo (l1_no hil hl hI i 0 (by omega) (by rw [List.drop_zero]; exact e2))
theorem l3_step {i j : Nat} {nm : ByteArray} {home : Int} (hi : i < ms.length) (hl : ms.length ≤ 1000) (hji : j < i) (k : Nat) : clevisref08_Check.l3 (k + 1) i j nodes is ms nm home = if (ms[j]).f0 = nm then some 6 else clevisref08_Check.l3 k i ((j + 1 : Nat) : Int) nodes is ms nm home := by
  simp only [clevisref08_Check.l3]
  rw [if_pos (by omega), if_pos (by omega), if_pos (by omega), rd_ms (show j < ms.length by omega), wrap_succ (by omega)]
  simp only [same_s]
theorem l3_dup {i : Nat} {nm : ByteArray} {home : Int} (hi : i < ms.length) (hl : ms.length ≤ 1000) :
    ∀ n j, j + n = i → nm ∈ ((ms.take i).drop j).map (·.f0) → Ends (fun k => clevisref08_Check.l3 k i j nodes is ms nm home) 6 := by
  intro n
  induction n with
  | zero =>
    intro j hj hm
    rw [List.drop_of_length_le (by rw [List.length_take]; omega)] at hm
    cases hm
  | succ n ih =>
    intro j hj hm
    have hji : j < i := by omega
    have hjt : j < (ms.take i).length := by rw [List.length_take]; omega
    rw [List.drop_eq_getElem_cons hjt, List.getElem_take, List.map_cons, List.mem_cons] at hm
    by_cases e : (ms[j]).f0 = nm
    · exact Ends.now 0 fun k _ => by show clevisref08_Check.l3 (k + 1) i j nodes is ms nm home = _; rw [l3_step hi hl hji, if_pos e]
    · exact (ih (j + 1) (by omega) (hm.resolve_left fun q => e q.symm)).step 0 fun k _ => by show clevisref08_Check.l3 (k + 1) i j nodes is ms nm home = _; rw [l3_step hi hl hji, if_neg e]
theorem l3_bad {i : Nat} {nm : ByteArray} {home : Int} (hi : i < ms.length) (hl : ms.length ≤ 1000) (hb : home < 0 ∨ home ≥ nodes) :
    ∀ n j, j + n = i → nm ∉ ((ms.take i).drop j).map (·.f0) → Ends (fun k => clevisref08_Check.l3 k i j nodes is ms nm home) 5 := by
  intro n
  induction n with
  | zero =>
    intro j hj hm
    obtain rfl : j = i := by omega
    refine Ends.now 0 fun k _ => ?_
    simp only [clevisref08_Check.l3]
    rw [if_neg (by omega)]
    by_cases h : home < 0
    · rw [if_pos h]
    · rw [if_neg h, if_pos (hb.resolve_left h)]
  | succ n ih =>
    intro j hj hm
    have hji : j < i := by omega
    have hjt : j < (ms.take i).length := by rw [List.length_take]; omega
    rw [List.drop_eq_getElem_cons hjt, List.getElem_take, List.map_cons, List.mem_cons] at hm
    have e : ¬ (ms[j]).f0 = nm := fun q => hm (.inl q.symm)
    exact (ih (j + 1) (by omega) fun q => hm (.inr q)).step 0 fun k _ => by show clevisref08_Check.l3 (k + 1) i j nodes is ms nm home = _; rw [l3_step hi hl hji, if_neg e]
theorem l3_no {i : Nat} {nm : ByteArray} {home : Int} (hi : i < ms.length) (hl : ms.length ≤ 1000) (hb : ¬ (home < 0 ∨ home ≥ nodes)) (h0 : Ends (fun k => clevisref08_Check.l2 k ((i + 1 : Nat) : Int) nodes is ms) v) :
    ∀ n j, j + n = i → nm ∉ ((ms.take i).drop j).map (·.f0) → Ends (fun k => clevisref08_Check.l3 k i j nodes is ms nm home) v := by
  intro n
  induction n with
  | zero =>
    intro j hj hm
    obtain rfl : j = i := by omega
    refine h0.step 0 fun k _ => ?_
    simp only [clevisref08_Check.l3]
    rw [if_neg (by omega), if_neg (by omega), if_neg (by omega), wrap_succ (by omega)]
  | succ n ih =>
    intro j hj hm
    have hji : j < i := by omega
    have hjt : j < (ms.take i).length := by rw [List.length_take]; omega
    rw [List.drop_eq_getElem_cons hjt, List.getElem_take, List.map_cons, List.mem_cons] at hm
    have e : ¬ (ms[j]).f0 = nm := fun q => hm (.inl q.symm)
    exact (ih (j + 1) (by omega) fun q => hm (.inr q)).step 0 fun k _ => by show clevisref08_Check.l3 (k + 1) i j nodes is ms nm home = _; rw [l3_step hi hl hji, if_neg e]
theorem keys_put {li : Rws} (hu : Up cmpS li) (k s : ByteArray) (x : Value) : s ∈ (put cmpS li k x).map (·.1) ↔ s ∈ li.map (·.1) ∨ s = k := by
  constructor
  · intro h
    obtain ⟨⟨a, y⟩, hm, rfl⟩ := List.mem_map.1 h
    rcases (put_mem good_S hu).1 hm with ⟨rfl, _⟩ | ⟨_, h3⟩
    · exact .inr rfl
    · exact .inl (List.mem_map.2 ⟨_, h3, rfl⟩)
  · rintro (h | rfl)
    · obtain ⟨⟨a, y⟩, hm, rfl⟩ := List.mem_map.1 h
      by_cases q : a = k
      · exact List.mem_map.2 ⟨(a, x), (put_mem good_S hu).2 (.inl ⟨q, rfl⟩), rfl⟩
      · exact List.mem_map.2 ⟨(a, y), (put_mem good_S hu).2 (.inr ⟨q, hm⟩), rfl⟩
    · exact List.mem_map.2 ⟨(s, x), (put_mem good_S hu).2 (.inl ⟨rfl, rfl⟩), rfl⟩
theorem l2_ends (hl : ms.length ≤ 1000) :
    ∀ n i lh, i + n = ms.length → Ok lh i → (∀ s, s ∈ lh.map (·.1) ↔ s ∈ (ms.take i).map (·.f0)) → Ends (fun k => clevisref08_Check.l2 k (i : Nat) nodes is ms) (msE nodes lh (ms.drop i)).1 := by
  intro n
  induction n with
  | zero =>
    intro i lh hi hok hk
    rw [List.drop_of_length_le (by omega), msE]
    refine Ends.now 0 fun k _ => ?_
    simp only [clevisref08_Check.l2]
    rw [if_neg (by omega)]
  | succ n ih =>
    intro i lh hi hok hk
    have hil : i < ms.length := by omega
    obtain ⟨x, hx⟩ : ∃ x, ms[i] = x := ⟨_, rfl⟩
    have hstep : ∀ k, 70 ≤ k → clevisref08_Check.l2 (k + 1) (i : Nat) nodes is ms = if memN x.f0 = 0 then clevisref08_Check.l3 k (i : Nat) 0 nodes is ms x.f0 x.f1 else some (memN x.f0) := fun k hk => by
      simp only [clevisref08_Check.l2]
      rw [if_pos (by omega), if_pos (by omega), rd_ms hil, hx, rMember' _ k hk, Option.bind_some]
    rw [List.drop_eq_getElem_cons hil, hx, msE]
    have hh : has cmpS lh x.f0 = true ↔ x.f0 ∈ (ms.take i).map (·.f0) := (has_iff good_S hok.up).trans (hk _)
    by_cases e0 : memN x.f0 ≠ 0
    · have e1 : memR nodes lh x.f0 x.f1 = memN x.f0 := by unfold memR; rw [if_pos e0]
      rw [e1, if_pos e0]
      exact Ends.now 70 fun k hk => by show clevisref08_Check.l2 (k + 1) (i : Nat) nodes is ms = _; rw [hstep k hk, if_neg e0]
    · have e0' : memN x.f0 = 0 := by omega
      have hgo : ∀ {u}, Ends (fun k => clevisref08_Check.l3 k (i : Nat) (0 : Nat) nodes is ms x.f0 x.f1) u → Ends (fun k => clevisref08_Check.l2 k (i : Nat) nodes is ms) u := fun h => h.step 70 fun k hk => by
        show clevisref08_Check.l2 (k + 1) (i : Nat) nodes is ms = _
        rw [hstep k hk, if_pos e0']
        rfl
      by_cases e2 : x.f0 ∈ (ms.take i).map (·.f0)
      · have e1 : memR nodes lh x.f0 x.f1 = 6 := by unfold memR; rw [if_neg e0, if_pos (hh.2 e2)]
        rw [e1, if_pos (by decide)]
        exact hgo (l3_dup hil hl i 0 (by omega) (by rw [List.drop_zero]; exact e2))
      · by_cases hb : x.f1 < 0 ∨ x.f1 ≥ nodes
        · have e1 : memR nodes lh x.f0 x.f1 = 5 := by unfold memR; rw [if_neg e0, if_neg (fun h => e2 (hh.1 h)), if_pos hb]
          rw [e1, if_pos (by decide)]
          exact hgo (l3_bad hil hl hb i 0 (by omega) (by rw [List.drop_zero]; exact e2))
        · have e1 : memR nodes lh x.f0 x.f1 = 0 := by unfold memR; rw [if_neg e0, if_neg (fun h => e2 (hh.1 h)), if_neg hb]
          rw [e1, if_neg (by decide)]
          have hL : memL nodes lh x.f0 x.f1 = put cmpS lh x.f0 (.int .i64 x.f1) := by unfold memL; rw [e1]; rfl
          have hI := ih (i + 1) (memL nodes lh x.f0 x.f1) (by omega) (ok_mem hok _) (fun s => by
            rw [hL, List.take_succ_eq_append_getElem hil, List.map_append, List.mem_append, hx, keys_put hok.up, hk s]
            simp)
          exact hgo (l3_no hil hl hb hI i 0 (by omega) (by rw [List.drop_zero]; exact e2))
theorem check_f (hl : is.length ≤ 1000) (hm : ms.length ≤ 1000) : Ends (fun k => clevisref08_Check.f k nodes is ms) (newE nodes is ms) := by
  unfold newE
  have hf : ∀ k, clevisref08_Check.f (k + 1) nodes is ms = if nodes < 1 ∨ nodes > 3 then some 1 else clevisref08_Check.j0 (k + 1) false nodes is ms := fun k => by
    unfold clevisref08_Check.f
    by_cases h1 : nodes < 1
    · rw [if_pos h1, if_pos (.inl h1)]; simp only [clevisref08_Check.j0, if_true]
    · rw [if_neg h1]
      by_cases h2 : nodes > 3
      · rw [if_pos (.inr h2), decide_eq_true h2]; simp only [clevisref08_Check.j0, if_true]
      · rw [if_neg (by omega), decide_eq_false h2]
  by_cases c1 : nodes < 1 ∨ nodes > 3
  · rw [if_pos c1]
    exact Ends.now 0 fun k _ => by show clevisref08_Check.f (k + 1) nodes is ms = _; rw [hf, if_pos c1]
  rw [if_neg c1]
  have hj : ∀ k, clevisref08_Check.f (k + 1 + 1) nodes is ms = if is.length > 32 ∨ ms.length > 64 then some 2 else clevisref08_Check.l0 k 0 nodes is ms := fun k => by
    rw [hf, if_neg c1]
    simp only [clevisref08_Check.j0]
    rw [if_neg (by decide)]
    by_cases h1 : is.length > 32
    · rw [if_pos (by omega), if_pos (.inl h1)]; simp only [clevisref08_Check.j1, if_true]
    · rw [if_neg (by omega)]
      by_cases h2 : ms.length > 64
      · rw [if_pos (.inr h2), decide_eq_true (by omega)]; simp only [clevisref08_Check.j1, if_true]
      · rw [if_neg (by omega), decide_eq_false (by omega)]; simp only [clevisref08_Check.j1]; rw [if_neg (by decide)]
  by_cases c2 : is.length > 32 ∨ ms.length > 64
  · rw [if_pos c2]
    exact ⟨2, fun k hk => by
      obtain ⟨k, rfl⟩ : ∃ m, k = m + 1 + 1 := ⟨k - 2, by omega⟩
      show clevisref08_Check.f (k + 1 + 1) nodes is ms = _
      rw [hj, if_pos c2]⟩
  rw [if_neg c2]
  have h2 := l2_ends (nodes := nodes) (is := is) hm ms.length 0 [] (by omega) ok_nil (by simp)
  have h0 := l0_ends hl h2 is.length 0 [] (by omega) ok_nil (by simp)
  rw [List.drop_zero, List.drop_zero] at h0
  obtain ⟨K, hK⟩ := h0
  exact ⟨K + 2, fun k hk => by
    obtain ⟨k, rfl⟩ : ∃ m, k = m + 1 + 1 := ⟨k - 2, by omega⟩
    show clevisref08_Check.f (k + 1 + 1) nodes is ms = _
    rw [hj, if_neg c2]
    exact hK k (by omega)⟩
end
end Go.Proofs.Ytcbpmmcpidfllaa.Rp
end
section
namespace Go.Proofs.Ytcbpmmcpidfllaa.Ry
set_option linter.unusedVariables false
set_option linter.unusedSimpArgs false
open Go Go.RowKit Go.Proofs.YtcbpmmcpidfllaaW.PrintWords Go.Proofs.YtcbpmmcpidfllaaW.PrintLast Go.Proofs.Ytcbpmmcpidfllaa.Hd Go.Proofs.Ytcbpmmcpidfllaa.Os Go.Proofs.Ytcbpmmcpidfllaa.Tb Go.Proofs.Ytcbpmmcpidfllaa.Tm Go.Proofs.Ytcbpmmcpidfllaa.Ro Go.Proofs.Ytcbpmmcpidfllaa.Ip Go.Proofs.Ytcbpmmcpidfllaa.Rs Go.Proofs.Ytcbpmmcpidfllaa.Rn
section
variable {w0 w : World} {L : List F2} {qi qm ci cm : Nat} {nodes : Int} {Ai Am : Option Addr} {is : List ByteArray} {ms : List S63} {okI okM : Nat → Prop}
def enc (x : S63) : List Value := [.string x.f0, .int .i64 x.f1]
theorem New.tail {f : F2} {w0 w : World} {L : List F2} {nodes : Int} {is : List ByteArray} {ms : List S63} {p : Option Addr} {E : Int} (h : New w0 w nodes is ms (f :: L) p E) : New w0 w nodes is ms L p E := by
  refine ⟨fun e => ⟨(h.bad e).1, (h.bad e).2.tail⟩, fun e => ⟨(h.good e).1, (h.good e).2.1, ?_⟩⟩
  obtain ⟨R, bh, bi, A, c, B, d, rfl, hR, hbh, hbi, H⟩ := (h.good e).2.2
  exact ⟨R, bh, bi, A, c, B, d, rfl, hR, hbh, hbi, H.cut 5⟩
theorem snoc_enc {ys : List S63} {i : Nat} (h : i < ys.length) : (ys.take (i + 1)).flatMap enc = (ys.take i).flatMap enc ++ enc ys[i] := by
  rw [List.take_succ_eq_append_getElem h, List.flatMap_append]
  simp
theorem k63_c {lo n : Nat} {ys : List S63} {v : Value} {W : World} (h : Ow lo 64 2 v n (ys.flatMap enc) W) : ∃ A c, v = .slice A n c ∧ ys.length = n ∧ n ≤ c ∧ Kd.C k63 W A n ys := ow_C k63 enc k63_mk (by decide) h
set_option maxRecDepth 100000 in
set_option maxHeartbeats 4000000 in
theorem to_c (H : All w0 w L) (hqi : L[qi]? = some (okI, CS Ai (is.take 40))) (hqm : L[qm]? = some (okM, CM Am (ms.take 70))) (hci : is.length ≤ ci) (hcm : ms.length ≤ cm) :
    Calls Try.prog 8 #[.agg #[.int .i64 nodes, .slice Ai is.length ci, .slice Am ms.length cm]] w fun e w' => ∃ p, e = .returned (.tuple #[.pointer p, .agg #[.int .i64 nodes, .slice Ai (is.take 40).length ci, .slice Am (ms.take 70).length cm], .int .i64 (newE nodes (is.take 40) (ms.take 70))]) ∧ New w0 w' nodes (is.take 40) (ms.take 70) L p (newE nodes (is.take 40) (ms.take 70)) := by
  have m1 : min (is.length : Int) 40 = ((is.take 40).length : Int) := by rw [List.length_take]; omega
  have m2 : min (ms.length : Int) 70 = ((ms.take 70).length : Int) := by rw [List.length_take]; omega
  have l1 : (is.take 40).length ≤ 40 := by rw [List.length_take]; omega
  have l2 : (ms.take 70).length ≤ 70 := by rw [List.length_take]; omega
  have l3 : (is.take 40).length ≤ ci := by rw [List.length_take]; omega
  have l4 : (ms.take 70).length ≤ cm := by rw [List.length_take]; omega
  generalize is.take 40 = xs at *
  generalize ms.take 70 = ys at *
  have H0 := ((H.row w0.heap.size 64 2).box w.heap.size 25 #[.int .i64 nodes, .slice Ai xs.length ci, .slice Am ys.length cm]).box (w.heap.size + 1) 25 #[.int .i64 0, .slice none 0 0, .slice none 0 0]
  have r0 := H0.rd 1 rfl
  have hw0 := H.old.size
  go_enter Try.func8, Try.ntmps8
  go_wp2_with fail
  go_loopg [5, 6] ys.length (fun kx s5 s6 wr => ∃ (i : Nat) (A : Option Addr) (c : Nat), s5 = .slice A i c ∧ s6 = .int .i64 (i : Int) ∧ i ≤ ys.length ∧ ys.length - i ≤ kx ∧
    All w0 wr (bx (w.heap.size + 1) 25 #[.int .i64 0, .slice none 0 0, .slice none 0 0] :: bx w.heap.size 25 #[.int .i64 nodes, .slice Ai xs.length ci, .slice Am ys.length cm] :: ow w0.heap.size 64 2 (.slice A i c) i ((ys.take i).flatMap enc) :: L))
  case atStart => exact ⟨0, none, 0, rfl, rfl, Nat.zero_le _, by omega, H0⟩
  case round =>
    clear H0 r0 H
    obtain ⟨i, A, c, rfl, rfl, hi, hik, H⟩ := hrel
    have hz := H.old.size
    have r1 := H.rd 1 rfl
    by_cases hlt : i < ys.length
    · have hli : (i : Int) < (ys.length : Int) := by omega
      obtain ⟨ad, rfl, -, -⟩ := at_T63 (H.at (qm + 3) hqm) (i : Int) (by omega) hli
      have e1 : rd_T63 ys (i : Int) = ys[i] := Rp.rd_ms hlt
      have hc : ∀ W, All w0 W (bx (w.heap.size + 1) 25 #[.int .i64 0, .slice none 0 0, .slice none 0 0] :: bx w.heap.size 25 #[.int .i64 nodes, .slice Ai xs.length ci, .slice (some ad) ys.length cm] :: ow w0.heap.size 64 2 (.slice A i c) i ((ys.take i).flatMap enc) :: L) →
          W.cell? (ad.add (i * 2)) = some (.string ys[i].f0) ∧ W.cell? ⟨(ad.add (i * 2)).block, (ad.add (i * 2)).off + 1, none⟩ = some (.int .i64 ys[i].f1) := fun W hW => by
        obtain ⟨ad', e, h0, h1⟩ := at_T63 (hW.at (qm + 3) hqm) (i : Int) (by omega) hli
        cases e
        rw [Int.toNat_natCast, e1] at h0 h1
        exact ⟨h0, h1⟩
      have hsn := Aside0.mk (snoc_enc hlt)
      have hsz : (i + 1) * 24 ≤ 140737488355328 := by omega
      generalize ys[i] = x at *
      clear e1
      go_wp2_with fail
      refine planD_ [15] (true, [([], []), ([], []), ([1], [1]), ([], []), ([2, 3], [2, 3]), ([4], [4]), ([5], [5]), ([], []), ([7], [7]), ([], []), ([8, 9], [8, 9]), ([10], [10]), ([11], [11]), ([6, 12], [6, 12]), ([13], [13]), ([0, 14], [0, 14]), ([15, 15, 0, 1, 2, 3, 4, 5, 6, 7, 8, 9, 10, 11, 12, 13, 14, 15], [0, 15])]) [.p 0, .p 1, .t 2, .p 3, .p 4, .p 5, .t 6, .p 7, .t 8, .p 9, .p 10, .p 11, .t 12, .p 13, .c 14, .l 15, .p 16] H (by kernel_rfl) (by kernel_rfl) rfl rfl (by kernel_rfl) (by intro c a w d v h; cases d <;> exact h) (fun w2 H2 => ?_)
      refine pl_P (h := ?_)
      refine pl_P (h := ?_)
      refine pl_L 1 2 H2 rfl (h := ?_)
      refine pl_P (h := ?_)
      refine pl_P (h := ?_)
      refine pl_P (h := ?_)
      refine pl_C H2 (fun W hW => (hc W hW).1) (h := ?_)
      refine pl_P (h := ?_)
      refine pl_L 1 2 H2 rfl (h := ?_)
      refine pl_P (h := ?_)
      refine pl_P (h := ?_)
      refine pl_P (h := ?_)
      refine pl_C H2 (fun W hW => (hc W hW).2) (h := ?_)
      refine pl_P (h := ?_)
      have hz2 := H2.old.size
      refine pl_R (H2.any (.cells #[.string x.f0, .int .i64 x.f1] 64 (0, 0))) (fun H3 => ?_)
      refine pl_AL (enc x) (.agg #[.string ByteArray.empty, .int .i64 0]) 2 H2 rfl (Nat.le_refl _) hz2 hsz (by kernel_rfl) Try.underlying61 rfl (by decide) (by decide) rfl (by unfold enc; simp [Value.oneCell']) (h := fun A1 c1 w3 H3 hz3 => ?_)
      refine pl_P (h := ?_)
      refine pl_done ?_
      go_wp2_with fail
      go_roundg (ys.length - (i + 1))
      case measure => omega
      case rel => exact ⟨i + 1, A1, c1, rfl, rfl, by omega, by omega, by rw [hsn.out]; exact H3⟩
    · obtain rfl : i = ys.length := by omega
      rw [List.take_length] at H
      obtain ⟨A', c', hA, -, hcc, -⟩ := k63_c (H.at 2 rfl)
      cases hA
      have H2 := H.turn 2 rfl (T' := CM A ys) ((H.get 2 rfl).imp fun W hW => by
        obtain ⟨A', c', hA, -, -, hC⟩ := k63_c hW
        cases hA
        exact hC)
      have hnew := new_c (nodes := nodes) (qi := qi + 3) (qm := 2) (ci := ci) (cm := c) H2 hqi rfl l3 hcc
      clear H
      obtain ⟨E, hEe⟩ : ∃ E, newE nodes xs ys = E := ⟨_, rfl⟩
      rw [hEe] at hnew
      replace hEe := Aside0.mk hEe
      by_cases hE : E = 0
      · go_wp2_with fail
        refine hnew.mono ?_
        rintro e w3 ⟨p, rfl, hN⟩
        obtain ⟨h1, h2, ⟨R, bh, bi, A2, c2, B2, d2, rfl, hR, hbh, hbi, H3⟩⟩ := hN.good hE
        replace h1 := Aside0.mk h1
        replace h2 := Aside0.mk h2
        clear hnew H2 hN
        subst hE
        go_wp2_with fail
        refine planD_ [4] (true, [([], []), ([], []), ([], []), ([0, 0], [0]), ([1, 3, 0, 1, 3], [1]), ([2, 4, 0, 1, 2, 3, 4], [2])]) [.p 0, .t 1, .p 2, .p 3, .l 4, .p 5] H3 (by kernel_rfl) (by kernel_rfl) rfl rfl (by kernel_rfl) (by intro c a w d v h; cases d <;> exact h) (fun w4 H4 => ?_)
        refine pl_P (h := ?_)
        refine pl_B 6 H4 rfl (h := ?_)
        refine pl_P (h := ?_)
        refine pl_P (h := ?_)
        refine pl_WRL 5 #[.int .i64 nodes, .slice Ai xs.length ci, .slice Am ys.length cm] H4 rfl (by omega) (fun H5 => ?_) (by kernel_rfl) rfl
        refine pl_P (h := ?_)
        refine pl_done ?_
        go_wp2_with fail
        refine H5.ret3 (u := .pointer (some ⟨R, 0, none⟩)) (v := .int .i64 0) 5 rfl rfl rfl rfl rfl Try.underlying25 rfl (by kernel_rfl) rfl ?_
        rw [hEe.out]
        exact ⟨_, rfl, ⟨fun h => absurd rfl h, fun _ => ⟨h1.out, h2.out, R, bh, bi, A2, c2, B2, d2, rfl, hR, hbh, hbi, ((H5.cut 7).cut 6).cut 5⟩⟩⟩
      · go_wp2_with fail
        refine hnew.mono ?_
        rintro e w3 ⟨p, rfl, hN⟩
        obtain ⟨rfl, H3⟩ := hN.bad hE
        clear hnew H2 hN
        go_wp2_with fail
        refine planD_ [4] (true, [([], []), ([], []), ([], []), ([0, 0], [0]), ([1, 3, 0, 1, 3], [1]), ([2, 4, 0, 1, 2, 3, 4], [2])]) [.p 0, .t 1, .p 2, .p 3, .l 4, .p 5] H3 (by kernel_rfl) (by kernel_rfl) rfl rfl (by kernel_rfl) (by intro c a w d v h; cases d <;> exact h) (fun w4 H4 => ?_)
        refine pl_P (h := ?_)
        refine pl_B 1 H4 rfl (h := ?_)
        refine pl_P (h := ?_)
        refine pl_P (h := ?_)
        refine pl_WRL 0 #[.int .i64 nodes, .slice Ai xs.length ci, .slice Am ys.length cm] H4 rfl (by omega) (fun H5 => ?_) (by kernel_rfl) rfl
        refine pl_P (h := ?_)
        refine pl_done ?_
        go_wp2_with fail
        refine H5.ret3 (u := .pointer none) (v := .int .i64 E) 0 rfl rfl rfl rfl rfl Try.underlying25 rfl (by kernel_rfl) rfl ?_
        rw [hEe.out]
        exact ⟨_, rfl, ⟨fun _ => ⟨rfl, H5.drop 3⟩, fun h => absurd h hE⟩⟩
end
end Go.Proofs.Ytcbpmmcpidfllaa.Ry
end
section
namespace Go.Proofs.Ytcbpmmcpidfllaa.Yq
set_option linter.unusedVariables false
set_option linter.unusedSimpArgs false
open Go Go.RowKit Go.Proofs.YtcbpmmcpidfllaaW.PrintWords Go.Proofs.YtcbpmmcpidfllaaW.PrintLast Go.Proofs.Ytcbpmmcpidfllaa.Hd Go.Proofs.Ytcbpmmcpidfllaa.Os Go.Proofs.Ytcbpmmcpidfllaa.Tb Go.Proofs.Ytcbpmmcpidfllaa.Tm Go.Proofs.Ytcbpmmcpidfllaa.Ro Go.Proofs.Ytcbpmmcpidfllaa.Ip Go.Proofs.Ytcbpmmcpidfllaa.Rs Go.Proofs.Ytcbpmmcpidfllaa.Rn Go.Proofs.Ytcbpmmcpidfllaa.Rp Go.Proofs.Ytcbpmmcpidfllaa.Ry
def homeD : List S63 → ByteArray → Int
  | [], _ => -1
  | m :: r, s => if m.f0 = s then m.f1 else homeD r s
def hasD : List ByteArray → ByteArray → Bool
  | [], _ => false
  | x :: r, s => if x = s then true else hasD r s
section
variable {nodes : Int} {is : List ByteArray} {ms : List S63} {s : ByteArray}
theorem home_l0 (hl : ms.length ≤ 1000) : ∀ n i, i + n = ms.length → Rp.Ends (fun k => clevisref08_Home.l0 k s (i : Nat) nodes is ms) (homeD (ms.drop i) s) := by
  intro n
  induction n with
  | zero =>
    intro i hi
    rw [List.drop_of_length_le (by omega), homeD]
    refine Rp.Ends.now 0 fun k _ => ?_
    simp only [clevisref08_Home.l0]
    rw [if_neg (by omega)]
  | succ n ih =>
    intro i hi
    have hlt : i < ms.length := by omega
    rw [List.drop_eq_getElem_cons hlt, homeD]
    by_cases h : ms[i].f0 = s
    · rw [if_pos h]
      refine Rp.Ends.now 0 fun k _ => ?_
      simp only [clevisref08_Home.l0]
      rw [if_pos (by omega), if_pos (by omega), rd_ms hlt, if_pos (same_s.2 h)]
    · rw [if_neg h]
      refine Rp.Ends.step 0 (ih (i + 1) (by omega)) fun k _ => ?_
      simp only [clevisref08_Home.l0]
      rw [if_pos (by omega), if_pos (by omega), rd_ms hlt, if_neg (fun q => h (same_s.1 q)), wrap_succ (by omega)]
theorem has_l0 (hl : is.length ≤ 1000) : ∀ n i, i + n = is.length → Rp.Ends (fun k => clevisref08_Has.l0 k s (i : Nat) nodes is ms) (hasD (is.drop i) s) := by
  intro n
  induction n with
  | zero =>
    intro i hi
    rw [List.drop_of_length_le (by omega), hasD]
    refine Rp.Ends.now 0 fun k _ => ?_
    simp only [clevisref08_Has.l0]
    rw [if_neg (by omega)]
  | succ n ih =>
    intro i hi
    have hlt : i < is.length := by omega
    rw [List.drop_eq_getElem_cons hlt, hasD]
    by_cases h : is[i] = s
    · rw [if_pos h]
      refine Rp.Ends.now 0 fun k _ => ?_
      simp only [clevisref08_Has.l0]
      rw [if_pos (by omega), if_pos (by omega), rd_is hlt, if_pos (same_s.2 h)]
    · rw [if_neg h]
      refine Rp.Ends.step 0 (ih (i + 1) (by omega)) fun k _ => ?_
      simp only [clevisref08_Has.l0]
      rw [if_pos (by omega), if_pos (by omega), rd_is hlt, if_neg (fun q => h (same_s.1 q)), wrap_succ (by omega)]
variable {w : World} {A B : Option Addr} {ci cm : Nat}
theorem rhome_c (hI : CS A is w) (hM : CM B ms w) (hci : is.length ≤ ci) (hcm : ms.length ≤ cm) (hm : ms.length ≤ 1000) (s : ByteArray) :
    Tells Try.prog 16 #[.agg #[.int .i64 nodes, .slice A is.length ci, .slice B ms.length cm], .string s] w (.int .i64 (homeD ms s)) := by
  obtain ⟨K, hK⟩ := home_l0 (nodes := nodes) (is := is) (s := s) hm ms.length 0 (by omega)
  exact clevisref08_Home.calls K nodes A ci is B cm ms s _ w hI hci hM hcm (hK K (Nat.le_refl _))
theorem rhas_c (hI : CS A is w) (hM : CM B ms w) (hci : is.length ≤ ci) (hcm : ms.length ≤ cm) (hm : is.length ≤ 1000) (s : ByteArray) :
    Tells Try.prog 21 #[.agg #[.int .i64 nodes, .slice A is.length ci, .slice B ms.length cm], .string s] w (.bool (hasD is s)) := by
  obtain ⟨K, hK⟩ := has_l0 (nodes := nodes) (ms := ms) (s := s) hm is.length 0 (by omega)
  exact clevisref08_Has.calls K nodes A ci is B cm ms s _ w hI hci hM hcm (hK K (Nat.le_refl _))
theorem memR_zero {lh : Rws} {home : Int} (h : memR nodes lh s home = 0) : has cmpS lh s = false ∧ 0 ≤ home ∧ home < nodes := by
  unfold memR at h
  split at h
  · contradiction
  split at h
  · contradiction
  rename_i h2
  split at h
  · contradiction
  refine ⟨by simpa using h2, by omega, by omega⟩
theorem ms_tab : ∀ (ms : List S63) (lh : Rws), Up cmpS lh → (msE nodes lh ms).1 = 0 → Up cmpS (msE nodes lh ms).2 ∧ (msE nodes lh ms).2.length = lh.length + ms.length ∧
    (∀ s v, (s, v) ∈ (msE nodes lh ms).2 ↔ (s, v) ∈ lh ∨ ∃ m ∈ ms, m.f0 = s ∧ v = .int .i64 m.f1) ∧ (∀ m ∈ ms, 0 ≤ m.f1 ∧ m.f1 < nodes ∧ m.f0 ∉ lh.map (·.1)) ∧ ms.Pairwise (fun a b => a.f0 ≠ b.f0)
  | [], lh, hu, h => ⟨hu, rfl, fun s v => by simp [msE], (fun m hm => by cases hm), .nil⟩
  | x :: r, lh, hu, h => by
    unfold msE at h ⊢
    by_cases hz : memR nodes lh x.f0 x.f1 ≠ 0
    · rw [if_pos hz] at h
      exact absurd h hz
    · rw [if_neg hz] at h ⊢
      have hz : memR nodes lh x.f0 x.f1 = 0 := by omega
      obtain ⟨h1, h2, h3⟩ := memR_zero hz
      have e : memL nodes lh x.f0 x.f1 = put cmpS lh x.f0 (.int .i64 x.f1) := by unfold memL; rw [if_pos hz]
      rw [e] at h ⊢
      have hk : x.f0 ∉ lh.map (·.1) := fun hc => by rw [(has_iff good_S hu).2 hc] at h1; cases h1
      obtain ⟨a1, a2, a3, a4, a5⟩ := ms_tab r _ (put_up good_S hu) h
      refine ⟨a1, by rw [a2, put_len h1, List.length_cons]; omega, fun s v => ?_, fun m hm => ?_, List.pairwise_cons.2 ⟨fun m hm hc => ?_, a5⟩⟩
      · rw [a3, put_mem good_S hu]
        constructor
        · rintro ((⟨rfl, rfl⟩ | ⟨_, hl⟩) | ⟨m, hm, rfl, rfl⟩)
          · exact .inr ⟨x, List.mem_cons_self, rfl, rfl⟩
          · exact .inl hl
          · exact .inr ⟨m, List.mem_cons_of_mem _ hm, rfl, rfl⟩
        · rintro (hl | ⟨m, hm, rfl, rfl⟩)
          · refine .inl (.inr ⟨fun hc => hk (List.mem_map.2 ⟨_, hl, hc⟩), hl⟩)
          · rcases List.mem_cons.1 hm with rfl | hm
            · exact .inl (.inl ⟨rfl, rfl⟩)
            · exact .inr ⟨m, hm, rfl, rfl⟩
      · rcases List.mem_cons.1 hm with rfl | hm
        · exact ⟨h2, h3, hk⟩
        · obtain ⟨b1, b2, b3⟩ := a4 m hm
          exact ⟨b1, b2, fun hc => b3 ((keys_put hu _ _ _).2 (.inl hc))⟩
      · exact (a4 m hm).2.2 ((keys_put hu _ _ _).2 (.inr hc.symm))
theorem homeD_mem : ∀ {ms : List S63}, ms.Pairwise (fun a b => a.f0 ≠ b.f0) → ∀ m ∈ ms, homeD ms m.f0 = m.f1
  | x :: r, hp, m, hm => by
    obtain ⟨h1, h2⟩ := List.pairwise_cons.1 hp
    unfold homeD
    rcases List.mem_cons.1 hm with rfl | hm
    · rw [if_pos rfl]
    · rw [if_neg (h1 m hm)]
      exact homeD_mem h2 m hm
theorem homeD_not : ∀ {ms : List S63}, (∀ m ∈ ms, m.f0 ≠ s) → homeD ms s = -1
  | [], _ => rfl
  | x :: r, h => by
    unfold homeD
    rw [if_neg (h x List.mem_cons_self)]
    exact homeD_not fun m hm => h m (List.mem_cons_of_mem _ hm)
theorem tab_home (h : (msE nodes [] ms).1 = 0) (s : ByteArray) : (has cmpS (msE nodes [] ms).2 s = true → Tb.get cmpS (msE nodes [] ms).2 s = some (.int .i64 (homeD ms s)) ∧ 0 ≤ homeD ms s ∧ homeD ms s < nodes) ∧
    (has cmpS (msE nodes [] ms).2 s = false → homeD ms s = -1) := by
  obtain ⟨a1, a2, a3, a4, a5⟩ := ms_tab ms [] .nil h
  constructor
  · intro hh
    obtain ⟨⟨s', v⟩, hm, rfl⟩ := List.mem_map.1 ((has_iff good_S a1).1 hh)
    rcases (a3 _ _).1 hm with h1 | ⟨m, hm2, rfl, rfl⟩
    · cases h1
    · rw [homeD_mem a5 m hm2]
      exact ⟨(get_iff good_S a1).2 hm, (a4 m hm2).1, (a4 m hm2).2.1⟩
  · intro hh
    refine homeD_not fun m hm hc => ?_
    have : m.f0 ∈ (msE nodes [] ms).2.map (·.1) := List.mem_map.2 ⟨(m.f0, .int .i64 m.f1), (a3 _ _).2 (.inr ⟨m, hm, rfl, rfl⟩), rfl⟩
    rw [hc] at this
    rw [(has_iff good_S a1).2 this] at hh
    cases hh
theorem is_tab : ∀ (is : List ByteArray) (li : Rws), Up cmpS li → (isE li is).1 = 0 → Up cmpS (isE li is).2 ∧ (isE li is).2.length = li.length + is.length ∧ (∀ s, s ∈ (isE li is).2.map (·.1) ↔ s ∈ li.map (·.1) ∨ s ∈ is)
  | [], li, hu, h => ⟨hu, rfl, fun s => by simp [isE]⟩
  | x :: r, li, hu, h => by
    unfold isE at h ⊢
    by_cases hz : isinR li x ≠ 0
    · rw [if_pos hz] at h
      exact absurd h hz
    · rw [if_neg hz] at h ⊢
      have hz : isinR li x = 0 := by omega
      have hz2 := hz
      unfold isinR at hz2
      split at hz2
      · contradiction
      rename_i h1
      split at hz2
      · contradiction
      rename_i h2
      have h2 : has cmpS li x = false := by simpa using h2
      have e : isinL li x = put cmpS li x (.bool true) := by unfold isinL; rw [if_neg h1]
      rw [e] at h ⊢
      obtain ⟨a1, a2, a3⟩ := is_tab r _ (put_up good_S hu) h
      refine ⟨a1, by rw [a2, put_len h2, List.length_cons]; omega, fun s => ?_⟩
      rw [a3, keys_put hu, List.mem_cons]
      constructor
      · rintro ((h | h) | h)
        · exact .inl h
        · exact .inr (.inl h)
        · exact .inr (.inr h)
      · rintro (h | h | h)
        · exact .inl (.inl h)
        · exact .inl (.inr h)
        · exact .inr h
theorem hasD_iff : ∀ {is : List ByteArray}, hasD is s = true ↔ s ∈ is
  | [] => by simp [hasD]
  | x :: r => by
    unfold hasD
    split
    · rename_i h
      subst h
      simp
    · rename_i h
      rw [hasD_iff, List.mem_cons]
      exact ⟨.inr, fun q => q.resolve_left fun e => h e.symm⟩
theorem tab_has (h : (isE [] is).1 = 0) (s : ByteArray) : has cmpS (isE [] is).2 s = hasD is s := by
  obtain ⟨a1, a2, a3⟩ := is_tab is [] .nil h
  rw [Bool.eq_iff_iff, has_iff good_S a1, a3, hasD_iff]
  simp
end
end Go.Proofs.Ytcbpmmcpidfllaa.Yq
end
