/- Texts of this seat, put together (Zc23). -/
import Derived.Test.YthhgcjlgnafdcaaZc19
import Derived.Test.YthhgcjlgnafdcaaZc20
import Derived.Test.YthhgcjlgnafdcaaZc22
section
namespace Go.Proofs.Ythhgcjlgnafdcaa.Rx
set_option linter.unusedSimpArgs false
set_option linter.unusedVariables false
open Go Go.RowKit Go.Shelf Go.Proofs.YthhgcjlgnafdcaaW.PrintWords Go.Proofs.YthhgcjlgnafdcaaW.PrintLast Go.Proofs.Ythhgcjlgnafdcaa.Hd Go.Proofs.Ythhgcjlgnafdcaa.Os Go.Proofs.Ythhgcjlgnafdcaa.Tb Go.Proofs.Ythhgcjlgnafdcaa.Tm Go.Proofs.Ythhgcjlgnafdcaa.Px Go.Proofs.Ythhgcjlgnafdcaa.Wv Go.Proofs.Ythhgcjlgnafdcaa.Pp Go.Proofs.Ythhgcjlgnafdcaa.Pq Go.Proofs.Ythhgcjlgnafdcaa.Ps Go.Proofs.Ythhgcjlgnafdcaa.Rp Go.Proofs.Ythhgcjlgnafdcaa.Rw
section
attribute [local go_sem] Oper.semAt_some
variable {w0 w : World} {L : List F2} {b c : Nat} {A : Option Addr} {l : PR}
set_option maxRecDepth 100000 in
set_option maxHeartbeats 4000000 in
theorem rows_p (hC : Cells w0.heap.size L) (hl : l.length ≤ 1000)
    (H : All w0 w (bx b 66 #[.slice A l.length c] :: ow w0.heap.size 173 2 (.slice A l.length c) l.length (flat (Tj.rows l)) :: L)) :
    Calls Try.prog 31 #[.pointer (some ⟨b, 0, none⟩)] w fun e w' => ∃ A' c', e = .returned (.slice A' l.length c') ∧
      All w0 w' (ow w0.heap.size 79 2 (.slice A' l.length c') l.length (l.flatMap encR) :: bx b 66 #[.slice A l.length c] :: ow w0.heap.size 173 2 (.slice A l.length c) l.length (flat (Tj.rows l)) :: L) := by
  have H0 := (H.box w.heap.size 23 #[.slice none 0 0]).row w0.heap.size 79 2
  have hw0 := H.old.size
  obtain ⟨N, hN⟩ : ∃ n : Nat, 5 ≤ n := ⟨5, by omega⟩
  refine (callsIn_wide (n := N)).1 ?_
  refine callsIn_of_wp_marks Try.func31 rfl trivial ?_ rfl
  simp only [Try.ntmps31, List.size_toArray, List.length_cons, List.length_nil, Nat.reduceAdd, Nat.reduceSub, Array.replicate_succ, Array.replicate_zero, List.push_toArray, List.append_toArray, List.nil_append, List.cons_append]
  gi_wp2
  refine ⟨trivial, fun _ => by omega, ?_⟩
  refine (callsIn_wide.2 (Tj.each_c H0 (i := 2) rfl)).mono ?_
  rintro e w1 ⟨Bb, rfl, hBb, H1⟩
  have H2 : All w0 w1 (bx Bb 60 #[.slice A l.length c] :: ow w0.heap.size 173 2 (.slice A l.length c) l.length (flat (Tj.rows l)) :: ow w0.heap.size 79 2 (.slice none 0 0) 0 [] :: bx w.heap.size 23 #[.slice none 0 0] :: bx b 66 #[.slice A l.length c] :: L) := (H1.front 4 rfl).front 1 rfl
  gi_wp2
  have hseq := Tj.told_stops (N - 1) (by omega) Bb A l c w1 (fun k => Is Bb k ∨ Ob (.slice A l.length c) k) (by omega)
    (((H2.get 0 rfl).both' (H2.get 1 rfl)).imp fun W h => ⟨h.1, (ow_rng h.2).2.2⟩)
  refine range_all (n := N) (by omega) (gf := 132) (lb := #[.pointer (some ⟨Bb, 0, none⟩)]) rfl (enters_of Try.func132 (by kernel_rfl) rfl) (fun _ => rfl)
    (fun pre (p : Option Addr × Nat) => ow w0.heap.size 79 2 (.slice p.1 pre.length p.2) pre.length (pre.flatMap encR) :: bx w.heap.size 23 #[.slice p.1 pre.length p.2] :: bx b 66 #[.slice A l.length c] :: L)
    (fun s p => cells_bx (cells_ow (cells_ow (cells_bx (cells_bx hC))))) (none, 0) H2 hseq ?a1 ?assign ?body ?done
  case assign =>
    intro l x W K hK
    gi_wp2
    exact hK
  case body =>
    intro l' pre p x W H hlen
    obtain ⟨s, y⟩ := x
    obtain ⟨A1, c1⟩ := p
    have hz := H.old.size
    have hsz : (pre.length + 1) * 24 ≤ 140737488355328 := by omega
    have rl := H.rd 4 rfl
    clear H0 H1 H2 hseq
    gi_wp2_with (gi_at_builtin; refine appIn (encR (s, y)) H 3 rfl (Nat.le_refl _) hz hsz (.tmp 15) (.tmp 19) 23 (.agg #[.string ByteArray.empty, .int .i64 0]) (by kernel_rfl) Try.underlying23 rfl rfl rfl (by decide) (by decide) rfl rfl rfl (encR_one _) ?_; intro A2 c2 w4 H4 z4; have rl4 := H4.rd 4 rfl; have fl4 := H4.fz 4 rfl)
    have H5 := H4.set 4 rfl 0 (.slice A2 (pre.length + 1) c2) hw0
    refine ⟨A2, c2, ?_⟩
    exact H5
  case done =>
    rintro D xs ⟨A1, c1⟩ W hD rfl H hk
    have rl := H.rd 3 rfl
    clear H0 H1 H2 hseq
    gi_wp2
    refine mark_ret rfl hk (by simp [results, Try.results31, go_sem]) ⟨A1, c1, rfl, ?_⟩
    have H3 := H.putObj (cells_bx (cells_ow (cells_ow (cells_bx (cells_bx hC))))) (o' := .deferred none) hD hk rfl
    exact (((H3.cut 3).drop 1).front 2 rfl).front 2 rfl
end
section
variable {w0 w : World} {L : List F2} {ys : PR} {A0 : Option Addr} {qi ci : Nat} {okR : Nat → Prop}
set_option maxRecDepth 100000 in
set_option maxHeartbeats 4000000 in
theorem ofrows_c (H : All w0 w L) (hq : ∀ W, All w0 W L → CR A0 ys W) (hl : ys.length ≤ 1000) :
    Calls Try.prog 33 #[.slice A0 ys.length ci] w fun e w' => ∃ A c, e = .returned (.slice A ys.length c) ∧
      All w0 w' (ow w0.heap.size 71 2 (.slice A ys.length c) ys.length (ys.flatMap encR) :: L) := by
  have H1 := H.row w0.heap.size 71 2
  have hw0 := H.old.size
  clear H
  go_enter Try.func33, Try.ntmps33
  go_wp2_with fail
  go_loopg [3, 4] ys.length (fun kx s4 s5 wr => ∃ (i : Nat) (A : Option Addr) (c : Nat), s4 = .slice A i c ∧ s5 = .int .i64 (i : Int) ∧ i ≤ ys.length ∧ ys.length - i ≤ kx ∧
    All w0 wr (ow w0.heap.size 71 2 (.slice A i c) i ((ys.take i).flatMap encR) :: L))
  case atStart => exact ⟨0, none, 0, rfl, rfl, Nat.zero_le _, by omega, H1⟩
  case round =>
    clear H1
    obtain ⟨i, A, c, rfl, rfl, hi, hik, H⟩ := hrel
    by_cases hlt : i < ys.length
    · have hli : (i : Int) < (ys.length : Int) := Int.ofNat_lt.2 hlt
      obtain ⟨ad, rfl, -, -⟩ := at_krow (hq _ H.tail) hlt
      have hc : ∀ W, All w0 W (ow w0.heap.size 71 2 (.slice A i c) i ((ys.take i).flatMap encR) :: L) → W.cell? (ad.add (i * 2)) = some (.string ys[i].1) ∧ W.cell? ⟨(ad.add (i * 2)).block, (ad.add (i * 2)).off + 1, none⟩ = some (.int .i64 ys[i].2) := fun W hW => by
        obtain ⟨ad', e, h0, h1⟩ := at_krow (hq _ hW.tail) hlt
        cases e
        exact ⟨h0, h1⟩
      have hsn := Aside0.mk (snoc_enc hlt)
      have hsz : (i + 1) * 24 ≤ 140737488355328 := by omega
      obtain ⟨x, hx⟩ : ∃ x, ys[i] = x := ⟨_, rfl⟩
      rw [hx] at hc hsn
      replace hc := Aside0.mk hc
      clear hx
      go_wp2_with fail
      refine planD_ [13] (true, [([], []), ([], []), ([], []), ([1, 2], [1, 2]), ([3], [3]), ([4], [4]), ([], []), ([], []), ([6, 7], [6, 7]), ([8], [8]), ([9], [9]), ([5, 10], [5, 10]), ([11], [11]), ([0, 12], [0, 12]), ([13, 13, 0, 1, 2, 3, 4, 5, 6, 7, 8, 9, 10, 11, 12, 13], [0, 13])]) [.p 0, .p 1, .p 2, .p 3, .p 4, .t 5, .p 6, .p 7, .p 8, .p 9, .t 10, .p 11, .c 12, .l 13, .p 14] H (by kernel_rfl) (by kernel_rfl) rfl rfl (by kernel_rfl) (by intro c a w d v h; cases d <;> exact h) (fun w2 H2 => ?_)
      refine pl_P (h := ?_)
      refine pl_P (h := ?_)
      refine pl_P (h := ?_)
      refine pl_P (h := ?_)
      refine pl_P (h := ?_)
      refine pl_C H2 (fun W hW => (hc.out W hW).1) (h := ?_)
      refine pl_P (h := ?_)
      refine pl_P (h := ?_)
      refine pl_P (h := ?_)
      refine pl_P (h := ?_)
      refine pl_C H2 (fun W hW => (hc.out W hW).2) (h := ?_)
      refine pl_P (h := ?_)
      have hz2 := H2.old.size
      refine pl_R (H2.any (.cells #[.string x.1, .int .i64 x.2] 71 (0, 0))) (fun H3 => ?_)
      refine pl_AL (encR x) (.agg #[.string ByteArray.empty, .int .i64 0]) 0 H2 rfl (Nat.le_refl _) hz2 hsz (by kernel_rfl) Try.underlying22 rfl (by decide) (by decide) rfl (by simp [encR, Value.oneCell']) (h := fun A1 c1 w3 H3 hz3 => ?_)
      refine pl_P (h := ?_)
      refine pl_done ?_
      go_wp2_with fail
      go_roundg (ys.length - (i + 1))
      case measure => exact En.meas hik hlt
      case rel => exact ⟨i + 1, A1, c1, rfl, rfl, hlt, Nat.le_refl _, by rw [hsn.out]; exact H3⟩
    · obtain rfl : i = ys.length := Nat.le_antisymm hi (Nat.le_of_not_lt hlt)
      rw [List.take_length] at H
      go_wp2
      go_ret
      exact ⟨A, c, rfl, H⟩
end
end Go.Proofs.Ythhgcjlgnafdcaa.Rx
end
section
namespace Go.Proofs.Ythhgcjlgnafdcaa.Rc
set_option linter.unusedSimpArgs false
set_option linter.unusedVariables false
open Go Go.RowKit Go.Shelf Go.Proofs.YthhgcjlgnafdcaaW.PrintWords Go.Proofs.YthhgcjlgnafdcaaW.PrintLast Go.Proofs.Ythhgcjlgnafdcaa.Hd Go.Proofs.Ythhgcjlgnafdcaa.Os Go.Proofs.Ythhgcjlgnafdcaa.Tb Go.Proofs.Ythhgcjlgnafdcaa.Tm Go.Proofs.Ythhgcjlgnafdcaa.Px Go.Proofs.Ythhgcjlgnafdcaa.Wv Go.Proofs.Ythhgcjlgnafdcaa.Pp Go.Proofs.Ythhgcjlgnafdcaa.Pq Go.Proofs.Ythhgcjlgnafdcaa.Ps Go.Proofs.Ythhgcjlgnafdcaa.Rp Go.Proofs.Ythhgcjlgnafdcaa.Rw Go.Proofs.Ythhgcjlgnafdcaa.Rx
theorem put_last {l : PR} (hu : Up cmpS l) {i : Nat} (hi : i < l.length) : put cmpS (l.take i) l[i].1 l[i].2 = l.take (i + 1) := by
  have hlen : (l.take i).length = i := by rw [List.length_take]; omega
  have hp : pos cmpS (l.take i) l[i].1 = i := pos_eq (by omega) (fun j hj hji => by
    rw [List.getElem_take]
    exact hu.at hji hi) (fun hj => by omega)
  have hh : has cmpS (l.take i) l[i].1 = false := has_end (by rw [hp]; omega)
  rw [put_false hh, hp, List.take_take, Nat.min_self, List.drop_of_length_le (by omega), List.take_add_one, List.getElem?_eq_getElem hi]
  rfl
section
variable {w0 w : World} {L : List F2} {b c : Nat} {A : Option Addr} {l : PR}
set_option maxRecDepth 100000 in
set_option maxHeartbeats 4000000 in
theorem copy_p (hC : Cells w0.heap.size L) (hl : l.length ≤ 1000) (hu : Up cmpS l)
    (H : All w0 w (bx b 66 #[.slice A l.length c] :: ow w0.heap.size 173 2 (.slice A l.length c) l.length (flat (Tj.rows l)) :: L)) :
    Calls Try.prog 30 #[.pointer (some ⟨b, 0, none⟩)] w fun e w' => ∃ b' A' c', e = .returned (.pointer (some ⟨b', 0, none⟩)) ∧ w0.heap.size ≤ b' ∧
      All w0 w' (bx b' 66 #[.slice A' l.length c'] :: ow w0.heap.size 173 2 (.slice A' l.length c') l.length (flat (Tj.rows l)) :: bx b 66 #[.slice A l.length c] :: ow w0.heap.size 173 2 (.slice A l.length c) l.length (flat (Tj.rows l)) :: L) := by
  have hb := H.old.size
  have H0 := (((H.row w0.heap.size 173 2).box w.heap.size 66 #[.slice none 0 0]).front 3 rfl).front 3 rfl
  have h1 := rows_p (cells_bx (cells_ow hC)) hl H0
  clear H
  go_enter Try.func30, Try.ntmps30
  go_wp2_with fail
  refine h1.mono ?_
  rintro e w1 ⟨Ar, cr, rfl, H1⟩
  have H2 : All w0 w1 (bx w.heap.size 66 #[.slice none 0 0] :: ow w0.heap.size 173 2 (.slice none 0 0) 0 [] :: ow w0.heap.size 79 2 (.slice Ar l.length cr) l.length (l.flatMap encR) :: bx b 66 #[.slice A l.length c] :: ow w0.heap.size 173 2 (.slice A l.length c) l.length (flat (Tj.rows l)) :: L) := (H1.front 4 rfl).front 4 rfl
  clear h1 H0 H1
  go_wp2_with fail
  go_loopg [11] l.length (fun kx s11 wr => ∃ (i : Nat) (ql : PR) (A1 : Option Addr) (c1 : Nat), s11 = .int .i64 (i : Int) ∧ i ≤ l.length ∧ l.length - i ≤ kx ∧ Aside0 (ql = l.take i) ∧
    All w0 wr (bx w.heap.size 66 #[.slice A1 ql.length c1] :: ow w0.heap.size 173 2 (.slice A1 ql.length c1) ql.length (flat (Tj.rows ql)) :: ow w0.heap.size 79 2 (.slice Ar l.length cr) l.length (l.flatMap encR) :: bx b 66 #[.slice A l.length c] :: ow w0.heap.size 173 2 (.slice A l.length c) l.length (flat (Tj.rows l)) :: L))
  case atStart => exact ⟨0, [], none, 0, rfl, Nat.zero_le _, by omega, ⟨rfl⟩, H2⟩
  case round =>
    clear H2
    obtain ⟨i, ql, A1, c1, rfl, hil, hik, hql, H⟩ := hrel
    by_cases hlt : i < l.length
    · have hli : (i : Int) < (l.length : Int) := Int.ofNat_lt.2 hlt
      obtain ⟨A', c', hA, -, hcc, hCR⟩ := ow_C krow encR krow_mk (by decide) (H.at 2 rfl)
      cases hA
      obtain ⟨ad, rfl, hc0, hc1⟩ := at_krow hCR hlt
      have hqu : Up cmpS ql := by rw [hql.out]; exact List.Pairwise.sublist (List.take_sublist _ _) hu
      have hqlen : ql.length ≤ 1000 := by rw [hql.out, List.length_take]; omega
      have hput : put cmpS ql l[i].1 l[i].2 = l.take (i + 1) := by rw [hql.out]; exact put_last hu hlt
      obtain ⟨r, hr⟩ : ∃ r, l[i] = r := ⟨_, rfl⟩
      rw [hr] at hc0 hc1 hput
      obtain ⟨s, n⟩ := r
      simp only at hc0 hc1 hput
      have hput := Aside0.mk hput
      clear hr hCR hcc hql
      have H1 := H.box wr.heap.size 79 #[.string s, .int .i64 n]
      have hpt := fun w1 (H1 : All w0 w1 (bx wr.heap.size 79 #[.string s, .int .i64 n] :: bx w.heap.size 66 #[.slice A1 ql.length c1] :: ow w0.heap.size 173 2 (.slice A1 ql.length c1) ql.length (flat (Tj.rows ql)) :: ow w0.heap.size 79 2 (.slice (some ad) l.length cr) l.length (l.flatMap encR) :: bx b 66 #[.slice A l.length c] :: ow w0.heap.size 173 2 (.slice A l.length c) l.length (flat (Tj.rows l)) :: L)) =>
        Tj.put_c (x := .int .i64 n) (k := s) (i := 1) (j := 2) n rfl H1 (by decide) rfl rfl hb (Nat.le_refl _) H1.old.size (up_rows hqu) (ones_rows ql) (by omega)
      simp only [has_rows, put_rows, Tj.rows_length] at hpt
      generalize has cmpS ql s = hh at hpt
      go_wp2_with fail
      refine planD_ [8] (true, [([], []), ([0], [0]), ([1], [1]), ([2], [2]), ([], []), ([4], [4]), ([], []), ([6], [6]), ([3, 5, 7], [3, 5, 7])]) [.p 0, .p 1, .p 2, .p 3, .p 4, .t 5, .p 6, .t 7, .l 8] H1 (by kernel_rfl) (by kernel_rfl) rfl rfl (by kernel_rfl) (by intro c a w d v h; cases d <;> exact h) (fun w2 H2 => ?_)
      refine pl_P (h := ?_)
      refine pl_P (h := ?_)
      refine pl_P (h := ?_)
      refine pl_P (h := ?_)
      refine pl_P (h := ?_)
      refine pl_L 0 0 H2 rfl (h := ?_)
      refine pl_P (h := ?_)
      refine pl_L 0 1 H2 rfl (h := ?_)
      refine pl_callL Try.func72 #[.pointer (some ⟨w.heap.size, 0, none⟩), .string s, .int .i64 n] ?_
      refine (hpt w2 H2).mono ?_
      rintro e w3 ⟨rfl, hsz3, A', c', H4⟩
      refine ⟨_, rfl, pl_done ?_⟩
      clear H1 H2 hpt
      go_wp2_with fail
      go_roundg (l.length - (i + 1))
      case measure => exact En.meas hik hlt
      case rel => exact ⟨i + 1, put cmpS ql s n, A', c', rfl, hlt, Nat.le_refl _, ⟨hput.out⟩, H4.tail⟩
    · obtain rfl : i = l.length := Nat.le_antisymm hil (Nat.le_of_not_lt hlt)
      obtain rfl : ql = l := by rw [hql.out, List.take_length]
      have hlt2 : ¬ ((ql.length : Int) < (ql.length : Int)) := Int.lt_irrefl _
      go_wp2
      go_ret
      exact ⟨w.heap.size, rfl, hb, A1, c1, H.cut 2⟩
end
end Go.Proofs.Ythhgcjlgnafdcaa.Rc
end
section
namespace Go.Proofs.Ythhgcjlgnafdcaa.Rv
set_option linter.unusedSimpArgs false
set_option linter.unusedVariables false
open Go Go.RowKit Go.Proofs.YthhgcjlgnafdcaaW.PrintWords Go.Proofs.YthhgcjlgnafdcaaW.PrintLast Go.Proofs.Ythhgcjlgnafdcaa.Hd Go.Proofs.Ythhgcjlgnafdcaa.Os Go.Proofs.Ythhgcjlgnafdcaa.Tb Go.Proofs.Ythhgcjlgnafdcaa.Tm Go.Proofs.Ythhgcjlgnafdcaa.Px Go.Proofs.Ythhgcjlgnafdcaa.Wv Go.Proofs.Ythhgcjlgnafdcaa.Pp Go.Proofs.Ythhgcjlgnafdcaa.Pq Go.Proofs.Ythhgcjlgnafdcaa.Ps Go.Proofs.Ythhgcjlgnafdcaa.Rp Go.Proofs.Ythhgcjlgnafdcaa.Rw
abbrev kR := k71
def conv (r : ByteArray × Int) : S71 := ⟨r.1, r.2⟩
theorem C_conv {w : World} {A : Option Addr} {n : Nat} {l : PR} (h : Kd.C krow w A n l) : Kd.C kR w A n (l.map conv) := by
  obtain ⟨h1, h2, h3⟩ := h
  refine ⟨by rw [List.length_map]; exact h1, h2, fun hn => ?_⟩
  obtain ⟨ad, rfl, h4⟩ := h3 hn
  refine ⟨ad, rfl, fun j p hj => ?_⟩
  rw [List.getElem?_map] at hj
  obtain ⟨q, hq, rfl⟩ := Option.map_eq_some_iff.1 hj
  obtain ⟨cs, hl, hK, hc⟩ := h4 j q hq
  exact ⟨cs, hl, hK, hc⟩
theorem same_c {w : World} {A B : Option Addr} {l : PR} {c d : Nat} (ha : CR A l w) (hc : l.length ≤ c) (hb : CR B l w) (hd : l.length ≤ d) (hl : l.length ≤ 1000) :
    Tells Try.prog 32 #[.agg #[.slice A l.length c, .int .i64 0, .int .u64 0], .agg #[.slice B l.length d, .int .i64 0, .int .u64 0]] w (.bool true) := by
  have hml : (l.map conv).length = l.length := List.length_map ..
  obtain ⟨m, hm⟩ : ∃ m, l.map conv = m := ⟨_, rfl⟩
  have h : ∀ n i, i + n = m.length → En.Ends (fun k => clevisref17_Same.l0 k (i : Nat) m 0 0 m 0 0) true := by
    have hl2 : m.length ≤ 1000 := by rw [← hm, hml]; exact hl
    clear hm ha hb hml
    intro n
    induction n with
    | zero =>
      intro i hi
      refine En.Ends.now 0 fun k _ => ?_
      simp only [clevisref17_Same.l0]
      rw [if_neg (by omega)]
    | succ n ih =>
      intro i hi
      refine En.Ends.step 0 (ih (i + 1) (by omega)) fun k _ => ?_
      simp only [clevisref17_Same.l0]
      rw [if_pos (by omega), if_pos (by omega), if_pos (by omega), if_neg (by simp), En.wrap_succ (by omega)]
  obtain ⟨K, hK⟩ := h m.length 0 (by omega)
  have hf : clevisref17_Same.f (K + 1) m 0 0 m 0 0 = some true := by
    unfold clevisref17_Same.f
    rw [if_pos rfl, if_pos rfl]
    simp only [clevisref17_Same.j0]
    rw [if_neg (by simp)]
    exact hK K (Nat.le_refl _)
  have h1 := C_conv ha
  have h2 := C_conv hb
  rw [hm] at h1 h2 hml
  rw [← hml] at h1 h2 hc hd ⊢
  exact clevisref17_Same.calls (K + 1) A c m 0 0 B d m 0 0 _ w h1 hc h2 hd hf
end Go.Proofs.Ythhgcjlgnafdcaa.Rv
end
