/- Texts of this seat, put together (Ze15). -/
import Derived.Test.YtcbpmmcpidfllaaZe12
import Derived.Test.YtcbpmmcpidfllaaZe13
import Derived.Test.YtcbpmmcpidfllaaZe14
section
namespace Go.Proofs.Ytcbpmmcpidfllaa.Ys
set_option linter.unusedVariables false
set_option linter.unusedSimpArgs false
open Go Go.RowKit Go.Shelf Go.Proofs.YtcbpmmcpidfllaaW.PrintWords Go.Proofs.YtcbpmmcpidfllaaW.PrintLast Go.Proofs.Ytcbpmmcpidfllaa.Hd Go.Proofs.Ytcbpmmcpidfllaa.Os Go.Proofs.Ytcbpmmcpidfllaa.Tb Go.Proofs.Ytcbpmmcpidfllaa.Tm Go.Proofs.Ytcbpmmcpidfllaa.Rn
section
attribute [local go_sem] Oper.semAt_some
variable {w0 w : World} {L : List F2} {R bh bi n c m d : Nat} {nodes node : Int} {A B : Option Addr}
def at_ (node : Int) (l : List (ByteArray × Int)) : List ByteArray := (l.filter fun r => decide (r.2 = node)).map (·.1)
def strs (l : List ByteArray) : List Value := l.map Value.string
theorem at_snoc (node : Int) (l : List (ByteArray × Int)) (s : ByteArray) (y : Int) : at_ node (l ++ [(s, y)]) = if y = node then at_ node l ++ [s] else at_ node l := by
  unfold at_
  rw [List.filter_append, List.map_append]
  split
  · rename_i h
    simp [h]
  · rename_i h
    simp [h]
theorem at_len (node : Int) (l : List (ByteArray × Int)) : (at_ node l).length ≤ l.length := by
  unfold at_
  rw [List.length_map]
  exact List.length_filter_le _ _
theorem strs_snoc (l : List ByteArray) (s : ByteArray) : strs (l ++ [s]) = strs l ++ [.string s] := List.map_append
set_option maxRecDepth 100000 in
set_option maxHeartbeats 4000000 in
theorem members_c {lh : List (ByteArray × Int)} (hC : Cells w0.heap.size L) (hl : lh.length ≤ 1000)
    (H : All w0 w (bx R 73 #[.pointer (some ⟨bh, 0, none⟩), .int .i64 nodes, .pointer (some ⟨bi, 0, none⟩)] :: bx bh 97 #[.slice A lh.length c] :: ow w0.heap.size 95 2 (.slice A lh.length c) lh.length (flat (Ti.rows lh)) :: L)) :
    Calls Try.prog 12 #[.pointer (some ⟨R, 0, none⟩), .int .i64 node] w fun e w' => ∃ A' c', e = .returned (.slice A' (at_ node lh).length c') ∧
      All w0 w' (ow w0.heap.size 9 1 (.slice A' (at_ node lh).length c') (at_ node lh).length (strs (at_ node lh)) :: bx R 73 #[.pointer (some ⟨bh, 0, none⟩), .int .i64 nodes, .pointer (some ⟨bi, 0, none⟩)] :: bx bh 97 #[.slice A lh.length c] :: ow w0.heap.size 95 2 (.slice A lh.length c) lh.length (flat (Ti.rows lh)) :: L) := by
  have H0 := ((H.box w.heap.size 3 #[.int .i64 node]).box (w.heap.size + 1) 22 #[.slice none 0 0]).row w0.heap.size 9 1
  have r0 := H0.rd 3 rfl
  have hw0 := H.old.size
  have hE := fun {L' : List F2} (w1 : World) (H1 : All w0 w1 L') (i : Nat) (hi : L'[i]? = some (bx bh 97 #[.slice A lh.length c])) => Ti.each_c H1 hi
  obtain ⟨N, hN⟩ : ∃ n : Nat, 5 ≤ n := ⟨5, by omega⟩
  refine (callsIn_wide (n := N)).1 ?_
  refine callsIn_of_wp_marks Try.func12 rfl trivial ?_ rfl
  simp only [Try.ntmps12, List.size_toArray, List.length_cons, List.length_nil, Nat.reduceAdd, Nat.reduceSub, Array.replicate_succ, Array.replicate_zero, List.push_toArray, List.append_toArray, List.nil_append, List.cons_append]
  gi_wp2
  refine ⟨trivial, fun _ => by omega, ?_⟩
  refine (callsIn_wide.2 (Ti.each_c H0 (i := 4) rfl)).mono ?_
  rintro e w1 ⟨Bb, rfl, hBb, H1⟩
  have H2 : All w0 w1 (bx Bb 92 #[.slice A lh.length c] :: ow w0.heap.size 95 2 (.slice A lh.length c) lh.length (flat (Ti.rows lh)) :: ow w0.heap.size 9 1 (.slice none 0 0) 0 [] :: bx (w.heap.size + 1) 22 #[.slice none 0 0] :: bx w.heap.size 3 #[.int .i64 node] :: bx R 73 #[.pointer (some ⟨bh, 0, none⟩), .int .i64 nodes, .pointer (some ⟨bi, 0, none⟩)] :: bx bh 97 #[.slice A lh.length c] :: L) := (H1.front 6 rfl).front 1 rfl
  gi_wp2
  have hseq := Ti.told_stops (N - 1) (by omega) Bb A lh c w1 (fun k => Is Bb k ∨ Ob (.slice A lh.length c) k) (by omega)
    (((H2.get 0 rfl).both' (H2.get 1 rfl)).imp fun W h => ⟨h.1, (ow_rng h.2).2.2⟩)
  refine range_all (n := N) (by omega) (gf := 55) (lb := #[.pointer (some ⟨Bb, 0, none⟩)]) rfl (enters_of Try.func55 (by kernel_rfl) rfl) (fun _ => rfl)
    (fun pre (p : Option Addr × Nat) => ow w0.heap.size 9 1 (.slice p.1 (at_ node pre).length p.2) (at_ node pre).length (strs (at_ node pre)) :: bx (w.heap.size + 1) 22 #[.slice p.1 (at_ node pre).length p.2] :: bx w.heap.size 3 #[.int .i64 node] :: bx R 73 #[.pointer (some ⟨bh, 0, none⟩), .int .i64 nodes, .pointer (some ⟨bi, 0, none⟩)] :: bx bh 97 #[.slice A lh.length c] :: L)
    (fun s p => cells_bx (cells_ow (cells_ow (cells_bx (cells_bx (cells_bx (cells_bx hC))))))) (none, 0) H2 hseq ?a1 ?assign ?body ?done
  case assign =>
    intro l x W K hK
    gi_wp2
    exact hK
  case body =>
    intro l pre p x W H hlen
    obtain ⟨s, y⟩ := x
    obtain ⟨A1, c1⟩ := p
    have rn := H.rd 5 rfl
    have hz := H.old.size
    have hpl := at_len node pre
    have hsz : ((at_ node pre).length + 1) * 16 ≤ 140737488355328 := by omega
    have e1 := at_snoc node pre s y
    by_cases he : y = node
    · rw [if_pos he] at e1
      replace e1 := Aside0.mk e1
      have rl := H.rd 4 rfl
      clear H0 r0 H1 H2 hseq
      subst he
      gi_wp2_with (gi_at_builtin; refine appIn [.string s] H 3 rfl (Nat.le_refl _) hz hsz (.tmp 21) (.tmp 23) 22 (.string ByteArray.empty) (by kernel_rfl) Try.underlying22 rfl rfl rfl (by decide) (by decide) rfl rfl rfl (by simp [Value.oneCell']) ?_; intro A2 c2 w4 H4 z4; have rl4 := H4.rd 4 rfl; have fl4 := H4.fz 4 rfl)
      have H5 := H4.set 4 rfl 0 (.slice A2 ((at_ y pre).length + 1) c2) (Nat.le_succ_of_le hw0)
      refine ⟨A2, c2, ?_⟩
      rw [e1.out, List.length_append, strs_snoc]
      exact H5
    · rw [if_neg he] at e1
      have he2 : (y == node) = false := by simpa using he
      clear H0 r0 H1 H2 hseq
      gi_wp2
      refine ⟨A1, c1, ?_⟩
      exact H
  case done =>
    rintro D xs ⟨A1, c1⟩ W hD rfl H hk
    have rl := H.rd 3 rfl
    clear H0 r0 H1 H2 hseq
    gi_wp2
    refine mark_ret rfl hk (by simp [results, Try.results12, go_sem]) ⟨A1, c1, rfl, ?_⟩
    have H3 := H.putObj (cells_bx (cells_ow (cells_ow (cells_bx (cells_bx (cells_bx (cells_bx hC))))))) (o' := .deferred none) hD hk rfl
    exact (((((H3.cut 4).cut 3).drop 1).front 3 rfl).front 3 rfl).front 3 rfl
end
end Go.Proofs.Ytcbpmmcpidfllaa.Ys
end
