/- Texts of this seat, put together (Ze21). -/
import Derived.Deep.DeepCutAuto
import Derived.Deep.CutBlock
import Derived.Test.YtcbpmmcpidfllaaZe12
import Derived.Test.YtcbpmmcpidfllaaZe17
import Derived.Test.YtcbpmmcpidfllaaZe20
section
namespace Go.Proofs.Ytcbpmmcpidfllaa.Yn
set_option linter.unusedVariables false
set_option linter.unusedSimpArgs false
open Go Go.RowKit Go.Proofs.YtcbpmmcpidfllaaW.PrintWords Go.Proofs.YtcbpmmcpidfllaaW.PrintLast Go.Proofs.Ytcbpmmcpidfllaa.Hd Go.Proofs.Ytcbpmmcpidfllaa.Os Go.Proofs.Ytcbpmmcpidfllaa.Tb Go.Proofs.Ytcbpmmcpidfllaa.Tm Go.Proofs.Ytcbpmmcpidfllaa.Ro Go.Proofs.Ytcbpmmcpidfllaa.Ip Go.Proofs.Ytcbpmmcpidfllaa.Rs Go.Proofs.Ytcbpmmcpidfllaa.Rn Go.Proofs.Ytcbpmmcpidfllaa.Rp Go.Proofs.Ytcbpmmcpidfllaa.Rq Go.Proofs.Ytcbpmmcpidfllaa.Rk Go.Proofs.Ytcbpmmcpidfllaa.Ry
theorem rcheck_c {w : World} {nodes : Int} {A B : Option Addr} {is : List ByteArray} {ms : List S63} {ci cm : Nat} (hI : CS A is w) (hM : CM B ms w) (hci : is.length ≤ ci) (hcm : ms.length ≤ cm) (hl : is.length ≤ 1000) (hm : ms.length ≤ 1000) :
    Tells Try.prog 10 #[.agg #[.int .i64 nodes, .slice A is.length ci, .slice B ms.length cm]] w (.int .i64 (newE nodes is ms)) := by
  obtain ⟨K, hK⟩ := check_f (nodes := nodes) hl hm
  exact clevisref08_Check.calls K nodes A ci is B cm ms _ w hI hci hM hcm (hK K (Nat.le_refl _))
theorem arg_c {w : World} (x : Rt.RA) (g : Rt.GoodR w x) : All w w [(fun k => k < w.heap.size, CS x.A (x.is.take 40)), (fun k => k < w.heap.size, CM x.B (x.ms.take 70))] :=
  ((All.start w).arg ((held_C g.ms).imp fun W h => C_cut h _)).arg ((held_C g.is).imp fun W h => C_cut h _)
set_option maxRecDepth 100000 in
set_option maxHeartbeats 4000000 in
theorem walk (x : Rt.RA) {w : World} (g : Rt.GoodR w x) : Calls Try.prog 3 #[x.val] w fun e w' => e = .returned (.bool true) ∧ Below w.heap.size w w' := by
  have H0 := (arg_c x g).box w.heap.size 25 #[.int .i64 x.nodes, .slice x.A x.is.length x.ci, .slice x.B x.ms.length x.cm]
  have hci := g.ci
  have hcm := g.cm
  have l1 : (x.is.take 40).length ≤ x.ci := by rw [List.length_take]; omega
  have l2 : (x.ms.take 70).length ≤ x.cm := by rw [List.length_take]; omega
  have l3 : (x.is.take 40).length ≤ 1000 := by rw [List.length_take]; omega
  have l4 : (x.ms.take 70).length ≤ 1000 := by rw [List.length_take]; omega
  have hto := to_c (nodes := x.nodes) (qi := 1) (qm := 2) (is := x.is) (ms := x.ms) (ci := x.ci) (cm := x.cm) H0 rfl rfl hci hcm
  have hck := fun W (hI : CS x.A (x.is.take 40) W) (hM : CM x.B (x.ms.take 70) W) => rcheck_c (nodes := x.nodes) hI hM l1 l2 l3 l4
  obtain ⟨nodes, A, ci, is, B, cm, ms⟩ := x
  simp only at *
  unfold Rt.RA.val
  simp only
  generalize is.take 40 = xs at *
  generalize ms.take 70 = ys at *
  obtain ⟨E, hE⟩ : ∃ E, newE nodes xs ys = E := ⟨_, rfl⟩
  rw [hE] at hto hck
  have r0 := H0.rd 0 rfl
  clear hE g
  by_cases h0 : E = 0
  · subst h0
    go_enter Try.func3, Try.ntmps3
    go_wp2_with fail
    refine hto.mono ?_
    rintro e w1 ⟨p, rfl, hN⟩
    obtain ⟨h1, h2, ⟨R, bh, bi, A2, c2, B2, d2, rfl, hR, hbh, hbi, H1⟩⟩ := hN.good rfl
    clear hto hN H0 r0 h1 h2
    have H2 := H1.box w1.heap.size 25 #[.int .i64 nodes, .slice A xs.length ci, .slice B ys.length cm]
    go_wp2_with fail
    refine plan_ (true, [([], []), ([0, 0], [0]), ([1], [1]), ([1], [1]), ([3, 1, 1], [1, 3]), ([2, 4, 1], [1, 2, 4]), ([1, 5], [1, 5]), ([6, 4], [6]), ([7], [7]), ([8, 7], [7, 8]), ([7], [7]), ([10, 7], [7, 10]), ([9, 11, 7], [7, 9, 11]), ([7, 12], [7, 12]), ([13, 7], [13]), ([14], [14]), ([15, 14], [14, 15]), ([16, 14, 14], [14, 16]), ([17], [17]), ([18, 17, 17], [17, 18]), ([17], [17]), ([20, 17], [17, 20]), ([19, 21, 17], [17, 19, 21]), ([17, 22, 14], [14, 17, 22]), ([14, 23], [14, 23]), ([24, 19, 0, 1, 2, 3, 4, 5, 6, 7, 8, 9, 10, 11, 12, 13, 14, 15, 16, 17, 18, 19, 20, 21, 22, 23, 24], [24])]) [.c 0, .p 1, .p 2, .t 3, .c 4, .p 5, .p 6, .p 7, .p 8, .p 9, .p 10, .p 11, .p 12, .p 13, .p 14, .p 15, .p 16, .p 17, .p 18, .p 20, .t 21, .c 19, .p 22, .p 23, .p 24, .p 25] H2 (by kernel_rfl) (by kernel_rfl) rfl rfl (by kernel_rfl) (by intro c a w d v h; cases d <;> exact h) (fun w2 H => ?_)
    refine pl_S known_c H Try.func9 (h := fun w3 H => ?_)
    refine pl_P (h := ?_)
    refine pl_P (h := ?_)
    refine pl_B 0 H rfl (h := ?_)
    refine pl_S (hck w3 (H.at 7 rfl) (H.at 8 rfl)) H Try.func10 (h := fun w4 H => ?_)
    refine pl_P (h := ?_)
    repeat refine pl_P (h := ?_)
    refine pl_L 0 0 H rfl (h := ?_)
    refine pl_S (nodes_c H.tail) H Try.func11 (h := fun w5 H => ?_)
    refine pl_P (h := ?_)
    refine pl_P (h := ?_)
    refine pl_P (h := ?_)
    refine pl_P (h := ?_)
    refine pl_done ?_
    go_wp2
    go_ret
    exact ⟨rfl, H.old⟩
  · have hb : (E == 0) = false := by simpa using h0
    have hb2 : (E != 0) = true := by simpa using h0
    go_enter Try.func3, Try.ntmps3
    go_wp2_with fail
    refine hto.mono ?_
    rintro e w1 ⟨p, rfl, hN⟩
    obtain ⟨rfl, H1⟩ := hN.bad h0
    clear hto hN H0 r0
    have H2 := H1.box w1.heap.size 25 #[.int .i64 nodes, .slice A xs.length ci, .slice B ys.length cm]
    go_wp2_with fail
    refine plan_ (true, [([], []), ([0, 0], [0]), ([1], [1]), ([1], [1]), ([3, 1, 1], [1, 3]), ([2, 4, 1], [1, 2, 4]), ([1, 5], [1, 5]), ([6, 4], [6]), ([7], [7]), ([8, 7], [7, 8]), ([7], [7]), ([10, 7], [7, 10]), ([9, 11, 7], [7, 9, 11]), ([7, 12], [7, 12]), ([13, 7], [13]), ([14], [14]), ([15, 14], [14, 15]), ([16, 14, 14], [14, 16]), ([17], [17]), ([18, 17, 17], [17, 18]), ([17], [17]), ([20, 17], [17, 20]), ([19, 21, 17], [17, 19, 21]), ([17, 22, 14], [14, 17, 22]), ([14, 23], [14, 23]), ([24, 19, 0, 1, 2, 3, 4, 5, 6, 7, 8, 9, 10, 11, 12, 13, 14, 15, 16, 17, 18, 19, 20, 21, 22, 23, 24], [24])]) [.c 0, .p 1, .p 2, .t 3, .c 4, .p 5, .p 6, .p 7, .p 8, .p 9, .p 10, .p 11, .p 12, .p 13, .p 14, .p 15, .p 16, .p 17, .p 18, .p 20, .t 21, .c 19, .p 22, .p 23, .p 24, .p 25] H2 (by kernel_rfl) (by kernel_rfl) rfl rfl (by kernel_rfl) (by intro c a w d v h; cases d <;> exact h) (fun w2 H => ?_)
    refine pl_S known_c H Try.func9 (h := fun w3 H => ?_)
    refine pl_P (h := ?_)
    refine pl_P (h := ?_)
    refine pl_B 0 H rfl (h := ?_)
    refine pl_S (hck w3 (H.at 2 rfl) (H.at 3 rfl)) H Try.func10 (h := fun w4 H => ?_)
    repeat refine pl_P (h := ?_)
    refine pl_kP (h := ?_)
    refine pl_kP (h := ?_)
    refine pl_kT H (h := ?_)
    refine pl_kC H (h := ?_)
    refine pl_kP (h := ?_)
    refine pl_P (h := ?_)
    refine pl_P (h := ?_)
    refine pl_P (h := ?_)
    refine pl_done ?_
    go_wp2
    go_ret
    exact ⟨rfl, H.old⟩
end Go.Proofs.Ytcbpmmcpidfllaa.Yn
end
section
namespace Go.Proofs.Ytcbpmmcpidfllaa.Yv
set_option linter.unusedVariables false
set_option linter.unusedSimpArgs false
open Go Go.RowKit Go.Shelf Go.Proofs.YtcbpmmcpidfllaaW.PrintWords Go.Proofs.YtcbpmmcpidfllaaW.PrintLast Go.Proofs.Ytcbpmmcpidfllaa.Hd Go.Proofs.Ytcbpmmcpidfllaa.Os Go.Proofs.Ytcbpmmcpidfllaa.Tb Go.Proofs.Ytcbpmmcpidfllaa.Tm Go.Proofs.Ytcbpmmcpidfllaa.Rs Go.Proofs.Ytcbpmmcpidfllaa.Rn Go.Proofs.Ytcbpmmcpidfllaa.Rq Go.Proofs.Ytcbpmmcpidfllaa.Yq Go.Proofs.Ytcbpmmcpidfllaa.Ys Go.Proofs.Ytcbpmmcpidfllaa.Yu
section
attribute [local go_sem] Oper.semAt_some
variable {w0 w : World} {L : List F2} {R bh bi n c m d : Nat} {nodes node : Int} {A B : Option Addr}
def keysB (l : List (ByteArray × Bool)) : List ByteArray := l.map (·.1)
theorem keysB_snoc (l : List (ByteArray × Bool)) (s : ByteArray) (y : Bool) : keysB (l ++ [(s, y)]) = keysB l ++ [s] := by unfold keysB; rw [List.map_append]; rfl
theorem keysB_len (l : List (ByteArray × Bool)) : (keysB l).length = l.length := List.length_map _
set_option maxRecDepth 100000 in
set_option maxHeartbeats 4000000 in
theorem isins_c {lh : List Value} {nh : Nat} {li : List (ByteArray × Bool)} (hC : Cells w0.heap.size L) (hl : li.length ≤ 1000)
    (H : All w0 w (bx R 73 #[.pointer (some ⟨bh, 0, none⟩), .int .i64 nodes, .pointer (some ⟨bi, 0, none⟩)] :: bx bh 97 #[.slice A nh c] :: ow w0.heap.size 95 2 (.slice A nh c) nh lh :: bx bi 104 #[.slice B li.length d] :: ow w0.heap.size 102 2 (.slice B li.length d) li.length (flat (Tq.rows li)) :: L)) :
    Calls Try.prog 15 #[.pointer (some ⟨R, 0, none⟩)] w fun e w' => ∃ A' c', e = .returned (.slice A' li.length c') ∧
      All w0 w' (ow w0.heap.size 9 1 (.slice A' li.length c') li.length (strs (keysB li)) :: bx R 73 #[.pointer (some ⟨bh, 0, none⟩), .int .i64 nodes, .pointer (some ⟨bi, 0, none⟩)] :: bx bh 97 #[.slice A nh c] :: ow w0.heap.size 95 2 (.slice A nh c) nh lh :: bx bi 104 #[.slice B li.length d] :: ow w0.heap.size 102 2 (.slice B li.length d) li.length (flat (Tq.rows li)) :: L) := by
  have H0 := (H.box w.heap.size 22 #[.slice none 0 0]).row w0.heap.size 9 1
  have r0 := H0.rd 2 rfl
  have hw0 := H.old.size
  obtain ⟨N, hN⟩ : ∃ n : Nat, 5 ≤ n := ⟨5, by omega⟩
  refine (callsIn_wide (n := N)).1 ?_
  refine callsIn_of_wp_marks Try.func15 rfl trivial ?_ rfl
  simp only [Try.ntmps15, List.size_toArray, List.length_cons, List.length_nil, Nat.reduceAdd, Nat.reduceSub, Array.replicate_succ, Array.replicate_zero, List.push_toArray, List.append_toArray, List.nil_append, List.cons_append]
  gi_wp2
  refine ⟨trivial, fun _ => by omega, ?_⟩
  refine (callsIn_wide.2 (Tq.each_c H0 (i := 5) rfl)).mono ?_
  rintro e w1 ⟨Bb, rfl, hBb, H1⟩
  have H2 : All w0 w1 (bx Bb 99 #[.slice B li.length d] :: ow w0.heap.size 102 2 (.slice B li.length d) li.length (flat (Tq.rows li)) :: ow w0.heap.size 9 1 (.slice none 0 0) 0 [] :: bx w.heap.size 22 #[.slice none 0 0] :: bx R 73 #[.pointer (some ⟨bh, 0, none⟩), .int .i64 nodes, .pointer (some ⟨bi, 0, none⟩)] :: bx bh 97 #[.slice A nh c] :: ow w0.heap.size 95 2 (.slice A nh c) nh lh :: bx bi 104 #[.slice B li.length d] :: L) := (H1.front 7 rfl).front 1 rfl
  gi_wp2
  have hseq := Tq.told_stops (N - 1) (by omega) Bb B li d w1 (fun k => Is Bb k ∨ Ob (.slice B li.length d) k) (by omega)
    (((H2.get 0 rfl).both' (H2.get 1 rfl)).imp fun W h => ⟨h.1, (ow_rng h.2).2.2⟩)
  refine range_all (n := N) (by omega) (gf := 59) (lb := #[.pointer (some ⟨Bb, 0, none⟩)]) rfl (enters_of Try.func59 (by kernel_rfl) rfl) (fun _ => rfl)
    (fun pre (p : Option Addr × Nat) => ow w0.heap.size 9 1 (.slice p.1 pre.length p.2) pre.length (strs (keysB pre)) :: bx w.heap.size 22 #[.slice p.1 pre.length p.2] :: bx R 73 #[.pointer (some ⟨bh, 0, none⟩), .int .i64 nodes, .pointer (some ⟨bi, 0, none⟩)] :: bx bh 97 #[.slice A nh c] :: ow w0.heap.size 95 2 (.slice A nh c) nh lh :: bx bi 104 #[.slice B li.length d] :: L)
    (fun s p => cells_bx (cells_ow (cells_ow (cells_bx (cells_bx (cells_bx (cells_ow (cells_bx hC)))))))) (none, 0) H2 hseq ?a1 ?assign ?body ?done
  case assign =>
    intro l x W K hK
    gi_wp2
    exact hK
  case body =>
    intro l pre p x W H hlen
    obtain ⟨s, y⟩ := x
    obtain ⟨A1, c1⟩ := p
    have hz := H.old.size
    have hsz : (pre.length + 1) * 16 ≤ 140737488355328 := by omega
    have rl := H.rd 4 rfl
    clear H0 r0 H1 H2 hseq
    gi_wp2_with (gi_at_builtin; refine appIn [.string s] H 3 rfl (Nat.le_refl _) hz hsz (.tmp 14) (.tmp 16) 22 (.string ByteArray.empty) (by kernel_rfl) Try.underlying22 rfl rfl rfl (by decide) (by decide) rfl rfl rfl (by simp [Value.oneCell']) ?_; intro A2 c2 w4 H4 z4; have rl4 := H4.rd 4 rfl; have fl4 := H4.fz 4 rfl)
    have H5 := H4.set 4 rfl 0 (.slice A2 (pre.length + 1) c2) hw0
    refine ⟨A2, c2, ?_⟩
    rw [keysB_snoc, strs_snoc]
    exact H5
  case done =>
    rintro D xs ⟨A1, c1⟩ W hD rfl H hk
    have rl := H.rd 3 rfl
    clear H0 r0 H1 H2 hseq
    gi_wp2
    refine mark_ret rfl hk (by simp [results, Try.results15, go_sem]) ⟨A1, c1, rfl, ?_⟩
    have H3 := H.putObj (cells_bx (cells_ow (cells_ow (cells_bx (cells_bx (cells_bx (cells_ow (cells_bx hC)))))))) (o' := .deferred none) hD hk rfl
    exact (((((H3.cut 3).drop 1).front 5 rfl).front 5 rfl).front 5 rfl |>.front 5 rfl).front 5 rfl
end
section
variable {w0 w : World} {L : List F2} {R bh bi : Nat} {nodes node : Int}
theorem peers_out (H : All w0 w (bx R 73 #[.pointer (some ⟨bh, 0, none⟩), .int .i64 nodes, .pointer (some ⟨bi, 0, none⟩)] :: L)) (h : node < 0 ∨ node ≥ nodes) : Tells Try.prog 14 #[.pointer (some ⟨R, 0, none⟩), .int .i64 node] w (.slice none 0 0) := by
  have hN := nodes_c H
  unfold Tells
  have H0 := All.start w
  by_cases h2 : node < 0
  · go_enter Try.func14, Try.ntmps14
    go_wp2
    go_ret
    exact ⟨rfl, Below.refl _ _⟩
  · have h3 : nodes ≤ node := by omega
    have h4 : 0 ≤ node := by omega
    go_enter Try.func14, Try.ntmps14
    go_wp2_with fail
    refine hN.on H0 fun w1 H1 => ?_
    go_wp2
    go_ret
    exact ⟨rfl, H1.old⟩
end
def inH (node : Int) (ms : List Ro.S63) : List ByteArray := (ms.filter fun m => decide (m.f1 = node)).map (·.f0)
def conv (m : Ro.S63) : So.S63 := ⟨m.f0, m.f1⟩
theorem C_conv {w : World} {A : Option Addr} {n : Nat} {l : List Ro.S63} (h : Kd.C Ro.k63 w A n l) : Kd.C So.k63 w A n (l.map conv) := by
  obtain ⟨h1, h2, h3⟩ := h
  refine ⟨by rw [List.length_map]; exact h1, h2, fun hn => ?_⟩
  obtain ⟨ad, rfl, h4⟩ := h3 hn
  refine ⟨ad, rfl, fun j p hj => ?_⟩
  rw [List.getElem?_map] at hj
  obtain ⟨q, hq, rfl⟩ := Option.map_eq_some_iff.1 hj
  obtain ⟨cs, hl, hK, hc⟩ := h4 j q hq
  obtain rfl := Ro.k63_open hK
  exact ⟨_, hl, So.k63_mk w (conv q), hc⟩
section
variable {nodes node : Int} {is : List ByteArray} {ms : List Ro.S63}
theorem of_l0 (hl : ms.length ≤ 1000) : ∀ n i acc, i + n = ms.length → acc.length ≤ i → Rp.Ends (fun k => So.clevisref08_Of.l0 k node acc (i : Nat) nodes is (ms.map conv)) (isortO [] (acc ++ inH node (ms.drop i))) := by
  intro n
  induction n with
  | zero =>
    intro i acc hi ha
    rw [List.drop_of_length_le (by omega)]
    obtain ⟨K, hK⟩ := sorted_f (acc ++ inH node []) (by simp [inH]; omega)
    refine Rp.Ends.now K fun k hk => ?_
    simp only [So.clevisref08_Of.l0, List.length_map]
    rw [if_neg (by omega)]
    have h := hK k hk
    simp only [inH, List.filter_nil, List.map_nil, List.append_nil] at h ⊢
    rw [h]
    rfl
  | succ n ih =>
    intro i acc hi ha
    have hlt : i < ms.length := by omega
    have e1 : So.rd_T63 (ms.map conv) (i : Int) = conv ms[i] := by
      unfold So.rd_T63
      rw [Int.toNat_natCast, List.getD_eq_getElem?_getD, List.getElem?_map, List.getElem?_eq_getElem hlt]
      rfl
    rw [List.drop_eq_getElem_cons hlt]
    by_cases hc : ms[i].f1 = node
    · have e : inH node (ms[i] :: ms.drop (i + 1)) = ms[i].f0 :: inH node (ms.drop (i + 1)) := by unfold inH; rw [List.filter_cons_of_pos (by simpa using hc)]; rfl
      rw [e]
      have h := ih (i + 1) (acc ++ [ms[i].f0]) (by omega) (by rw [List.length_append]; simp; omega)
      rw [List.append_assoc] at h
      refine Rp.Ends.step 0 h fun k _ => ?_
      simp only [So.clevisref08_Of.l0, List.length_map]
      rw [if_pos (by omega), if_pos (by omega), e1, if_pos (show (conv ms[i]).f1 = node from hc), if_pos (by omega), Rp.wrap_succ (by omega)]
      rfl
    · have e : inH node (ms[i] :: ms.drop (i + 1)) = inH node (ms.drop (i + 1)) := by unfold inH; rw [List.filter_cons_of_neg (by simpa using hc)]
      rw [e]
      refine Rp.Ends.step 0 (ih (i + 1) acc (by omega) (by omega)) fun k _ => ?_
      simp only [So.clevisref08_Of.l0, List.length_map]
      rw [if_pos (by omega), if_pos (by omega), e1, if_neg (show ¬ (conv ms[i]).f1 = node from hc), Rp.wrap_succ (by omega)]
variable {w : World} {A B : Option Addr} {ci cm c : Nat}
def StrsV (l : List ByteArray) (v : Value) (W : World) : Prop := ∃ A c, v = .slice A l.length c ∧ l.length ≤ c ∧ CS A l W
theorem strs_gives {f : FuncId} {args : Array Value} {r : List ByteArray} (h : Calls Try.prog f args w fun e w' => ∃ v0_ : Value, e = .returned (v0_) ∧ Kd.R Kd.string 9 w' w.heap.size (fun _ => True) v0_ r ∧ Below w.heap.size w w') : Gives Try.prog f args w (StrsV r) := by
  refine h.mono ?_
  rintro e w' ⟨v, rfl, hR, hb⟩
  refine ⟨v, rfl, hb, fun k hk => hk.2, fun W hW => ?_⟩
  obtain ⟨A, c, rfl, hc, hC⟩ := Kd.R_reads (Kd.R_move (w1 := W) (Kd.R_bound hR) fun k hk => hW k ⟨hk.2.1, hk.2.2.1⟩)
  exact ⟨A, c, rfl, hc, hC⟩
theorem rof_c (hI : CS A is w) (hM : CM B ms w) (hci : is.length ≤ ci) (hcm : ms.length ≤ cm) (hm : ms.length ≤ 1000) (node : Int) :
    Gives Try.prog 18 #[.agg #[.int .i64 nodes, .slice A is.length ci, .slice B ms.length cm], .int .i64 node] w (StrsV (isortO [] (inH node ms))) := by
  obtain ⟨K, hK⟩ := of_l0 (node := node) (nodes := nodes) (is := is) hm ms.length 0 [] (by omega) (Nat.le_refl _)
  have h := So.clevisref08_Of.calls K nodes A ci is B cm (ms.map conv) node _ w hI hci (by rw [List.length_map]; exact C_conv hM) (by rw [List.length_map]; exact hcm) (hK K (Nat.le_refl _))
  rw [List.length_map] at h
  exact strs_gives h
theorem rsorted_c (hI : CS A is w) (hci : is.length ≤ ci) (hl : is.length ≤ 1000) : Gives Try.prog 19 #[.slice A is.length ci] w (StrsV (isortO [] is)) := by
  obtain ⟨K, hK⟩ := sorted_f is hl
  exact strs_gives (So.clevisref08_Sorted.calls K A ci is _ w hI hci (hK K (Nat.le_refl _)))
theorem rsame_c {a b : List ByteArray} {A B : Option Addr} {c d : Nat} (ha : CS A a w) (hc : a.length ≤ c) (hb : CS B b w) (hd : b.length ≤ d) (hl : a.length ≤ 1000) : Tells Try.prog 17 #[.slice A a.length c, .slice B b.length d] w (.bool (decide (a = b))) := by
  have h : Rp.Ends (fun k => Ro.clevisref08_Same.f k a b) (decide (a = b)) := by
    by_cases e : a.length = b.length
    · obtain ⟨K, hK⟩ := same_l0 hl e a.length 0 (by omega)
      refine ⟨K, fun k hk => ?_⟩
      show Ro.clevisref08_Same.f k a b = _
      unfold Ro.clevisref08_Same.f
      rw [if_pos (by omega)]
      exact hK k hk
    · rw [decide_eq_false fun h => e (by rw [h])]
      refine ⟨0, fun k _ => ?_⟩
      show Ro.clevisref08_Same.f k a b = _
      unfold Ro.clevisref08_Same.f
      rw [if_neg (by omega)]
  obtain ⟨K, hK⟩ := h
  exact (Ro.clevisref08_Same.calls K A c a B d b _ w ha hc hb hd (hK K (Nat.le_refl _))).mono fun e w' ⟨h1, h2⟩ => ⟨h1, h2.below⟩
end
theorem flat_strs (l : List ByteArray) : l.flatMap (fun x => [Value.string x]) = strs l := by
  unfold strs
  induction l with
  | nil => rfl
  | cons x r ih => rw [List.flatMap_cons, List.map_cons, ih]; rfl
theorem ow_CS {lo n c : Nat} {A : Option Addr} {l : List ByteArray} {W : World} (h : Ow lo 9 1 (.slice A n c) n (strs l) W) : l.length = n ∧ n ≤ c ∧ CS A l W := by
  rw [← flat_strs l] at h
  obtain ⟨A', c', h1, h2, h3, h4⟩ := ow_C Kd.string (fun x : ByteArray => [Value.string x]) (fun _ _ => rfl) (by decide) h
  cases h1
  subst h2
  exact ⟨rfl, h3, h4⟩
theorem storeV {w0 w : World} {L : List F2} {lo e n c : Nat} {xs : List Value} (H : All w0 w L) (i : Nat) {g : Nat} (hi : L[i]? = some (ow lo e 1 (.slice (some ⟨g, 0, none⟩) n c) n xs)) (j : Nat) (v : Value) (hb : w0.heap.size ≤ lo) :
    All w0 (w.setCell ⟨g, j, none⟩ v) (L.set i (ow lo e 1 (.slice (some ⟨g, 0, none⟩) n c) n (xs.set j v))) := by
  have h := (H.at i hi).stored j v
  exact H.own i hi h.2 h.1 (.inl rfl) hb
theorem ow_some {lo e n c : Nat} {A : Option Addr} {xs : List Value} {W : World} (h : Ow lo e 1 (.slice A n c) n xs W) (hn : 0 < n) : ∃ g, A = some ⟨g, 0, none⟩ ∧ ∀ j, W.frozen? ⟨g, j, none⟩ = false ∧ ∀ v, xs[j]? = some v → W.cell? ⟨g, j, none⟩ = some v := by
  obtain ⟨h1, h2⟩ := h
  rcases h2 with ⟨h3, _⟩ | ⟨g, cap, cur, h3, _, hb, hc, hm, hs, ht⟩
  · injection h3 with a1 a2 a3
    omega
  · injection h3 with a1 a2 a3
    subst a1
    refine ⟨g, rfl, fun j => ⟨by simp [World.frozen?, hb], fun v hv => ?_⟩⟩
    have hj := (List.getElem?_eq_some_iff.1 hv).1
    rw [← ht, List.getElem?_take_of_lt (by omega)] at hv
    simpa [World.cell?, hb] using hv
end Go.Proofs.Ytcbpmmcpidfllaa.Yv
end
section
namespace Go.Proofs.Ytcbpmmcpidfllaa.Yh
set_option linter.unusedVariables false
set_option linter.unusedSimpArgs false
open Go Go.RowKit Go.Proofs.YtcbpmmcpidfllaaW.PrintWords Go.Proofs.YtcbpmmcpidfllaaW.PrintLast Go.Proofs.Ytcbpmmcpidfllaa.Hd Go.Proofs.Ytcbpmmcpidfllaa.Os Go.Proofs.Ytcbpmmcpidfllaa.Tb Go.Proofs.Ytcbpmmcpidfllaa.Tm Go.Proofs.Ytcbpmmcpidfllaa.Rs Go.Proofs.Ytcbpmmcpidfllaa.Rn Go.Proofs.Ytcbpmmcpidfllaa.Rq Go.Proofs.Ytcbpmmcpidfllaa.Rk Go.Proofs.Ytcbpmmcpidfllaa.Ry Go.Proofs.Ytcbpmmcpidfllaa.Yq Go.Proofs.Ytcbpmmcpidfllaa.Ys Go.Proofs.Ytcbpmmcpidfllaa.Yu Go.Proofs.Ytcbpmmcpidfllaa.Yv
theorem isE_bool : ∀ (is : List ByteArray) (li : Rws), (∀ r ∈ li, ∃ y : Bool, r.2 = .bool y) → ∀ r ∈ (isE li is).2, ∃ y : Bool, r.2 = .bool y
  | [], li, h => h
  | x :: r, li, h => by
    unfold isE
    split
    · exact h
    · refine isE_bool r _ fun q hq => ?_
      unfold isinL at hq
      split at hq
      · exact h q hq
      · rcases mem_put hq with rfl | hq
        · exact ⟨true, rfl⟩
        · exact h q hq
structure Kn (nodes : Int) (xs : List ByteArray) (ys : List Ro.S63) (l : List (ByteArray × Int)) (m : List (ByteArray × Bool)) : Prop where
  lh : (msE nodes [] ys).2 = Ti.rows l
  li : (isE [] xs).2 = Tq.rows m
  up : Up cmpS (Ti.rows l)
  upi : Up cmpS (Tq.rows m)
  len : l.length = ys.length
  leni : m.length = xs.length
  home : ∀ s y, (s, y) ∈ l → 0 ≤ y ∧ y < nodes
  of : ∀ node, at_ node l = isortO [] (inH node ys)
  keys : keysB m = isortO [] xs
  tab : ∀ s, (has cmpS (Ti.rows l) s = true → Tb.get cmpS (Ti.rows l) s = some (.int .i64 (homeD ys s)) ∧ 0 ≤ homeD ys s ∧ homeD ys s < nodes) ∧ (has cmpS (Ti.rows l) s = false → homeD ys s = -1)
  isin : ∀ s, has cmpS (Tq.rows m) s = hasD xs s
theorem kn_of {nodes : Int} {xs : List ByteArray} {ys : List Ro.S63} (h1 : (isE [] xs).1 = 0) (h2 : (msE nodes [] ys).1 = 0) : ∃ l m, Kn nodes xs ys l m := by
  obtain ⟨l, e1, e2⟩ := ms_rows ys [] .nil h2
  obtain ⟨m, e3⟩ := Tq.rows_of (isE_bool xs [] (fun r hr => by cases hr))
  have e1 : (msE nodes [] ys).2 = Ti.rows l := e1
  have a := ms_tab ys [] .nil h2
  have b := is_tab xs [] .nil h1
  have k := keys_isE xs [] h1
  have t1 := tab_home h2
  have t2 := tab_has h1
  rw [e1] at a t1
  rw [e3] at b k t2
  refine ⟨l, m, ⟨e1, e3, a.1, b.1, ?_, ?_, fun s y hs => ?_, e2, ?_, t1, t2⟩⟩
  · have := a.2.1; rw [Ti.rows_length] at this; simpa using this
  · have := b.2.1; rw [Tq.rows_length] at this; simpa using this
  · have : (s, Value.int .i64 y) ∈ Ti.rows l := List.mem_map.2 ⟨(s, y), hs, rfl⟩
    rcases (a.2.2.1 _ _).1 this with hc | ⟨q, hq, _, hv⟩
    · cases hc
    · injection hv with _ hv
      subst hv
      exact ⟨(a.2.2.2.1 q hq).1, (a.2.2.2.1 q hq).2.1⟩
  · rw [← show (Tq.rows m).map (·.1) = keysB m by unfold Tq.rows keysB; rw [List.map_map]; rfl, k]
    rfl
theorem at_home {l : List (ByteArray × Int)} (hu : Up cmpS (Ti.rows l)) {node : Int} {s : ByteArray} (h : s ∈ at_ node l) : has cmpS (Ti.rows l) s = true ∧ Tb.get cmpS (Ti.rows l) s = some (.int .i64 node) := by
  obtain ⟨⟨s', y⟩, hr, rfl⟩ := List.mem_map.1 h
  obtain ⟨h1, h2⟩ := List.mem_filter.1 hr
  obtain rfl : y = node := by simpa using h2
  have h3 : (s', Value.int .i64 y) ∈ Ti.rows l := List.mem_map.2 ⟨(s', y), h1, rfl⟩
  exact ⟨(has_iff good_S hu).2 (List.mem_map.2 ⟨_, h3, rfl⟩), (get_iff good_S hu).2 h3⟩
theorem at_up {l : List (ByteArray × Int)} (hu : Up cmpS (Ti.rows l)) (node : Int) : (at_ node l).Pairwise fun a b => cmpS a b = -1 := by
  have h : l.Pairwise fun a b => cmpS a.1 b.1 = -1 := by
    unfold Up Ti.rows at hu
    rw [List.pairwise_map] at hu
    exact hu
  unfold at_
  rw [List.pairwise_map]
  exact h.filter _
def told (l : List (ByteArray × Int)) : Nat → Nat
  | 0 => 0
  | n + 1 => told l n + (at_ (n : Int) l).length
theorem told_eq (l : List (ByteArray × Int)) : ∀ n : Nat, (∀ s y, (s, y) ∈ l → 0 ≤ y) → told l n = (l.filter fun r => decide (r.2 < (n : Int))).length
  | 0, h => by
    unfold told
    symm
    rw [List.length_eq_zero_iff, List.filter_eq_nil_iff]
    intro r hr
    have := h r.1 r.2 hr
    simpa using this
  | n + 1, h => by
    unfold told
    rw [told_eq l n h]
    unfold at_
    rw [List.length_map]
    clear h
    induction l with
    | nil => rfl
    | cons x r ih =>
      rw [List.filter_cons, List.filter_cons, List.filter_cons]
      simp only [decide_eq_true_eq]
      split <;> split <;> split <;> (first | (simp only [List.length_cons]; omega) | omega)
theorem told_all {l : List (ByteArray × Int)} {n : Nat} (h : ∀ s y, (s, y) ∈ l → 0 ≤ y ∧ y < (n : Int)) : told l n = l.length := by
  rw [told_eq l n fun s y hs => (h s y hs).1, List.filter_eq_self.2]
  intro r hr
  simpa using (h r.1 r.2 hr).2
theorem told_le (l : List (ByteArray × Int)) : ∀ n, told l n ≤ n * l.length
  | 0 => by simp [told]
  | n + 1 => by
    have := told_le l n
    have h2 := at_len (n : Int) l
    unfold told
    rw [Nat.add_mul]
    omega
theorem pe_length {node : Nat} : ∀ n, (pe (node : Int) n).length = if node < n then n - 1 else n
  | 0 => by simp [pe]
  | n + 1 => by
    unfold pe
    have := pe_length (node := node) n
    split
    · rename_i h
      have h : n = node := by omega
      rw [this, if_neg (by omega), if_pos (by omega)]
      omega
    · rename_i h
      rw [List.length_append, this]
      simp only [List.length_cons, List.length_nil]
      split <;> split <;> omega
theorem meas {a i k : Nat} (h : a - i ≤ k) (hi : i < a) : a - (i + 1) < k := by omega
theorem wrap_nat {j : Nat} (h : j ≤ 1000000) : wrap64 (j : Int) = (j : Int) := by unfold wrap64; omega
set_option maxRecDepth 100000 in
set_option maxHeartbeats 8000000 in
theorem walk (x : Rt.RA) {w : World} (g : Rt.GoodR w x) : Calls Try.prog 4 #[x.val] w fun e w' => e = .returned (.bool true) ∧ Below w.heap.size w w' := by
  have H0 := (Yn.arg_c x g).box w.heap.size 25 #[.int .i64 x.nodes, .slice x.A x.is.length x.ci, .slice x.B x.ms.length x.cm]
  have hci := g.ci
  have hcm := g.cm
  have l1 : (x.is.take 40).length ≤ x.ci := by rw [List.length_take]; omega
  have l2 : (x.ms.take 70).length ≤ x.cm := by rw [List.length_take]; omega
  have l3 : (x.is.take 40).length ≤ 1000 := by rw [List.length_take]; omega
  have l4 : (x.ms.take 70).length ≤ 1000 := by rw [List.length_take]; omega
  have hto := to_c (nodes := x.nodes) (qi := 1) (qm := 2) (is := x.is) (ms := x.ms) (ci := x.ci) (cm := x.cm) H0 rfl rfl hci hcm
  have hck := fun W (hI : CS x.A (x.is.take 40) W) (hM : CM x.B (x.ms.take 70) W) => Yn.rcheck_c (nodes := x.nodes) hI hM l1 l2 l3 l4
  obtain ⟨nodes, A, ci, is, B, cm, ms⟩ := x
  simp only at *
  unfold Rt.RA.val
  simp only
  generalize is.take 40 = xs at *
  generalize ms.take 70 = ys at *
  have r0 := H0.rd 0 rfl
  clear g
  by_cases h0 : newE nodes xs ys = 0
  · have hnn : 1 ≤ nodes ∧ nodes ≤ 3 := by
      unfold newE at h0
      split at h0
      · contradiction
      · omega
    rw [h0] at hto
    clear hck
    go_enter Try.func4, Try.ntmps4
    go_wp2_with fail
    refine hto.mono ?_
    rintro e w1 ⟨p, rfl, hN⟩
    obtain ⟨h1, h2, ⟨R, bh, bi, A2, c2, B2, d2, rfl, hR, hbh, hbi, H1⟩⟩ := hN.good rfl
    obtain ⟨l, m, K⟩ := kn_of h1 h2
    rw [K.lh, K.li, Ti.rows_length, Tq.rows_length] at H1
    have H2 := H1.box w1.heap.size 25 #[.int .i64 nodes, .slice A xs.length ci, .slice B ys.length cm]
    have H3 := ((((H2.front 5 rfl).front 5 rfl).front 5 rfl).front 5 rfl).front 5 rfl
    clear hto hN H0 r0 h0 h1 h2 H1 H2
    replace K := Aside0.mk K
    obtain ⟨N, rfl⟩ : ∃ N : Nat, nodes = (N : Int) := ⟨nodes.toNat, by omega⟩
    go_wp2_with fail
    go_loopg [6, 7] N (fun kx s6 s7 wr => ∃ n : Nat, s6 = .int .i64 (told l n : Int) ∧ s7 = .int .i64 (n : Int) ∧ n ≤ N ∧ N - n ≤ kx ∧
      All w wr [bx R 73 #[.pointer (some ⟨bh, 0, none⟩), .int .i64 (N : Int), .pointer (some ⟨bi, 0, none⟩)], bx bh 97 #[.slice A2 l.length c2], ow w.heap.size 95 2 (.slice A2 l.length c2) l.length (flat (Ti.rows l)), bx bi 104 #[.slice B2 m.length d2], ow w.heap.size 102 2 (.slice B2 m.length d2) m.length (flat (Tq.rows m)),
        bx w1.heap.size 25 #[.int .i64 (N : Int), .slice A xs.length ci, .slice B ys.length cm], bx w.heap.size 25 #[.int .i64 (N : Int), .slice A is.length ci, .slice B ms.length cm], (fun k => k < w.heap.size, CS A xs), (fun k => k < w.heap.size, CM B ys)])
    case atStart => exact ⟨0, rfl, rfl, Nat.zero_le _, by omega, H3⟩
    case round =>
      clear H3
      obtain ⟨n, rfl, rfl, hn, hk, H⟩ := hrel
      have r5 := H.rd 5 rfl
      have hll : l.length ≤ 1000 := by rw [K.out.len]; exact l4
      have hmm : m.length ≤ 1000 := by rw [K.out.leni]; exact l3
      have hC0 : Cells w.heap.size [bx w1.heap.size 25 #[.int .i64 (N : Int), .slice A xs.length ci, .slice B ys.length cm], bx w.heap.size 25 #[.int .i64 (N : Int), .slice A is.length ci, .slice B ms.length cm], (fun k => k < w.heap.size, CS A xs), (fun k => k < w.heap.size, CM B ys)] := cells_bx (cells_bx (cells_low (fun _ h => h) (cells_low (fun _ h => h) cells_nil)))
      by_cases hlt : n < N
      · have hli : (n : Int) < (N : Int) := by omega
        have hmem := members_c (node := (n : Int)) (cells_bx (cells_ow hC0)) hll H
        go_wp2_with fail
        refine hmem.mono ?_
        rintro e w2 ⟨A3, c3, rfl, H4⟩
        have hw : wrap64 ((told l n : Int) + ((at_ (n : Int) l).length : Int)) = ((told l (n + 1) : Nat) : Int) := by
          have h1 := told_le l (n + 1)
          have h2 : (n + 1) * l.length ≤ 3 * 1000 := Nat.mul_le_mul (by omega) hll
          have h3 : told l (n + 1) = told l n + (at_ (n : Int) l).length := rfl
          unfold wrap64
          omega
        replace hw := Aside0.mk hw
        have hlo := Aside0.mk (Nat.le_trans (at_len (n : Int) l) hll)
        obtain ⟨ls, hls⟩ : ∃ ls, at_ (n : Int) l = ls := ⟨_, rfl⟩
        rw [hls] at H4 hw hlo
        clear hmem H r5
        rw [hls]
        go_wp2_with fail
        go_loopg [9] ls.length (fun kx s9 wr => ∃ i : Nat, s9 = .int .i64 (i : Int) ∧ i ≤ ls.length ∧ ls.length - i ≤ kx ∧
          All w wr [ow w.heap.size 9 1 (.slice A3 ls.length c3) ls.length (strs ls), bx R 73 #[.pointer (some ⟨bh, 0, none⟩), .int .i64 (N : Int), .pointer (some ⟨bi, 0, none⟩)], bx bh 97 #[.slice A2 l.length c2], ow w.heap.size 95 2 (.slice A2 l.length c2) l.length (flat (Ti.rows l)), bx bi 104 #[.slice B2 m.length d2], ow w.heap.size 102 2 (.slice B2 m.length d2) m.length (flat (Tq.rows m)),
            bx w1.heap.size 25 #[.int .i64 (N : Int), .slice A xs.length ci, .slice B ys.length cm], bx w.heap.size 25 #[.int .i64 (N : Int), .slice A is.length ci, .slice B ms.length cm], (fun k => k < w.heap.size, CS A xs), (fun k => k < w.heap.size, CM B ys)])
        case atStart => exact ⟨0, rfl, Nat.zero_le _, by omega, H4⟩
        case round =>
          clear H4
          obtain ⟨i, rfl, hi, hik, H⟩ := hrel
          by_cases hil : i < ls.length
          · have hili : (i : Int) < (ls.length : Int) := by omega
            obtain ⟨g, rfl, hg⟩ := ow_some (H.at 0 rfl) (by omega)
            have hc0 := (hg i).2 (.string ls[i]) (by unfold strs; rw [List.getElem?_map, List.getElem?_eq_getElem hil]; rfl)
            have hm := at_home K.out.up (node := (n : Int)) (s := ls[i]) (by rw [hls]; exact List.getElem_mem hil)
            have hh := home_c (s := ls[i]) H.tail K.out.up (by omega)
            rw [hm.1, hm.2] at hh
            simp only [Option.getD_some, if_true] at hh
            clear hm hg
            go_wp2_with fail
            refine hh.on H fun w3 H5 => ?_
            have hge : ∀ j, j + 1 = i → ∃ hj : j < ls.length, Op.bytesLess (ls[j]).toList (ls[i]).toList = true := fun j hj => ⟨by omega, less_iff.2 (by
              have h := at_up K.out.up (n : Int)
              rw [hls] at h
              subst hj
              exact List.pairwise_iff_getElem.1 h j (j + 1) (by omega) hil (by omega))⟩
            have hcs : ∀ W, All w W [ow w.heap.size 9 1 (.slice (some ⟨g, 0, none⟩) ls.length c3) ls.length (strs ls), bx R 73 #[.pointer (some ⟨bh, 0, none⟩), .int .i64 (N : Int), .pointer (some ⟨bi, 0, none⟩)], bx bh 97 #[.slice A2 l.length c2], ow w.heap.size 95 2 (.slice A2 l.length c2) l.length (flat (Ti.rows l)), bx bi 104 #[.slice B2 m.length d2], ow w.heap.size 102 2 (.slice B2 m.length d2) m.length (flat (Tq.rows m)),
              bx w1.heap.size 25 #[.int .i64 (N : Int), .slice A xs.length ci, .slice B ys.length cm], bx w.heap.size 25 #[.int .i64 (N : Int), .slice A is.length ci, .slice B ms.length cm], (fun k => k < w.heap.size, CS A xs), (fun k => k < w.heap.size, CM B ys)] → ∀ j (hj : j < ls.length), W.cell? ⟨g, j, none⟩ = some (.string ls[j]) := fun W hW j hj => by
              obtain ⟨g', e, hg⟩ := ow_some (hW.at 0 rfl) (by omega)
              cases e
              exact (hg j).2 (.string ls[j]) (by unfold strs; rw [List.getElem?_map, List.getElem?_eq_getElem hj]; rfl)
            replace hcs := Aside0.mk hcs
            clear hh hc0 H
            by_cases hi0 : i = 0
            · subst hi0
              clear hge
              go_wp2_with fail
              refine plan_ (true, [([], []), ([0], [0]), ([1], [1]), ([2], [2]), ([2], [2]), ([3, 4, 2], [2, 3, 4]), ([2, 5], [2, 5]), ([6, 2], [6]), ([7], [7]), ([8, 7], [7, 8]), ([9, 7, 7], [7, 9]), ([10], [10]), ([10], [10]), ([12, 10], [10, 12]), ([11, 13, 10], [10, 11, 13]), ([14, 10], [10, 14]), ([10], [10]), ([10], [10]), ([16, 17, 10], [10, 16, 17]), ([18, 10], [10, 18]), ([15, 19, 10], [10, 15, 19]), ([10, 20, 7], [7, 10, 20]), ([7, 21], [7, 21])]) [.p 0, .p 1, .p 2, .p 3, .p 4, .p 5, .p 6, .p 7, .p 8, .p 9, .p 10, .p 11, .p 12, .p 13, .p 14, .t 15, .p 16, .p 17, .p 18, .t 19, .p 20, .p 21, .p 22] H5 (by kernel_rfl) (by kernel_rfl) rfl rfl (by kernel_rfl) (by intro c a w d v h; cases d <;> exact h) (fun w4 H6 => ?_)
              refine pl_P (h := ?_)
              refine pl_P (h := ?_)
              refine pl_P (h := ?_)
              refine pl_P (h := ?_)
              refine pl_P (h := ?_)
              refine pl_P (h := ?_)
              refine pl_P (h := ?_)
              refine pl_P (h := ?_)
              refine pl_P (h := ?_)
              refine pl_P (h := ?_)
              refine pl_P (h := ?_)
              refine pl_kP (h := ?_)
              refine pl_kP (h := ?_)
              refine pl_kP (h := ?_)
              refine pl_kP (h := ?_)
              refine pl_kT H6 (h := ?_)
              refine pl_kP (h := ?_)
              refine pl_kP (h := ?_)
              refine pl_kP (h := ?_)
              refine pl_kT H6 (h := ?_)
              refine pl_kP (h := ?_)
              refine pl_P (h := ?_)
              refine pl_P (h := ?_)
              refine pl_done ?_
              go_wp2_with fail
              go_roundg (ls.length - (0 + 1))
              case measure => exact meas hik hil
              case rel => exact ⟨0 + 1, rfl, by omega, by omega, H6⟩
            · obtain ⟨j, rfl⟩ : ∃ j, i = j + 1 := ⟨i - 1, by omega⟩
              obtain ⟨hj, hge⟩ := hge j rfl
              have hpos : (0 : Int) < ((j + 1 : Nat) : Int) := Int.natCast_pos.2 (Nat.succ_pos j)
              have hw6 : wrap64 (j : Int) = (j : Int) := wrap_nat (Nat.le_trans (Nat.le_of_lt hj) (Nat.le_trans hlo.out (by decide)))
              have hj1 : (j : Int) < (ls.length : Int) := Int.ofNat_lt.2 hj
              have hj2 : (j : Int) + 1 < (ls.length : Int) := Int.ofNat_lt.2 hil
              have hw7 := Aside0.mk (Rp.wrap_succ (i := j + 1) (Nat.le_trans (Nat.le_of_lt hil) (Nat.le_trans hlo.out (by decide))))
              have hj3 : (0 : Int) ≤ (j : Int) + 1 := Int.natCast_nonneg (j + 1)
              go_wp2_with fail
              refine plan_ (true, [([], []), ([0], [0]), ([1], [1]), ([2], [2]), ([2], [2]), ([3, 4, 2], [2, 3, 4]), ([2, 5], [2, 5]), ([6, 2], [6]), ([7], [7]), ([8, 7], [7, 8]), ([9, 7, 7], [7, 9]), ([10], [10]), ([10], [10]), ([12, 10], [10, 12]), ([11, 13, 10], [10, 11, 13]), ([14, 10], [10, 14]), ([10], [10]), ([10], [10]), ([16, 17, 10], [10, 16, 17]), ([18, 10], [10, 18]), ([15, 19, 10], [10, 15, 19]), ([10, 20, 7], [7, 10, 20]), ([7, 21], [7, 21])]) [.p 0, .p 1, .p 2, .p 3, .p 4, .p 5, .p 6, .p 7, .p 8, .p 9, .p 10, .p 11, .p 12, .p 13, .p 14, .t 15, .p 16, .p 17, .p 18, .t 19, .p 20, .p 21, .p 22] H5 (by kernel_rfl) (by kernel_rfl) rfl rfl (by kernel_rfl) (by intro c a w d v h; cases d <;> exact h) (fun w4 H6 => ?_)
              refine pl_P (h := ?_)
              refine pl_P (h := ?_)
              refine pl_P (h := ?_)
              refine pl_P (h := ?_)
              refine pl_P (h := ?_)
              refine pl_P (h := ?_)
              refine pl_P (h := ?_)
              refine pl_P (h := ?_)
              refine pl_P (h := ?_)
              refine pl_P (h := ?_)
              refine pl_P (h := ?_)
              refine pl_P (h := ?_)
              refine pl_P (h := ?_)
              refine pl_P (h := ?_)
              refine pl_P (h := ?_)
              refine pl_C H6 (fun W hW => hcs.out W hW j hj) (h := ?_)
              refine pl_P (h := ?_)
              refine pl_P (h := ?_)
              refine pl_P (h := ?_)
              refine pl_C H6 (fun W hW => hcs.out W hW (j + 1) hil) (h := ?_)
              refine pl_P (h := ?_)
              refine pl_P (h := ?_)
              refine pl_P (h := ?_)
              refine pl_done ?_
              go_wp2_with fail
              go_roundg (ls.length - (j + 1 + 1))
              case measure => exact meas hik hil
              case rel => exact ⟨j + 1 + 1, congrArg _ hw7.out, hil, Nat.le_refl _, H6⟩
          · obtain rfl : i = ls.length := by omega
            have hp := peers_c (node := (n : Int)) H.tail (by omega) hli (by omega)
            rw [Int.toNat_natCast] at hp
            have hpl := pe_length (node := n) N
            rw [if_pos hlt] at hpl
            have hn3 : N ≤ 3 := by omega
            have hsub : wrap64 ((N : Int) - 1) = (N : Int) - 1 := by unfold wrap64; omega
            have hsub2 : ((pe (n : Int) N).length : Int) = (N : Int) - 1 := by rw [hpl]; omega
            have r6 := H.rd 6 rfl
            clear hpl
            go_wp2_with fail
            refine hp.mono ?_
            rintro e w3 ⟨A4, c4, rfl, H7⟩
            have r7 := H7.rd 6 rfl
            clear hp H r6
            go_wp2_with fail
            go_roundg (N - (n + 1))
            case measure => exact meas hk hlt
            case rel => exact ⟨n + 1, by rw [hw.out], rfl, hlt, Nat.le_refl _, H7.tail⟩
      · obtain rfl : n = N := by omega
        have e1 : told l n = ys.length := by rw [told_all K.out.home, K.out.len]
        have e2 : m.length = xs.length := K.out.leni
        have hisins := fun w' H => isins_c (w := w') (L := [bx w1.heap.size 25 #[.int .i64 (n : Int), .slice A xs.length ci, .slice B ys.length cm], bx w.heap.size 25 #[.int .i64 (n : Int), .slice A is.length ci, .slice B ms.length cm], (fun k => k < w.heap.size, CS A xs), (fun k => k < w.heap.size, CM B ys)]) (w0 := w) (R := R) (bh := bh) (bi := bi) (nodes := n) (A := A2) (nh := l.length) (c := c2) (lh := flat (Ti.rows l)) (B := B2) (d := d2) (li := m) hC0 hmm H
        rw [e1]
        clear e1
        go_wp2_with fail
        refine plan_ (true, [([], []), ([0, 0], [0]), ([1], [1]), ([1], [1]), ([3, 1], [1, 3]), ([4, 1], [1, 4]), ([2, 5, 1], [1, 2, 5]), ([1, 6], [1, 6]), ([7, 1], [7]), ([8], [8]), ([9, 8, 8], [8, 9]), ([10, 8], [8, 10]), ([8], [8]), ([12, 8], [8, 12]), ([13, 8], [8, 13]), ([11, 14, 8], [8, 11, 14]), ([8, 15], [8, 15]), ([16, 10, 0, 1, 2, 3, 4, 5, 6, 7, 8, 9, 10, 11, 12, 13, 14, 15, 16], [16])]) [.c 0, .p 1, .p 2, .p 3, .t 4, .p 5, .p 6, .p 7, .p 8, .p 9, .p 12, .t 13, .p 14, .c 10, .p 11, .p 15, .p 16, .p 17] H (by kernel_rfl) (by kernel_rfl) rfl rfl (by kernel_rfl) (by intro c a w d v h; cases d <;> exact h) (fun w3 H3 => ?_)
        refine pl_S known_c H3 Try.func9 (h := fun w4 H4 => ?_)
        refine pl_P (h := ?_)
        refine pl_P (h := ?_)
        refine pl_P (h := ?_)
        refine pl_L 5 2 H4 rfl (h := ?_)
        refine pl_P (h := ?_)
        refine pl_P (h := ?_)
        refine pl_P (h := ?_)
        refine pl_P (h := ?_)
        refine pl_P (h := ?_)
        refine pl_P (h := ?_)
        refine pl_L 5 1 H4 rfl (h := ?_)
        refine pl_P (h := ?_)
        refine pl_K Try.func15 ((hisins _ H4).mono fun e w5 ⟨A5, c5, he, H5⟩ => ⟨_, he, H5.tail, ?_⟩)
        repeat refine pl_P (h := ?_)
        refine pl_done ?_
        go_wp2
        go_ret
        exact ⟨by simp [e2], H5.old⟩
  · have hb : (newE nodes xs ys == 0) = false := by simpa using h0
    have hb2 : (newE nodes xs ys != 0) = true := by simpa using h0
    generalize newE nodes xs ys = E at *
    go_enter Try.func4, Try.ntmps4
    go_wp2_with fail
    refine hto.mono ?_
    rintro e w1 ⟨p, rfl, hN⟩
    obtain ⟨rfl, H1⟩ := hN.bad h0
    have H2 := H1.box w1.heap.size 25 #[.int .i64 nodes, .slice A xs.length ci, .slice B ys.length cm]
    clear hto hN H0 r0 H1
    go_wp2_with fail
    refine known_c.on H2 fun w2 H3 => ?_
    have r3 := H3.rd 0 rfl
    go_wp2_with fail
    refine (hck _ (H3.at 2 rfl) (H3.at 3 rfl)).on H3 fun w4 H4 => ?_
    go_wp2
    go_ret
    exact ⟨rfl, H4.old⟩
end Go.Proofs.Ytcbpmmcpidfllaa.Yh
end
section
namespace Go.Proofs.Ytcbpmmcpidfllaa.Yt
set_option linter.unusedVariables false
set_option linter.unusedSimpArgs false
open Go Go.RowKit Go.Proofs.YtcbpmmcpidfllaaW.PrintWords Go.Proofs.YtcbpmmcpidfllaaW.PrintLast Go.Proofs.Ytcbpmmcpidfllaa.Hd Go.Proofs.Ytcbpmmcpidfllaa.Os Go.Proofs.Ytcbpmmcpidfllaa.Tb Go.Proofs.Ytcbpmmcpidfllaa.Tm Go.Proofs.Ytcbpmmcpidfllaa.Rs Go.Proofs.Ytcbpmmcpidfllaa.Rn Go.Proofs.Ytcbpmmcpidfllaa.Rq Go.Proofs.Ytcbpmmcpidfllaa.Rk Go.Proofs.Ytcbpmmcpidfllaa.Ry Go.Proofs.Ytcbpmmcpidfllaa.Yq Go.Proofs.Ytcbpmmcpidfllaa.Ys Go.Proofs.Ytcbpmmcpidfllaa.Yu Go.Proofs.Ytcbpmmcpidfllaa.Yv Go.Proofs.Ytcbpmmcpidfllaa.Yh
def pl (node : Int) (n N : Nat) : List Int := if 0 ≤ node ∧ node < (N : Int) then pe node n else []
theorem pl_len (node : Int) (n N : Nat) : (pl node n N).length ≤ n := by
  unfold pl
  split
  · exact pe_len node n
  · simp
theorem pl_zero (node : Int) (N : Nat) : pl node 0 N = [] := by
  unfold pl
  split <;> rfl
theorem pl_step (node : Int) (i N : Nat) (h : 0 ≤ node ∧ node < (N : Int)) : pl node (i + 1) N = if (i : Int) = node then pl node i N else pl node i N ++ [(i : Int)] := by
  unfold pl
  rw [if_pos h, if_pos h]
  rfl
theorem peers_any {w0 w : World} {L : List F2} {R bh bi N : Nat} {node : Int} (hN : N ≤ 3) (H : All w0 w (bx R 73 #[.pointer (some ⟨bh, 0, none⟩), .int .i64 (N : Int), .pointer (some ⟨bi, 0, none⟩)] :: L)) :
    Calls Try.prog 14 #[.pointer (some ⟨R, 0, none⟩), .int .i64 node] w fun e w' => ∃ A c, e = .returned (.slice A (pl node N N).length c) ∧
      All w0 w' (ow w0.heap.size 3 1 (.slice A (pl node N N).length c) (pl node N N).length (nums .i64 (pl node N N)) :: bx R 73 #[.pointer (some ⟨bh, 0, none⟩), .int .i64 (N : Int), .pointer (some ⟨bi, 0, none⟩)] :: L) := by
  unfold pl
  by_cases h : 0 ≤ node ∧ node < (N : Int)
  · rw [if_pos h]
    have := peers_c H h.1 h.2 (by omega)
    rwa [Int.toNat_natCast] at this
  · rw [if_neg h]
    refine (peers_out H (by omega)).mono ?_
    rintro e w1 ⟨rfl, hb⟩
    exact ⟨none, 0, rfl, (H.grow hb).row w0.heap.size 3 1⟩
theorem sames_ints {w : World} {A B : Option Addr} {l : List Int} {c d : Nat} (ha : Kd.C (Kd.int .i64) w A l.length l) (hc : l.length ≤ c) (hb : Kd.C (Kd.int .i64) w B l.length l) (hd : l.length ≤ d) (hl : l.length ≤ 1000) :
    Tells Try.prog 22 #[.slice A l.length c, .slice B l.length d] w (.bool true) := by
  have h : ∀ n i, i + n = l.length → Rp.Ends (fun k => Ro.clevisref04_Same.l0 k l l (i : Nat)) true := by
    intro n
    induction n with
    | zero =>
      intro i hi
      refine Rp.Ends.now 0 fun k _ => ?_
      simp only [Ro.clevisref04_Same.l0]
      rw [if_neg (by omega)]
    | succ n ih =>
      intro i hi
      refine Rp.Ends.step 0 (ih (i + 1) (by omega)) fun k _ => ?_
      simp only [Ro.clevisref04_Same.l0]
      rw [if_pos (by omega), if_pos (by omega), if_pos (by omega), if_pos trivial, Rp.wrap_succ (by omega)]
  obtain ⟨K, hK⟩ := h l.length 0 (by omega)
  have hf : Ro.clevisref04_Same.f K l l = some true := by
    unfold Ro.clevisref04_Same.f
    rw [if_pos rfl]
    exact hK K (Nat.le_refl _)
  exact (Ro.clevisref04_Same.calls K A c l B d l _ w ha hc hb hd hf).mono fun e w' ⟨h1, h2⟩ => ⟨h1, h2.below⟩
set_option maxRecDepth 100000 in
set_option maxHeartbeats 8000000 in
theorem walk (x : Rt.RA) (name isin : ByteArray) (node : Int) {w : World} (g : Rt.GoodR w x) : Calls Try.prog 5 #[x.val, .string name, .string isin, .int .i64 node] w fun e w' => e = .returned (.bool true) ∧ Below w.heap.size w w' := by
  have H0 := (Yn.arg_c x g).box w.heap.size 25 #[.int .i64 x.nodes, .slice x.A x.is.length x.ci, .slice x.B x.ms.length x.cm]
  have hci := g.ci
  have hcm := g.cm
  have l1 : (x.is.take 40).length ≤ x.ci := by rw [List.length_take]; omega
  have l2 : (x.ms.take 70).length ≤ x.cm := by rw [List.length_take]; omega
  have l3 : (x.is.take 40).length ≤ 1000 := by rw [List.length_take]; omega
  have l4 : (x.ms.take 70).length ≤ 1000 := by rw [List.length_take]; omega
  have hto := to_c (nodes := x.nodes) (qi := 1) (qm := 2) (is := x.is) (ms := x.ms) (ci := x.ci) (cm := x.cm) H0 rfl rfl hci hcm
  have hck := fun W (hI : CS x.A (x.is.take 40) W) (hM : CM x.B (x.ms.take 70) W) => Yn.rcheck_c (nodes := x.nodes) hI hM l1 l2 l3 l4
  obtain ⟨nodes, A, ci, is, B, cm, ms⟩ := x
  simp only at *
  unfold Rt.RA.val
  simp only
  generalize is.take 40 = xs at *
  generalize ms.take 70 = ys at *
  have r0 := H0.rd 0 rfl
  clear g
  by_cases h0 : newE nodes xs ys = 0
  · have hnn : 1 ≤ nodes ∧ nodes ≤ 3 := by
      unfold newE at h0
      split at h0
      · contradiction
      · omega
    rw [h0] at hto
    clear hck
    go_enter Try.func5, Try.ntmps5
    go_wp2_with fail
    refine hto.mono ?_
    rintro e w1 ⟨p, rfl, hN⟩
    obtain ⟨h1, h2, ⟨R, bh, bi, A2, c2, B2, d2, rfl, hR, hbh, hbi, H1⟩⟩ := hN.good rfl
    obtain ⟨l, m, K⟩ := kn_of h1 h2
    rw [K.lh, K.li, Ti.rows_length, Tq.rows_length] at H1
    have H2 := H1.box w1.heap.size 25 #[.int .i64 nodes, .slice A xs.length ci, .slice B ys.length cm]
    have H3 := ((((H2.front 5 rfl).front 5 rfl).front 5 rfl).front 5 rfl).front 5 rfl
    clear hto hN H0 r0 h0 h1 h2 H1 H2
    replace K := Aside0.mk K
    obtain ⟨N, rfl⟩ : ∃ N : Nat, nodes = (N : Int) := ⟨nodes.toNat, by omega⟩
    have hll : l.length ≤ 1000 := by rw [K.out.len]; exact l4
    have hmm : m.length ≤ 1000 := by rw [K.out.leni]; exact l3
    have hC0 : Cells w.heap.size [bx w1.heap.size 25 #[.int .i64 (N : Int), .slice A xs.length ci, .slice B ys.length cm], bx w.heap.size 25 #[.int .i64 (N : Int), .slice A is.length ci, .slice B ms.length cm], (fun k => k < w.heap.size, CS A xs), (fun k => k < w.heap.size, CM B ys)] := cells_bx (cells_bx (cells_low (fun _ h => h) (cells_low (fun _ h => h) cells_nil)))
    have hh := home_c (s := name) H3 K.out.up (by omega)
    have hrh := fun W (H : All w W [bx R 73 #[.pointer (some ⟨bh, 0, none⟩), .int .i64 (N : Int), .pointer (some ⟨bi, 0, none⟩)], bx bh 97 #[.slice A2 l.length c2], ow w.heap.size 95 2 (.slice A2 l.length c2) l.length (flat (Ti.rows l)), bx bi 104 #[.slice B2 m.length d2], ow w.heap.size 102 2 (.slice B2 m.length d2) m.length (flat (Tq.rows m)), bx w1.heap.size 25 #[.int .i64 (N : Int), .slice A xs.length ci, .slice B ys.length cm], bx w.heap.size 25 #[.int .i64 (N : Int), .slice A is.length ci, .slice B ms.length cm], (fun k => k < w.heap.size, CS A xs), (fun k => k < w.heap.size, CM B ys)]) => rhome_c (nodes := N) (H.at 7 rfl) (H.at 8 rfl) l1 l2 l4 name
    obtain ⟨hm, hhm⟩ : ∃ v, homeD ys name = v := ⟨_, rfl⟩
    have ht := K.out.tab name
    rw [hhm] at ht hrh
    obtain ⟨b, hb⟩ : ∃ b, has cmpS (Ti.rows l) name = b := ⟨_, rfl⟩
    obtain ⟨v, hv⟩ : ∃ v, (Tb.get cmpS (Ti.rows l) name).getD (.int .i64 0) = v := ⟨_, rfl⟩
    have hbv : (b = true → v = .int .i64 hm ∧ 0 ≤ hm) ∧ (b = false → v = .int .i64 0 ∧ hm = -1) := by
      constructor
      · intro h
        rw [← hb] at h
        have := ht.1 h
        rw [this.1] at hv
        exact ⟨hv.symm, this.2.1⟩
      · intro h
        rw [← hb] at h
        rw [(get_none good_S K.out.up).2 h] at hv
        exact ⟨hv.symm, ht.2 h⟩
    rw [hb, hv] at hh
    obtain ⟨f, hf⟩ : ∃ f, (if b = true then (0 : Int) else 5) = f := ⟨_, rfl⟩
    rw [hf] at hh
    replace hf := Aside0.mk hf
    clear ht hb hv hhm
    go_wp2_with fail
    refine hh.on H3 fun w2 H4 => ?_
    clear H3 hh
    replace hbv := Aside0.mk hbv
    have r4 := H4.rd 5 rfl
    go_wp2_with fail
    refine (hrh w2 H4).on H4 fun w3 H5 => ?_
    clear H4 hrh r4
    go_upto_region 6 with fail
    go_cut [69] (fun s69 wx => s69 = .bool false ∧ All w wx [bx R 73 #[.pointer (some ⟨bh, 0, none⟩), .int .i64 (N : Int), .pointer (some ⟨bi, 0, none⟩)], bx bh 97 #[.slice A2 l.length c2], ow w.heap.size 95 2 (.slice A2 l.length c2) l.length (flat (Ti.rows l)), bx bi 104 #[.slice B2 m.length d2], ow w.heap.size 102 2 (.slice B2 m.length d2) m.length (flat (Tq.rows m)), bx w1.heap.size 25 #[.int .i64 (N : Int), .slice A xs.length ci, .slice B ys.length cm], bx w.heap.size 25 #[.int .i64 (N : Int), .slice A is.length ci, .slice B ms.length cm], (fun k => k < w.heap.size, CS A xs), (fun k => k < w.heap.size, CM B ys)])
    case first =>
      cases b with
      | true =>
        obtain ⟨rfl, h0⟩ := hbv.out.1 rfl
        obtain rfl : 0 = f := hf.out
        have h1 : decide (hm < 0) = false := decide_eq_false (by omega)
        have h2 : decide (hm ≥ 0) = true := decide_eq_true (by omega)
        clear hbv
        go_wp2_with fail
        go_meet
        exact ⟨rfl, H5⟩
      | false =>
        obtain ⟨rfl, rfl⟩ := hbv.out.2 rfl
        obtain rfl : 5 = f := hf.out
        clear hbv
        go_wp2_with fail
        go_meet
        exact ⟨rfl, H5⟩
    case rest =>
      obtain ⟨rfl, H⟩ := hcut
      clear H5 hbv
      have H6 := ((((((H.row w.heap.size 3 1).front 5 rfl).front 5 rfl).front 5 rfl).front 5 rfl).front 5 rfl)
      have hn3 : N ≤ 3 := by omega
      have hst := fun i => pl_step node i N
      have hpl := fun i => pl_len node i N
      clear H
      go_wp2_with fail
      go_loopg [15, 16] N (fun kx s15 s16 wr => ∃ (i : Nat) (AD : Option Addr) (cD : Nat), s15 = .slice AD (pl node i N).length cD ∧ s16 = .int .i64 (i : Int) ∧ i ≤ N ∧ N - i ≤ kx ∧
        All w wr [bx R 73 #[.pointer (some ⟨bh, 0, none⟩), .int .i64 (N : Int), .pointer (some ⟨bi, 0, none⟩)], bx bh 97 #[.slice A2 l.length c2], ow w.heap.size 95 2 (.slice A2 l.length c2) l.length (flat (Ti.rows l)), bx bi 104 #[.slice B2 m.length d2], ow w.heap.size 102 2 (.slice B2 m.length d2) m.length (flat (Tq.rows m)), ow w.heap.size 3 1 (.slice AD (pl node i N).length cD) (pl node i N).length (nums .i64 (pl node i N)), bx w1.heap.size 25 #[.int .i64 (N : Int), .slice A xs.length ci, .slice B ys.length cm], bx w.heap.size 25 #[.int .i64 (N : Int), .slice A is.length ci, .slice B ms.length cm], (fun k => k < w.heap.size, CS A xs), (fun k => k < w.heap.size, CM B ys)])
      case atStart => exact ⟨0, none, 0, by rw [pl_zero]; rfl, rfl, Nat.zero_le _, by omega, by rw [pl_zero]; exact H6⟩
      case round =>
        clear H6
        obtain ⟨i, AD, cD, rfl, rfl, hi, hik, H⟩ := hrel
        have r6 := H.rd 6 rfl
        obtain ⟨q, hq⟩ : ∃ q, decide ((i : Int) < (N : Int) ∧ 0 ≤ node ∧ node < (N : Int)) = q := ⟨_, rfl⟩
        go_upto_region 10 with fail
        go_cut [83] (fun s83 wx => s83 = .bool q ∧ All w wx [bx R 73 #[.pointer (some ⟨bh, 0, none⟩), .int .i64 (N : Int), .pointer (some ⟨bi, 0, none⟩)], bx bh 97 #[.slice A2 l.length c2], ow w.heap.size 95 2 (.slice A2 l.length c2) l.length (flat (Ti.rows l)), bx bi 104 #[.slice B2 m.length d2], ow w.heap.size 102 2 (.slice B2 m.length d2) m.length (flat (Tq.rows m)), ow w.heap.size 3 1 (.slice AD (pl node i N).length cD) (pl node i N).length (nums .i64 (pl node i N)), bx w1.heap.size 25 #[.int .i64 (N : Int), .slice A xs.length ci, .slice B ys.length cm], bx w.heap.size 25 #[.int .i64 (N : Int), .slice A is.length ci, .slice B ms.length cm], (fun k => k < w.heap.size, CS A xs), (fun k => k < w.heap.size, CM B ys)])
        case first =>
          by_cases q1 : (i : Int) < (N : Int)
          · by_cases q2 : node < 0
            · have e : ¬ node ≥ 0 := by omega
              have e2 : decide (node ≥ 0) = false := decide_eq_false e
              have e3 : q = false := by rw [← hq]; simp; intro _ h; omega
              clear hq
              go_wp2_with fail
              go_meet
              exact ⟨by rw [e3], H⟩
            · have e : node ≥ 0 := by omega
              have e2 : decide (node ≥ 0) = true := decide_eq_true e
              have e3 : q = decide (node < (N : Int)) := by rw [← hq]; simp [q1]; omega
              clear hq
              go_wp2_with fail
              go_meet
              exact ⟨by rw [e3], H⟩
          · have e3 : q = false := by rw [← hq]; simp; intro h; omega
            have q2 : decide ((i : Int) < (N : Int)) = false := decide_eq_false q1
            clear hq
            go_wp2_with fail
            go_meet
            exact ⟨by rw [e3], H⟩
        case rest =>
          obtain ⟨rfl, H'⟩ := hcut
          clear H r6
          by_cases hc : (i : Int) < (N : Int) ∧ 0 ≤ node ∧ node < (N : Int)
          · obtain rfl : true = q := by rw [← hq]; exact (decide_eq_true hc).symm
            clear hq
            have hlt : i < N := by omega
            have hli := hc.1
            have hs := hst i hc.2
            have hz := H'.old.size
            have hsz : ((pl node i N).length + 1) * 8 ≤ 140737488355328 := by have := hpl i; omega
            replace hc := Aside0.mk hc
            by_cases he : (i : Int) = node
            · rw [if_pos he] at hs
              have he2 : ((i : Int) != node) = false := by simpa using he
              replace hs := Aside0.mk hs
              replace he := Aside0.mk he
              go_wp2_with fail
              go_roundg (N - (i + 1))
              case measure => exact meas hik hlt
              case rel => exact ⟨i + 1, AD, cD, by rw [hs.out], rfl, hlt, Nat.le_refl _, by rw [hs.out]; exact H'⟩
            · rw [if_neg he] at hs
              have he2 : ((i : Int) != node) = true := by simpa using he
              have hs2 : (pl node (i + 1) N).length = (pl node i N).length + 1 := by rw [hs, List.length_append]; rfl
              replace hs := Aside0.mk hs
              replace hs2 := Aside0.mk hs2
              replace he := Aside0.mk he
              go_wp2_with ((with_reducible refine gate_builtin (b := .append) rfl ?_); refine app_num (i : Int) H' 5 rfl (Nat.le_refl _) hz hsz (.tmp 89) (.tmp 91) 37 Ro.info3 Try.underlying37 rfl rfl (by decide) rfl rfl ?_; intro A1 c1 w4 H4 z4)
              go_roundg (N - (i + 1))
              case measure => exact meas hik hlt
              case rel => exact ⟨i + 1, A1, c1, by rw [hs2.out], rfl, hlt, Nat.le_refl _, by rw [hs2.out, hs.out]; exact H4⟩
          · obtain rfl : false = q := by rw [← hq]; exact (decide_eq_false hc).symm
            have e : pl node i N = pl node N N := by
              unfold pl
              by_cases hr : 0 ≤ node ∧ node < (N : Int)
              · obtain rfl : i = N := by
                  have : ¬ (i : Int) < (N : Int) := fun h => hc ⟨h, hr⟩
                  omega
                rfl
              · rw [if_neg hr, if_neg hr]
            rw [e] at H'
            rw [e]
            clear hq hc hst e hik hi
            have hmem := members_c (node := node) (cells_bx (cells_ow (cells_ow hC0))) hll H'
            go_wp2_with fail
            refine hmem.mono ?_
            rintro e w4 ⟨A4, c4, rfl, H7⟩
            clear hmem H'
            have H8 := (((((H7.front 5 rfl).front 5 rfl).front 5 rfl).front 5 rfl).front 5 rfl)
            have hisi := isins_c (L := [ow w.heap.size 9 1 (.slice A4 (at_ node l).length c4) (at_ node l).length (strs (at_ node l)), ow w.heap.size 3 1 (.slice AD (pl node N N).length cD) (pl node N N).length (nums .i64 (pl node N N)), bx w1.heap.size 25 #[.int .i64 (N : Int), .slice A xs.length ci, .slice B ys.length cm], bx w.heap.size 25 #[.int .i64 (N : Int), .slice A is.length ci, .slice B ms.length cm], (fun k => k < w.heap.size, CS A xs), (fun k => k < w.heap.size, CM B ys)]) (cells_ow (cells_ow hC0)) hmm H8
            clear H7
            go_wp2_with fail
            refine hisi.mono ?_
            rintro e w5 ⟨A5, c5, rfl, H9⟩
            clear hisi H8
            have r9 := H9.rd 8 rfl
            have hof := fun W (hI : CS A xs W) (hM : CM B ys W) => rof_c (nodes := N) hI hM l1 l2 l4 node
            have hso := fun W (hI : CS A xs W) => rsorted_c hI l1 l3
            rw [← K.out.of node] at hof
            rw [← K.out.keys] at hso
            obtain ⟨lm, hlm⟩ : ∃ lm, at_ node l = lm := ⟨_, rfl⟩
            have hlml : lm.length ≤ 1000 := by rw [← hlm]; exact Nat.le_trans (at_len node l) hll
            rw [hlm] at H9 hof
            rw [hlm]
            clear hlm
            go_wp2_with fail
            refine (hof w5 (H9.at 10 rfl) (H9.at 11 rfl)).on H9 fun v6 w6 H10 z10 => ?_
            obtain ⟨A6, c6, rfl, h6, hC6⟩ := H10.at 0 rfl
            have hsm := rsame_c (ow_CS (H10.at 7 rfl)).2.2 (ow_CS (H10.at 7 rfl)).2.1 hC6 h6 hlml
            rw [decide_eq_true rfl] at hsm
            clear H9 r9
            go_wp2_with fail
            refine hsm.on H10 fun w7 H11 => ?_
            have r11 := H11.rd 9 rfl
            clear hsm hC6 H10
            go_wp2_with fail
            refine (hso w7 (H11.at 11 rfl)).on H11 fun v8 w8 H12 z12 => ?_
            obtain ⟨A8, c8, rfl, h8, hC8⟩ := H12.at 0 rfl
            have hsm := rsame_c (ow_CS (H12.at 2 rfl)).2.2 (by have := (ow_CS (H12.at 2 rfl)).2.1; rw [keysB_len]; exact this) hC8 h8 (by rw [keysB_len]; exact hmm)
            rw [decide_eq_true rfl, keysB_len] at hsm
            rw [keysB_len]
            clear H11 r11
            go_wp2_with fail
            refine hsm.on H12 fun w9 H13 => ?_
            have H14 := H13.tail.tail.cut 6
            clear hsm hC8 H12 H13 hof
            replace hso := Aside0.mk hso
            go_wp2_with fail
            go_loopg [19] m.length (fun kx s19 wr => ∃ (i : Nat) (cs : List Value), s19 = .int .i64 (i : Int) ∧ i ≤ m.length ∧ m.length - i ≤ kx ∧
              All w wr [ow w.heap.size 9 1 (.slice A5 m.length c5) m.length cs, bx R 73 #[.pointer (some ⟨bh, 0, none⟩), .int .i64 (N : Int), .pointer (some ⟨bi, 0, none⟩)], bx bh 97 #[.slice A2 l.length c2], ow w.heap.size 95 2 (.slice A2 l.length c2) l.length (flat (Ti.rows l)), bx bi 104 #[.slice B2 m.length d2], ow w.heap.size 102 2 (.slice B2 m.length d2) m.length (flat (Tq.rows m)), ow w.heap.size 3 1 (.slice AD (pl node N N).length cD) (pl node N N).length (nums .i64 (pl node N N)), bx w1.heap.size 25 #[.int .i64 (N : Int), .slice A xs.length ci, .slice B ys.length cm], bx w.heap.size 25 #[.int .i64 (N : Int), .slice A is.length ci, .slice B ms.length cm], (fun k => k < w.heap.size, CS A xs), (fun k => k < w.heap.size, CM B ys)])
            case atStart => exact ⟨0, _, rfl, Nat.zero_le _, by omega, H14⟩
            case round =>
              clear H14
              obtain ⟨i, cs, rfl, hi, hik, H⟩ := hrel
              by_cases hil : i < m.length
              · have hili : (i : Int) < (m.length : Int) := Int.ofNat_lt.2 hil
                obtain ⟨g, rfl, hg⟩ := ow_some (H.at 0 rfl) (Nat.lt_of_le_of_lt (Nat.zero_le _) hil)
                have hcl : cs.length = m.length := by have := (H.at 0 rfl).1; rw [Nat.mul_one] at this; exact this
                obtain ⟨v0, hv0⟩ : ∃ v0, cs[i]? = some v0 := ⟨_, List.getElem?_eq_getElem (by rw [hcl]; exact hil)⟩
                have hc0 := (hg i).2 v0 hv0
                have hf0 := (hg i).1
                have H2 := storeV H 0 rfl i (.string ⟨#[]⟩) (Nat.le_refl _)
                clear hg hcl hv0 H
                go_wp2_with fail
                go_roundg (m.length - (i + 1))
                case measure => exact meas hik hil
                case rel => exact ⟨i + 1, _, rfl, hil, Nat.le_refl _, H2⟩
              · have H2 := H.tail
                have ei : i = m.length := Nat.le_antisymm hi (Nat.le_of_not_lt hil)
                subst ei
                have hplN := Nat.le_trans (hpl N) (Nat.le_trans hn3 (show 3 ≤ 1000 by decide))
                have hhas := fun W (H : All w W [bx R 73 #[.pointer (some ⟨bh, 0, none⟩), .int .i64 (N : Int), .pointer (some ⟨bi, 0, none⟩)], bx bh 97 #[.slice A2 l.length c2], ow w.heap.size 95 2 (.slice A2 l.length c2) l.length (flat (Ti.rows l)), bx bi 104 #[.slice B2 m.length d2], ow w.heap.size 102 2 (.slice B2 m.length d2) m.length (flat (Tq.rows m)), ow w.heap.size 3 1 (.slice AD (pl node N N).length cD) (pl node N N).length (nums .i64 (pl node N N)), bx w1.heap.size 25 #[.int .i64 (N : Int), .slice A xs.length ci, .slice B ys.length cm], bx w.heap.size 25 #[.int .i64 (N : Int), .slice A is.length ci, .slice B ms.length cm], (fun k => k < w.heap.size, CS A xs), (fun k => k < w.heap.size, CM B ys)]) => has_c (s := isin) H K.out.upi hmm
                have hrhas := fun W (hI : CS A xs W) (hM : CM B ys W) => rhas_c (nodes := N) hI hM l1 l2 l3 isin
                have hisi := fun W (H : All w W [bx R 73 #[.pointer (some ⟨bh, 0, none⟩), .int .i64 (N : Int), .pointer (some ⟨bi, 0, none⟩)], bx bh 97 #[.slice A2 l.length c2], ow w.heap.size 95 2 (.slice A2 l.length c2) l.length (flat (Ti.rows l)), bx bi 104 #[.slice B2 m.length d2], ow w.heap.size 102 2 (.slice B2 m.length d2) m.length (flat (Tq.rows m)), ow w.heap.size 3 1 (.slice AD (pl node N N).length cD) (pl node N N).length (nums .i64 (pl node N N)), bx w1.heap.size 25 #[.int .i64 (N : Int), .slice A xs.length ci, .slice B ys.length cm], bx w.heap.size 25 #[.int .i64 (N : Int), .slice A is.length ci, .slice B ms.length cm], (fun k => k < w.heap.size, CS A xs), (fun k => k < w.heap.size, CM B ys)]) => isins_c (L := [ow w.heap.size 3 1 (.slice AD (pl node N N).length cD) (pl node N N).length (nums .i64 (pl node N N)), bx w1.heap.size 25 #[.int .i64 (N : Int), .slice A xs.length ci, .slice B ys.length cm], bx w.heap.size 25 #[.int .i64 (N : Int), .slice A is.length ci, .slice B ms.length cm], (fun k => k < w.heap.size, CS A xs), (fun k => k < w.heap.size, CM B ys)]) (cells_ow hC0) hmm H
                have hpe := fun W (H : All w W [bx R 73 #[.pointer (some ⟨bh, 0, none⟩), .int .i64 (N : Int), .pointer (some ⟨bi, 0, none⟩)], bx bh 97 #[.slice A2 l.length c2], ow w.heap.size 95 2 (.slice A2 l.length c2) l.length (flat (Ti.rows l)), bx bi 104 #[.slice B2 m.length d2], ow w.heap.size 102 2 (.slice B2 m.length d2) m.length (flat (Tq.rows m)), ow w.heap.size 3 1 (.slice AD (pl node N N).length cD) (pl node N N).length (nums .i64 (pl node N N)), bx w1.heap.size 25 #[.int .i64 (N : Int), .slice A xs.length ci, .slice B ys.length cm], bx w.heap.size 25 #[.int .i64 (N : Int), .slice A is.length ci, .slice B ms.length cm], (fun k => k < w.heap.size, CS A xs), (fun k => k < w.heap.size, CM B ys)]) => peers_any (node := node) hn3 H
                rw [K.out.isin isin] at hhas
                obtain ⟨bq, hbq⟩ : ∃ bq, hasD xs isin = bq := ⟨_, rfl⟩
                rw [hbq] at hhas hrhas
                generalize hPL : pl node N N = PL at *
                clear H hi hik hil hbq hPL
                go_wp2_with fail
                refine plan_ (true, [([], []), ([0, 0], [0]), ([1], [1]), ([1], [1]), ([2, 3, 1, 1], [1, 2, 3]), ([1], [1]), ([1], [1]), ([5, 6, 4, 1], [1, 5, 6]), ([4, 7, 1], [1, 4, 7]), ([1, 8], [1, 8]), ([9, 7], [9]), ([10], [10]), ([10], [10]), ([11, 12, 10, 10], [10, 11, 12]), ([10], [10]), ([13, 14, 13, 10], [10, 13, 14]), ([10, 15], [10, 15]), ([16, 15], [16]), ([17], [17]), ([18, 17, 17], [17, 18]), ([17], [17]), ([20, 17], [17, 20]), ([21, 19, 17], [17, 21]), ([19, 22, 22, 17], [17, 19, 22]), ([17, 23], [17, 23]), ([24, 23, 0, 1, 2, 3, 4, 5, 6, 7, 8, 9, 10, 11, 12, 13, 14, 15, 16, 17, 18, 19, 20, 21, 22, 23, 24], [24])]) [.c 0, .p 1, .p 2, .p 3, .t 5, .p 6, .c 4, .c 7, .p 8, .p 9, .p 10, .p 11, .p 12, .p 14, .c 13, .c 15, .p 16, .p 17, .p 18, .p 20, .t 21, .c 19, .c 22, .c 23, .p 24, .p 25] H2 (by kernel_rfl) (by kernel_rfl) rfl rfl (by kernel_rfl) (by intro c a w d v h; cases d <;> exact h) (fun w10 J1 => ?_)
                refine pl_S known_c J1 Try.func9 (h := fun w11 J2 => ?_)
                refine pl_P (h := ?_)
                refine pl_P (h := ?_)
                refine pl_P (h := ?_)
                refine pl_B 6 J2 rfl (h := ?_)
                refine pl_P (h := ?_)
                refine pl_S (hhas w11 J2) J2 Try.func20 (h := fun w12 J3 => ?_)
                refine pl_S (hrhas w12 (J3.at 8 rfl) (J3.at 9 rfl)) J3 Try.func21 (h := fun w13 J4 => ?_)
                refine pl_P (h := ?_)
                refine pl_P (h := ?_)
                refine pl_P (h := ?_)
                refine pl_P (h := ?_)
                refine pl_P (h := ?_)
                refine pl_P (h := ?_)
                refine pl_K Try.func14 ((hpe w13 J4).mono fun e w14 ⟨A9, c9, he, J5⟩ => ⟨_, he, J5.tail, ?_⟩)
                have q1 := (J5.at 0 rfl).reads
                have q2 := (J5.at 6 rfl).reads
                refine pl_S (sames_ints q1.2.2 q1.2.1 q2.2.2 q2.2.1 hplN) J5 Try.func22 (h := fun w15 J6 => ?_)
                refine pl_P (h := ?_)
                refine pl_P (h := ?_)
                refine pl_P (h := ?_)
                refine pl_P (h := ?_)
                refine pl_L 6 1 J6.tail rfl (h := ?_)
                refine pl_K Try.func15 ((hisi w15 J6.tail).mono fun e w16 ⟨Aa, ca, he, J7⟩ => ⟨_, he, J7.tail, ?_⟩)
                refine pl_G (hso.out w16 (J7.at 9 rfl)) J7 Try.func19 (h := fun v17 w17 J8 z17 => ?_)
                obtain ⟨A8, c8, rfl, h8, hC8⟩ := J8.at 0 rfl
                have hsm := rsame_c (ow_CS (J8.at 1 rfl)).2.2 (by have := (ow_CS (J8.at 1 rfl)).2.1; rw [keysB_len]; exact this) hC8 h8 (by rw [keysB_len]; exact hmm)
                rw [decide_eq_true rfl, keysB_len] at hsm
                rw [keysB_len]
                refine pl_S hsm J8 Try.func17 (h := fun w18 J9 => ?_)
                refine pl_P (h := ?_)
                refine pl_P (h := ?_)
                refine pl_done ?_
                go_wp2
                go_ret
                exact ⟨rfl, J9.old⟩
  · have hb : (newE nodes xs ys == 0) = false := by simpa using h0
    have hb2 : (newE nodes xs ys != 0) = true := by simpa using h0
    generalize newE nodes xs ys = E at *
    go_enter Try.func5, Try.ntmps5
    go_wp2_with fail
    refine hto.mono ?_
    rintro e w1 ⟨p, rfl, hN⟩
    obtain ⟨rfl, H1⟩ := hN.bad h0
    have H2 := H1.box w1.heap.size 25 #[.int .i64 nodes, .slice A xs.length ci, .slice B ys.length cm]
    clear hto hN H0 r0 H1
    go_wp2_with fail
    refine known_c.on H2 fun w2 H3 => ?_
    have r3 := H3.rd 0 rfl
    go_wp2_with fail
    refine (hck _ (H3.at 2 rfl) (H3.at 3 rfl)).on H3 fun w4 H4 => ?_
    go_wp2
    go_ret
    exact ⟨rfl, H4.old⟩
end Go.Proofs.Ytcbpmmcpidfllaa.Yt
end
