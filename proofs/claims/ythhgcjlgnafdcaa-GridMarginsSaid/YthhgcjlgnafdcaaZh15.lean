/- Texts of this seat, put together (Zh15). -/
import Derived.Lib.AppendZerosOnto
import Derived.Lib.AppendZeros
import Derived.Lib.Overlaps
import Derived.Laws.Externs
import Derived.Maps.AppendAt
import Derived.Shelf.Spec.SlicesInsert
import Derived.RegionTactic
import Derived.Test.YthhgcjlgnafdcaaZh14
section
namespace Go.Proofs.Ythhgcjlgnafdcaa.Tj
set_option linter.unusedVariables false
set_option linter.unusedSimpArgs false
open Go Go.RowKit Go.Proofs.YthhgcjlgnafdcaaW.PrintWords Go.Proofs.YthhgcjlgnafdcaaW.PrintLast Go.Proofs.Ythhgcjlgnafdcaa.Hd Go.Proofs.Ythhgcjlgnafdcaa.Os Go.Proofs.Ythhgcjlgnafdcaa.Tb Go.Proofs.Ythhgcjlgnafdcaa.Tm
section
variable {w0 w : World} {L : List F2} {i q n c lo vb te : Nat} {A : Option Addr} {l : Rws} {k : ByteArray} {x : Value}
theorem row_info : ∃ i, Try.prog.info? 173 = some i ∧ i.zero = some (.agg #[.string ⟨#[]⟩, .int .i64 0]) ∧ i.size = 2 ∧ i.bytes = 24 :=
  info_parts (by kernel_rfl)
theorem two_new (h : Box vb te #[.string k, x] w) : ∀ j u, [Value.string k, x][j]? = some u → w.cell? ((⟨vb, 0, none⟩ : Addr).add j) = some u := fun j u hj => by
  rw [Addr.add_mid, Nat.zero_add, blk_cell h j]
  simpa using hj
theorem two_one (hx : x.oneCell' = true) : ∀ u ∈ [Value.string k, x], u.oneCell' = true := fun u hu => by
  simp only [List.mem_cons, List.not_mem_nil, or_false] at hu
  rcases hu with rfl | rfl
  · rfl
  · exact hx
set_option maxRecDepth 100000 in
set_option maxHeartbeats 4000000 in
theorem ins_end (H : All w0 w L) (hi : L[i]? = some (ow lo 173 2 (.slice A n c) n (flat l))) (hq : L[q]? = some (bx vb te #[.string k, x])) (hb : w0.heap.size ≤ lo) (hbase : lo ≤ w.heap.size) (hx : x.oneCell' = true) (hbig : (n + 1) * 24 ≤ 140737488355328) :
    Calls Try.prog 112 #[.slice A n c, .int .i64 n, .slice (some ⟨vb, 0, none⟩) 1 1] w fun e w' =>
      ∃ A' c', e = .returned (.slice A' (n + 1) c') ∧ w.heap.size ≤ w'.heap.size ∧ All w0 w' (L.set i (ow lo 173 2 (.slice A' (n + 1) c') (n + 1) (flat (l ++ [(k, x)])))) := by
  obtain ⟨info, hinf, hz, hsz, hby⟩ := row_info
  have hown := H.at i hi
  obtain ⟨v', w', hr, ho, hgr, _, hat⟩ := run_append_own_at (P := Try.prog) w lo 60 60 173 info _ 2 24 Try.underlying60 hinf hz hsz hby rfl (by decide) (.slice A n c) n (flat l) hown ⟨vb, 0, none⟩ 1 1 [.string k, x] rfl (two_new (H.at q hq)) (two_one hx) (by unfold maxLen; omega) hbig hbase
  obtain ⟨A', c', rfl⟩ := own_slice ho
  have H' := H.own i hi hgr ho (hat.imp id fun h => ⟨_, h, Nat.le_refl _⟩) hb
  rw [flat_app l [(k, x)], show flat [(k, x)] = [.string k, x] from rfl]
  have hcs := ow_cases hown
  have hsw := hgr.size
  clear hat hgr ho hown hi hq hinf hz hsz hby
  rcases hcs with ⟨rfl, rfl, rfl, -⟩ | ⟨g, cur, rfl, -, -, hc, hm, -, -⟩
  · go_enter Try.func112, Try.ntmps112
    go_wp2_with (at_builtin; refine Lib.wpList_append_run _ rfl _ _ _ _ rfl _ _ rfl rfl _ _ hr ?_)
    all_goals (go_ret; exact ⟨_, _, rfl, hsw, by simpa only [Nat.zero_add] using H'⟩)
  · go_enter Try.func112, Try.ntmps112
    go_wp2_with (at_builtin; refine Lib.wpList_append_run _ rfl _ _ _ _ rfl _ _ rfl rfl _ _ hr ?_)
    all_goals (go_ret; exact ⟨_, _, rfl, hsw, by simpa only [Nat.zero_add] using H'⟩)
set_option maxRecDepth 100000 in
set_option maxHeartbeats 4000000 in
theorem ins_room (H : All w0 w L) (hi : L[i]? = some (ow lo 173 2 (.slice A n c) n (flat l))) (hq : L[q]? = some (bx vb te #[.string k, x])) (hb : w0.heap.size ≤ lo) (hx : x.oneCell' = true) (h1 : Ones l) {p : Nat} (hp : p < n) (hroom : n + 1 ≤ c) :
    Calls Try.prog 112 #[.slice A n c, .int .i64 p, .slice (some ⟨vb, 0, none⟩) 1 1] w fun e w' =>
      ∃ A' c', e = .returned (.slice A' (n + 1) c') ∧ w.heap.size ≤ w'.heap.size ∧ All w0 w' (L.set i (ow lo 173 2 (.slice A' (n + 1) c') (n + 1) (flat (l.take p ++ (k, x) :: l.drop p)))) := by
  obtain ⟨info, hinf, hz, hsz, hby⟩ := row_info
  have hown := H.at i hi
  have hln := (ow_rng hown).1
  have hqb := H.at q hq
  rcases ow_cases hown with ⟨-, rfl, -, -⟩ | ⟨g, cur, rfl, hg, hbk, -, hm, hcs, htk⟩
  · omega
  have hiq : q ≠ i := fun e => by
    subst e
    rw [hi] at hq
    injection hq with hq
    have := congrArg Prod.fst hq
    have h2 : Ob (.slice (some ⟨g, 0, none⟩) n c) g := rfl
    have h3 : g = vb := (congrFun this g).mp h2
    subst h3
    have h4 : some _ = some _ := hbk.symm.trans hqb
    injection h4 with h4
    injection h4 with h5 h6 h7
    have := congrArg Array.size h5
    simp at this
    unfold maxLen at hm
    omega
  have hne : vb ≠ g := fun e => by
    have := dis_at H hi hq hiq g rfl e.symm
    omega
  have hmax : c ≤ 9223372036854775807 := by unfold maxLen at hm; exact hm
  have hsz' : (Try.prog.info? 173).map (·.size) = some 2 := by rw [hinf]; simp [hsz]
  obtain ⟨cur1, hcur1⟩ : ∃ cur1 : Array Value, cur1 = (cur.toList.take (p * 2 + 2) ++ (flat l).drop (p * 2) ++ cur.toList.drop (p * 2 + 2 + ((flat l).drop (p * 2)).length)).toArray := ⟨_, rfl⟩
  obtain ⟨cur2, hcur2⟩ : ∃ cur2 : Array Value, cur2 = (cur1.toList.take (p * 2) ++ [.string k, x] ++ cur1.toList.drop (p * 2 + [Value.string k, x].length)).toArray := ⟨_, rfl⟩
  have hI := ins_cells (cur := cur.toList) (fl := flat l) (ys := [.string k, x]) (a := p * 2) (N := n * 2) (cur1 := cur1.toList) (cur2 := cur2.toList) htk (by rw [Array.length_toList, hcs]; omega) (by omega) rfl (by rw [hcur1]) (by rw [hcur2])
  obtain ⟨hI1, hI2, hI3⟩ := hI
  rw [Array.length_toList, Array.length_toList] at hI1 hI2
  have hdl : ((flat l).drop (p * 2)).length = (n - p) * 2 := by rw [List.length_drop, flat_length]; omega
  have hcell : ∀ j v, (flat l)[j]? = some v → w.cell? ⟨g, j, none⟩ = some v := fun j v hj => by
    have hj2 : j < n * 2 := by have := (List.getElem?_eq_some_iff.1 hj).1; rw [flat_length] at this; omega
    rw [← htk, List.getElem?_take_of_lt hj2] at hj
    simpa [World.cell?, hbk] using hj
  have hcp1 : ∀ ty dc sc, (Builtin.copy_ #[60, 60] ty #[.slice (some ⟨g, (p + 1) * 2, none⟩) (n - p) dc, .slice (some ⟨g, p * 2, none⟩) (n + 1 - p) sc]).run Try.prog w.drew = .ok (goInt (n - p : Nat)) (w.drew.setRow g cur1) := fun ty dc sc => by
    have h := copy_rows (P := Try.prog) w.drew 60 ty 173 g ((p + 1) * 2) (n - p) dc ⟨g, p * 2, none⟩ (n + 1 - p) sc cur 173 ((flat l).drop (p * 2)) 2 (n - p) Try.underlying60 hsz' hbk (by simp only [Nat.min_def]; split <;> omega) hdl
      (fun j v hj => by rw [Addr.add_mid]; rw [List.getElem?_drop] at hj; exact hcell _ _ hj) (by rw [hdl, hcs]; omega) (fun v hv => flat_one h1 v (List.mem_of_mem_drop hv))
    rw [show (p + 1) * 2 = p * 2 + 2 by omega] at h ⊢
    rw [hcur1]
    exact h
  have hcp2 : ∀ ty dc, (Builtin.copy_ #[60, 60] ty #[.slice (some ⟨g, p * 2, none⟩) (n + 1 - p) dc, .slice (some ⟨vb, 0, none⟩) 1 1]).run Try.prog (w.drew.setRow g cur1) = .ok (goInt (1 : Nat)) ((w.drew.setRow g cur1).setRow g cur2) := fun ty dc => by
    have h := copy_rows (P := Try.prog) (w.drew.setRow g cur1) 60 ty 173 g (p * 2) (n + 1 - p) dc ⟨vb, 0, none⟩ 1 1 cur1 173 [.string k, x] 2 1 Try.underlying60 hsz' (setRow_heap w.drew g cur cur1 _ _ hbk) (by simp only [Nat.min_def]; split <;> omega) rfl
      (fun j v hj => by rw [Addr.add_mid, Nat.zero_add, ← two_new hqb j v hj, Addr.add_mid, Nat.zero_add]; exact World.cell?_of_block (setRow_other w.drew g vb _ hne)) (by rw [hI1, hcs]; simp; omega) (two_one hx)
    rw [hcur2]
    exact h
  have hov : ∀ lb cb, (callFunc 129 #[.slice (some ⟨vb, 0, none⟩) 1 1, .slice (some ⟨g, (p + 1) * 2, none⟩) lb cb]).run Try.prog w = .ok (.value (.bool false)) w := fun lb cb => by
    rw [run_callFunc_extern Try.func129 (by kernel_rfl) (by kernel_rfl) (by kernel_rfl) (e := Extern.SlicesOverlaps.overlaps #[60, 60] #[4]) (by kernel_rfl),
      Lib.run_overlaps_apart w 60 4 173 Try.underlying60 2 (fun W => by simp [sizeOf, typeInfo, hinf, hsz]) ⟨vb, 0, none⟩ ⟨g, (p + 1) * 2, none⟩ 1 1 lb cb hne te 173 2 (c * 2) (by rw [World.shape?, show w.heap[vb]? = _ from hqb]; rfl) (by rw [World.shape?, hbk]; simp [hcs]) (by omega) (blk_frozen hqb 0) (blk_frozen hqb 2)]
    rfl
  have hfin : All w0 ((w.drew.setRow g cur1).setRow g cur2) (L.set i (ow lo 173 2 (.slice (some ⟨g, 0, none⟩) (n + 1) c) (n + 1) (flat (l.take p ++ (k, x) :: l.drop p)))) := by
    refine H.own i hi ⟨rfl, rfl, rfl, by simp, fun j hj hjg => ?_⟩ ⟨?_, .inr ⟨g, c, cur2, rfl, hg, ?_, hroom, hm, by rw [hI2, hcs], ?_⟩⟩ (.inl rfl) hb
    · have hjg' : j ≠ g := fun e => hjg (by rw [e]; rfl)
      rw [setRow_other _ _ _ _ hjg', setRow_other _ _ _ _ hjg']
      rfl
    · rw [flat_length]
      simp
      omega
    · exact setRow_heap _ g cur1 cur2 _ _ (setRow_heap w.drew g cur cur1 _ _ hbk)
    · rw [show (n + 1) * 2 = n * 2 + 2 by omega, hI3, flat_app, flat_cons, flat_take, flat_drop]
      simp [enc]
  clear hI1 hI2 hI3 hcur1 hcur2 hcell hdl htk hcs hbk hm hown hqb hi hq H hinf hz hsz hby hsz'
  have hz2 : ¬ ((p : Int) = (n : Int)) := by omega
  have hw1 : IntKind.i64.wrap ((p : Int) + 1) = (p : Int) + 1 := by rw [IntKind.wrap_i64]; omega
  have hb1 : (0 : Int) ≤ (p : Int) + 1 := by omega
  have hin : p ≤ n := by omega
  have mixed : Try.prog.follows .mixedOrders = true := by kernel_rfl
  have htn : ((p : Int) + 1).toNat = p + 1 := by omega
  have hb2 : ¬ (c = p + 1) := by omega
  have hb3 : (p : Int) ≤ (n : Int) + 1 := by omega
  have hb4 : ¬ (c = p) := by omega
  have hsw : w.heap.size ≤ ((w.drew.setRow g cur1).setRow g cur2).heap.size := by simp
  generalize w.drew.setRow g cur1 = W1 at hcp1 hcp2 hfin hsw
  go_enter Try.func112, Try.ntmps112
  go_wp2_with (simp only [hov])
  go_region_law_o (refine step_copy_runI rfl _ _ 60 60 rfl _ _ (by simp [Act.eval, Act.put]) (by simp [Act.eval, Act.put]) (hcp1 _ _ _) ?_)
  go_wp2_with (at_builtin; refine wpList_copy_runI _ rfl _ _ 60 60 rfl _ _ rfl rfl (hcp2 _ _) ?_)
  go_ret
  exact ⟨_, _, rfl, hsw, hfin⟩
set_option maxRecDepth 100000 in
set_option maxHeartbeats 4000000 in
theorem ins_grow (H : All w0 w L) (hi : L[i]? = some (ow lo 173 2 (.slice A n c) n (flat l))) (hq : L[q]? = some (bx vb te #[.string k, x])) (hb : w0.heap.size ≤ lo) (hbase : lo ≤ w.heap.size) (hx : x.oneCell' = true) (h1 : Ones l) (hbig : (n + 1) * 24 ≤ 140737488355328) {p : Nat} (hp : p < n) (hroom : c < n + 1) :
    Calls Try.prog 112 #[.slice A n c, .int .i64 p, .slice (some ⟨vb, 0, none⟩) 1 1] w fun e w' =>
      ∃ A' c', e = .returned (.slice A' (n + 1) c') ∧ w.heap.size ≤ w'.heap.size ∧ All w0 w' (L.set i (ow lo 173 2 (.slice A' (n + 1) c') (n + 1) (flat (l.take p ++ (k, x) :: l.drop p)))) := by
  obtain ⟨info, hinf, hz, hsz, hby⟩ := row_info
  have hown := H.at i hi
  have hln := (ow_rng hown).1
  have hqb := H.at q hq
  rcases ow_cases hown with ⟨-, rfl, -, -⟩ | ⟨g, cur, rfl, hg, hbk, hnc, hm, hcs, htk⟩
  · omega
  have hsz' : (Try.prog.info? 173).map (·.size) = some 2 := by rw [hinf]; simp [hsz]
  have hfl := flat_length l
  rw [hln] at hfl
  have hdl : ((flat l).drop (p * 2)).length = (n - p) * 2 := by rw [List.length_drop, hfl]; omega
  have hcell : ∀ j v, (flat l)[j]? = some v → w.cell? ⟨g, j, none⟩ = some v := fun j v hj => by
    have hj2 : j < n * 2 := by have := (List.getElem?_eq_some_iff.1 hj).1; omega
    rw [← htk, List.getElem?_take_of_lt hj2] at hj
    simpa [World.cell?, hbk] using hj
  have hgw : g < w.heap.size := blk_lt hbk
  have hvw : vb < w.heap.size := blk_lt hqb
  have hold : (Builtin.firstCells info.size p (.slice (some ⟨g, 0, none⟩) p c)).run Try.prog w.drew = .ok ((flat l).take (p * 2)).toArray w.drew := by
    rw [hsz]
    have := run_loadCells_list (P := Try.prog) w.drew ⟨g, 0, none⟩ ((flat l).take (p * 2)) (fun j v hj => by
      rw [Addr.add_mid, Nat.zero_add]
      rw [List.getElem?_take] at hj
      split at hj
      · exact hcell j v hj
      · cases hj)
    rw [List.length_take, hfl, Nat.min_eq_left (by omega)] at this
    exact this
  obtain ⟨G, hG⟩ : ∃ G, G = grownCap w (n + 1) c 173 := ⟨_, rfl⟩
  obtain ⟨row, hrow⟩ : ∃ row : Array Value, row = ((flat l).take (p * 2)).toArray ++ Builtin.zeroCells (Value.agg #[.string ⟨#[]⟩, .int .i64 0]).cells (n + 1 - p) ++ Builtin.zeroCells (Value.agg #[.string ⟨#[]⟩, .int .i64 0]).cells (G - (n + 1)) := ⟨_, rfl⟩
  have hrz : ∀ ty, (Builtin.append_ #[60, 3] ty #[.slice (some ⟨g, 0, none⟩) p c, .int .i64 ((n : Int) + 1 - (p : Int))]).run Try.prog w = .ok (.slice (some ⟨w.heap.size, 0, none⟩) (n + 1) G) (w.drew.alloc (.cells row 173)) := fun ty => by
    have h := Lib.run_append_grow_zeros w 60 3 ty 173 info _ .i64 .i64 Try.underlying60 Try.underlying3 hinf hz (some ⟨g, 0, none⟩) p c ((flat l).take (p * 2)) hold (n + 1 - p) (by omega) (by omega) (by omega) (by omega) (by rw [hby]; omega) (by rw [hby, show p + (n + 1 - p) = n + 1 by omega]; exact growslice_fits hroom hbig)
    rw [show p + (n + 1 - p) = n + 1 by omega, show ((n + 1 - p : Nat) : Int) = (n : Int) + 1 - (p : Int) by omega, ← hG, ← hrow] at h
    exact h
  have hGn : n + 1 ≤ G := by rw [hG]; exact grownCap_ge w _ _ _
  have hGm : G ≤ maxLen := by rw [hG]; exact grownCap_le_maxLen w (n + 1) c 173 (by unfold maxLen; omega)
  have hrl : row.size = G * 2 := by
    rw [hrow]
    simp only [Array.size_append, List.size_toArray, List.length_take, hfl, size_zeroCells]
    show min (p * 2) (n * 2) + (n + 1 - p) * 2 + (G - (n + 1)) * 2 = G * 2
    omega
  have hrt : row.toList.take (p * 2) = (flat l).take (p * 2) := by
    rw [hrow]
    simp only [Array.toList_append, List.append_assoc]
    rw [List.take_append_of_le_length (by simp [hfl]; omega), List.take_of_length_le (by simp; omega)]
  clear hG hrow hold
  obtain ⟨cur1, hcur1⟩ : ∃ cur1 : Array Value, cur1 = (row.toList.take (p * 2) ++ [.string k, x] ++ row.toList.drop (p * 2 + [Value.string k, x].length)).toArray := ⟨_, rfl⟩
  obtain ⟨cur2, hcur2⟩ : ∃ cur2 : Array Value, cur2 = (cur1.toList.take (p * 2 + 2) ++ (flat l).drop (p * 2) ++ cur1.toList.drop (p * 2 + 2 + ((flat l).drop (p * 2)).length)).toArray := ⟨_, rfl⟩
  have hI := grow_cells (row := row.toList) (fl := flat l) (ys := [.string k, x]) (a := p * 2) (N := n * 2) (cur1 := cur1.toList) (cur2 := cur2.toList) hrt hfl (by rw [Array.length_toList, hrl]; omega) (by omega) rfl (by rw [hcur1]) (by rw [hcur2])
  obtain ⟨hI1, hI2, hI3⟩ := hI
  rw [Array.length_toList, Array.length_toList] at hI1 hI2
  obtain ⟨W1, hW1⟩ : ∃ W1, W1 = w.drew.alloc (.cells row 173) := ⟨_, rfl⟩
  rw [← hW1] at hrz
  have hnew : W1.heap[w.heap.size]? = some (.cells row 173 (0, 0)) := by rw [hW1]; exact heap_alloc_new w.drew _
  have hkeep : ∀ j, j < w.heap.size → W1.heap[j]? = w.heap[j]? := fun j hj => by rw [hW1]; exact heap_alloc_old w.drew _ hj
  have hW1s : W1.heap.size = w.heap.size + 1 := by rw [hW1]; simp
  have hW1o : W1.os = w.os ∧ W1.tape = w.tape ∧ W1.output = w.output := by rw [hW1]; exact ⟨rfl, rfl, rfl⟩
  clear hW1
  have hcp1 : ∀ ty dc, (Builtin.copy_ #[60, 60] ty #[.slice (some ⟨w.heap.size, p * 2, none⟩) (n + 1 - p) dc, .slice (some ⟨vb, 0, none⟩) 1 1]).run Try.prog W1 = .ok (goInt (1 : Nat)) (W1.setRow w.heap.size cur1) := fun ty dc => by
    have h := copy_rows (P := Try.prog) W1 60 ty 173 w.heap.size (p * 2) (n + 1 - p) dc ⟨vb, 0, none⟩ 1 1 row 173 [.string k, x] 2 1 Try.underlying60 hsz' hnew (by simp only [Nat.min_def]; split <;> omega) rfl
      (fun j v hj => by rw [← two_new hqb j v hj]; exact World.cell?_of_block (by rw [Addr.add_mid]; exact hkeep vb hvw)) (by rw [hrl]; simp; omega) (two_one hx)
    rw [hcur1]
    exact h
  obtain ⟨W2, hW2⟩ : ∃ W2, W2 = W1.setRow w.heap.size cur1 := ⟨_, rfl⟩
  rw [← hW2] at hcp1
  have hnew2 : W2.drew.heap[w.heap.size]? = some (.cells cur1 173 (0, 0)) := by rw [hW2]; exact setRow_heap W1 _ row cur1 _ _ hnew
  have hkeep2 : ∀ j, j < w.heap.size → W2.drew.heap[j]? = w.heap[j]? := fun j hj => by rw [hW2, ← hkeep j hj]; exact setRow_other W1 _ j _ (by omega)
  have hW2s : W2.drew.heap.size = w.heap.size + 1 := by rw [hW2]; show (W1.setRow _ _).heap.size = _; simp [hW1s]
  have hW2o : W2.drew.os = w.os ∧ W2.drew.tape = w.tape ∧ W2.drew.output = w.output := by rw [hW2]; exact hW1o
  clear hW2
  have hcp2 : ∀ ty dc sc, (Builtin.copy_ #[60, 60] ty #[.slice (some ⟨w.heap.size, (p + 1) * 2, none⟩) (n - p) dc, .slice (some ⟨g, p * 2, none⟩) (n - p) sc]).run Try.prog W2.drew = .ok (goInt (n - p : Nat)) (W2.drew.setRow w.heap.size cur2) := fun ty dc sc => by
    have h := copy_rows (P := Try.prog) W2.drew 60 ty 173 w.heap.size ((p + 1) * 2) (n - p) dc ⟨g, p * 2, none⟩ (n - p) sc cur1 173 ((flat l).drop (p * 2)) 2 (n - p) Try.underlying60 hsz' hnew2 (Nat.min_self _) hdl
      (fun j v hj => by rw [Addr.add_mid]; rw [List.getElem?_drop] at hj; exact (World.cell?_of_block (hkeep2 g hgw)).trans (hcell _ _ hj)) (by rw [hdl, hI1, hrl]; omega) (fun v hv => flat_one h1 v (List.mem_of_mem_drop hv))
    rw [show (p + 1) * 2 = p * 2 + 2 by omega] at h ⊢
    rw [hcur2]
    exact h
  obtain ⟨W3, hW3⟩ : ∃ W3, W3 = W2.drew.setRow w.heap.size cur2 := ⟨_, rfl⟩
  rw [← hW3] at hcp2
  have hfin : All w0 W3 (L.set i (ow lo 173 2 (.slice (some ⟨w.heap.size, 0, none⟩) (n + 1) G) (n + 1) (flat (l.take p ++ (k, x) :: l.drop p)))) := by
    refine H.own i hi ⟨by rw [hW3]; exact hW2o.1, by rw [hW3]; exact hW2o.2.1, by rw [hW3]; exact hW2o.2.2, by rw [hW3]; simp [hW2s], fun j hj _ => ?_⟩ ⟨?_, .inr ⟨w.heap.size, G, cur2, rfl, hbase, ?_, hGn, hGm, by rw [hI2, hrl], ?_⟩⟩ (.inr ⟨_, rfl, Nat.le_refl _⟩) hb
    · rw [hW3, setRow_other _ _ _ _ (by omega)]
      exact hkeep2 j hj
    · rw [flat_length]
      simp
      omega
    · rw [hW3]
      exact setRow_heap _ _ cur1 cur2 _ _ hnew2
    · rw [show (n + 1) * 2 = n * 2 + 2 by omega, hI3, flat_app, flat_cons, flat_take, flat_drop]
      simp [enc]
  have hsw : w.heap.size ≤ W3.heap.size := by rw [hW3]; simp [hW2s]
  clear hW3 hW2o hW2s hkeep2 hnew2 hW1o hW1s hkeep hnew hI1 hI2 hI3 hcur1 hcur2 hrt hrl hcell hdl hfl htk hcs hbk hown hqb hi hq H hinf hz hsz hby hsz'
  have hG63 : G ≤ 9223372036854775807 := by unfold maxLen at hGm; omega
  have hz2 : ¬ ((p : Int) = (n : Int)) := by omega
  have hz3 : (c : Int) < (n : Int) + 1 := by omega
  have hw1 : IntKind.i64.wrap ((p : Int) + 1) = (p : Int) + 1 := by rw [IntKind.wrap_i64]; omega
  have hb1 : (0 : Int) ≤ (p : Int) + 1 := by omega
  have hin : p ≤ n := by omega
  have htn : ((p : Int) + 1).toNat = p + 1 := by omega
  have hb3 : (p : Int) ≤ (n : Int) := by omega
  have hGi : ¬ (G = p) := by omega
  have hGim : ¬ (G = p + 1) := by omega
  have hci : ¬ (c = p) := by omega
  have mixed : Try.prog.follows .mixedOrders = true := by kernel_rfl
  go_enter Try.func112, Try.ntmps112
  go_wp2_with (first
    | (at_builtin; refine Lib.wpList_append_run _ rfl _ _ _ _ rfl _ _ rfl rfl _ _ (hrz _) ?_)
    | (at_builtin; refine wpList_copy_runI _ rfl _ _ 60 60 rfl _ _ rfl rfl (hcp1 _ _) ?_))
  go_region_law_o (refine step_copy_runI rfl _ _ 60 60 rfl _ _ (by simp [Act.eval, Act.put]) (by simp [Act.eval, Act.put]) (hcp2 _ _ _) ?_)
  go_wp2
  go_ret
  exact ⟨_, _, rfl, hsw, hfin⟩
theorem ins_c (H : All w0 w L) (hi : L[i]? = some (ow lo 173 2 (.slice A n c) n (flat l))) (hq : L[q]? = some (bx vb te #[.string k, x])) (hb : w0.heap.size ≤ lo) (hbase : lo ≤ w.heap.size) (hx : x.oneCell' = true) (h1 : Ones l) (hbig : (n + 1) * 24 ≤ 140737488355328) {p : Nat} (hp : p ≤ n) :
    Calls Try.prog 112 #[.slice A n c, .int .i64 p, .slice (some ⟨vb, 0, none⟩) 1 1] w fun e w' =>
      ∃ A' c', e = .returned (.slice A' (n + 1) c') ∧ w.heap.size ≤ w'.heap.size ∧ All w0 w' (L.set i (ow lo 173 2 (.slice A' (n + 1) c') (n + 1) (flat (l.take p ++ (k, x) :: l.drop p)))) := by
  rcases Nat.lt_or_eq_of_le hp with h | rfl
  · by_cases hr : n + 1 ≤ c
    · exact ins_room H hi hq hb hx h1 h hr
    · exact ins_grow H hi hq hb hbase hx h1 hbig h (by omega)
  · have hn := (ow_rng (H.at i hi)).1
    rw [List.take_of_length_le (by omega), List.drop_of_length_le (by omega)]
    exact ins_end H hi hq hb hbase hx hbig
end
end Go.Proofs.Ythhgcjlgnafdcaa.Tj
end
section
namespace Go.Proofs.Ythhgcjlgnafdcaa.Tj
set_option linter.unusedVariables false
set_option linter.unusedSimpArgs false
open Go Go.RowKit Go.Proofs.YthhgcjlgnafdcaaW.PrintWords Go.Proofs.YthhgcjlgnafdcaaW.PrintLast Go.Proofs.Ythhgcjlgnafdcaa.Hd Go.Proofs.Ythhgcjlgnafdcaa.Os Go.Proofs.Ythhgcjlgnafdcaa.Tb Go.Proofs.Ythhgcjlgnafdcaa.Tm
section
variable {w0 w : World} {L : List F2} {i n c lo : Nat} {A : Option Addr} {l : Rws} {k : ByteArray} {x : Value}
theorem set0_same {bs : Array Value} {v : Value} (h : bs[0]? = some v) : bs.setIfInBounds 0 v = bs := by
  refine Array.ext_getElem? fun k => ?_
  rw [Array.getElem?_setIfInBounds]
  split
  · rename_i e
    subst e
    rw [h, if_pos (Array.getElem?_eq_some_iff.1 h).1]
  · rfl
set_option maxRecDepth 100000 in
set_option maxHeartbeats 4000000 in
theorem put_c {b j : Nat} {tt : TypeId} {bs : Array Value} (y : Int) (hxy : x = .int .i64 y) (H : All w0 w L) (hij : i ≠ j) (hi : L[i]? = some (bx b tt bs)) (hj : L[j]? = some (ow lo 173 2 (.slice A n c) n (flat l))) (hb : w0.heap.size ≤ b) (hlo : w0.heap.size ≤ lo) (hbase : lo ≤ w.heap.size) (hu : Up cmpS l) (h1 : Ones l) (hbig : (n + 1) * 24 ≤ 140737488355328) (hcs : bs[0]? = some (.slice A n c) := by rfl) :
    Calls Try.prog 72 #[.pointer (some ⟨b, 0, none⟩), .string k, x] w fun e w' =>
      e = .returned (.bool (!has cmpS l k)) ∧ w.heap.size ≤ w'.heap.size ∧ ∃ A' c', All w0 w' ((L.set j (ow lo 173 2 (.slice A' (put cmpS l k x).length c') (put cmpS l k x).length (flat (put cmpS l k x)))).set i (bx b tt (bs.setIfInBounds 0 (.slice A' (put cmpS l k x).length c')))) := by
  subst hxy
  have hx : (.int .i64 y : Value).oneCell' = true := rfl
  have hpl := place_c H hi hj hu (by omega) k hcs
  have hn := (ow_rng (H.at j hj)).1
  cases hh : has cmpS l k with
  | true =>
    obtain ⟨hlt, hz0⟩ := has_lt hh
    have hk : l[pos cmpS l k].1 = k := good_S.one _ _ hz0
    have hput : put cmpS l k (.int .i64 y) = l.set (pos cmpS l k) (l[pos cmpS l k].1, .int .i64 y) := by unfold put; rw [if_pos hh, hk]
    have hlen : (put cmpS l k (.int .i64 y)).length = n := by rw [hput, List.length_set, hn]
    rw [hlen, hput]
    rw [hh] at hpl
    have hcl : ∀ W, Ow lo 173 2 (.slice A n c) n (flat l) W → ∃ g u, A = some ⟨g, 0, none⟩ ∧ W.cell? ⟨g, pos cmpS l k * 2 + 1, none⟩ = some u ∧ W.frozen? ⟨g, pos cmpS l k * 2 + 1, none⟩ = false := fun W hW => by
      obtain ⟨g, rfl, hrd⟩ := (ow_rng hW).2.2 (pos cmpS l k) hlt
      rcases ow_cases hW with ⟨h, -⟩ | ⟨g', cur, h, hg, hbk, -⟩
      · cases h
      · injection h with h
        injection h with h
        subst h
        exact ⟨g, _, rfl, hrd 1 _ rfl, blk_frozen hbk _⟩
    have hlt' : pos cmpS l k < n := by omega
    have hfin := fun w1 (H1 : All w0 w1 L) g (hg : A = some ⟨g, 0, none⟩) => all_val H1 (by rw [← hg]; exact hj) hlt hlo (.int .i64 y)
    obtain ⟨p, hp⟩ : ∃ p, pos cmpS l k = p := ⟨_, rfl⟩
    obtain ⟨l2, hl2⟩ : ∃ l2, l.set (pos cmpS l k) (l[pos cmpS l k].1, .int .i64 y) = l2 := ⟨_, rfl⟩
    rw [hl2] at hfin ⊢
    rw [hp] at hpl hcl hlt' hfin
    clear hh hput hlen hz0 hk hl2 hp hlt hbig h1 hu
    go_enter Try.func72, Try.ntmps72
    go_wp2_with fail
    refine hpl.mono fun e w1 ⟨he, hB⟩ => ?_
    subst he
    have H1 := H.grow hB
    have hsz := hB.size
    have r0 := (H1.rd i hi 0).trans hcs
    obtain ⟨g, u, hA, hc1, hc2⟩ := hcl _ (H1.at j hj)
    have hf := hfin w1 H1 g hA
    subst hA
    clear hcl hfin
    go_wp2
    go_ret
    refine ⟨rfl, ?_, some ⟨g, 0, none⟩, c, ?_⟩
    · simpa using hsz
    · rw [set0_same hcs, set_same (by rw [List.getElem?_set_ne hij.symm]; exact hi)]
      exact hf
  | false =>
    have hp : pos cmpS l k ≤ n := by rw [← hn]; exact pos_le
    have hput : put cmpS l k (.int .i64 y) = l.take (pos cmpS l k) ++ (k, .int .i64 y) :: l.drop (pos cmpS l k) := by unfold put; rw [hh]; rfl
    have hlen : (put cmpS l k (.int .i64 y)).length = n + 1 := by rw [put_len hh, hn]
    rw [hlen, hput]
    rw [hh] at hpl
    clear hh hput hlen
    have hins := fun (w1 : World) (h : w.heap.size ≤ w1.heap.size) (H1 : All w0 w1 L) => ins_c (i := j + 1) (q := 0) (p := pos cmpS l k) (H1.box w1.heap.size 173 #[.string k, .int .i64 y]) hj rfl hlo (by simp; omega) hx h1 hbig hp
    generalize hl2 : l.take (pos cmpS l k) ++ (k, .int .i64 y) :: l.drop (pos cmpS l k) = l2 at *
    generalize pos cmpS l k = p at *
    clear hl2
    go_enter Try.func72, Try.ntmps72
    go_wp2_with fail
    refine hpl.mono fun e w1 ⟨he, hB⟩ => ?_
    subst he
    have H1 := H.grow hB
    have hsz := hB.size
    have hins' := hins w1 hsz H1
    have r0 := (H1.rd i hi 0).trans hcs
    clear hins
    go_wp2_with fail
    refine hins'.mono ?_
    rintro e w2 ⟨A', c', rfl, hsz2, H3⟩
    have hsz2 : w1.heap.size ≤ w2.heap.size := by simp at hsz2; omega
    have H4 := All.tail H3
    have hi4 : (L.set j (ow lo 173 2 (.slice A' (n + 1) c') (n + 1) (flat l2)))[i]? = some (bx b tt bs) := by rw [List.getElem?_set_ne hij.symm]; exact hi
    have r1 := (H4.rd i hi4 0).trans hcs
    have r2 := H4.fz i hi4 0
    have H5 := H4.set i hi4 0 (.slice A' (n + 1) c') hb
    clear hins' r0 hi4 H3 H4 H1
    go_wp2
    go_ret
    refine ⟨rfl, ?_, A', c', H5⟩
    simp
    omega
end
end Go.Proofs.Ythhgcjlgnafdcaa.Tj
end
