/- Texts of this seat, put together (Zh6). -/
import Derived.Test.YthhgcjlgnafdcaaRows
import Derived.RangeFuncNested
import Derived.RangeFuncBound
import Derived.RangeFuncCalls
import Derived.RangeFuncLeaves
import Derived.RangeFuncFrom
import Derived.Shelf.Abstract
import Derived.Shelf.RegionOpen
import Derived.WalkKit
import Derived.OwnWalkIn
import Derived.TacticsInMore
import Derived.LoopNIn
import Derived.LoopIn
import Derived.Test.YthhgcjlgnafdcaaZh0
section
namespace Go.Proofs.Ythhgcjlgnafdcaa.Ja
set_option linter.unusedSimpArgs false
set_option linter.unusedVariables false
open Go Go.RowKit Go.Shelf Go.Proofs.YthhgcjlgnafdcaaW.PrintWords
attribute [local go_sem] Oper.semAt_some
def isD (c : Int) : Bool := decide (48 ≤ c) && decide (c ≤ 57)
set_option maxHeartbeats 1000000 in
theorem digit_calls (c : Int) (w : World) : Calls Try.prog 109 #[.int .u8 c] w fun e w' => e = .returned (.bool (isD c)) ∧ w' = w := by
  by_cases h : 48 ≤ c
  · have e1 : decide (48 ≤ c) = true := decide_eq_true h
    have e2 : isD c = decide (c ≤ 57) := by simp [isD, h]
    rw [e2]
    clear h e2
    go_enter Try.func109, Try.ntmps109
    go_wp2
    go_ret
    exact ⟨rfl, rfl⟩
  · have e1 : decide (48 ≤ c) = false := decide_eq_false h
    have e2 : isD c = false := by simp [isD, h]
    rw [e2]
    clear h e2
    go_enter Try.func109, Try.ntmps109
    go_wp2
    go_ret
    exact ⟨rfl, rfl⟩
def gr (c : Int) : Int := IntKind.u8.wrap (c - 65) + 10
def el (c : Int) : List Int := if isD c then [c - 48] else [gr c % 10, gr c / 10]
def D (s : ByteArray) : Nat → List Int
  | 0 => []
  | k + 1 => D s k ++ el (bt s ((s.size : Int) - 1 - k))
theorem D_length (s : ByteArray) (k : Nat) : (D s k).length ≤ 2 * k := by
  induction k with
  | zero => simp [D]
  | succ k ih =>
    rw [D, List.length_append]
    have : (el (bt s ((s.size : Int) - 1 - k))).length ≤ 2 := by unfold el; split <;> simp
    omega
theorem D_step (s : ByteArray) (k : Nat) (hk : k < s.size) : ∃ c : Int, (∀ h : s.size - 1 - k < s.size, ((s[s.size - 1 - k]'h).toNat : Int) = c) ∧ 0 ≤ c ∧ c ≤ 255 ∧ D s (k + 1) = D s k ++ el c := by
  refine ⟨bt s ((s.size : Int) - 1 - k), fun h => ?_, (bt_range _ _).1, (bt_range _ _).2, rfl⟩
  have e : ((s.size : Int) - 1 - k).toNat = s.size - 1 - k := by omega
  unfold bt
  simp only [e, h, dif_pos]
set_option maxRecDepth 100000 in
set_option maxHeartbeats 4000000 in
theorem digits_stops (n : Nat) (hn : 2 ≤ n) (B : Nat) (s : ByteArray) (hs : s.size ≤ 1000) (w : World) (hB : B < w.heap.size) (hb : w.heap[B]? = some (.cells #[.string s] 9 (0, 0))) :
    SeqStopsK Fence.wide n Try.prog 136 #[.pointer (some ⟨B, 0, none⟩)] (fun x : Int => #[Value.int .i64 x]) (fun W W' => W'.heap[B]? = W.heap[B]?) (fun xs => xs = D s s.size) (fun _ => True) (2 * s.size + 1) w := fun l J Jx W hW hJ hJx hY h0 => by
  have hbW : W.heap[B]? = some (.cells #[.string s] 9 (0, 0)) := (hW.block B hB).trans hb
  have hc := (blk_cell hbW 0).trans (show (#[Value.string s])[0]? = some (.string s) from rfl)
  have hf := blk_frozen hbW 0
  have HbW := Aside0.mk hbW
  clear hbW hb
  refine callsIn_of_wp Try.func136 rfl trivial ?_ rfl
  simp only [Try.ntmps136, List.size_toArray, List.length_cons, List.length_nil, Nat.reduceAdd, Nat.reduceSub, Array.replicate_succ, Array.replicate_zero, List.push_toArray, List.append_toArray, List.nil_append, List.cons_append]
  gi_wp2
  gi_loopw [3] (fun p wr => ∃ k : Nat, k ≤ s.size ∧ p = .int .i64 ((s.size : Int) - 1 - (k : Int)) ∧ J (D s k) wr ∧ Aside0 (wr.heap[B]? = some (.cells #[.string s] 9 (0, 0)))) (fun p _ => (intOf p + 1).toNat)
  case atStart => exact ⟨0, Nat.zero_le _, by simp, h0, HbW⟩
  case round =>
    obtain ⟨k, hk, rfl, hj, HB⟩ := hrel
    have hcr := (blk_cell HB.out 0).trans (show (#[Value.string s])[0]? = some (.string s) from rfl)
    have hfr := blk_frozen HB.out 0
    by_cases hks : k < s.size
    · have e0 : decide ((k : Int) ≤ (s.size : Int) - 1) = true := by simp; omega
      have b0 : (0 : Int) ≤ (s.size : Int) - 1 - (k : Int) := by omega
      have b1 : (s.size : Int) - 1 - (k : Int) < (s.size : Int) := by omega
      obtain ⟨c, hcx, hc0, hc1, hD⟩ := D_step s k hks
      have hl := D_length s k
      have hHD := Aside0.mk hD
      clear hD
      by_cases hd : isD c = true
      · obtain ⟨f1, t1, a1, b1', hy1, hR1⟩ := hY (D s k) (c - 48) wr hj (by omega)
        have hel : el c = [c - 48] := by unfold el; rw [if_pos hd]
        have hHE := Aside0.mk hel
        have hc2 : 48 ≤ c ∧ c ≤ 57 := by simpa [isD] using hd
        have hc3 := hc2.1
        have hc4 := hc2.2
        clear hel hc2
        gi_wp2
        refine ⟨trivial, fun _ => by omega, ?_⟩
        refine (callsIn_wide.2 (digit_calls c wr)).mono ?_
        rintro e w' ⟨rfl, hw⟩
        have hw2 := hw.symm
        subst hw2
        rw [hd]
        gi_wp2
        refine ⟨fun _ => by omega, ?_⟩
        refine hR1.mono ?_
        rintro e W1 (⟨rfl, hJ1, hk1⟩ | ⟨rfl, hx1⟩)
        · have hk2 := Aside0.mk (hk1.trans HB.out)
          clear hk1
          gi_wp2
          exact ⟨⟨k + 1, by omega, by congr 1; omega, by rw [hHD.out, hHE.out]; exact hJ1, hk2⟩, by simp [intOf]; omega⟩
        · gi_wp2
          refine bodyPost_ret (results_none rfl _ _ _) rfl ?_
          exact ⟨⟨_, rfl⟩, .inr ⟨_, trivial, hx1⟩⟩
      · obtain ⟨g, hg⟩ : ∃ g, IntKind.u8.wrap (c - 65) = g := ⟨_, rfl⟩
        have hg0 : 0 ≤ g := by rw [← hg, IntKind.wrap_u8]; omega
        have hg1 : g ≤ 255 := by rw [← hg, IntKind.wrap_u8]; omega
        have hel : el c = [g % 10, (g + 10) / 10] := by
          unfold el gr
          rw [if_neg hd, hg, show (g + 10) % 10 = g % 10 by omega]
        have hHE := Aside0.mk hel
        clear hel
        obtain ⟨f1, t1, a1, b1', hy1, hR1⟩ := hY (D s k) (g % 10) wr hj (by omega)
        have hd' : isD c = false := by simpa using hd
        gi_wp2
        refine ⟨trivial, fun _ => by omega, ?_⟩
        refine (callsIn_wide.2 (digit_calls c wr)).mono ?_
        rintro e w' ⟨rfl, hw⟩
        have hw2 := hw.symm
        subst hw2
        rw [hd']
        gi_wp2
        refine ⟨fun _ => by omega, ?_⟩
        refine hR1.mono ?_
        rintro e W1 (⟨rfl, hJ1, hk1⟩ | ⟨rfl, hx1⟩)
        · obtain ⟨f2, t2, a2, b2', hy2, hR2⟩ := hY (D s k ++ [g % 10]) ((g + 10) / 10) W1 hJ1 (by rw [List.length_append]; simp; omega)
          have hk2 := Aside0.mk (hk1.trans HB.out)
          clear hk1
          gi_wp2
          refine ⟨fun _ => by omega, ?_⟩
          refine hR2.mono ?_
          rintro e W2 (⟨rfl, hJ2, hm1⟩ | ⟨rfl, hx2⟩)
          · have hm2 := Aside0.mk (hm1.trans hk2.out)
            clear hm1
            gi_wp2
            exact ⟨⟨k + 1, by omega, by congr 1; omega, by rw [hHD.out, hHE.out, show D s k ++ [g % 10, (g + 10) / 10] = D s k ++ [g % 10] ++ [(g + 10) / 10] by simp]; exact hJ2, hm2⟩, by simp [intOf]; omega⟩
          · gi_wp2
            refine bodyPost_ret (results_none rfl _ _ _) rfl ?_
            exact ⟨⟨_, rfl⟩, .inr ⟨_, trivial, hx2⟩⟩
        · gi_wp2
          refine ⟨fun _ h => (by cases h), ?_⟩
          gi_wp2
          refine bodyPost_ret (results_none rfl _ _ _) rfl ?_
          exact ⟨⟨_, rfl⟩, .inr ⟨_, trivial, hx1⟩⟩
    · have e0 : decide ((k : Int) ≤ (s.size : Int) - 1) = false := by simp; omega
      gi_wp2
      go_end0
      obtain rfl : k = s.size := by omega
      exact ⟨⟨_, rfl⟩, .inl ⟨_, rfl, hj⟩⟩
set_option maxHeartbeats 1000000 in
theorem digits_calls (s : ByteArray) (w : World) : Calls Try.prog 128 #[.string s] w fun e w' => e = .returned (.func (.func 136) #[] #[.pointer (some ⟨w.heap.size, 0, none⟩)]) ∧ w' = w.alloc (.cells #[.string s] 9) := by
  go_enter Try.func128, Try.ntmps128
  go_wp2
  go_ret
  exact ⟨rfl, rfl⟩
def gW (d : Int) : Int := wrap64 (wrap64 (d.tdiv 10) + d.tmod 10)
def stp (i : Nat) (sum x : Int) : Int := wrap64 (sum + gW (if ((i : Int) % 2 == 0) = true then wrap64 (x * 2) else x))
def sumP (xs : List Int) : Int × Nat := xs.foldl (fun a x => (stp a.2 a.1 x, a.2 + 1)) (0, 0)
def sumW (xs : List Int) : Int := (sumP xs).1
theorem sumP_snd (xs : List Int) (a : Int × Nat) : (xs.foldl (fun a x => (stp a.2 a.1 x, a.2 + 1)) a).2 = a.2 + xs.length := by
  induction xs generalizing a with
  | nil => rfl
  | cons x xs ih => simp only [List.foldl_cons, ih, List.length_cons]; omega
theorem sumW_snoc (pre : List Int) (x : Int) : sumW (pre ++ [x]) = stp pre.length (sumW pre) x := by
  have h := sumP_snd pre (0, 0)
  simp only [Nat.zero_add] at h
  simp only [sumW, sumP, List.foldl_append, List.foldl_cons, List.foldl_nil, h]
def ckB (sum : Int) : Int := wrap64 (48 + (wrap64 (10 - sum.tmod 10)).tmod 10) % 256
set_option maxRecDepth 100000 in
set_option maxHeartbeats 4000000 in
theorem digit_ok (s : ByteArray) (hs : s.size ≤ 1000) (hbody : ∀ w, Calls Try.prog 127 #[.string s] w fun e w' => e = .returned (.bool true) ∧ Below w.heap.size w w') (w : World) :
    Calls Try.prog 110 #[.string s] w fun e w' => e = .returned (.tuple #[.int .u8 (ckB (sumW (D s s.size))), .int .i64 0]) ∧ Below w.heap.size w w' := by
  obtain ⟨n, hn⟩ : ∃ n : Nat, 5 ≤ n := ⟨5, by omega⟩
  refine (callsIn_wide (n := n)).1 ?_
  refine callsIn_of_wp_marks Try.func110 rfl trivial ?_ rfl
  simp only [Try.ntmps110, List.size_toArray, List.length_cons, List.length_nil, Nat.reduceAdd, Nat.reduceSub, Array.replicate_succ, Array.replicate_zero, List.push_toArray, List.append_toArray, List.nil_append, List.cons_append]
  gi_wp2
  refine ⟨trivial, fun _ => by omega, ?_⟩
  refine (callsIn_wide.2 (hbody w)).mono ?_
  rintro e w1 ⟨rfl, hb1⟩
  gi_wp2
  refine ⟨trivial, fun _ => by omega, ?_⟩
  refine (callsIn_wide.2 (digits_calls s _)).mono ?_
  rintro e w' ⟨rfl, rfl⟩
  gi_wp2
  obtain ⟨p, hp⟩ : ∃ p, w1.heap.size = p := ⟨_, rfl⟩
  have hA : w1.heap[p]? = none := by rw [← hp]; simp
  obtain ⟨Wl, hWl⟩ : ∃ Wl, (((w1.alloc (.cells #[.int .i64 0] 3)).alloc (.cells #[.int .i64 0] 3)).alloc (.cells #[.string s] 9)) = Wl := ⟨_, rfl⟩
  have hsz : Wl.heap.size = p + 3 := by rw [← hWl, ← hp]; simp
  have hS0 : Wl.heap[p]? = some (.cells #[.int .i64 0] 3 (0, 0)) := by
    rw [← hWl, ← hp]
    exact blk_alloc (blk_alloc (heap_alloc_new w1 _) _) _
  have hS1 : Wl.heap[p + 1]? = some (.cells #[.int .i64 0] 3 (0, 0)) := by
    rw [← hWl, ← hp]
    have := heap_alloc_new (w1.alloc (.cells #[.int .i64 0] 3)) (.cells #[.int .i64 0] 3)
    rw [World.size_alloc] at this
    exact blk_alloc this _
  have hS2 : Wl.heap[p + 1 + 1]? = some (.cells #[.string s] 9 (0, 0)) := by
    rw [← hWl, ← hp]
    have := heap_alloc_new ((w1.alloc (.cells #[.int .i64 0] 3)).alloc (.cells #[.int .i64 0] 3)) (.cells #[.string s] 9)
    rw [World.size_alloc, World.size_alloc] at this
    exact this
  have hBl : Below w.heap.size w Wl := by rw [← hWl]; exact below_alloc (below_alloc (below_alloc hb1 _) _) _
  have hwp : w.heap.size ≤ p := by rw [← hp]; exact hb1.size
  rw [hWl, hp]
  clear hWl hp hA hb1
  refine wpIn_rangeFunc_ownF rfl (by omega) (gf := 136) (lb := #[.pointer (some ⟨p + 1 + 1, 0, none⟩)]) rfl trivial (enters_of Try.func136 (by kernel_rfl) rfl)
    (digits_stops (n - 1) (by omega) (p + 1 + 1) s hs Wl (by omega) hS2) (fun h k => k.trans h) (fun W l o o' hl h _ _ => by
      have hne : l ≠ p + 1 + 1 := by omega
      simp only [World.putObj, Array.getElem?_setIfInBounds_ne hne]) (Below.refl _ _) (fun _ => rfl)
    (fun pre W => (W.cell? ⟨p, 0, none⟩ = some (.int .i64 (sumW pre)) ∧ W.frozen? ⟨p, 0, none⟩ = false ∧ W.cell? ⟨p + 1, 0, none⟩ = some (.int .i64 pre.length) ∧ W.frozen? ⟨p + 1, 0, none⟩ = false) ∧ Below w.heap.size w W)
    (fun _ _ _ => False)
    (OwnFrom.and (Own.from (fun s A B row hs hg hr => ⟨cell_kept hs.1 hg hr, (frozen_kept hs.1 hg hr).trans hs.2.1, cell_kept hs.2.2.1 hg hr, (frozen_kept hs.2.2.1 hg hr).trans hs.2.2.2⟩) _) (ownFrom_below (Nat.le_refl _) (by omega)))
    (fun _ _ _ _ _ hs _ _ => hs)
    ⟨⟨(blk_cell hS0 0).trans rfl, blk_frozen hS0 0, (blk_cell hS1 0).trans rfl, blk_frozen hS1 0⟩, hBl⟩
    (fun x => { tmps := #[.string s, undef, .int .u8 0, .int .i64 0, .pointer (some ⟨p, 0, none⟩), .pointer (some ⟨p + 1, 0, none⟩), .int .i64 x, .string s, .bool true, .bool false, .string s, .func (.func 136) #[] #[.pointer (some ⟨p + 1 + 1, 0, none⟩)], .int .i64 x, undef, undef, undef, undef, undef, undef, undef, undef, undef, undef, undef, undef, undef, undef, undef, undef, undef, undef, undef, undef], defers := [] }) ?assign ?body ?done ?stop
  case assign =>
    intro l x W K hK
    gi_wp2
    exact hK
  case body =>
    rintro l pre x W ⟨⟨c0, f0, c1, f1⟩, hB⟩ hlt
    have hx : (∃ y, stp pre.length (sumW pre) x = wrap64 (sumW pre + gW y)) := ⟨_, rfl⟩
    by_cases he : (((pre.length : Nat) : Int) % 2 == 0) = true
    · have hst : stp pre.length (sumW pre) x = wrap64 (sumW pre + gW (wrap64 (x * 2))) := by unfold stp; rw [if_pos he]
      have hS := Aside0.mk hst
      clear hst hx
      gi_wp2
      refine ⟨(KeepsOthers.setCell _ _ _).trans (KeepsOthers.setCell _ _ _), ?_, ⟨?_, ?_, ?_, ?_⟩, (hB.setCell (p := ⟨p, 0, none⟩) hwp _).setCell (p := ⟨p + 1, 0, none⟩) (by show w.heap.size ≤ p + 1; omega) _⟩
      · exact (Below.heap_setCell _ _ _ (p + 1 + 1) (by simp)).trans (Below.heap_setCell _ _ _ (p + 1 + 1) (by simp; omega))
      · rw [sumW_snoc, hS.out]
        unfold gW
        go_simp
      · go_simp
      · go_simp
      · go_simp
    · have hst : stp pre.length (sumW pre) x = wrap64 (sumW pre + gW x) := by unfold stp; rw [if_neg he]
      have he' : (((pre.length : Nat) : Int) % 2 == 0) = false := by simpa using he
      have hS := Aside0.mk hst
      clear hst hx he
      gi_wp2
      refine ⟨(KeepsOthers.setCell _ _ _).trans (KeepsOthers.setCell _ _ _), ?_, ⟨?_, ?_, ?_, ?_⟩, (hB.setCell (p := ⟨p, 0, none⟩) hwp _).setCell (p := ⟨p + 1, 0, none⟩) (by show w.heap.size ≤ p + 1; omega) _⟩
      · exact (Below.heap_setCell _ _ _ (p + 1 + 1) (by simp)).trans (Below.heap_setCell _ _ _ (p + 1 + 1) (by simp; omega))
      · rw [sumW_snoc, hS.out]
        unfold gW
        go_simp
      · go_simp
      · go_simp
      · go_simp
  case done =>
    rintro E xs W hD rfl ⟨⟨c0, f0, c1, f1⟩, hB⟩ hK
    gi_wp2
    refine ⟨by simp, .inl ⟨_, _, rfl, run_takeDeferred hK, ?_⟩⟩
    refine ⟨_, by simp [results, Try.results110, go_sem]; rfl, rfl, hB.trans (belowK_b (w := w) (Nat.le_refl _) W E _ _ (by omega) hK rfl rfl)⟩
  case stop =>
    rintro E c pre W _ _ h _
    exact h.elim
set_option maxHeartbeats 1000000 in
theorem digit_bad (s : ByteArray) (hbody : ∀ w, Calls Try.prog 127 #[.string s] w fun e w' => e = .returned (.bool false) ∧ Below w.heap.size w w') (w : World) :
    Calls Try.prog 110 #[.string s] w fun e w' => e = .returned (.tuple #[.int .u8 0, .int .i64 3]) ∧ Below w.heap.size w w' := by
  go_enter Try.func110, Try.ntmps110
  go_wp2_with fail
  refine (hbody w).mono ?_
  rintro e w1 ⟨rfl, hb1⟩
  go_wp2
  go_ret2
  exact ⟨rfl, hb1⟩
end Go.Proofs.Ythhgcjlgnafdcaa.Ja
end
section
namespace Go.Proofs.Ythhgcjlgnafdcaa.Jb
set_option linter.unusedSimpArgs false
set_option linter.unusedVariables false
open Go Go.RowKit Go.Proofs.YthhgcjlgnafdcaaW.PrintWords Go.Proofs.Ythhgcjlgnafdcaa.Ja
def wt (j : Nat) (d : Int) : Int := if j % 2 = 0 then (if 2 * d > 9 then 2 * d - 9 else 2 * d) else d
def S : List Int → Nat → Int
  | [], _ => 0
  | x :: xs, j => wt j x + S xs (j + 1)
def dig (xs : List Int) : Prop := ∀ x ∈ xs, 0 ≤ x ∧ x ≤ 9
theorem wt_range {j : Nat} {d : Int} (h : 0 ≤ d ∧ d ≤ 9) : 0 ≤ wt j d ∧ wt j d ≤ 9 := by
  unfold wt
  split <;> (try split) <;> omega
theorem S_range : ∀ (xs : List Int) (j : Nat), dig xs → 0 ≤ S xs j ∧ S xs j ≤ 9 * xs.length
  | [], _, _ => by simp [S]
  | x :: xs, j, h => by
    have h1 := wt_range (j := j) (h x (by simp))
    have h2 := S_range xs (j + 1) (fun y hy => h y (by simp [hy]))
    simp only [S, List.length_cons]
    omega
theorem S_snoc : ∀ (ys : List Int) (x : Int) (j : Nat), S (ys ++ [x]) j = S ys j + wt (j + ys.length) x
  | [], x, j => by simp [S]
  | y :: ys, x, j => by
    simp only [List.cons_append, S, S_snoc ys x (j + 1), List.length_cons]
    rw [show j + 1 + ys.length = j + (ys.length + 1) by omega]
    omega
theorem w64 {n : Int} (h : -9223372036854775808 ≤ n ∧ n ≤ 9223372036854775807) : wrap64 n = n := by unfold wrap64; omega
theorem stp_eq (i : Nat) (sum x : Int) (hx : 0 ≤ x ∧ x ≤ 9) (hs : 0 ≤ sum ∧ sum ≤ 100000) : stp i sum x = sum + wt i x := by
  unfold stp gW wt
  by_cases he : i % 2 = 0
  · have h1 : (((i : Nat) : Int) % 2 == 0) = true := by simp; omega
    rw [if_pos h1, if_pos he]
    have e1 : wrap64 (x * 2) = 2 * x := by unfold wrap64; omega
    rw [e1, Int.tdiv_eq_ediv_of_nonneg (by omega), Int.tmod_eq_emod_of_nonneg (by omega), w64 (n := 2 * x / 10) (by omega), w64 (n := 2 * x / 10 + 2 * x % 10) (by omega), w64 (by omega)]
    split <;> omega
  · have h1 : ¬ (((i : Nat) : Int) % 2 == 0) = true := by simp; omega
    rw [if_neg h1, if_neg he]
    rw [Int.tdiv_eq_ediv_of_nonneg (by omega), Int.tmod_eq_emod_of_nonneg (by omega), w64 (n := x / 10) (by omega), w64 (n := x / 10 + x % 10) (by omega), w64 (by omega)]
    omega
theorem fold_eq : ∀ (xs : List Int) (a : Int) (i : Nat), dig xs → 0 ≤ a → a + 9 * xs.length ≤ 100000 → (xs.foldl (fun (a : Int × Nat) x => (stp a.2 a.1 x, a.2 + 1)) (a, i)).1 = a + S xs i
  | [], a, i, _, _, _ => by simp [S]
  | x :: xs, a, i, h, h0, h1 => by
    have hx := h x (by simp)
    have hw := wt_range (j := i) hx
    simp only [List.length_cons] at h1
    simp only [List.foldl_cons]
    rw [stp_eq i a x hx (by omega), fold_eq xs (a + wt i x) (i + 1) (fun y hy => h y (by simp [hy])) (by omega) (by omega)]
    simp only [S]
    omega
theorem sumW_eq (xs : List Int) (h : dig xs) (hl : xs.length ≤ 1000) : sumW xs = S xs 0 := by
  unfold sumW sumP
  rw [fold_eq xs 0 0 h (Int.le_refl _) (by omega)]
  omega
def F : List Int → Int
  | [] => 0
  | x :: xs => wt xs.length x + F xs
theorem F_eq : ∀ xs : List Int, S xs.reverse 0 = F xs
  | [] => rfl
  | x :: xs => by
    rw [List.reverse_cons, S_snoc, F_eq xs, List.length_reverse, F, Nat.zero_add]
    omega
def isG (c : Int) : Bool := decide (65 ≤ c) && decide (c ≤ 90)
def ed (c : Int) : List Int := if isG c then [(c - 55) / 10, (c - 55) % 10] else [c - 48]
def okAt (i : Nat) (c : Int) : Bool := isG c || (decide (2 ≤ i) && isD c)
theorem el_ed {i : Nat} {c : Int} (h : okAt i c = true) : el c = (ed c).reverse := by
  unfold el ed
  by_cases hg : isG c = true
  · have h1 : 65 ≤ c ∧ c ≤ 90 := by simpa [isG] using hg
    have h2 : ¬ isD c = true := by simp [isD]; omega
    have h3 : gr c = c - 55 := by unfold gr; rw [IntKind.wrap_u8]; omega
    rw [if_neg h2, if_pos hg, h3]
    rfl
  · have h2 : isD c = true := by simp [okAt, hg] at h; exact h.2
    rw [if_pos h2, if_neg hg]
    rfl
theorem ed_dig {i : Nat} {c : Int} (h : okAt i c = true) : dig (ed c) := by
  unfold ed
  by_cases hg : isG c = true
  · have h1 : 65 ≤ c ∧ c ≤ 90 := by simpa [isG] using hg
    rw [if_pos hg]
    intro x hx
    simp at hx
    omega
  · have h2 : isD c = true := by simp [okAt, hg] at h; exact h.2
    have h1 : 48 ≤ c ∧ c ≤ 57 := by simpa [isD] using h2
    rw [if_neg hg]
    intro x hx
    simp at hx
    omega
def row (s : ByteArray) : Nat → Nat → List Int
  | _, 0 => []
  | i, n + 1 => ed (bt s i) ++ row s (i + 1) n
theorem D_row (s : ByteArray) (h11 : s.size = 11) (hok : ∀ i, i < 11 → okAt i (bt s i) = true) : ∀ k, k ≤ 11 → D s k = (row s (11 - k) k).reverse
  | 0, _ => rfl
  | k + 1, hk => by
    have e1 : 11 - (k + 1) + 1 = 11 - k := by omega
    have e2 : ((s.size : Int) - 1 - (k : Int)) = ((11 - (k + 1) : Nat) : Int) := by omega
    simp only [D, row, e1, List.reverse_append]
    rw [D_row s h11 hok k (by omega), e2, el_ed (hok (11 - (k + 1)) (by omega))]
theorem row_dig (s : ByteArray) (hok : ∀ i, i < 11 → okAt i (bt s i) = true) : ∀ n i, i + n ≤ 11 → dig (row s i n)
  | 0, _, _ => fun x hx => by simp [row] at hx
  | n + 1, i, h => fun x hx => by
    simp only [row, List.mem_append] at hx
    rcases hx with hx | hx
    · exact ed_dig (hok i (by omega)) x hx
    · exact row_dig s hok n (i + 1) (by omega) x hx
theorem row_length (s : ByteArray) : ∀ n i, (row s i n).length ≤ 2 * n
  | 0, _ => by simp [row]
  | n + 1, i => by
    have h1 := row_length s n (i + 1)
    have h2 : (ed (bt s i)).length ≤ 2 := by unfold ed; split <;> simp
    simp only [row, List.length_append]
    omega
theorem ckB_row (s : ByteArray) (h11 : s.size = 11) (hok : ∀ i, i < 11 → okAt i (bt s i) = true) : ckB (sumW (D s s.size)) = 48 + (10 - F (row s 0 11) % 10) % 10 := by
  have hd : D s s.size = (row s 0 11).reverse := by rw [h11]; exact D_row s h11 hok 11 (Nat.le_refl _)
  have hr := row_dig s hok 11 0 (by omega)
  have hl := row_length s 11 0
  have hdr : dig (row s 0 11).reverse := fun x hx => hr x (by simpa using hx)
  have hS := S_range _ 0 hdr
  rw [List.length_reverse] at hS
  rw [hd, sumW_eq _ hdr (by rw [List.length_reverse]; omega), F_eq]
  rw [F_eq] at hS
  generalize F (row s 0 11) = f at hS
  unfold ckB
  rw [show f.tmod 10 = f % 10 from Int.tmod_eq_emod_of_nonneg (by omega)]
  have e : wrap64 (10 - f % 10) = 10 - f % 10 := by unfold wrap64; omega
  rw [e, Int.tmod_eq_emod_of_nonneg (by omega)]
  unfold wrap64
  omega
end Go.Proofs.Ythhgcjlgnafdcaa.Jb
end
