/- Texts of this seat, put together (Zo6). -/
import Derived.Test.YtjbbigodkhnokaaDoorRows
import Derived.RangeFuncNested
import Derived.RangeFuncBound
import Derived.RangeFuncCalls
import Derived.RangeFuncLeaves
import Derived.RangeFuncFrom
import Derived.Shelf.Abstract
import Derived.Shelf.RegionOpen
import Derived.WalkKit
import Derived.OwnWalkIn
import Derived.TacticsInMore
import Derived.LoopNIn
import Derived.LoopIn
import Derived.Test.YtjbbigodkhnokaaDoorZo1
section
namespace Go.Proofs.YtjbbigodkhnokaaDoor.Ja
set_option linter.unusedSimpArgs false
set_option linter.unusedVariables false
open Go Go.RowKit Go.Shelf Go.Proofs.YtjbbigodkhnokaaDoorW.PrintWords
attribute [local go_sem] Oper.semAt_some
def isD (c : Int) : Bool := decide (48 ≤ c) && decide (c ≤ 57)
set_option maxHeartbeats 1000000 in
theorem digit_calls (c : Int) (w : World) : Calls Tryd.prog 63 #[.int .u8 c] w fun e w' => e = .returned (.bool (isD c)) ∧ w' = w := by
  by_cases h : 48 ≤ c
  · have e1 : decide (48 ≤ c) = true := decide_eq_true h
    have e2 : isD c = decide (c ≤ 57) := by simp [isD, h]
    rw [e2]
    clear h e2
    go_enter Tryd.func63, Tryd.ntmps63
    go_wp2
    go_ret
    exact ⟨rfl, rfl⟩
  · have e1 : decide (48 ≤ c) = false := decide_eq_false h
    have e2 : isD c = false := by simp [isD, h]
    rw [e2]
    clear h e2
    go_enter Tryd.func63, Tryd.ntmps63
    go_wp2
    go_ret
    exact ⟨rfl, rfl⟩
def gr (c : Int) : Int := IntKind.u8.wrap (c - 65) + 10
def el (c : Int) : List Int := if isD c then [c - 48] else [gr c % 10, gr c / 10]
def D (s : ByteArray) : Nat → List Int
  | 0 => []
  | k + 1 => D s k ++ el (bt s ((s.size : Int) - 1 - k))
theorem D_length (s : ByteArray) (k : Nat) : (D s k).length ≤ 2 * k := by
  induction k with
  | zero => simp [D]
  | succ k ih =>
    rw [D, List.length_append]
    have : (el (bt s ((s.size : Int) - 1 - k))).length ≤ 2 := by unfold el; split <;> simp
    omega
theorem D_step (s : ByteArray) (k : Nat) (hk : k < s.size) : ∃ c : Int, (∀ h : s.size - 1 - k < s.size, ((s[s.size - 1 - k]'h).toNat : Int) = c) ∧ 0 ≤ c ∧ c ≤ 255 ∧ D s (k + 1) = D s k ++ el c := by
  refine ⟨bt s ((s.size : Int) - 1 - k), fun h => ?_, (bt_range _ _).1, (bt_range _ _).2, rfl⟩
  have e : ((s.size : Int) - 1 - k).toNat = s.size - 1 - k := by omega
  unfold bt
  simp only [e, h, dif_pos]
set_option maxRecDepth 100000 in
set_option maxHeartbeats 4000000 in
theorem digits_stops (n : Nat) (hn : 2 ≤ n) (B : Nat) (s : ByteArray) (hs : s.size ≤ 1000) (w : World) (hB : B < w.heap.size) (hb : w.heap[B]? = some (.cells #[.string s] 9 (0, 0))) :
    SeqStopsK Fence.wide n Tryd.prog 75 #[.pointer (some ⟨B, 0, none⟩)] (fun x : Int => #[Value.int .i64 x]) (fun W W' => W'.heap[B]? = W.heap[B]?) (fun xs => xs = D s s.size) (fun _ => True) (2 * s.size + 1) w := fun l J Jx W hW hJ hJx hY h0 => by
  have hbW : W.heap[B]? = some (.cells #[.string s] 9 (0, 0)) := (hW.block B hB).trans hb
  have hc := (blk_cell hbW 0).trans (show (#[Value.string s])[0]? = some (.string s) from rfl)
  have hf := blk_frozen hbW 0
  have HbW := Aside0.mk hbW
  clear hbW hb
  refine callsIn_of_wp Tryd.func75 rfl trivial ?_ rfl
  simp only [Tryd.ntmps75, List.size_toArray, List.length_cons, List.length_nil, Nat.reduceAdd, Nat.reduceSub, Array.replicate_succ, Array.replicate_zero, List.push_toArray, List.append_toArray, List.nil_append, List.cons_append]
  gi_wp2
  gi_loopw [3] (fun p wr => ∃ k : Nat, k ≤ s.size ∧ p = .int .i64 ((s.size : Int) - 1 - (k : Int)) ∧ J (D s k) wr ∧ Aside0 (wr.heap[B]? = some (.cells #[.string s] 9 (0, 0)))) (fun p _ => (intOf p + 1).toNat)
  case atStart => exact ⟨0, Nat.zero_le _, by simp, h0, HbW⟩
  case round =>
    obtain ⟨k, hk, rfl, hj, HB⟩ := hrel
    have hcr := (blk_cell HB.out 0).trans (show (#[Value.string s])[0]? = some (.string s) from rfl)
    have hfr := blk_frozen HB.out 0
    by_cases hks : k < s.size
    · have e0 : decide ((k : Int) ≤ (s.size : Int) - 1) = true := by simp; omega
      have b0 : (0 : Int) ≤ (s.size : Int) - 1 - (k : Int) := by omega
      have b1 : (s.size : Int) - 1 - (k : Int) < (s.size : Int) := by omega
      obtain ⟨c, hcx, hc0, hc1, hD⟩ := D_step s k hks
      have hl := D_length s k
      have hHD := Aside0.mk hD
      clear hD
      by_cases hd : isD c = true
      · obtain ⟨f1, t1, a1, b1', hy1, hR1⟩ := hY (D s k) (c - 48) wr hj (by omega)
        have hel : el c = [c - 48] := by unfold el; rw [if_pos hd]
        have hHE := Aside0.mk hel
        have hc2 : 48 ≤ c ∧ c ≤ 57 := by simpa [isD] using hd
        have hc3 := hc2.1
        have hc4 := hc2.2
        clear hel hc2
        gi_wp2
        refine ⟨trivial, fun _ => by omega, ?_⟩
        refine (callsIn_wide.2 (digit_calls c wr)).mono ?_
        rintro e w' ⟨rfl, hw⟩
        have hw2 := hw.symm
        subst hw2
        rw [hd]
        gi_wp2
        refine ⟨fun _ => by omega, ?_⟩
        refine hR1.mono ?_
        rintro e W1 (⟨rfl, hJ1, hk1⟩ | ⟨rfl, hx1⟩)
        · have hk2 := Aside0.mk (hk1.trans HB.out)
          clear hk1
          gi_wp2
          exact ⟨⟨k + 1, by omega, by congr 1; omega, by rw [hHD.out, hHE.out]; exact hJ1, hk2⟩, by simp [intOf]; omega⟩
        · gi_wp2
          refine bodyPost_ret (results_none rfl _ _ _) rfl ?_
          exact ⟨⟨_, rfl⟩, .inr ⟨_, trivial, hx1⟩⟩
      · obtain ⟨g, hg⟩ : ∃ g, IntKind.u8.wrap (c - 65) = g := ⟨_, rfl⟩
        have hg0 : 0 ≤ g := by rw [← hg, IntKind.wrap_u8]; omega
        have hg1 : g ≤ 255 := by rw [← hg, IntKind.wrap_u8]; omega
        have hel : el c = [g % 10, (g + 10) / 10] := by
          unfold el gr
          rw [if_neg hd, hg, show (g + 10) % 10 = g % 10 by omega]
        have hHE := Aside0.mk hel
        clear hel
        obtain ⟨f1, t1, a1, b1', hy1, hR1⟩ := hY (D s k) (g % 10) wr hj (by omega)
        have hd' : isD c = false := by simpa using hd
        gi_wp2
        refine ⟨trivial, fun _ => by omega, ?_⟩
        refine (callsIn_wide.2 (digit_calls c wr)).mono ?_
        rintro e w' ⟨rfl, hw⟩
        have hw2 := hw.symm
        subst hw2
        rw [hd']
        gi_wp2
        refine ⟨fun _ => by omega, ?_⟩
        refine hR1.mono ?_
        rintro e W1 (⟨rfl, hJ1, hk1⟩ | ⟨rfl, hx1⟩)
        · obtain ⟨f2, t2, a2, b2', hy2, hR2⟩ := hY (D s k ++ [g % 10]) ((g + 10) / 10) W1 hJ1 (by rw [List.length_append]; simp; omega)
          have hk2 := Aside0.mk (hk1.trans HB.out)
          clear hk1
          gi_wp2
          refine ⟨fun _ => by omega, ?_⟩
          refine hR2.mono ?_
          rintro e W2 (⟨rfl, hJ2, hm1⟩ | ⟨rfl, hx2⟩)
          · have hm2 := Aside0.mk (hm1.trans hk2.out)
            clear hm1
            gi_wp2
            exact ⟨⟨k + 1, by omega, by congr 1; omega, by rw [hHD.out, hHE.out, show D s k ++ [g % 10, (g + 10) / 10] = D s k ++ [g % 10] ++ [(g + 10) / 10] by simp]; exact hJ2, hm2⟩, by simp [intOf]; omega⟩
          · gi_wp2
            refine bodyPost_ret (results_none rfl _ _ _) rfl ?_
            exact ⟨⟨_, rfl⟩, .inr ⟨_, trivial, hx2⟩⟩
        · gi_wp2
          refine ⟨fun _ h => (by cases h), ?_⟩
          gi_wp2
          refine bodyPost_ret (results_none rfl _ _ _) rfl ?_
          exact ⟨⟨_, rfl⟩, .inr ⟨_, trivial, hx1⟩⟩
    · have e0 : decide ((k : Int) ≤ (s.size : Int) - 1) = false := by simp; omega
      gi_wp2
      go_end0
      obtain rfl : k = s.size := by omega
      exact ⟨⟨_, rfl⟩, .inl ⟨_, rfl, hj⟩⟩
set_option maxHeartbeats 1000000 in
theorem digits_calls (s : ByteArray) (w : World) : Calls Tryd.prog 69 #[.string s] w fun e w' => e = .returned (.func (.func 75) #[] #[.pointer (some ⟨w.heap.size, 0, none⟩)]) ∧ w' = w.alloc (.cells #[.string s] 9) := by
  go_enter Tryd.func69, Tryd.ntmps69
  go_wp2
  go_ret
  exact ⟨rfl, rfl⟩
def gW (d : Int) : Int := wrap64 (wrap64 (d.tdiv 10) + d.tmod 10)
def stp (i : Nat) (sum x : Int) : Int := wrap64 (sum + gW (if ((i : Int) % 2 == 0) = true then wrap64 (x * 2) else x))
def sumP (xs : List Int) : Int × Nat := xs.foldl (fun a x => (stp a.2 a.1 x, a.2 + 1)) (0, 0)
def sumW (xs : List Int) : Int := (sumP xs).1
theorem sumP_snd (xs : List Int) (a : Int × Nat) : (xs.foldl (fun a x => (stp a.2 a.1 x, a.2 + 1)) a).2 = a.2 + xs.length := by
  induction xs generalizing a with
  | nil => rfl
  | cons x xs ih => simp only [List.foldl_cons, ih, List.length_cons]; omega
theorem sumW_snoc (pre : List Int) (x : Int) : sumW (pre ++ [x]) = stp pre.length (sumW pre) x := by
  have h := sumP_snd pre (0, 0)
  simp only [Nat.zero_add] at h
  simp only [sumW, sumP, List.foldl_append, List.foldl_cons, List.foldl_nil, h]
def ckB (sum : Int) : Int := wrap64 (48 + (wrap64 (10 - sum.tmod 10)).tmod 10) % 256
set_option maxRecDepth 100000 in
set_option maxHeartbeats 4000000 in
theorem digit_ok (s : ByteArray) (hs : s.size ≤ 1000) (hbody : ∀ w, Calls Tryd.prog 68 #[.string s] w fun e w' => e = .returned (.bool true) ∧ Below w.heap.size w w') (w : World) :
    Calls Tryd.prog 64 #[.string s] w fun e w' => e = .returned (.tuple #[.int .u8 (ckB (sumW (D s s.size))), .int .i64 0]) ∧ Below w.heap.size w w' := by
  obtain ⟨n, hn⟩ : ∃ n : Nat, 5 ≤ n := ⟨5, by omega⟩
  refine (callsIn_wide (n := n)).1 ?_
  refine callsIn_of_wp_marks Tryd.func64 rfl trivial ?_ rfl
  simp only [Tryd.ntmps64, List.size_toArray, List.length_cons, List.length_nil, Nat.reduceAdd, Nat.reduceSub, Array.replicate_succ, Array.replicate_zero, List.push_toArray, List.append_toArray, List.nil_append, List.cons_append]
  gi_wp2
  refine ⟨trivial, fun _ => by omega, ?_⟩
  refine (callsIn_wide.2 (hbody w)).mono ?_
  rintro e w1 ⟨rfl, hb1⟩
  gi_wp2
  refine ⟨trivial, fun _ => by omega, ?_⟩
  refine (callsIn_wide.2 (digits_calls s _)).mono ?_
  rintro e w' ⟨rfl, rfl⟩
  gi_wp2
  obtain ⟨p, hp⟩ : ∃ p, w1.heap.size = p := ⟨_, rfl⟩
  have hA : w1.heap[p]? = none := by rw [← hp]; simp
  obtain ⟨Wl, hWl⟩ : ∃ Wl, (((w1.alloc (.cells #[.int .i64 0] 3)).alloc (.cells #[.int .i64 0] 3)).alloc (.cells #[.string s] 9)) = Wl := ⟨_, rfl⟩
  have hsz : Wl.heap.size = p + 3 := by rw [← hWl, ← hp]; simp
  have hS0 : Wl.heap[p]? = some (.cells #[.int .i64 0] 3 (0, 0)) := by
    rw [← hWl, ← hp]
    exact blk_alloc (blk_alloc (heap_alloc_new w1 _) _) _
  have hS1 : Wl.heap[p + 1]? = some (.cells #[.int .i64 0] 3 (0, 0)) := by
    rw [← hWl, ← hp]
    have := heap_alloc_new (w1.alloc (.cells #[.int .i64 0] 3)) (.cells #[.int .i64 0] 3)
    rw [World.size_alloc] at this
    exact blk_alloc this _
  have hS2 : Wl.heap[p + 1 + 1]? = some (.cells #[.string s] 9 (0, 0)) := by
    rw [← hWl, ← hp]
    have := heap_alloc_new ((w1.alloc (.cells #[.int .i64 0] 3)).alloc (.cells #[.int .i64 0] 3)) (.cells #[.string s] 9)
    rw [World.size_alloc, World.size_alloc] at this
    exact this
  have hBl : Below w.heap.size w Wl := by rw [← hWl]; exact below_alloc (below_alloc (below_alloc hb1 _) _) _
  have hwp : w.heap.size ≤ p := by rw [← hp]; exact hb1.size
  rw [hWl, hp]
  clear hWl hp hA hb1
  refine wpIn_rangeFunc_ownF rfl (by omega) (gf := 75) (lb := #[.pointer (some ⟨p + 1 + 1, 0, none⟩)]) rfl trivial (enters_of Tryd.func75 (by kernel_rfl) rfl)
    (digits_stops (n - 1) (by omega) (p + 1 + 1) s hs Wl (by omega) hS2) (fun h k => k.trans h) (fun W l o o' hl h _ _ => by
      have hne : l ≠ p + 1 + 1 := by omega
      simp only [World.putObj, Array.getElem?_setIfInBounds_ne hne]) (Below.refl _ _) (fun _ => rfl)
    (fun pre W => (W.cell? ⟨p, 0, none⟩ = some (.int .i64 (sumW pre)) ∧ W.frozen? ⟨p, 0, none⟩ = false ∧ W.cell? ⟨p + 1, 0, none⟩ = some (.int .i64 pre.length) ∧ W.frozen? ⟨p + 1, 0, none⟩ = false) ∧ Below w.heap.size w W)
    (fun _ _ _ => False)
    (OwnFrom.and (Own.from (fun s A B row hs hg hr => ⟨cell_kept hs.1 hg hr, (frozen_kept hs.1 hg hr).trans hs.2.1, cell_kept hs.2.2.1 hg hr, (frozen_kept hs.2.2.1 hg hr).trans hs.2.2.2⟩) _) (ownFrom_below (Nat.le_refl _) (by omega)))
    (fun _ _ _ _ _ hs _ _ => hs)
    ⟨⟨(blk_cell hS0 0).trans rfl, blk_frozen hS0 0, (blk_cell hS1 0).trans rfl, blk_frozen hS1 0⟩, hBl⟩
    (fun x => { tmps := #[.string s, undef, .int .u8 0, .int .i64 0, .pointer (some ⟨p, 0, none⟩), .pointer (some ⟨p + 1, 0, none⟩), .int .i64 x, .string s, .bool true, .bool false, .string s, .func (.func 75) #[] #[.pointer (some ⟨p + 1 + 1, 0, none⟩)], .int .i64 x, undef, undef, undef, undef, undef, undef, undef, undef, undef, undef, undef, undef, undef, undef, undef, undef, undef, undef, undef, undef], defers := [] }) ?assign ?body ?done ?stop
  case assign =>
    intro l x W K hK
    gi_wp2
    exact hK
  case body =>
    rintro l pre x W ⟨⟨c0, f0, c1, f1⟩, hB⟩ hlt
    have hx : (∃ y, stp pre.length (sumW pre) x = wrap64 (sumW pre + gW y)) := ⟨_, rfl⟩
    by_cases he : (((pre.length : Nat) : Int) % 2 == 0) = true
    · have hst : stp pre.length (sumW pre) x = wrap64 (sumW pre + gW (wrap64 (x * 2))) := by unfold stp; rw [if_pos he]
      have hS := Aside0.mk hst
      clear hst hx
      gi_wp2
      refine ⟨(KeepsOthers.setCell _ _ _).trans (KeepsOthers.setCell _ _ _), ?_, ⟨?_, ?_, ?_, ?_⟩, (hB.setCell (p := ⟨p, 0, none⟩) hwp _).setCell (p := ⟨p + 1, 0, none⟩) (by show w.heap.size ≤ p + 1; omega) _⟩
      · exact (Below.heap_setCell _ _ _ (p + 1 + 1) (by simp)).trans (Below.heap_setCell _ _ _ (p + 1 + 1) (by simp; omega))
      · rw [sumW_snoc, hS.out]
        unfold gW
        go_simp
      · go_simp
      · go_simp
      · go_simp
    · have hst : stp pre.length (sumW pre) x = wrap64 (sumW pre + gW x) := by unfold stp; rw [if_neg he]
      have he' : (((pre.length : Nat) : Int) % 2 == 0) = false := by simpa using he
      have hS := Aside0.mk hst
      clear hst hx he
      gi_wp2
      refine ⟨(KeepsOthers.setCell _ _ _).trans (KeepsOthers.setCell _ _ _), ?_, ⟨?_, ?_, ?_, ?_⟩, (hB.setCell (p := ⟨p, 0, none⟩) hwp _).setCell (p := ⟨p + 1, 0, none⟩) (by show w.heap.size ≤ p + 1; omega) _⟩
      · exact (Below.heap_setCell _ _ _ (p + 1 + 1) (by simp)).trans (Below.heap_setCell _ _ _ (p + 1 + 1) (by simp; omega))
      · rw [sumW_snoc, hS.out]
        unfold gW
        go_simp
      · go_simp
      · go_simp
      · go_simp
  case done =>
    rintro E xs W hD rfl ⟨⟨c0, f0, c1, f1⟩, hB⟩ hK
    gi_wp2
    refine ⟨by simp, .inl ⟨_, _, rfl, run_takeDeferred hK, ?_⟩⟩
    refine ⟨_, by simp [results, Tryd.results64, go_sem]; rfl, rfl, hB.trans (belowK_b (w := w) (Nat.le_refl _) W E _ _ (by omega) hK rfl rfl)⟩
  case stop =>
    rintro E c pre W _ _ h _
    exact h.elim
set_option maxHeartbeats 1000000 in
theorem digit_bad (s : ByteArray) (hbody : ∀ w, Calls Tryd.prog 68 #[.string s] w fun e w' => e = .returned (.bool false) ∧ Below w.heap.size w w') (w : World) :
    Calls Tryd.prog 64 #[.string s] w fun e w' => e = .returned (.tuple #[.int .u8 0, .int .i64 3]) ∧ Below w.heap.size w w' := by
  go_enter Tryd.func64, Tryd.ntmps64
  go_wp2_with fail
  refine (hbody w).mono ?_
  rintro e w1 ⟨rfl, hb1⟩
  go_wp2
  go_ret2
  exact ⟨rfl, hb1⟩
end Go.Proofs.YtjbbigodkhnokaaDoor.Ja
end
