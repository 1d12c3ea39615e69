/- Texts of this seat, put together (ZO12). -/
import Derived.RegionTactic
import Derived.Test.YtjbcigiffihjaaaZO10
import Derived.Test.YtjbcigiffihjaaaZO11
section
namespace Go.Proofs.Ytjbcigiffihjaaa.Fc
set_option linter.unusedSimpArgs false
set_option linter.unusedVariables false
open Go Go.RowKit Go.Proofs.Ytjbcigiffihjaaa.Fx Go.Proofs.YtjbcigiffihjaaaW.PrintWords Go.Proofs.Ytjbcigiffihjaaa.Fv
structure NV (G : List Nat) (w : World) (n : Bool) (A : Option Addr) (l c : Nat) (v : Int) (m : Nat) : Prop where
  ex : ∃ d : List Int, d.length = l ∧ l ≤ m ∧ Kd.V (Kd.int .i64) 3 w 0 (fun k => k ∉ G) (.slice A l c) d ∧ Nm v n d
section
variable {G : List Nat} {w w1 : World} {n n' : Bool} {A A' : Option Addr} {l l' c c' : Nat} {v v' : Int} {m m' : Nat}
theorem NV.below (h : NV G w n A l c v m) (hb : Below w.heap.size w w1) : NV G w1 n A l c v m := by
  obtain ⟨d, h1, h2, h3, h4⟩ := h.ex
  exact ⟨d, h1, h2, Kd.V_below h3 hb, h4⟩
theorem NV.alloc (h : NV G w n A l c v m) (o : Obj) : NV G (w.alloc o) n A l c v m := by
  obtain ⟨d, h1, h2, h3, h4⟩ := h.ex
  exact ⟨d, h1, h2, Kd.V_alloc h3 o, h4⟩
theorem NV.drew (h : NV G w n A l c v m) : NV G w.drew n A l c v m := by
  obtain ⟨d, h1, h2, h3, h4⟩ := h.ex
  exact ⟨d, h1, h2, Kd.V_drew h3, h4⟩
theorem NV.set (h : NV G w n A l c v m) {p : Addr} (hp : p.block ∈ G) (u : Value) : NV G (w.setCell p u) n A l c v m := by
  obtain ⟨d, h1, h2, h3, h4⟩ := h.ex
  exact ⟨d, h1, h2, Kd.V_far h3 (fun k hk hkp => hk (hkp ▸ hp)) u, h4⟩
theorem NV.zero (G : List Nat) (w : World) : NV G w false none 0 0 0 0 :=
  ⟨[], rfl, Nat.le_refl _, Kd.V_nil _ _ _ _ _, ⟨Ds.nil, fun h => absurd rfl h, fun h => by simp at h, rfl, by simp⟩⟩
theorem NV.of {d : List Int} {W0 : World} {base : Nat} {x : Value} (hG : ∀ g ∈ G, g < W0.heap.size) (h : Kd.V (Kd.int .i64) 3 w base (fun k => W0.heap.size ≤ k) x d) (hn : Nm v n d) (hm : d.length ≤ m) : ∃ A l c, x = .slice A l c ∧ NV G w n A l c v m := by
  obtain ⟨A, c, rfl⟩ := Kd.V_slice h
  exact ⟨A, d.length, c, rfl, d, rfl, hm, Kd.V_mono h (fun k hk hg => by have := hG k hg; omega), hn⟩
def Gives (G : List Nat) (w : World) (v : Int) (m : Nat) (e : Ending) (w' : World) : Prop := ∃ n A l c, e = .returned (.agg #[.bool n, .slice A l c]) ∧ NV G w' n A l c v m ∧ Below w.heap.size w w'
theorem narrow_c {a : Int} (ha : I64 a) (hG : ∀ g ∈ G, g < w.heap.size) : Calls Try.prog 12 #[.int .i64 a] w (Gives G w a 5) := by
  obtain ⟨K, n, d, h1, h2, h3⟩ := Narrow_f a ha.1 ha.2
  refine (clevisref01_Narrow.calls (K + 0) a n d w (h1 0)).mono ?_
  rintro e w' ⟨x, rfl, hv, hb⟩
  obtain ⟨A, l, c, rfl, hN⟩ := NV.of hG hv h2 h3
  exact ⟨n, A, l, c, rfl, hN, hb⟩
theorem num_c {a0 a1 : Int} (ha : I64 a0) (hu : U64 a1) (hG : ∀ g ∈ G, g < w.heap.size) : Calls Try.prog 11 #[.agg #[.int .i64 a0, .int .u64 a1]] w (Gives G w (W a0 a1) 9) := by
  obtain ⟨K, n, d, h1, h2, h3⟩ := Num_f a0 a1 ha.1 ha.2 hu.1 hu.2
  refine (clevislaw01_Num.calls (K + 0) a0 a1 n d w (h1 0)).mono ?_
  rintro e w' ⟨x, rfl, hv, hb⟩
  obtain ⟨A, l, c, rfl, hN⟩ := NV.of hG hv h2 h3
  exact ⟨n, A, l, c, rfl, hN, hb⟩
theorem mul_c {G1 G2 : List Nat} (h1 : NV G1 w n A l c v m) (h2 : NV G2 w n' A' l' c' v' m') (hm : m ≤ 400000) (hm' : m' ≤ 400000) (hG : ∀ g ∈ G, g < w.heap.size) : Calls Try.prog 26 #[.agg #[.bool n, .slice A l c], .agg #[.bool n', .slice A' l' c']] w (Gives G w (v * v') (m + m' + 1)) := by
  obtain ⟨d, rfl, k2, k3, k4⟩ := h1.ex
  obtain ⟨d', rfl, j2, j3, j4⟩ := h2.ex
  obtain ⟨K, n0, d0, i1, i2, i3⟩ := Mul_f k4 j4 (by omega) (by omega)
  refine (clevisref01_Mul.calls (K + 0) n A c d n' A' c' d' n0 d0 w (Kd.V_reads' k3).2.2 (Kd.V_reads' k3).2.1 (Kd.V_reads' j3).2.2 (Kd.V_reads' j3).2.1 (i1 0)).mono ?_
  rintro e w' ⟨x, rfl, hv, hb⟩
  obtain ⟨A, l, c, rfl, hN⟩ := NV.of (m := m + m' + 1) hG hv i2 (by omega)
  exact ⟨n0, A, l, c, rfl, hN, hb⟩
theorem cmp_c {G1 G2 : List Nat} (h1 : NV G1 w n A l c v m) (h2 : NV G2 w n' A' l' c' v' m') : Calls Try.prog 16 #[.agg #[.bool n, .slice A l c], .agg #[.bool n', .slice A' l' c']] w fun e w' => e = .returned (.int .i64 (sgn v v')) ∧ Below w.heap.size w w' := by
  obtain ⟨d, rfl, k2, k3, k4⟩ := h1.ex
  obtain ⟨d', rfl, j2, j3, j4⟩ := h2.ex
  obtain ⟨K, hK⟩ := Compare_f k4 j4
  exact clevisref01_Compare.calls (K + 0) n A c d n' A' c' d' _ w (Kd.V_reads' k3).2.2 (Kd.V_reads' k3).2.1 (Kd.V_reads' j3).2.2 (Kd.V_reads' j3).2.1 (hK 0)
theorem cmp_c0 {G1 G2 : List Nat} (h1 : NV G1 w n A l c v m) (h2 : NV G2 w n' A' l' c' v m') : Calls Try.prog 16 #[.agg #[.bool n, .slice A l c], .agg #[.bool n', .slice A' l' c']] w fun e w' => e = .returned (.int .i64 0) ∧ Below w.heap.size w w' := by
  have h := cmp_c h1 h2
  rw [show sgn v v = 0 by unfold sgn; rw [if_neg (by omega), if_neg (by omega)]] at h
  exact h
theorem judge64_c {r1 r2 : Int} (hr : Is64 v r1 r2) (h1 : NV G w n A l c v m) : Calls Try.prog 29 #[.int .i64 r1, .int .i64 r2, .agg #[.bool n, .slice A l c]] w fun e w' => e = .returned (.bool true) ∧ Below w.heap.size w w' := by
  obtain ⟨d, rfl, k2, k3, k4⟩ := h1.ex
  obtain ⟨K, hK⟩ := judge64 hr k4
  exact clevislaw01_narrow.calls (K + 0) r1 r2 n A c d true w (Kd.V_reads' k3).2.2 (Kd.V_reads' k3).2.1 (hK 0)
end
section
variable {w : World}
theorem known_c : Calls Try.prog 9 #[] w fun e w' => e = .returned (.bool true) ∧ Below w.heap.size w w' := clevislaw01_known.calls true w rfl
def Tells64 (w : World) (v : Int) (e : Ending) (w' : World) : Prop := ∃ r1 r2, e = .returned (.tuple #[.int .i64 r1, .int .i64 r2]) ∧ Is64 v r1 r2 ∧ Below w.heap.size w w'
def TellsW (w : World) (v : Int) (e : Ending) (w' : World) : Prop := ∃ r1 r2, e = .returned (.agg #[.int .i64 r1, .int .u64 r2]) ∧ (I64 r1 ∧ U64 r2 ∧ W r1 r2 = v) ∧ Below w.heap.size w w'
theorem int_c {a0 a1 : Int} (ha : I64 a0) (hu : U64 a1) : Calls Try.prog 23 #[.agg #[.int .i64 a0, .int .u64 a1]] w (Tells64 w (W a0 a1)) := by
  obtain ⟨r1, r2, h1, h2⟩ := Int_f ha hu
  refine (fixed_Int.calls a0 a1 r1 r2 w h1).mono ?_
  rintro e w' ⟨rfl, hb⟩
  exact ⟨r1, r2, rfl, h2, hb⟩
theorem of_c {a : Int} (ha : I64 a) : Calls Try.prog 24 #[.int .i64 a] w (TellsW w a) := by
  refine (fixed_Of.calls a _ _ w rfl).mono ?_
  rintro e w' ⟨rfl, hb⟩
  exact ⟨_, _, rfl, of_W ha, hb⟩
theorem times_c {a b : Int} (ha : I64 a) (hb : I64 b) : Calls Try.prog 25 #[.int .i64 a, .int .i64 b] w (TellsW w (a * b)) := by
  obtain ⟨r1, r2, h1, h2⟩ := Times_f ha hb
  refine (fixed_Times.calls a b r1 r2 w h1).mono ?_
  rintro e w' ⟨rfl, hb⟩
  exact ⟨_, _, rfl, h2, hb⟩
theorem compare_c {a0 a1 b0 b1 : Int} (ha : I64 a0) (ua : U64 a1) (hb : I64 b0) (ub : U64 b1) : Calls Try.prog 27 #[.agg #[.int .i64 a0, .int .u64 a1], .agg #[.int .i64 b0, .int .u64 b1]] w fun e w' => e = .returned (.int .i64 (sgn (W a0 a1) (W b0 b1))) ∧ Below w.heap.size w w' :=
  fixed_Compare.calls (4 + 0) a0 a1 b0 b1 _ w (Compare_w ha ua hb ub 0)
theorem sign_c {a0 a1 : Int} (ha : I64 a0) (ua : U64 a1) : Calls Try.prog 28 #[.agg #[.int .i64 a0, .int .u64 a1]] w fun e w' => e = .returned (.int .i64 (sgn (W a0 a1) 0)) ∧ Below w.heap.size w w' :=
  fixed_Sign.calls (4 + 0) a0 a1 _ w (Sign_w ha ua 0)
end
end Go.Proofs.Ytjbcigiffihjaaa.Fc
end
section
namespace Go.Proofs.Ytjbcigiffihjaaa.Fc
set_option linter.unusedSimpArgs false
set_option linter.unusedVariables false
open Go Go.RowKit Go.Proofs.Ytjbcigiffihjaaa.Fx Go.Proofs.YtjbcigiffihjaaaW.PrintWords Go.Proofs.YtjbcigiffihjaaaW.PrintLast Go.Proofs.YtjbcigiffihjaaaW.PrintMore Go.Proofs.Ytjbcigiffihjaaa.Fv
def TO2 : Bool × List (List Nat × List Nat) := (true, [([], []), ([0, 0], [0]), ([1], [1]), ([2, 1, 1], [1, 2]), ([3, 3, 1], [1, 3]), ([1], [1]), ([5, 4, 1], [1, 5]), ([4, 6, 6, 1], [1, 4, 6]), ([7, 1], [1, 7]), ([1, 8], [1, 8]), ([9, 7], [9]), ([10], [10]), ([10], [10]), ([11, 12, 10, 10], [10, 11, 12]), ([13, 13, 10], [10, 13]), ([10], [10]), ([15, 14, 10], [10, 15]), ([10], [10]), ([17, 16, 10], [10, 17]), ([16, 18, 18, 10], [10, 16, 18]), ([14, 19, 19, 10], [10, 14, 19]), ([20, 10], [10, 20]), ([10, 21], [10, 21]), ([22, 20], [22]), ([23], [23]), ([23], [23]), ([24, 25, 23, 23], [23, 24, 25]), ([23], [23]), ([27, 26, 23], [23, 27]), ([23], [23]), ([29, 28, 23], [23, 29]), ([28, 30, 30, 23], [23, 28, 30]), ([26, 31, 23], [23, 26, 31]), ([23, 32], [23, 32]), ([33, 31], [33]), ([34], [34]), ([35, 34, 34], [34, 35]), ([34], [34]), ([37, 36, 34], [34, 37]), ([34], [34]), ([38, 39, 38, 34], [34, 38, 39]), ([36, 40, 34], [34, 36, 40]), ([34, 41], [34, 41]), ([42, 40], [42]), ([43], [43]), ([43], [43]), ([43], [43]), ([46, 43, 43], [43, 46]), ([44, 45, 47, 47, 43], [43, 44, 45, 47]), ([43, 48], [43, 48]), ([49, 48, 0, 1, 2, 3, 4, 5, 6, 7, 8, 9, 10, 11, 12, 13, 14, 15, 16, 17, 18, 19, 20, 21, 22, 23, 24, 25, 26, 27, 28, 29, 30, 31, 32, 33, 34, 35, 36, 37, 38, 39, 40, 41, 42, 43, 44, 45, 46, 47, 48, 49], [49])])
def BO2 : List Nat := [0, 1, 3, 7, 15, 3, 63, 127, 255, 511, 1023, 2047, 2047, 8191, 16383, 2047, 65535, 2047, 262143, 524287, 1048575, 2097151, 4194303, 8388607, 16777215, 16777215, 67108863, 16777215, 268435455, 16777215, 1073741823, 2147483647, 4294967295, 8589934591, 17179869183, 34359738367, 68719476735, 34359738367, 274877906943, 34359738367, 1099511627775, 2199023255551, 4398046511103, 8796093022207, 17592186044415, 17592186044415, 17592186044415, 87960930222079, 281474976710655, 562949953421311, 1125899906842623]
theorem tabO2 : rtab .any (opsOf Try.f6 2) = TO2 := by kernel_rfl
theorem bitsO2 : waitsOk TO2.2 BO2 = true := by kernel_rfl
set_option maxHeartbeats 8000000 in
set_option maxRecDepth 100000 in
theorem walkO (a b x0 x1 y0 y1 : Int) (w : World) (ha : I64 a) (hb0 : I64 b) (hx : I64 x0 ∧ U64 x1) (hy : I64 y0 ∧ U64 y1) : Calls Try.prog 6 #[.int .i64 a, .int .i64 b, .agg #[.int .i64 x0, .int .u64 x1], .agg #[.int .i64 y0, .int .u64 y1]] w fun e w' => e = .returned (.bool true) ∧ Below w.heap.size w w' := by
  go_enter Try.func6, Try.ntmps6
  go_wp2_with fail
  refine (int_c hx.1 hx.2).mono ?_
  rintro e w1 ⟨n, r, rfl, hI, hb⟩
  have HX := Aside0.mk (blk_below (g := w.heap.size) (o := .cells #[.int .i64 x0, .int .u64 x1] 24 (0, 0)) (blk_alloc (heap_alloc_new w _) _) hb)
  have HY := Aside0.mk (blk_below (g := w.heap.size + 1) (o := .cells #[.int .i64 y0, .int .u64 y1] 24 (0, 0)) (by simpa using heap_alloc_new (w.alloc (.cells #[.int .i64 x0, .int .u64 x1] 24)) _) hb)
  have HB := Aside0.mk (below_step (below_alloc (below_alloc (Below.refl w.heap.size w) _) _) hb)
  clear hb
  have HI := Aside0.mk hI
  clear hI
  go_upto_region 2 with (fail)
  have HX_1 := Aside0.mk (blk_drew HX.out)
  have HY_1 := Aside0.mk (blk_drew HY.out)
  have HB_1 := Aside0.mk (below_drew1 HB.out)
  clear HX HY HB
  refine start_ (n := 51) (S := fun w' => w'.cell? ⟨w.heap.size, 0, none⟩ = some (.int .i64 x0) ∧ w'.cell? ⟨w.heap.size, 1, none⟩ = some (.int .u64 x1) ∧ w'.cell? ⟨w.heap.size + 1, 0, none⟩ = some (.int .i64 y0) ∧ w'.cell? ⟨w.heap.size + 1, 1, none⟩ = some (.int .u64 y1)) (ds := []) #[false, false, false, false, false, false, false, false, false, false, false, false, false, false, false, false, false, false, false, false, false, false, false, false, false, false, false, false, false, false, false, false, false, false, false, false, false, false, false, false, false, false, false, false, false, false, false, false, false, false, false] (by kernel_rfl) rfl rfl ⟨(blk_cell HX_1.out 0).trans rfl, (blk_cell HX_1.out 1).trans rfl, (blk_cell HY_1.out 0).trans rfl, (blk_cell HY_1.out 1).trans rfl⟩ (fun hHeld => ?_)
  refine with_tabW tabO2 bitsO2 (fun HT_ HW_ => ?_)
  generalize w1.drew = wd at HX_1 HY_1 HB_1 hHeld ⊢
  refine one_ (i := 0) (N := some 16) #[true, false, false, false, false, false, false, false, false, false, false, false, false, false, false, false, false, false, false, false, false, false, false, false, false, false, false, false, false, false, false, false, false, false, false, false, false, false, false, false, false, false, false, false, false, false, false, false, false, false, false] rfl rfl (one_of HT_.out (by kernel_rfl)) (by decide) (fun K hK => ?_)
  refine goes_ Try.func9 (by kernel_rfl) rfl #[] (by rfl) rfl rfl (by (try simp only [List.map_toArray, List.map_cons, List.map_nil]); first | done | rfl) ?_
  refine (known_c).mono ?_
  rintro e w101 ⟨rfl, hb⟩
  refine ⟨_, rfl, ?_⟩
  have HX_2 := Aside0.mk (blk_below HX_1.out hb)
  have HY_2 := Aside0.mk (blk_below HY_1.out hb)
  have HB_2 := Aside0.mk (below_step HB_1.out hb)
  clear HX_1 HY_1 HB_1
  clear hb
  refine hK.out _ _ ⟨(blk_cell HX_2.out 0).trans rfl, (blk_cell HX_2.out 1).trans rfl, (blk_cell HY_2.out 0).trans rfl, (blk_cell HY_2.out 1).trans rfl⟩ (fun hHeld => ?_)
  clear hK K
  refine norm_ (a' := ?_) ?_ ?_
  rotate_left
  · show Act.put _ (some 16) _ = _
    simp only [Act.put, List.setIfInBounds_toArray, List.set_cons_zero, List.set_cons_succ, i64_w, i32_w]
    rfl
  refine pure_ (i := 1) (N := some 17) (v := ?_) (a' := ?_) #[true, true, false, false, false, false, false, false, false, false, false, false, false, false, false, false, false, false, false, false, false, false, false, false, false, false, false, false, false, false, false, false, false, false, false, false, false, false, false, false, false, false, false, false, false, false, false, false, false, false, false] rfl rfl (any_of HT_.out (by kernel_rfl)) (fun _ _ _ h => h) (Or.inl ⟨by rfl, ?_⟩) ?_ ?_
  rotate_left
  · intro w'
    go_simp
    with_reducible rfl
  rotate_left
  · simp only [Act.put, List.setIfInBounds_toArray, List.set_cons_zero, List.set_cons_succ, i64_w, i32_w]
    rfl
  refine pure_ (i := 2) (N := some 18) (v := ?_) (a' := ?_) #[true, true, true, false, false, false, false, false, false, false, false, false, false, false, false, false, false, false, false, false, false, false, false, false, false, false, false, false, false, false, false, false, false, false, false, false, false, false, false, false, false, false, false, false, false, false, false, false, false, false, false] rfl rfl (any_of HT_.out (by kernel_rfl)) (fun _ _ _ h => h) (Or.inl ⟨by rfl, ?_⟩) ?_ ?_
  rotate_left
  · intro w'
    go_simp
    with_reducible rfl
  rotate_left
  · simp only [Act.put, List.setIfInBounds_toArray, List.set_cons_zero, List.set_cons_succ, i64_w, i32_w]
    rfl
  refine pure_ (i := 5) (N := some 21) (v := ?_) (a' := ?_) #[true, true, true, false, false, true, false, false, false, false, false, false, false, false, false, false, false, false, false, false, false, false, false, false, false, false, false, false, false, false, false, false, false, false, false, false, false, false, false, false, false, false, false, false, false, false, false, false, false, false, false] rfl rfl (any_of HT_.out (by kernel_rfl)) (fun _ _ _ h => h) (Or.inl ⟨by rfl, ?_⟩) ?_ ?_
  rotate_left
  · intro w'
    go_simp
    with_reducible rfl
  rotate_left
  · simp only [Act.put, List.setIfInBounds_toArray, List.set_cons_zero, List.set_cons_succ, i64_w, i32_w]
    rfl
  refine one_ (i := 3) (N := some 19) #[true, true, true, true, false, true, false, false, false, false, false, false, false, false, false, false, false, false, false, false, false, false, false, false, false, false, false, false, false, false, false, false, false, false, false, false, false, false, false, false, false, false, false, false, false, false, false, false, false, false, false] rfl rfl (one_of HT_.out (by kernel_rfl)) (by decide) (fun K hK => ?_)
  refine goes_ Try.func24 (by kernel_rfl) rfl #[.int .i64 a] (by rfl) rfl rfl (by (try simp only [List.map_toArray, List.map_cons, List.map_nil]); first | done | rfl) ?_
  refine (of_c ha).mono ?_
  rintro e w102 ⟨t2, u2, rfl, hW2, hb⟩
  refine ⟨_, rfl, ?_⟩
  have HX_3 := Aside0.mk (blk_below HX_2.out hb)
  have HY_3 := Aside0.mk (blk_below HY_2.out hb)
  have HB_3 := Aside0.mk (below_step HB_2.out hb)
  clear HX_2 HY_2 HB_2
  clear hb
  refine hK.out _ _ ⟨(blk_cell HX_3.out 0).trans rfl, (blk_cell HX_3.out 1).trans rfl, (blk_cell HY_3.out 0).trans rfl, (blk_cell HY_3.out 1).trans rfl⟩ (fun hHeld => ?_)
  clear hK K
  refine norm_ (a' := ?_) ?_ ?_
  rotate_left
  · show Act.put _ (some 19) _ = _
    simp only [Act.put, List.setIfInBounds_toArray, List.set_cons_zero, List.set_cons_succ, i64_w, i32_w]
    rfl
  refine one_ (i := 4) (N := some 20) #[true, true, true, true, true, true, false, false, false, false, false, false, false, false, false, false, false, false, false, false, false, false, false, false, false, false, false, false, false, false, false, false, false, false, false, false, false, false, false, false, false, false, false, false, false, false, false, false, false, false, false] rfl rfl (one_of HT_.out (by kernel_rfl)) (by decide) (fun K hK => ?_)
  refine goes_ Try.func11 (by kernel_rfl) rfl #[.agg #[.int .i64 t2, .int .u64 u2]] (by rfl) rfl rfl (by (try simp only [List.map_toArray, List.map_cons, List.map_nil]); first | done | rfl) ?_
  refine (num_c (G := []) hW2.1 hW2.2.1 (fun g hg => by cases hg)).mono ?_
  rintro e w103 ⟨n3, A3, l3, c3, rfl, hN, hb⟩
  refine ⟨_, rfl, ?_⟩
  have HX_4 := Aside0.mk (blk_below HX_3.out hb)
  have HY_4 := Aside0.mk (blk_below HY_3.out hb)
  have HB_4 := Aside0.mk (below_step HB_3.out hb)
  clear HX_3 HY_3 HB_3
  rw [hW2.2.2] at hN
  have HN3_4 := Aside0.mk hN
  clear hN
  clear hb
  refine hK.out _ _ ⟨(blk_cell HX_4.out 0).trans rfl, (blk_cell HX_4.out 1).trans rfl, (blk_cell HY_4.out 0).trans rfl, (blk_cell HY_4.out 1).trans rfl⟩ (fun hHeld => ?_)
  clear hK K
  refine norm_ (a' := ?_) ?_ ?_
  rotate_left
  · show Act.put _ (some 20) _ = _
    simp only [Act.put, List.setIfInBounds_toArray, List.set_cons_zero, List.set_cons_succ, i64_w, i32_w]
    rfl
  refine one_ (i := 6) (N := some 22) #[true, true, true, true, true, true, true, false, false, false, false, false, false, false, false, false, false, false, false, false, false, false, false, false, false, false, false, false, false, false, false, false, false, false, false, false, false, false, false, false, false, false, false, false, false, false, false, false, false, false, false] rfl rfl (one_of HT_.out (by kernel_rfl)) (by decide) (fun K hK => ?_)
  refine goes_ Try.func12 (by kernel_rfl) rfl #[.int .i64 a] (by rfl) rfl rfl (by (try simp only [List.map_toArray, List.map_cons, List.map_nil]); first | done | rfl) ?_
  refine (narrow_c (G := []) ha (fun g hg => by cases hg)).mono ?_
  rintro e w104 ⟨n4, A4, l4, c4, rfl, hN, hb⟩
  refine ⟨_, rfl, ?_⟩
  have HX_5 := Aside0.mk (blk_below HX_4.out hb)
  have HY_5 := Aside0.mk (blk_below HY_4.out hb)
  have HB_5 := Aside0.mk (below_step HB_4.out hb)
  have HN3_5 := Aside0.mk (NV.below HN3_4.out hb)
  clear HX_4 HY_4 HB_4 HN3_4
  have HN4_5 := Aside0.mk hN
  clear hN
  clear hb
  refine hK.out _ _ ⟨(blk_cell HX_5.out 0).trans rfl, (blk_cell HX_5.out 1).trans rfl, (blk_cell HY_5.out 0).trans rfl, (blk_cell HY_5.out 1).trans rfl⟩ (fun hHeld => ?_)
  clear hK K
  refine norm_ (a' := ?_) ?_ ?_
  rotate_left
  · show Act.put _ (some 22) _ = _
    simp only [Act.put, List.setIfInBounds_toArray, List.set_cons_zero, List.set_cons_succ, i64_w, i32_w]
    rfl
  refine one_ (i := 7) (N := some 23) #[true, true, true, true, true, true, true, true, false, false, false, false, false, false, false, false, false, false, false, false, false, false, false, false, false, false, false, false, false, false, false, false, false, false, false, false, false, false, false, false, false, false, false, false, false, false, false, false, false, false, false] rfl rfl (one_of HT_.out (by kernel_rfl)) (by decide) (fun K hK => ?_)
  refine goes_ Try.func16 (by kernel_rfl) rfl #[.agg #[.bool n3, .slice A3 l3 c3], .agg #[.bool n4, .slice A4 l4 c4]] (by rfl) rfl rfl (by (try simp only [List.map_toArray, List.map_cons, List.map_nil]); first | done | rfl) ?_
  refine (cmp_c0 HN3_5.out HN4_5.out).mono ?_
  rintro e w105 ⟨rfl, hb⟩
  refine ⟨_, rfl, ?_⟩
  have HX_6 := Aside0.mk (blk_below HX_5.out hb)
  have HY_6 := Aside0.mk (blk_below HY_5.out hb)
  have HB_6 := Aside0.mk (below_step HB_5.out hb)
  clear HX_5 HY_5 HB_5
  clear hb
  refine hK.out _ _ ⟨(blk_cell HX_6.out 0).trans rfl, (blk_cell HX_6.out 1).trans rfl, (blk_cell HY_6.out 0).trans rfl, (blk_cell HY_6.out 1).trans rfl⟩ (fun hHeld => ?_)
  clear hK K
  refine norm_ (a' := ?_) ?_ ?_
  rotate_left
  · show Act.put _ (some 23) _ = _
    simp only [Act.put, List.setIfInBounds_toArray, List.set_cons_zero, List.set_cons_succ, i64_w, i32_w]
    rfl
  refine pure_ (i := 8) (N := some 24) (v := ?_) (a' := ?_) #[true, true, true, true, true, true, true, true, true, false, false, false, false, false, false, false, false, false, false, false, false, false, false, false, false, false, false, false, false, false, false, false, false, false, false, false, false, false, false, false, false, false, false, false, false, false, false, false, false, false, false] rfl rfl (any_of HT_.out (by kernel_rfl)) (fun _ _ _ h => h) (Or.inl ⟨by rfl, ?_⟩) ?_ ?_
  rotate_left
  · intro w'
    go_simp
    with_reducible rfl
  rotate_left
  · simp only [Act.put, List.setIfInBounds_toArray, List.set_cons_zero, List.set_cons_succ, i64_w, i32_w]
    rfl
  refine pure_ (i := 9) (N := some 25) (v := ?_) (a' := ?_) #[true, true, true, true, true, true, true, true, true, true, false, false, false, false, false, false, false, false, false, false, false, false, false, false, false, false, false, false, false, false, false, false, false, false, false, false, false, false, false, false, false, false, false, false, false, false, false, false, false, false, false] rfl rfl (any_of HT_.out (by kernel_rfl)) (fun _ _ _ h => h) (Or.inl ⟨by rfl, ?_⟩) ?_ ?_
  rotate_left
  · intro w'
    go_simp
    with_reducible rfl
  rotate_left
  · simp only [Act.put, List.setIfInBounds_toArray, List.set_cons_zero, List.set_cons_succ, i64_w, i32_w]
    rfl
  refine pure_ (i := 10) (N := some 26) (v := ?_) (a' := ?_) #[true, true, true, true, true, true, true, true, true, true, true, false, false, false, false, false, false, false, false, false, false, false, false, false, false, false, false, false, false, false, false, false, false, false, false, false, false, false, false, false, false, false, false, false, false, false, false, false, false, false, false] rfl rfl (any_of HT_.out (by kernel_rfl)) (fun _ _ _ h => h) (Or.inl ⟨by rfl, ?_⟩) ?_ ?_
  rotate_left
  · intro w'
    go_simp
    with_reducible rfl
  rotate_left
  · simp only [Act.put, List.setIfInBounds_toArray, List.set_cons_zero, List.set_cons_succ, i64_w, i32_w]
    rfl
  refine pure_ (i := 11) (N := some 27) (v := ?_) (a' := ?_) #[true, true, true, true, true, true, true, true, true, true, true, true, false, false, false, false, false, false, false, false, false, false, false, false, false, false, false, false, false, false, false, false, false, false, false, false, false, false, false, false, false, false, false, false, false, false, false, false, false, false, false] rfl rfl (any_of HT_.out (by kernel_rfl)) (fun _ _ _ h => h) (Or.inl ⟨by rfl, ?_⟩) ?_ ?_
  rotate_left
  · intro w'
    go_simp
    with_reducible rfl
  rotate_left
  · simp only [Act.put, List.setIfInBounds_toArray, List.set_cons_zero, List.set_cons_succ, i64_w, i32_w]
    rfl
  refine pure_ (i := 12) (N := some 28) (v := ?_) (a' := ?_) #[true, true, true, true, true, true, true, true, true, true, true, true, true, false, false, false, false, false, false, false, false, false, false, false, false, false, false, false, false, false, false, false, false, false, false, false, false, false, false, false, false, false, false, false, false, false, false, false, false, false, false] rfl rfl (any_of HT_.out (by kernel_rfl)) (fun _ _ _ h => h) (Or.inl ⟨by rfl, ?_⟩) ?_ ?_
  rotate_left
  · intro w'
    go_simp
    with_reducible rfl
  rotate_left
  · simp only [Act.put, List.setIfInBounds_toArray, List.set_cons_zero, List.set_cons_succ, i64_w, i32_w]
    rfl
  refine pure_ (i := 15) (N := some 31) (v := ?_) (a' := ?_) #[true, true, true, true, true, true, true, true, true, true, true, true, true, false, false, true, false, false, false, false, false, false, false, false, false, false, false, false, false, false, false, false, false, false, false, false, false, false, false, false, false, false, false, false, false, false, false, false, false, false, false] rfl rfl (any_of HT_.out (by kernel_rfl)) (fun _ _ _ h => h) (Or.inl ⟨by rfl, ?_⟩) ?_ ?_
  rotate_left
  · intro w'
    go_simp
    with_reducible rfl
  rotate_left
  · simp only [Act.put, List.setIfInBounds_toArray, List.set_cons_zero, List.set_cons_succ, i64_w, i32_w]
    rfl
  refine pure_ (i := 17) (N := some 33) (v := ?_) (a' := ?_) #[true, true, true, true, true, true, true, true, true, true, true, true, true, false, false, true, false, true, false, false, false, false, false, false, false, false, false, false, false, false, false, false, false, false, false, false, false, false, false, false, false, false, false, false, false, false, false, false, false, false, false] rfl rfl (any_of HT_.out (by kernel_rfl)) (fun _ _ _ h => h) (Or.inl ⟨by rfl, ?_⟩) ?_ ?_
  rotate_left
  · intro w'
    go_simp
    with_reducible rfl
  rotate_left
  · simp only [Act.put, List.setIfInBounds_toArray, List.set_cons_zero, List.set_cons_succ, i64_w, i32_w]
    rfl
  refine one_ (i := 13) (N := some 29) #[true, true, true, true, true, true, true, true, true, true, true, true, true, true, false, true, false, true, false, false, false, false, false, false, false, false, false, false, false, false, false, false, false, false, false, false, false, false, false, false, false, false, false, false, false, false, false, false, false, false, false] rfl rfl (one_of HT_.out (by kernel_rfl)) (by decide) (fun K hK => ?_)
  refine goes_ Try.func25 (by kernel_rfl) rfl #[.int .i64 a, .int .i64 b] (by rfl) rfl rfl (by (try simp only [List.map_toArray, List.map_cons, List.map_nil]); first | done | rfl) ?_
  refine (times_c ha hb0).mono ?_
  rintro e w106 ⟨t6, u6, rfl, hW6, hb⟩
  refine ⟨_, rfl, ?_⟩
  have HX_7 := Aside0.mk (blk_below HX_6.out hb)
  have HY_7 := Aside0.mk (blk_below HY_6.out hb)
  have HB_7 := Aside0.mk (below_step HB_6.out hb)
  clear HX_6 HY_6 HB_6
  clear hb
  refine hK.out _ _ ⟨(blk_cell HX_7.out 0).trans rfl, (blk_cell HX_7.out 1).trans rfl, (blk_cell HY_7.out 0).trans rfl, (blk_cell HY_7.out 1).trans rfl⟩ (fun hHeld => ?_)
  clear hK K
  refine norm_ (a' := ?_) ?_ ?_
  rotate_left
  · show Act.put _ (some 29) _ = _
    simp only [Act.put, List.setIfInBounds_toArray, List.set_cons_zero, List.set_cons_succ, i64_w, i32_w]
    rfl
  refine one_ (i := 14) (N := some 30) #[true, true, true, true, true, true, true, true, true, true, true, true, true, true, true, true, false, true, false, false, false, false, false, false, false, false, false, false, false, false, false, false, false, false, false, false, false, false, false, false, false, false, false, false, false, false, false, false, false, false, false] rfl rfl (one_of HT_.out (by kernel_rfl)) (by decide) (fun K hK => ?_)
  refine goes_ Try.func11 (by kernel_rfl) rfl #[.agg #[.int .i64 t6, .int .u64 u6]] (by rfl) rfl rfl (by (try simp only [List.map_toArray, List.map_cons, List.map_nil]); first | done | rfl) ?_
  refine (num_c (G := []) hW6.1 hW6.2.1 (fun g hg => by cases hg)).mono ?_
  rintro e w107 ⟨n7, A7, l7, c7, rfl, hN, hb⟩
  refine ⟨_, rfl, ?_⟩
  have HX_8 := Aside0.mk (blk_below HX_7.out hb)
  have HY_8 := Aside0.mk (blk_below HY_7.out hb)
  have HB_8 := Aside0.mk (below_step HB_7.out hb)
  clear HX_7 HY_7 HB_7
  rw [hW6.2.2] at hN
  have HN7_8 := Aside0.mk hN
  clear hN
  clear hb
  refine hK.out _ _ ⟨(blk_cell HX_8.out 0).trans rfl, (blk_cell HX_8.out 1).trans rfl, (blk_cell HY_8.out 0).trans rfl, (blk_cell HY_8.out 1).trans rfl⟩ (fun hHeld => ?_)
  clear hK K
  refine norm_ (a' := ?_) ?_ ?_
  rotate_left
  · show Act.put _ (some 30) _ = _
    simp only [Act.put, List.setIfInBounds_toArray, List.set_cons_zero, List.set_cons_succ, i64_w, i32_w]
    rfl
  refine one_ (i := 16) (N := some 32) #[true, true, true, true, true, true, true, true, true, true, true, true, true, true, true, true, true, true, false, false, false, false, false, false, false, false, false, false, false, false, false, false, false, false, false, false, false, false, false, false, false, false, false, false, false, false, false, false, false, false, false] rfl rfl (one_of HT_.out (by kernel_rfl)) (by decide) (fun K hK => ?_)
  refine goes_ Try.func12 (by kernel_rfl) rfl #[.int .i64 a] (by rfl) rfl rfl (by (try simp only [List.map_toArray, List.map_cons, List.map_nil]); first | done | rfl) ?_
  refine (narrow_c (G := []) ha (fun g hg => by cases hg)).mono ?_
  rintro e w108 ⟨n8, A8, l8, c8, rfl, hN, hb⟩
  refine ⟨_, rfl, ?_⟩
  have HX_9 := Aside0.mk (blk_below HX_8.out hb)
  have HY_9 := Aside0.mk (blk_below HY_8.out hb)
  have HB_9 := Aside0.mk (below_step HB_8.out hb)
  have HN7_9 := Aside0.mk (NV.below HN7_8.out hb)
  clear HX_8 HY_8 HB_8 HN7_8
  have HN8_9 := Aside0.mk hN
  clear hN
  clear hb
  refine hK.out _ _ ⟨(blk_cell HX_9.out 0).trans rfl, (blk_cell HX_9.out 1).trans rfl, (blk_cell HY_9.out 0).trans rfl, (blk_cell HY_9.out 1).trans rfl⟩ (fun hHeld => ?_)
  clear hK K
  refine norm_ (a' := ?_) ?_ ?_
  rotate_left
  · show Act.put _ (some 32) _ = _
    simp only [Act.put, List.setIfInBounds_toArray, List.set_cons_zero, List.set_cons_succ, i64_w, i32_w]
    rfl
  refine one_ (i := 18) (N := some 34) #[true, true, true, true, true, true, true, true, true, true, true, true, true, true, true, true, true, true, true, false, false, false, false, false, false, false, false, false, false, false, false, false, false, false, false, false, false, false, false, false, false, false, false, false, false, false, false, false, false, false, false] rfl rfl (one_of HT_.out (by kernel_rfl)) (by decide) (fun K hK => ?_)
  refine goes_ Try.func12 (by kernel_rfl) rfl #[.int .i64 b] (by rfl) rfl rfl (by (try simp only [List.map_toArray, List.map_cons, List.map_nil]); first | done | rfl) ?_
  refine (narrow_c (G := []) hb0 (fun g hg => by cases hg)).mono ?_
  rintro e w109 ⟨n9, A9, l9, c9, rfl, hN, hb⟩
  refine ⟨_, rfl, ?_⟩
  have HX_10 := Aside0.mk (blk_below HX_9.out hb)
  have HY_10 := Aside0.mk (blk_below HY_9.out hb)
  have HB_10 := Aside0.mk (below_step HB_9.out hb)
  have HN7_10 := Aside0.mk (NV.below HN7_9.out hb)
  have HN8_10 := Aside0.mk (NV.below HN8_9.out hb)
  clear HX_9 HY_9 HB_9 HN7_9 HN8_9
  have HN9_10 := Aside0.mk hN
  clear hN
  clear hb
  refine hK.out _ _ ⟨(blk_cell HX_10.out 0).trans rfl, (blk_cell HX_10.out 1).trans rfl, (blk_cell HY_10.out 0).trans rfl, (blk_cell HY_10.out 1).trans rfl⟩ (fun hHeld => ?_)
  clear hK K
  refine norm_ (a' := ?_) ?_ ?_
  rotate_left
  · show Act.put _ (some 34) _ = _
    simp only [Act.put, List.setIfInBounds_toArray, List.set_cons_zero, List.set_cons_succ, i64_w, i32_w]
    rfl
  refine one_ (i := 19) (N := some 35) #[true, true, true, true, true, true, true, true, true, true, true, true, true, true, true, true, true, true, true, true, false, false, false, false, false, false, false, false, false, false, false, false, false, false, false, false, false, false, false, false, false, false, false, false, false, false, false, false, false, false, false] rfl rfl (one_of HT_.out (by kernel_rfl)) (by decide) (fun K hK => ?_)
  refine goes_ Try.func26 (by kernel_rfl) rfl #[.agg #[.bool n8, .slice A8 l8 c8], .agg #[.bool n9, .slice A9 l9 c9]] (by rfl) rfl rfl (by (try simp only [List.map_toArray, List.map_cons, List.map_nil]); first | done | rfl) ?_
  refine (mul_c (G := []) HN8_10.out HN9_10.out (by omega) (by omega) (fun g hg => by cases hg)).mono ?_
  rintro e w110 ⟨n10, A10, l10, c10, rfl, hN, hb⟩
  refine ⟨_, rfl, ?_⟩
  have HX_11 := Aside0.mk (blk_below HX_10.out hb)
  have HY_11 := Aside0.mk (blk_below HY_10.out hb)
  have HB_11 := Aside0.mk (below_step HB_10.out hb)
  have HN7_11 := Aside0.mk (NV.below HN7_10.out hb)
  have HN8_11 := Aside0.mk (NV.below HN8_10.out hb)
  have HN9_11 := Aside0.mk (NV.below HN9_10.out hb)
  clear HX_10 HY_10 HB_10 HN7_10 HN8_10 HN9_10
  have HN10_11 := Aside0.mk hN
  clear hN
  clear hb
  refine hK.out _ _ ⟨(blk_cell HX_11.out 0).trans rfl, (blk_cell HX_11.out 1).trans rfl, (blk_cell HY_11.out 0).trans rfl, (blk_cell HY_11.out 1).trans rfl⟩ (fun hHeld => ?_)
  clear hK K
  refine norm_ (a' := ?_) ?_ ?_
  rotate_left
  · show Act.put _ (some 35) _ = _
    simp only [Act.put, List.setIfInBounds_toArray, List.set_cons_zero, List.set_cons_succ, i64_w, i32_w]
    rfl
  refine one_ (i := 20) (N := some 36) #[true, true, true, true, true, true, true, true, true, true, true, true, true, true, true, true, true, true, true, true, true, false, false, false, false, false, false, false, false, false, false, false, false, false, false, false, false, false, false, false, false, false, false, false, false, false, false, false, false, false, false] rfl rfl (one_of HT_.out (by kernel_rfl)) (by decide) (fun K hK => ?_)
  refine goes_ Try.func16 (by kernel_rfl) rfl #[.agg #[.bool n7, .slice A7 l7 c7], .agg #[.bool n10, .slice A10 l10 c10]] (by rfl) rfl rfl (by (try simp only [List.map_toArray, List.map_cons, List.map_nil]); first | done | rfl) ?_
  refine (cmp_c0 HN7_11.out HN10_11.out).mono ?_
  rintro e w111 ⟨rfl, hb⟩
  refine ⟨_, rfl, ?_⟩
  have HX_12 := Aside0.mk (blk_below HX_11.out hb)
  have HY_12 := Aside0.mk (blk_below HY_11.out hb)
  have HB_12 := Aside0.mk (below_step HB_11.out hb)
  have HN8_12 := Aside0.mk (NV.below HN8_11.out hb)
  have HN9_12 := Aside0.mk (NV.below HN9_11.out hb)
  clear HX_11 HY_11 HB_11 HN8_11 HN9_11
  clear hb
  refine hK.out _ _ ⟨(blk_cell HX_12.out 0).trans rfl, (blk_cell HX_12.out 1).trans rfl, (blk_cell HY_12.out 0).trans rfl, (blk_cell HY_12.out 1).trans rfl⟩ (fun hHeld => ?_)
  clear hK K
  refine norm_ (a' := ?_) ?_ ?_
  rotate_left
  · show Act.put _ (some 36) _ = _
    simp only [Act.put, List.setIfInBounds_toArray, List.set_cons_zero, List.set_cons_succ, i64_w, i32_w]
    rfl
  refine pure_ (i := 21) (N := some 37) (v := ?_) (a' := ?_) #[true, true, true, true, true, true, true, true, true, true, true, true, true, true, true, true, true, true, true, true, true, true, false, false, false, false, false, false, false, false, false, false, false, false, false, false, false, false, false, false, false, false, false, false, false, false, false, false, false, false, false] rfl rfl (any_of HT_.out (by kernel_rfl)) (fun _ _ _ h => h) (Or.inl ⟨by rfl, ?_⟩) ?_ ?_
  rotate_left
  · intro w'
    go_simp
    with_reducible rfl
  rotate_left
  · simp only [Act.put, List.setIfInBounds_toArray, List.set_cons_zero, List.set_cons_succ, i64_w, i32_w]
    rfl
  refine pure_ (i := 22) (N := some 38) (v := ?_) (a' := ?_) #[true, true, true, true, true, true, true, true, true, true, true, true, true, true, true, true, true, true, true, true, true, true, true, false, false, false, false, false, false, false, false, false, false, false, false, false, false, false, false, false, false, false, false, false, false, false, false, false, false, false, false] rfl rfl (any_of HT_.out (by kernel_rfl)) (fun _ _ _ h => h) (Or.inl ⟨by rfl, ?_⟩) ?_ ?_
  rotate_left
  · intro w'
    go_simp
    with_reducible rfl
  rotate_left
  · simp only [Act.put, List.setIfInBounds_toArray, List.set_cons_zero, List.set_cons_succ, i64_w, i32_w]
    rfl
  refine pure_ (i := 23) (N := some 39) (v := ?_) (a' := ?_) #[true, true, true, true, true, true, true, true, true, true, true, true, true, true, true, true, true, true, true, true, true, true, true, true, false, false, false, false, false, false, false, false, false, false, false, false, false, false, false, false, false, false, false, false, false, false, false, false, false, false, false] rfl rfl (any_of HT_.out (by kernel_rfl)) (fun _ _ _ h => h) (Or.inl ⟨by rfl, ?_⟩) ?_ ?_
  rotate_left
  · intro w'
    go_simp
    with_reducible rfl
  rotate_left
  · simp only [Act.put, List.setIfInBounds_toArray, List.set_cons_zero, List.set_cons_succ, i64_w, i32_w]
    rfl
  refine take_ (i := 24) (N := some 40) (v := ?_) (a' := ?_) #[true, true, true, true, true, true, true, true, true, true, true, true, true, true, true, true, true, true, true, true, true, true, true, true, true, false, false, false, false, false, false, false, false, false, false, false, false, false, false, false, false, false, false, false, false, false, false, false, false, false, false] rfl rfl (take_ofW HT_.out HW_.out (by kernel_rfl)) (fun _ _ _ h => h) (Or.inl ⟨by rfl, ?_⟩) hHeld ?_ ?_
  rotate_left
  · rintro w' ⟨s0, s1, s2, s3⟩
    go_simp
    with_reducible rfl
  rotate_left
  · simp only [Act.put, List.setIfInBounds_toArray, List.set_cons_zero, List.set_cons_succ, i64_w, i32_w]
    rfl
  refine take_ (i := 25) (N := some 41) (v := ?_) (a' := ?_) #[true, true, true, true, true, true, true, true, true, true, true, true, true, true, true, true, true, true, true, true, true, true, true, true, true, true, false, false, false, false, false, false, false, false, false, false, false, false, false, false, false, false, false, false, false, false, false, false, false, false, false] rfl rfl (take_ofW HT_.out HW_.out (by kernel_rfl)) (fun _ _ _ h => h) (Or.inl ⟨by rfl, ?_⟩) hHeld ?_ ?_
  rotate_left
  · rintro w' ⟨s0, s1, s2, s3⟩
    go_simp
    with_reducible rfl
  rotate_left
  · simp only [Act.put, List.setIfInBounds_toArray, List.set_cons_zero, List.set_cons_succ, i64_w, i32_w]
    rfl
  refine take_ (i := 27) (N := some 43) (v := ?_) (a' := ?_) #[true, true, true, true, true, true, true, true, true, true, true, true, true, true, true, true, true, true, true, true, true, true, true, true, true, true, false, true, false, false, false, false, false, false, false, false, false, false, false, false, false, false, false, false, false, false, false, false, false, false, false] rfl rfl (take_ofW HT_.out HW_.out (by kernel_rfl)) (fun _ _ _ h => h) (Or.inl ⟨by rfl, ?_⟩) hHeld ?_ ?_
  rotate_left
  · rintro w' ⟨s0, s1, s2, s3⟩
    go_simp
    with_reducible rfl
  rotate_left
  · simp only [Act.put, List.setIfInBounds_toArray, List.set_cons_zero, List.set_cons_succ, i64_w, i32_w]
    rfl
  refine take_ (i := 29) (N := some 45) (v := ?_) (a' := ?_) #[true, true, true, true, true, true, true, true, true, true, true, true, true, true, true, true, true, true, true, true, true, true, true, true, true, true, false, true, false, true, false, false, false, false, false, false, false, false, false, false, false, false, false, false, false, false, false, false, false, false, false] rfl rfl (take_ofW HT_.out HW_.out (by kernel_rfl)) (fun _ _ _ h => h) (Or.inl ⟨by rfl, ?_⟩) hHeld ?_ ?_
  rotate_left
  · rintro w' ⟨s0, s1, s2, s3⟩
    go_simp
    with_reducible rfl
  rotate_left
  · simp only [Act.put, List.setIfInBounds_toArray, List.set_cons_zero, List.set_cons_succ, i64_w, i32_w]
    rfl
  refine one_ (i := 26) (N := some 42) #[true, true, true, true, true, true, true, true, true, true, true, true, true, true, true, true, true, true, true, true, true, true, true, true, true, true, true, true, false, true, false, false, false, false, false, false, false, false, false, false, false, false, false, false, false, false, false, false, false, false, false] rfl rfl (one_of HT_.out (by kernel_rfl)) (by decide) (fun K hK => ?_)
  refine goes_ Try.func27 (by kernel_rfl) rfl #[.agg #[.int .i64 x0, .int .u64 x1], .agg #[.int .i64 y0, .int .u64 y1]] (by rfl) rfl rfl (by (try simp only [List.map_toArray, List.map_cons, List.map_nil]); first | done | rfl) ?_
  refine (compare_c hx.1 hx.2 hy.1 hy.2).mono ?_
  rintro e w112 ⟨rfl, hb⟩
  refine ⟨_, rfl, ?_⟩
  have HX_13 := Aside0.mk (blk_below HX_12.out hb)
  have HY_13 := Aside0.mk (blk_below HY_12.out hb)
  have HB_13 := Aside0.mk (below_step HB_12.out hb)
  have HN8_13 := Aside0.mk (NV.below HN8_12.out hb)
  have HN9_13 := Aside0.mk (NV.below HN9_12.out hb)
  clear HX_12 HY_12 HB_12 HN8_12 HN9_12
  clear hb
  refine hK.out _ _ ⟨(blk_cell HX_13.out 0).trans rfl, (blk_cell HX_13.out 1).trans rfl, (blk_cell HY_13.out 0).trans rfl, (blk_cell HY_13.out 1).trans rfl⟩ (fun hHeld => ?_)
  clear hK K
  refine norm_ (a' := ?_) ?_ ?_
  rotate_left
  · show Act.put _ (some 42) _ = _
    simp only [Act.put, List.setIfInBounds_toArray, List.set_cons_zero, List.set_cons_succ, i64_w, i32_w]
    rfl
  refine one_ (i := 28) (N := some 44) #[true, true, true, true, true, true, true, true, true, true, true, true, true, true, true, true, true, true, true, true, true, true, true, true, true, true, true, true, true, true, false, false, false, false, false, false, false, false, false, false, false, false, false, false, false, false, false, false, false, false, false] rfl rfl (one_of HT_.out (by kernel_rfl)) (by decide) (fun K hK => ?_)
  refine goes_ Try.func11 (by kernel_rfl) rfl #[.agg #[.int .i64 x0, .int .u64 x1]] (by rfl) rfl rfl (by (try simp only [List.map_toArray, List.map_cons, List.map_nil]); first | done | rfl) ?_
  refine (num_c (G := []) hx.1 hx.2 (fun g hg => by cases hg)).mono ?_
  rintro e w113 ⟨n13, A13, l13, c13, rfl, hN, hb⟩
  refine ⟨_, rfl, ?_⟩
  have HX_14 := Aside0.mk (blk_below HX_13.out hb)
  have HY_14 := Aside0.mk (blk_below HY_13.out hb)
  have HB_14 := Aside0.mk (below_step HB_13.out hb)
  have HN8_14 := Aside0.mk (NV.below HN8_13.out hb)
  have HN9_14 := Aside0.mk (NV.below HN9_13.out hb)
  clear HX_13 HY_13 HB_13 HN8_13 HN9_13
  have HN13_14 := Aside0.mk hN
  clear hN
  clear hb
  refine hK.out _ _ ⟨(blk_cell HX_14.out 0).trans rfl, (blk_cell HX_14.out 1).trans rfl, (blk_cell HY_14.out 0).trans rfl, (blk_cell HY_14.out 1).trans rfl⟩ (fun hHeld => ?_)
  clear hK K
  refine norm_ (a' := ?_) ?_ ?_
  rotate_left
  · show Act.put _ (some 44) _ = _
    simp only [Act.put, List.setIfInBounds_toArray, List.set_cons_zero, List.set_cons_succ, i64_w, i32_w]
    rfl
  refine one_ (i := 30) (N := some 46) #[true, true, true, true, true, true, true, true, true, true, true, true, true, true, true, true, true, true, true, true, true, true, true, true, true, true, true, true, true, true, true, false, false, false, false, false, false, false, false, false, false, false, false, false, false, false, false, false, false, false, false] rfl rfl (one_of HT_.out (by kernel_rfl)) (by decide) (fun K hK => ?_)
  refine goes_ Try.func11 (by kernel_rfl) rfl #[.agg #[.int .i64 y0, .int .u64 y1]] (by rfl) rfl rfl (by (try simp only [List.map_toArray, List.map_cons, List.map_nil]); first | done | rfl) ?_
  refine (num_c (G := []) hy.1 hy.2 (fun g hg => by cases hg)).mono ?_
  rintro e w114 ⟨n14, A14, l14, c14, rfl, hN, hb⟩
  refine ⟨_, rfl, ?_⟩
  have HX_15 := Aside0.mk (blk_below HX_14.out hb)
  have HY_15 := Aside0.mk (blk_below HY_14.out hb)
  have HB_15 := Aside0.mk (below_step HB_14.out hb)
  have HN8_15 := Aside0.mk (NV.below HN8_14.out hb)
  have HN9_15 := Aside0.mk (NV.below HN9_14.out hb)
  have HN13_15 := Aside0.mk (NV.below HN13_14.out hb)
  clear HX_14 HY_14 HB_14 HN8_14 HN9_14 HN13_14
  have HN14_15 := Aside0.mk hN
  clear hN
  clear hb
  refine hK.out _ _ ⟨(blk_cell HX_15.out 0).trans rfl, (blk_cell HX_15.out 1).trans rfl, (blk_cell HY_15.out 0).trans rfl, (blk_cell HY_15.out 1).trans rfl⟩ (fun hHeld => ?_)
  clear hK K
  refine norm_ (a' := ?_) ?_ ?_
  rotate_left
  · show Act.put _ (some 46) _ = _
    simp only [Act.put, List.setIfInBounds_toArray, List.set_cons_zero, List.set_cons_succ, i64_w, i32_w]
    rfl
  refine one_ (i := 31) (N := some 47) #[true, true, true, true, true, true, true, true, true, true, true, true, true, true, true, true, true, true, true, true, true, true, true, true, true, true, true, true, true, true, true, true, false, false, false, false, false, false, false, false, false, false, false, false, false, false, false, false, false, false, false] rfl rfl (one_of HT_.out (by kernel_rfl)) (by decide) (fun K hK => ?_)
  refine goes_ Try.func16 (by kernel_rfl) rfl #[.agg #[.bool n13, .slice A13 l13 c13], .agg #[.bool n14, .slice A14 l14 c14]] (by rfl) rfl rfl (by (try simp only [List.map_toArray, List.map_cons, List.map_nil]); first | done | rfl) ?_
  refine (cmp_c HN13_15.out HN14_15.out).mono ?_
  rintro e w115 ⟨rfl, hb⟩
  refine ⟨_, rfl, ?_⟩
  have HX_16 := Aside0.mk (blk_below HX_15.out hb)
  have HY_16 := Aside0.mk (blk_below HY_15.out hb)
  have HB_16 := Aside0.mk (below_step HB_15.out hb)
  have HN8_16 := Aside0.mk (NV.below HN8_15.out hb)
  have HN9_16 := Aside0.mk (NV.below HN9_15.out hb)
  clear HX_15 HY_15 HB_15 HN8_15 HN9_15
  clear hb
  refine hK.out _ _ ⟨(blk_cell HX_16.out 0).trans rfl, (blk_cell HX_16.out 1).trans rfl, (blk_cell HY_16.out 0).trans rfl, (blk_cell HY_16.out 1).trans rfl⟩ (fun hHeld => ?_)
  clear hK K
  refine norm_ (a' := ?_) ?_ ?_
  rotate_left
  · show Act.put _ (some 47) _ = _
    simp only [Act.put, List.setIfInBounds_toArray, List.set_cons_zero, List.set_cons_succ, i64_w, i32_w]
    rfl
  refine pure_ (i := 32) (N := some 48) (v := ?_) (a' := ?_) #[true, true, true, true, true, true, true, true, true, true, true, true, true, true, true, true, true, true, true, true, true, true, true, true, true, true, true, true, true, true, true, true, true, false, false, false, false, false, false, false, false, false, false, false, false, false, false, false, false, false, false] rfl rfl (any_of HT_.out (by kernel_rfl)) (fun _ _ _ h => h) (Or.inl ⟨by rfl, ?_⟩) ?_ ?_
  rotate_left
  · intro w'
    go_simp
    with_reducible rfl
  rotate_left
  · simp only [Act.put, List.setIfInBounds_toArray, List.set_cons_zero, List.set_cons_succ, i64_w, i32_w]
    rfl
  refine pure_ (i := 33) (N := some 49) (v := ?_) (a' := ?_) #[true, true, true, true, true, true, true, true, true, true, true, true, true, true, true, true, true, true, true, true, true, true, true, true, true, true, true, true, true, true, true, true, true, true, false, false, false, false, false, false, false, false, false, false, false, false, false, false, false, false, false] rfl rfl (any_of HT_.out (by kernel_rfl)) (fun _ _ _ h => h) (Or.inl ⟨by rfl, ?_⟩) ?_ ?_
  rotate_left
  · intro w'
    go_simp
    with_reducible rfl
  rotate_left
  · simp only [Act.put, List.setIfInBounds_toArray, List.set_cons_zero, List.set_cons_succ, i64_w, i32_w]
    rfl
  refine pure_ (i := 34) (N := some 50) (v := ?_) (a' := ?_) #[true, true, true, true, true, true, true, true, true, true, true, true, true, true, true, true, true, true, true, true, true, true, true, true, true, true, true, true, true, true, true, true, true, true, true, false, false, false, false, false, false, false, false, false, false, false, false, false, false, false, false] rfl rfl (any_of HT_.out (by kernel_rfl)) (fun _ _ _ h => h) (Or.inl ⟨by rfl, ?_⟩) ?_ ?_
  rotate_left
  · intro w'
    go_simp
    with_reducible rfl
  rotate_left
  · simp only [Act.put, List.setIfInBounds_toArray, List.set_cons_zero, List.set_cons_succ, i64_w, i32_w]
    rfl
  refine take_ (i := 35) (N := some 51) (v := ?_) (a' := ?_) #[true, true, true, true, true, true, true, true, true, true, true, true, true, true, true, true, true, true, true, true, true, true, true, true, true, true, true, true, true, true, true, true, true, true, true, true, false, false, false, false, false, false, false, false, false, false, false, false, false, false, false] rfl rfl (take_ofW HT_.out HW_.out (by kernel_rfl)) (fun _ _ _ h => h) (Or.inl ⟨by rfl, ?_⟩) hHeld ?_ ?_
  rotate_left
  · rintro w' ⟨s0, s1, s2, s3⟩
    go_simp
    with_reducible rfl
  rotate_left
  · simp only [Act.put, List.setIfInBounds_toArray, List.set_cons_zero, List.set_cons_succ, i64_w, i32_w]
    rfl
  refine take_ (i := 37) (N := some 53) (v := ?_) (a' := ?_) #[true, true, true, true, true, true, true, true, true, true, true, true, true, true, true, true, true, true, true, true, true, true, true, true, true, true, true, true, true, true, true, true, true, true, true, true, false, true, false, false, false, false, false, false, false, false, false, false, false, false, false] rfl rfl (take_ofW HT_.out HW_.out (by kernel_rfl)) (fun _ _ _ h => h) (Or.inl ⟨by rfl, ?_⟩) hHeld ?_ ?_
  rotate_left
  · rintro w' ⟨s0, s1, s2, s3⟩
    go_simp
    with_reducible rfl
  rotate_left
  · simp only [Act.put, List.setIfInBounds_toArray, List.set_cons_zero, List.set_cons_succ, i64_w, i32_w]
    rfl
  refine pure_ (i := 39) (N := some 55) (v := ?_) (a' := ?_) #[true, true, true, true, true, true, true, true, true, true, true, true, true, true, true, true, true, true, true, true, true, true, true, true, true, true, true, true, true, true, true, true, true, true, true, true, false, true, false, true, false, false, false, false, false, false, false, false, false, false, false] rfl rfl (any_of HT_.out (by kernel_rfl)) (fun _ _ _ h => h) (Or.inl ⟨by rfl, ?_⟩) ?_ ?_
  rotate_left
  · intro w'
    go_simp
    with_reducible rfl
  rotate_left
  · simp only [Act.put, List.setIfInBounds_toArray, List.set_cons_zero, List.set_cons_succ, i64_w, i32_w]
    rfl
  refine one_ (i := 36) (N := some 52) #[true, true, true, true, true, true, true, true, true, true, true, true, true, true, true, true, true, true, true, true, true, true, true, true, true, true, true, true, true, true, true, true, true, true, true, true, true, true, false, true, false, false, false, false, false, false, false, false, false, false, false] rfl rfl (one_of HT_.out (by kernel_rfl)) (by decide) (fun K hK => ?_)
  refine goes_ Try.func28 (by kernel_rfl) rfl #[.agg #[.int .i64 x0, .int .u64 x1]] (by rfl) rfl rfl (by (try simp only [List.map_toArray, List.map_cons, List.map_nil]); first | done | rfl) ?_
  refine (sign_c hx.1 hx.2).mono ?_
  rintro e w116 ⟨rfl, hb⟩
  refine ⟨_, rfl, ?_⟩
  have HX_17 := Aside0.mk (blk_below HX_16.out hb)
  have HY_17 := Aside0.mk (blk_below HY_16.out hb)
  have HB_17 := Aside0.mk (below_step HB_16.out hb)
  have HN8_17 := Aside0.mk (NV.below HN8_16.out hb)
  have HN9_17 := Aside0.mk (NV.below HN9_16.out hb)
  clear HX_16 HY_16 HB_16 HN8_16 HN9_16
  clear hb
  refine hK.out _ _ ⟨(blk_cell HX_17.out 0).trans rfl, (blk_cell HX_17.out 1).trans rfl, (blk_cell HY_17.out 0).trans rfl, (blk_cell HY_17.out 1).trans rfl⟩ (fun hHeld => ?_)
  clear hK K
  refine norm_ (a' := ?_) ?_ ?_
  rotate_left
  · show Act.put _ (some 52) _ = _
    simp only [Act.put, List.setIfInBounds_toArray, List.set_cons_zero, List.set_cons_succ, i64_w, i32_w]
    rfl
  refine one_ (i := 38) (N := some 54) #[true, true, true, true, true, true, true, true, true, true, true, true, true, true, true, true, true, true, true, true, true, true, true, true, true, true, true, true, true, true, true, true, true, true, true, true, true, true, true, true, false, false, false, false, false, false, false, false, false, false, false] rfl rfl (one_of HT_.out (by kernel_rfl)) (by decide) (fun K hK => ?_)
  refine goes_ Try.func11 (by kernel_rfl) rfl #[.agg #[.int .i64 x0, .int .u64 x1]] (by rfl) rfl rfl (by (try simp only [List.map_toArray, List.map_cons, List.map_nil]); first | done | rfl) ?_
  refine (num_c (G := []) hx.1 hx.2 (fun g hg => by cases hg)).mono ?_
  rintro e w117 ⟨n17, A17, l17, c17, rfl, hN, hb⟩
  refine ⟨_, rfl, ?_⟩
  have HX_18 := Aside0.mk (blk_below HX_17.out hb)
  have HY_18 := Aside0.mk (blk_below HY_17.out hb)
  have HB_18 := Aside0.mk (below_step HB_17.out hb)
  have HN8_18 := Aside0.mk (NV.below HN8_17.out hb)
  have HN9_18 := Aside0.mk (NV.below HN9_17.out hb)
  clear HX_17 HY_17 HB_17 HN8_17 HN9_17
  have HN17_18 := Aside0.mk hN
  clear hN
  clear hb
  refine hK.out _ _ ⟨(blk_cell HX_18.out 0).trans rfl, (blk_cell HX_18.out 1).trans rfl, (blk_cell HY_18.out 0).trans rfl, (blk_cell HY_18.out 1).trans rfl⟩ (fun hHeld => ?_)
  clear hK K
  refine norm_ (a' := ?_) ?_ ?_
  rotate_left
  · show Act.put _ (some 54) _ = _
    simp only [Act.put, List.setIfInBounds_toArray, List.set_cons_zero, List.set_cons_succ, i64_w, i32_w]
    rfl
  refine one_ (i := 40) (N := some 56) #[true, true, true, true, true, true, true, true, true, true, true, true, true, true, true, true, true, true, true, true, true, true, true, true, true, true, true, true, true, true, true, true, true, true, true, true, true, true, true, true, true, false, false, false, false, false, false, false, false, false, false] rfl rfl (one_of HT_.out (by kernel_rfl)) (by decide) (fun K hK => ?_)
  refine goes_ Try.func16 (by kernel_rfl) rfl #[.agg #[.bool n17, .slice A17 l17 c17], .agg #[.bool false, .slice none 0 0]] (by rfl) rfl rfl (by (try simp only [List.map_toArray, List.map_cons, List.map_nil]); first | done | rfl) ?_
  refine (cmp_c HN17_18.out (NV.zero [] _)).mono ?_
  rintro e w118 ⟨rfl, hb⟩
  refine ⟨_, rfl, ?_⟩
  have HX_19 := Aside0.mk (blk_below HX_18.out hb)
  have HY_19 := Aside0.mk (blk_below HY_18.out hb)
  have HB_19 := Aside0.mk (below_step HB_18.out hb)
  have HN8_19 := Aside0.mk (NV.below HN8_18.out hb)
  have HN9_19 := Aside0.mk (NV.below HN9_18.out hb)
  clear HX_18 HY_18 HB_18 HN8_18 HN9_18
  clear hb
  refine hK.out _ _ ⟨(blk_cell HX_19.out 0).trans rfl, (blk_cell HX_19.out 1).trans rfl, (blk_cell HY_19.out 0).trans rfl, (blk_cell HY_19.out 1).trans rfl⟩ (fun hHeld => ?_)
  clear hK K
  refine norm_ (a' := ?_) ?_ ?_
  rotate_left
  · show Act.put _ (some 56) _ = _
    simp only [Act.put, List.setIfInBounds_toArray, List.set_cons_zero, List.set_cons_succ, i64_w, i32_w]
    rfl
  refine pure_ (i := 41) (N := some 57) (v := ?_) (a' := ?_) #[true, true, true, true, true, true, true, true, true, true, true, true, true, true, true, true, true, true, true, true, true, true, true, true, true, true, true, true, true, true, true, true, true, true, true, true, true, true, true, true, true, true, false, false, false, false, false, false, false, false, false] rfl rfl (any_of HT_.out (by kernel_rfl)) (fun _ _ _ h => h) (Or.inl ⟨by rfl, ?_⟩) ?_ ?_
  rotate_left
  · intro w'
    go_simp
    with_reducible rfl
  rotate_left
  · simp only [Act.put, List.setIfInBounds_toArray, List.set_cons_zero, List.set_cons_succ, i64_w, i32_w]
    rfl
  refine pure_ (i := 42) (N := some 58) (v := ?_) (a' := ?_) #[true, true, true, true, true, true, true, true, true, true, true, true, true, true, true, true, true, true, true, true, true, true, true, true, true, true, true, true, true, true, true, true, true, true, true, true, true, true, true, true, true, true, true, false, false, false, false, false, false, false, false] rfl rfl (any_of HT_.out (by kernel_rfl)) (fun _ _ _ h => h) (Or.inl ⟨by rfl, ?_⟩) ?_ ?_
  rotate_left
  · intro w'
    go_simp
    with_reducible rfl
  rotate_left
  · simp only [Act.put, List.setIfInBounds_toArray, List.set_cons_zero, List.set_cons_succ, i64_w, i32_w]
    rfl
  refine pure_ (i := 43) (N := some 59) (v := ?_) (a' := ?_) #[true, true, true, true, true, true, true, true, true, true, true, true, true, true, true, true, true, true, true, true, true, true, true, true, true, true, true, true, true, true, true, true, true, true, true, true, true, true, true, true, true, true, true, true, false, false, false, false, false, false, false] rfl rfl (any_of HT_.out (by kernel_rfl)) (fun _ _ _ h => h) (Or.inl ⟨by rfl, ?_⟩) ?_ ?_
  rotate_left
  · intro w'
    go_simp
    with_reducible rfl
  rotate_left
  · simp only [Act.put, List.setIfInBounds_toArray, List.set_cons_zero, List.set_cons_succ, i64_w, i32_w]
    rfl
  refine pure_ (i := 44) (N := some 60) (v := ?_) (a' := ?_) #[true, true, true, true, true, true, true, true, true, true, true, true, true, true, true, true, true, true, true, true, true, true, true, true, true, true, true, true, true, true, true, true, true, true, true, true, true, true, true, true, true, true, true, true, true, false, false, false, false, false, false] rfl rfl (any_of HT_.out (by kernel_rfl)) (fun _ _ _ h => h) (Or.inl ⟨by rfl, ?_⟩) ?_ ?_
  rotate_left
  · intro w'
    go_simp
    with_reducible rfl
  rotate_left
  · simp only [Act.put, List.setIfInBounds_toArray, List.set_cons_zero, List.set_cons_succ, i64_w, i32_w]
    rfl
  refine pure_ (i := 45) (N := some 61) (v := ?_) (a' := ?_) #[true, true, true, true, true, true, true, true, true, true, true, true, true, true, true, true, true, true, true, true, true, true, true, true, true, true, true, true, true, true, true, true, true, true, true, true, true, true, true, true, true, true, true, true, true, true, false, false, false, false, false] rfl rfl (any_of HT_.out (by kernel_rfl)) (fun _ _ _ h => h) (Or.inl ⟨by rfl, ?_⟩) ?_ ?_
  rotate_left
  · intro w'
    go_simp
    with_reducible rfl
  rotate_left
  · simp only [Act.put, List.setIfInBounds_toArray, List.set_cons_zero, List.set_cons_succ, i64_w, i32_w]
    rfl
  refine take_ (i := 46) (N := some 62) (v := ?_) (a' := ?_) #[true, true, true, true, true, true, true, true, true, true, true, true, true, true, true, true, true, true, true, true, true, true, true, true, true, true, true, true, true, true, true, true, true, true, true, true, true, true, true, true, true, true, true, true, true, true, true, false, false, false, false] rfl rfl (take_ofW HT_.out HW_.out (by kernel_rfl)) (fun _ _ _ h => h) (Or.inl ⟨by rfl, ?_⟩) hHeld ?_ ?_
  rotate_left
  · rintro w' ⟨s0, s1, s2, s3⟩
    go_simp
    with_reducible rfl
  rotate_left
  · simp only [Act.put, List.setIfInBounds_toArray, List.set_cons_zero, List.set_cons_succ, i64_w, i32_w]
    rfl
  refine one_ (i := 47) (N := some 63) #[true, true, true, true, true, true, true, true, true, true, true, true, true, true, true, true, true, true, true, true, true, true, true, true, true, true, true, true, true, true, true, true, true, true, true, true, true, true, true, true, true, true, true, true, true, true, true, true, false, false, false] rfl rfl (one_of HT_.out (by kernel_rfl)) (by decide) (fun K hK => ?_)
  refine goes_ Try.func11 (by kernel_rfl) rfl #[.agg #[.int .i64 x0, .int .u64 x1]] (by rfl) rfl rfl (by (try simp only [List.map_toArray, List.map_cons, List.map_nil]); first | done | rfl) ?_
  refine (num_c (G := []) hx.1 hx.2 (fun g hg => by cases hg)).mono ?_
  rintro e w119 ⟨n19, A19, l19, c19, rfl, hN, hb⟩
  refine ⟨_, rfl, ?_⟩
  have HX_20 := Aside0.mk (blk_below HX_19.out hb)
  have HY_20 := Aside0.mk (blk_below HY_19.out hb)
  have HB_20 := Aside0.mk (below_step HB_19.out hb)
  have HN8_20 := Aside0.mk (NV.below HN8_19.out hb)
  have HN9_20 := Aside0.mk (NV.below HN9_19.out hb)
  clear HX_19 HY_19 HB_19 HN8_19 HN9_19
  have HN19_20 := Aside0.mk hN
  clear hN
  clear hb
  refine hK.out _ _ ⟨(blk_cell HX_20.out 0).trans rfl, (blk_cell HX_20.out 1).trans rfl, (blk_cell HY_20.out 0).trans rfl, (blk_cell HY_20.out 1).trans rfl⟩ (fun hHeld => ?_)
  clear hK K
  refine norm_ (a' := ?_) ?_ ?_
  rotate_left
  · show Act.put _ (some 63) _ = _
    simp only [Act.put, List.setIfInBounds_toArray, List.set_cons_zero, List.set_cons_succ, i64_w, i32_w]
    rfl
  refine one_ (i := 48) (N := some 64) #[true, true, true, true, true, true, true, true, true, true, true, true, true, true, true, true, true, true, true, true, true, true, true, true, true, true, true, true, true, true, true, true, true, true, true, true, true, true, true, true, true, true, true, true, true, true, true, true, true, false, false] rfl rfl (one_of HT_.out (by kernel_rfl)) (by decide) (fun K hK => ?_)
  refine goes_ Try.func29 (by kernel_rfl) rfl #[.int .i64 n, .int .i64 r, .agg #[.bool n19, .slice A19 l19 c19]] (by rfl) rfl rfl (by (try simp only [List.map_toArray, List.map_cons, List.map_nil]); first | done | rfl) ?_
  refine (judge64_c HI.out HN19_20.out).mono ?_
  rintro e w120 ⟨rfl, hb⟩
  refine ⟨_, rfl, ?_⟩
  have HX_21 := Aside0.mk (blk_below HX_20.out hb)
  have HY_21 := Aside0.mk (blk_below HY_20.out hb)
  have HB_21 := Aside0.mk (below_step HB_20.out hb)
  have HN8_21 := Aside0.mk (NV.below HN8_20.out hb)
  have HN9_21 := Aside0.mk (NV.below HN9_20.out hb)
  clear HX_20 HY_20 HB_20 HN8_20 HN9_20
  clear hb
  refine hK.out _ _ ⟨(blk_cell HX_21.out 0).trans rfl, (blk_cell HX_21.out 1).trans rfl, (blk_cell HY_21.out 0).trans rfl, (blk_cell HY_21.out 1).trans rfl⟩ (fun hHeld => ?_)
  clear hK K
  refine norm_ (a' := ?_) ?_ ?_
  rotate_left
  · show Act.put _ (some 64) _ = _
    simp only [Act.put, List.setIfInBounds_toArray, List.set_cons_zero, List.set_cons_succ, i64_w, i32_w]
    rfl
  refine pure_ (i := 49) (N := some 65) (v := ?_) (a' := ?_) #[true, true, true, true, true, true, true, true, true, true, true, true, true, true, true, true, true, true, true, true, true, true, true, true, true, true, true, true, true, true, true, true, true, true, true, true, true, true, true, true, true, true, true, true, true, true, true, true, true, true, false] rfl rfl (any_of HT_.out (by kernel_rfl)) (fun _ _ _ h => h) (Or.inl ⟨by rfl, ?_⟩) ?_ ?_
  rotate_left
  · intro w'
    go_simp
    with_reducible rfl
  rotate_left
  · simp only [Act.put, List.setIfInBounds_toArray, List.set_cons_zero, List.set_cons_succ, i64_w, i32_w]
    rfl
  refine pure_ (i := 50) (N := some 8) (v := ?_) (a' := ?_) #[true, true, true, true, true, true, true, true, true, true, true, true, true, true, true, true, true, true, true, true, true, true, true, true, true, true, true, true, true, true, true, true, true, true, true, true, true, true, true, true, true, true, true, true, true, true, true, true, true, true, true] rfl rfl (any_of HT_.out (by kernel_rfl)) (fun _ _ _ h => h) (Or.inl ⟨by rfl, ?_⟩) ?_ ?_
  rotate_left
  · intro w'
    go_simp
    with_reducible rfl
  rotate_left
  · simp only [Act.put, List.setIfInBounds_toArray, List.set_cons_zero, List.set_cons_succ, i64_w, i32_w]
    rfl
  refine done_ (done_of HT_.out (by kernel_rfl)) ?_
  go_wp2
  go_ret
  exact ⟨rfl, HB_21.out⟩
end Go.Proofs.Ytjbcigiffihjaaa.Fc
end
