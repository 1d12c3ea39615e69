/- Texts of this seat, put together (ZN12). -/
import Derived.RegionTactic
import Derived.Test.YtjbcigiffihjaaaZN10
import Derived.Test.YtjbcigiffihjaaaZN11
section
namespace Go.Proofs.Ytjbcigiffihjaaa.Fc
set_option linter.unusedSimpArgs false
set_option linter.unusedVariables false
open Go Go.RowKit Go.Proofs.Ytjbcigiffihjaaa.Fx Go.Proofs.YtjbcigiffihjaaaW.PrintWords Go.Proofs.Ytjbcigiffihjaaa.Fv
structure NV (G : List Nat) (w : World) (n : Bool) (A : Option Addr) (l c : Nat) (v : Int) (m : Nat) : Prop where
  ex : ∃ d : List Int, d.length = l ∧ l ≤ m ∧ Kd.V (Kd.int .i64) 3 w 0 (fun k => k ∉ G) (.slice A l c) d ∧ Nm v n d
section
variable {G : List Nat} {w w1 : World} {n n' : Bool} {A A' : Option Addr} {l l' c c' : Nat} {v v' : Int} {m m' : Nat}
theorem NV.below (h : NV G w n A l c v m) (hb : Below w.heap.size w w1) : NV G w1 n A l c v m := by
  obtain ⟨d, h1, h2, h3, h4⟩ := h.ex
  exact ⟨d, h1, h2, Kd.V_below h3 hb, h4⟩
theorem NV.alloc (h : NV G w n A l c v m) (o : Obj) : NV G (w.alloc o) n A l c v m := by
  obtain ⟨d, h1, h2, h3, h4⟩ := h.ex
  exact ⟨d, h1, h2, Kd.V_alloc h3 o, h4⟩
theorem NV.drew (h : NV G w n A l c v m) : NV G w.drew n A l c v m := by
  obtain ⟨d, h1, h2, h3, h4⟩ := h.ex
  exact ⟨d, h1, h2, Kd.V_drew h3, h4⟩
theorem NV.set (h : NV G w n A l c v m) {p : Addr} (hp : p.block ∈ G) (u : Value) : NV G (w.setCell p u) n A l c v m := by
  obtain ⟨d, h1, h2, h3, h4⟩ := h.ex
  exact ⟨d, h1, h2, Kd.V_far h3 (fun k hk hkp => hk (hkp ▸ hp)) u, h4⟩
theorem NV.box (h : NV G w n A l c v m) : NV (w.heap.size :: G) w n A l c v m := by
  obtain ⟨d, h1, h2, h3, h4⟩ := h.ex
  refine ⟨d, h1, h2, Kd.V_mono (Kd.V_bound h3) (fun k hk hm => ?_), h4⟩
  rcases List.mem_cons.1 hm with rfl | hm
  · exact Nat.lt_irrefl _ hk.2
  · exact hk.1 hm
theorem NV.sub {G' : List Nat} (h : NV G w n A l c v m) (hs : ∀ g ∈ G', g ∈ G) : NV G' w n A l c v m := by
  obtain ⟨d, h1, h2, h3, h4⟩ := h.ex
  exact ⟨d, h1, h2, Kd.V_mono h3 (fun k hk hm => hk (hs k hm)), h4⟩
theorem NV.le (h : NV G w n A l c v m) (hm : m ≤ m') : NV G w n A l c v m' := by
  obtain ⟨d, h1, h2, h3, h4⟩ := h.ex
  exact ⟨d, h1, by omega, h3, h4⟩
theorem NV.zero (G : List Nat) (w : World) : NV G w false none 0 0 0 0 :=
  ⟨[], rfl, Nat.le_refl _, Kd.V_nil _ _ _ _ _, ⟨Ds.nil, fun h => absurd rfl h, fun h => by simp at h, rfl, by simp⟩⟩
theorem NV.of {d : List Int} {W0 : World} {base : Nat} {x : Value} (hG : ∀ g ∈ G, g < W0.heap.size) (h : Kd.V (Kd.int .i64) 3 w base (fun k => W0.heap.size ≤ k) x d) (hn : Nm v n d) (hm : d.length ≤ m) : ∃ A l c, x = .slice A l c ∧ NV G w n A l c v m := by
  obtain ⟨A, c, rfl⟩ := Kd.V_slice h
  exact ⟨A, d.length, c, rfl, d, rfl, hm, Kd.V_mono h (fun k hk hg => by have := hG k hg; omega), hn⟩
def Gives (G : List Nat) (w : World) (v : Int) (m : Nat) (e : Ending) (w' : World) : Prop := ∃ n A l c, e = .returned (.agg #[.bool n, .slice A l c]) ∧ NV G w' n A l c v m ∧ Below w.heap.size w w'
theorem narrow_c {a : Int} (ha : I64 a) (hG : ∀ g ∈ G, g < w.heap.size) : Calls Try.prog 12 #[.int .i64 a] w (Gives G w a 5) := by
  obtain ⟨K, n, d, h1, h2, h3⟩ := Narrow_f a ha.1 ha.2
  refine (clevisref01_Narrow.calls (K + 0) a n d w (h1 0)).mono ?_
  rintro e w' ⟨x, rfl, hv, hb⟩
  obtain ⟨A, l, c, rfl, hN⟩ := NV.of hG hv h2 h3
  exact ⟨n, A, l, c, rfl, hN, hb⟩
theorem add_c {G1 G2 : List Nat} (h1 : NV G1 w n A l c v m) (h2 : NV G2 w n' A' l' c' v' m') (hm : m ≤ 900000) (hm' : m' ≤ 900000) (hG : ∀ g ∈ G, g < w.heap.size) : Calls Try.prog 21 #[.agg #[.bool n, .slice A l c], .agg #[.bool n', .slice A' l' c']] w (Gives G w (v + v') (max m m' + 1)) := by
  obtain ⟨d, rfl, k2, k3, k4⟩ := h1.ex
  obtain ⟨d', rfl, j2, j3, j4⟩ := h2.ex
  obtain ⟨K, n0, d0, i1, i2, i3⟩ := Add_f k4 j4 (by omega) (by omega)
  refine (clevisref01_Add.calls (K + 0) n A c d n' A' c' d' n0 d0 w (Kd.V_reads' k3).2.2 (Kd.V_reads' k3).2.1 (Kd.V_reads' j3).2.2 (Kd.V_reads' j3).2.1 (i1 0)).mono ?_
  rintro e w' ⟨x, rfl, hv, hb⟩
  obtain ⟨A, l, c, rfl, hN⟩ := NV.of (m := max m m' + 1) hG hv i2 (by omega)
  exact ⟨n0, A, l, c, rfl, hN, hb⟩
theorem mul_c {G1 G2 : List Nat} (h1 : NV G1 w n A l c v m) (h2 : NV G2 w n' A' l' c' v' m') (hm : m ≤ 400000) (hm' : m' ≤ 400000) (hG : ∀ g ∈ G, g < w.heap.size) : Calls Try.prog 26 #[.agg #[.bool n, .slice A l c], .agg #[.bool n', .slice A' l' c']] w (Gives G w (v * v') (m + m' + 1)) := by
  obtain ⟨d, rfl, k2, k3, k4⟩ := h1.ex
  obtain ⟨d', rfl, j2, j3, j4⟩ := h2.ex
  obtain ⟨K, n0, d0, i1, i2, i3⟩ := Mul_f k4 j4 (by omega) (by omega)
  refine (clevisref01_Mul.calls (K + 0) n A c d n' A' c' d' n0 d0 w (Kd.V_reads' k3).2.2 (Kd.V_reads' k3).2.1 (Kd.V_reads' j3).2.2 (Kd.V_reads' j3).2.1 (i1 0)).mono ?_
  rintro e w' ⟨x, rfl, hv, hb⟩
  obtain ⟨A, l, c, rfl, hN⟩ := NV.of (m := m + m' + 1) hG hv i2 (by omega)
  exact ⟨n0, A, l, c, rfl, hN, hb⟩
theorem neg_c (h1 : NV G w n A l c v m) (hG : ∀ g ∈ G, g < w.heap.size) : Calls Try.prog 22 #[.agg #[.bool n, .slice A l c]] w (Gives G w (-v) m) := by
  obtain ⟨d, rfl, k2, k3, k4⟩ := h1.ex
  obtain ⟨K, n0, d0, i1, i2, i3⟩ := Neg_f k4
  refine (clevisref01_Neg.calls (K + 0) n (fun k => k ∉ G) A c d n0 d0 w k3 (i1 0)).mono ?_
  rintro e w' ⟨x, rfl, hv, hb⟩
  obtain ⟨A, c, rfl⟩ := Kd.V_slice hv
  exact ⟨n0, A, d0.length, c, rfl, ⟨d0, rfl, by omega, Kd.V_mono hv (fun k hk hg => hk.elim (fun h => h hg) (fun h => by have := hG k hg; omega)), i2⟩, hb⟩
theorem judge64_c {r1 r2 : Int} (hr : Is64 v r1 r2) (h1 : NV G w n A l c v m) : Calls Try.prog 29 #[.int .i64 r1, .int .i64 r2, .agg #[.bool n, .slice A l c]] w fun e w' => e = .returned (.bool true) ∧ Below w.heap.size w w' := by
  obtain ⟨d, rfl, k2, k3, k4⟩ := h1.ex
  obtain ⟨K, hK⟩ := judge64 hr k4
  exact clevislaw01_narrow.calls (K + 0) r1 r2 n A c d true w (Kd.V_reads' k3).2.2 (Kd.V_reads' k3).2.1 (hK 0)
end
section
variable {w : World}
theorem known_c : Calls Try.prog 9 #[] w fun e w' => e = .returned (.bool true) ∧ Below w.heap.size w w' := clevislaw01_known.calls true w rfl
def Tells64 (w : World) (v : Int) (e : Ending) (w' : World) : Prop := ∃ r1 r2, e = .returned (.tuple #[.int .i64 r1, .int .i64 r2]) ∧ Is64 v r1 r2 ∧ Below w.heap.size w w'
theorem add64_c {a b : Int} (ha : I64 a) (hb : I64 b) : Calls Try.prog 30 #[.int .i64 a, .int .i64 b] w (Tells64 w (a + b)) := by
  obtain ⟨r1, r2, h1, h2⟩ := Add_narrow ha hb
  refine (fixed_Add.calls a b r1 r2 w h1).mono ?_
  rintro e w' ⟨rfl, hb⟩
  exact ⟨_, _, rfl, h2, hb⟩
theorem sub64_c {a b : Int} (ha : I64 a) (hb : I64 b) : Calls Try.prog 31 #[.int .i64 a, .int .i64 b] w (Tells64 w (a - b)) := by
  obtain ⟨r1, r2, h1, h2⟩ := Sub_narrow ha hb
  refine (fixed_Sub.calls a b r1 r2 w h1).mono ?_
  rintro e w' ⟨rfl, hb⟩
  exact ⟨_, _, rfl, h2, hb⟩
theorem mul64_c {a b : Int} (ha : I64 a) (hb : I64 b) : Calls Try.prog 32 #[.int .i64 a, .int .i64 b] w (Tells64 w (a * b)) := by
  obtain ⟨r1, r2, h1, h2⟩ := Mul_narrow ha hb
  refine (fixed_Mul.calls a b r1 r2 w h1).mono ?_
  rintro e w' ⟨rfl, hb⟩
  exact ⟨_, _, rfl, h2, hb⟩
theorem sum_c {A : Option Addr} {c n : Nat} {l : List Int} (hn : n = l.length) (hC : Kd.C (Kd.int .i64) w A l.length l) (hc : l.length ≤ c) (hl : l.length ≤ 1000000) (ha : ∀ a ∈ l, I64 a) : Calls Try.prog 33 #[.slice A n c] w (Tells64 w l.sum) := by
  subst hn
  obtain ⟨r1, r2, h1, h2⟩ := Sum_f l hl ha
  refine (fixed_Sum.calls A c l r1 r2 w hC hc h1).mono ?_
  rintro e w' ⟨rfl, hb⟩
  exact ⟨_, _, rfl, h2, hb⟩
end
end Go.Proofs.Ytjbcigiffihjaaa.Fc
end
section
namespace Go.Proofs.Ytjbcigiffihjaaa.Fc
set_option linter.unusedSimpArgs false
set_option linter.unusedVariables false
open Go Go.RowKit Go.Proofs.Ytjbcigiffihjaaa.Fx Go.Proofs.YtjbcigiffihjaaaW.PrintWords Go.Proofs.YtjbcigiffihjaaaW.PrintLast Go.Proofs.YtjbcigiffihjaaaW.PrintMore Go.Proofs.Ytjbcigiffihjaaa.Fv
attribute [local go_sem] max_two min_two
theorem cut_i64 (A : Option Addr) (c : Nat) (xs : List Int) (j : Nat) (hm : j ≤ xs.length) (hc : xs.length ≤ c) : ∀ W : World, (Instr.slice 58 (.slice A xs.length c) none (some (.int .i64 j)) none).run Try.prog W = .ok (.slice A j c) W := by
  obtain ⟨i0, hi, hz0, hz1, hz2⟩ := info_parts info2
  have h := (print_take_int (k := .i64) (P := Try.prog) 58 2 Try.underlying58 hi hz1 A c xs j (by omega) (by omega) hc).1
  intro W
  rw [h W, List.length_take, Int.toNat_natCast, Nat.min_eq_left hm]
theorem el_at {w : World} {A : Option Addr} {t : List Int} {k : Nat} (h : Kd.C (Kd.int .i64) w A t.length t) (hk : k < t.length) : ∃ ad, A = some ad ∧ w.cell? (ad.add k) = some (.int .i64 (rd t k)) := by
  obtain ⟨ad, h1, h2⟩ := Kd.at_int h (k : Int) (by omega) (by omega)
  rw [Int.toNat_natCast] at h2
  exact ⟨ad, h1, h2⟩
theorem el_get {w : World} {ad : Addr} {t : List Int} {k : Nat} (h : Kd.C (Kd.int .i64) w (some ad) t.length t) (hk : k < t.length) : w.cell? (ad.add k) = some (.int .i64 (rd t k)) := by
  obtain ⟨ad', h1, h2⟩ := el_at h hk
  cases h1
  exact h2
theorem max5 (k : Nat) : max (5 + k) 5 + 1 ≤ 5 + (k + 1) := by omega
theorem new_at {w : World} {g : Nat} {o : Obj} (h : w.heap.size = g) : (w.alloc o).heap[g]? = some o := by
  subst h
  exact blk_new w o
theorem rd_mem {t : List Int} {k : Nat} (hk : k < t.length) : rd t (k : Int) ∈ t := by
  unfold rd
  rw [Int.toNat_natCast, List.getD_eq_getElem?_getD, List.getElem?_eq_getElem hk]
  exact List.getElem_mem hk
theorem sum_take {t : List Int} {k : Nat} (hk : k < t.length) : (t.take (k + 1)).sum = (t.take k).sum + rd t (k : Int) := by
  unfold rd
  rw [Int.toNat_natCast, List.getD_eq_getElem?_getD, List.take_add_one, List.getElem?_eq_getElem hk]
  show (t.take k ++ [t[k]]).sum = _
  rw [List.sum_append]
  simp only [List.sum_cons, List.sum_nil, Option.getD_some, Int.add_zero]
def TN11 : Bool × List (List Nat × List Nat) := (true, [([], []), ([], []), ([], []), ([1, 2], [1, 2]), ([3], [3]), ([4], [4]), ([0, 5, 5], [0, 5]), ([6, 6, 0, 1, 2, 3, 4, 5, 6], [6])])
def BN11 : List Nat := [0, 0, 0, 6, 14, 30, 63, 127]
theorem tabN11 : rtab .any (opsOf Try.f7 11) = TN11 := by kernel_rfl
theorem bitsN11 : waitsOk TN11.2 BN11 = true := by kernel_rfl
def TN12 : Bool × List (List Nat × List Nat) := (true, [([], []), ([0, 0], [0]), ([1], [1]), ([1], [1]), ([1], [1]), ([1], [1]), ([4, 5, 1, 1], [1, 4, 5]), ([2, 3, 6, 6, 1], [1, 2, 3, 6]), ([1, 7], [1, 7]), ([8, 7], [8]), ([9], [9]), ([9], [9]), ([9], [9]), ([9], [9]), ([13, 9, 9], [9, 13]), ([12, 14, 14, 9], [9, 12, 14]), ([10, 11, 15, 15, 9], [9, 10, 11, 15]), ([9, 16], [9, 16]), ([17, 16], [17]), ([18], [18]), ([18], [18]), ([18], [18]), ([18], [18]), ([21, 22, 18, 18], [18, 21, 22]), ([19, 20, 23, 23, 18], [18, 19, 20, 23]), ([18, 24], [18, 24]), ([25, 24], [25]), ([26], [26]), ([26], [26]), ([26], [26]), ([27, 28, 29, 26, 26], [26, 27, 28, 29]), ([26, 30], [26, 30]), ([31, 30, 0, 1, 2, 3, 4, 5, 6, 7, 8, 9, 10, 11, 12, 13, 14, 15, 16, 17, 18, 19, 20, 21, 22, 23, 24, 25, 26, 27, 28, 29, 30, 31], [31])])
def BN12 : List Nat := [0, 1, 3, 3, 3, 3, 51, 127, 255, 511, 1023, 1023, 1023, 1023, 9215, 29695, 65535, 131071, 262143, 524287, 524287, 524287, 524287, 6815743, 16777215, 33554431, 67108863, 134217727, 134217727, 134217727, 1073741823, 2147483647, 4294967295]
theorem tabN12 : rtab .any (opsOf Try.f7 12) = TN12 := by kernel_rfl
theorem bitsN12 : waitsOk TN12.2 BN12 = true := by kernel_rfl
set_option maxHeartbeats 8000000 in
set_option maxRecDepth 100000 in
theorem walkN (a b : Int) (A : Option Addr) (c : Nat) (l : List Int) (w : World) (ha : I64 a) (hb0 : I64 b) (hc : l.length ≤ c) (hC : Kd.C (Kd.int .i64) w A l.length l) (hl : ∀ x ∈ l, I64 x) : Calls Try.prog 7 #[.int .i64 a, .int .i64 b, .slice A l.length c] w fun e w' => e = .returned (.bool true) ∧ Below w.heap.size w w' := by
  obtain ⟨m, t, hm1, hm2, hmt, hlt, hcase⟩ : ∃ (m : Nat) (t : List Int), m ≤ l.length ∧ m ≤ 30 ∧ t = l.take m ∧ t.length = m ∧ ((l.length ≤ 30 ∧ m = l.length) ∨ (30 < l.length ∧ m = 30)) := by
    by_cases h : l.length ≤ 30
    · exact ⟨l.length, l.take l.length, Nat.le_refl _, h, rfl, by rw [List.length_take]; omega, Or.inl ⟨h, rfl⟩⟩
    · exact ⟨30, l.take 30, by omega, Nat.le_refl _, rfl, by rw [List.length_take]; omega, Or.inr ⟨by omega, rfl⟩⟩
  have HT2 : Aside0 (∀ x ∈ t, I64 x) := ⟨fun x hx => by rw [hmt] at hx; exact hl x (List.mem_of_mem_take hx)⟩
  have HC : Aside0 (Kd.C (Kd.int .i64) w A t.length t) := ⟨by rw [hmt]; exact Kd.C_take hC hm1⟩
  have hcut := cut_i64 A c l m hm1 hc
  have hmin : Builtin.min2 (.int .i64 (l.length : Int)) (.int .i64 30) = pure (.int .i64 (m : Int)) := by
    rw [min2_int]
    rcases hcase with ⟨h1, h2⟩ | ⟨h1, h2⟩
    · rw [if_neg (by omega), h2]
    · rw [if_pos (by omega), h2]
      rfl
  have HLT := Aside0.mk hlt
  have hmc : m ≤ c := by omega
  clear hmt hlt hcase hl hC
  go_enter Try.func7, Try.ntmps7
  go_wp2_with fail
  refine (narrow_c (G := []) ha (fun g hg => by cases hg)).mono ?_
  rintro e w1 ⟨n1, A1, l1, c1, rfl, hN, hb⟩
  have HB_1 := Aside0.mk hb
  have N1_1 := Aside0.mk hN
  clear hb hN
  go_wp2_with fail
  refine (narrow_c (G := []) hb0 (fun g hg => by cases hg)).mono ?_
  rintro e w2 ⟨n2, A2, l2, c2, rfl, hN, hb⟩
  have HB_2 := Aside0.mk (below_step HB_1.out hb)
  have N1_2 := Aside0.mk (NV.below N1_1.out hb)
  have N2_2 := Aside0.mk hN
  clear hb hN N1_1 HB_1
  have hge2 := HB_2.out.size
  go_wp2_with fail
  refine (add64_c ha hb0).mono ?_
  rintro e w3 ⟨s1, e1, rfl, hI, hb⟩
  have HI1 := Aside0.mk hI
  have HX_3 := Aside0.mk (blk_below (g := w2.heap.size) (o := .cells #[.bool n1, .slice A1 l1 c1] 32 (0, 0)) (by exact blk_alloc (blk_new w2 _) _) hb)
  have HY_3 := Aside0.mk (blk_below (g := w2.heap.size + 1) (o := .cells #[.bool n2, .slice A2 l2 c2] 32 (0, 0)) (by exact new_at (by simp)) hb)
  have HB_3 := Aside0.mk (below_step (by exact below_alloc (below_alloc HB_2.out _) _) hb)
  have N1_3 := Aside0.mk (NV.below (by exact NV.alloc (NV.alloc N1_2.out _) _) hb)
  have N2_3 := Aside0.mk (NV.below (by exact NV.alloc (NV.alloc N2_2.out _) _) hb)
  clear hb hI HB_2 N1_2 N2_2
  go_wp2_with fail
  refine (sub64_c ha hb0).mono ?_
  rintro e w4 ⟨s2, e2, rfl, hI, hb⟩
  have HX_4 := Aside0.mk (blk_below HX_3.out hb)
  have HY_4 := Aside0.mk (blk_below HY_3.out hb)
  have HB_4 := Aside0.mk (below_step HB_3.out hb)
  have N1_4 := Aside0.mk (NV.below N1_3.out hb)
  have N2_4 := Aside0.mk (NV.below N2_3.out hb)
  clear HX_3 HY_3 HB_3 N1_3 N2_3
  rw [Int.sub_eq_add_neg] at hI
  have HI2 := Aside0.mk hI
  clear hb hI
  go_wp2_with fail
  refine (mul64_c ha hb0).mono ?_
  rintro e w5 ⟨s3, e3, rfl, hI, hb⟩
  have HX_5 := Aside0.mk (blk_below HX_4.out hb)
  have HY_5 := Aside0.mk (blk_below HY_4.out hb)
  have HB_5 := Aside0.mk (below_step HB_4.out hb)
  have N1_5 := Aside0.mk (NV.below N1_4.out hb)
  have N2_5 := Aside0.mk (NV.below N2_4.out hb)
  clear HX_4 HY_4 HB_4 N1_4 N2_4
  have HI3 := Aside0.mk hI
  clear hb hI
  go_wp2_with fail
  refine (sum_c HLT.out.symm (Kd.C_below HC.out HB_5.out) (by rw [HLT.out]; exact hmc) (by rw [HLT.out]; omega) HT2.out).mono ?_
  rintro e w6 ⟨s4, e4, rfl, hI, hb⟩
  have HX_6 := Aside0.mk (blk_below HX_5.out hb)
  have HY_6 := Aside0.mk (blk_below HY_5.out hb)
  have HB_6 := Aside0.mk (below_step HB_5.out hb)
  have N1_6 := Aside0.mk (NV.below N1_5.out hb)
  have N2_6 := Aside0.mk (NV.below N2_5.out hb)
  clear HX_5 HY_5 HB_5 N1_5 N2_5
  have HI4 := Aside0.mk hI
  clear hb hI
  have hge6 := HB_6.out.size
  have hge62 : w2.heap.size + 1 < w6.heap.size := blk_lt HY_6.out
  go_wp2
  go_loopw [18] (fun v18 wr => ∃ (k : Nat) (nu : Bool) (Au : Option Addr) (lu cu : Nat), k ≤ m ∧ v18 = .int .i64 k ∧ Aside0 (wr.heap[w6.heap.size]? = some (.cells #[.bool nu, .slice Au lu cu] 32 (0, 0))) ∧ Aside0 (NV [w6.heap.size] wr nu Au lu cu ((t.take k).sum) (5 + k)) ∧ Aside0 (wr.heap[w2.heap.size]? = some (.cells #[.bool n1, .slice A1 l1 c1] 32 (0, 0))) ∧ Aside0 (wr.heap[w2.heap.size + 1]? = some (.cells #[.bool n2, .slice A2 l2 c2] 32 (0, 0))) ∧ Aside0 (Below w.heap.size w wr) ∧ Aside0 (NV [w6.heap.size] wr n1 A1 l1 c1 a 5) ∧ Aside0 (NV [w6.heap.size] wr n2 A2 l2 c2 b 5)) (fun v18 _ => m - (intOf v18).toNat)
  case atStart =>
    exact ⟨0, false, none, 0, 0, Nat.zero_le _, rfl, ⟨by exact blk_new w6 _⟩, ⟨by simpa using (NV.zero _ _).le (m' := 5) (by omega)⟩, ⟨by exact blk_alloc HX_6.out _⟩, ⟨by exact blk_alloc HY_6.out _⟩, ⟨by exact below_alloc HB_6.out _⟩, ⟨by exact NV.sub (NV.alloc (NV.box N1_6.out) _) (fun g hg => by simp at hg; simp [hg])⟩, ⟨by exact NV.sub (NV.alloc (NV.box N2_6.out) _) (fun g hg => by simp at hg; simp [hg])⟩⟩
  case round =>
    clear HX_6 HY_6 HB_6 N1_6 N2_6
    obtain ⟨k, nu, Au, lu, cu, hk, rfl, HU, NU, HX, HY, HB, N1, N2⟩ := hrel
    have hge6r : w6.heap.size < wr.heap.size := blk_lt HU.out
    by_cases hkl : k < m
    · obtain ⟨ad, hA, he⟩ := el_at (Kd.C_below HC.out HB.out) (by rw [HLT.out]; exact hkl)
      subst hA
      clear he
      go_upto_region 11 with (fail)
      have HU_7 := Aside0.mk (blk_drew HU.out)
      have NU_7 := Aside0.mk (NV.drew NU.out)
      have HX_7 := Aside0.mk (blk_drew HX.out)
      have HY_7 := Aside0.mk (blk_drew HY.out)
      have HB_7 := Aside0.mk (below_drew1 HB.out)
      have N1_7 := Aside0.mk (NV.drew N1.out)
      have N2_7 := Aside0.mk (NV.drew N2.out)
      clear HU NU HX HY HB N1 N2
      refine start_ (n := 8) (S := fun w' => w'.cell? ⟨w6.heap.size, 0, none⟩ = some (.bool nu) ∧ w'.cell? ⟨w6.heap.size, 1, none⟩ = some (.slice Au lu cu) ∧ w'.cell? (ad.add k) = some (.int .i64 (rd t k))) (ds := [7]) #[false, false, false, false, false, false, false, false] (by kernel_rfl) rfl rfl ⟨(blk_cell HU_7.out 0).trans rfl, (blk_cell HU_7.out 1).trans rfl, (el_get (Kd.C_below HC.out HB_7.out) (by rw [HLT.out]; exact hkl))⟩ (fun hHeld => ?_)
      refine with_tabW tabN11 bitsN11 (fun HT_ HW_ => ?_)
      generalize wr.drew = wd at HU_7 NU_7 HX_7 HY_7 HB_7 N1_7 N2_7 hHeld ⊢
      refine take_ (i := 0) (N := some 58) (v := ?_) (a' := ?_) #[true, false, false, false, false, false, false, false] rfl rfl (take_ofW HT_.out HW_.out (by kernel_rfl)) (fun _ _ _ h => h) (Or.inl ⟨by rfl, ?_⟩) hHeld ?_ ?_
      rotate_left
      · rintro w' ⟨s0, s1, s2⟩
        go_simp
        with_reducible rfl
      rotate_left
      · simp only [Act.put, List.setIfInBounds_toArray, List.set_cons_zero, List.set_cons_succ, i64_w, i32_w]
        rfl
      refine pure_ (i := 1) (N := some 59) (v := ?_) (a' := ?_) #[true, true, false, false, false, false, false, false] rfl rfl (any_of HT_.out (by kernel_rfl)) (fun _ _ _ h => h) (Or.inl ⟨by rfl, ?_⟩) ?_ ?_
      rotate_left
      · intro w'
        go_simp
        with_reducible rfl
      rotate_left
      · simp only [Act.put, List.setIfInBounds_toArray, List.set_cons_zero, List.set_cons_succ, i64_w, i32_w]
        rfl
      refine pure_ (i := 2) (N := some 60) (v := ?_) (a' := ?_) #[true, true, true, false, false, false, false, false] rfl rfl (any_of HT_.out (by kernel_rfl)) (fun _ _ _ h => h) (Or.inl ⟨by rfl, ?_⟩) ?_ ?_
      rotate_left
      · intro w'
        go_simp
        with_reducible rfl
      rotate_left
      · simp only [Act.put, List.setIfInBounds_toArray, List.set_cons_zero, List.set_cons_succ, i64_w, i32_w]
        rfl
      refine pure_ (i := 3) (N := some 61) (v := ?_) (a' := ?_) #[true, true, true, true, false, false, false, false] rfl rfl (any_of HT_.out (by kernel_rfl)) (fun _ _ _ h => h) (Or.inl ⟨by rfl, ?_⟩) ?_ ?_
      rotate_left
      · intro w'
        go_simp
        with_reducible rfl
      rotate_left
      · simp only [Act.put, List.setIfInBounds_toArray, List.set_cons_zero, List.set_cons_succ, i64_w, i32_w]
        rfl
      refine take_ (i := 4) (N := some 62) (v := ?_) (a' := ?_) #[true, true, true, true, true, false, false, false] rfl rfl (take_ofW HT_.out HW_.out (by kernel_rfl)) (fun _ _ _ h => h) (Or.inl ⟨by rfl, ?_⟩) hHeld ?_ ?_
      rotate_left
      · rintro w' ⟨s0, s1, s2⟩
        go_simp
        with_reducible rfl
      rotate_left
      · simp only [Act.put, List.setIfInBounds_toArray, List.set_cons_zero, List.set_cons_succ, i64_w, i32_w]
        rfl
      refine one_ (i := 5) (N := some 63) #[true, true, true, true, true, true, false, false] rfl rfl (one_of HT_.out (by kernel_rfl)) (by decide) (fun K hK => ?_)
      refine goes_ Try.func12 (by kernel_rfl) rfl #[.int .i64 (rd t k)] (by rfl) rfl rfl (by (try simp only [List.map_toArray, List.map_cons, List.map_nil]); first | done | rfl) ?_
      refine (narrow_c (G := []) (HT2.out _ (rd_mem (by rw [HLT.out]; exact hkl))) (fun g hg => by cases hg)).mono ?_
      rintro e w107 ⟨n3, A3, l3, c3, rfl, hN, hb⟩
      refine ⟨_, rfl, ?_⟩
      have HU_8 := Aside0.mk (blk_below HU_7.out hb)
      have NU_8 := Aside0.mk (NV.below NU_7.out hb)
      have HX_8 := Aside0.mk (blk_below HX_7.out hb)
      have HY_8 := Aside0.mk (blk_below HY_7.out hb)
      have HB_8 := Aside0.mk (below_step HB_7.out hb)
      have N1_8 := Aside0.mk (NV.below N1_7.out hb)
      have N2_8 := Aside0.mk (NV.below N2_7.out hb)
      clear HU_7 NU_7 HX_7 HY_7 HB_7 N1_7 N2_7
      have N3_8 := Aside0.mk hN
      clear hN
      clear hb
      refine hK.out _ _ ⟨(blk_cell HU_8.out 0).trans rfl, (blk_cell HU_8.out 1).trans rfl, (el_get (Kd.C_below HC.out HB_8.out) (by rw [HLT.out]; exact hkl))⟩ (fun hHeld => ?_)
      clear hK K
      refine norm_ (a' := ?_) ?_ ?_
      rotate_left
      · show Act.put _ (some 63) _ = _
        simp only [Act.put, List.setIfInBounds_toArray, List.set_cons_zero, List.set_cons_succ, i64_w, i32_w]
        rfl
      refine one_ (i := 6) (N := some 64) #[true, true, true, true, true, true, true, false] rfl rfl (one_of HT_.out (by kernel_rfl)) (by decide) (fun K hK => ?_)
      refine goes_ Try.func21 (by kernel_rfl) rfl #[.agg #[.bool nu, .slice Au lu cu], .agg #[.bool n3, .slice A3 l3 c3]] (by rfl) rfl rfl (by (try simp only [List.map_toArray, List.map_cons, List.map_nil]); first | done | rfl) ?_
      refine (add_c (G := [w6.heap.size]) NU_8.out N3_8.out (by omega) (by omega) (fun g hg => by rw [List.mem_singleton.1 hg]; exact blk_lt HU_8.out)).mono ?_
      rintro e w108 ⟨n4, A4, l4, c4, rfl, hN, hb⟩
      refine ⟨_, rfl, ?_⟩
      have HU_9 := Aside0.mk (blk_below HU_8.out hb)
      have HX_9 := Aside0.mk (blk_below HX_8.out hb)
      have HY_9 := Aside0.mk (blk_below HY_8.out hb)
      have HB_9 := Aside0.mk (below_step HB_8.out hb)
      have N1_9 := Aside0.mk (NV.below N1_8.out hb)
      have N2_9 := Aside0.mk (NV.below N2_8.out hb)
      clear HU_8 HX_8 HY_8 HB_8 N1_8 N2_8
      have N4_9 := Aside0.mk hN
      clear hN
      clear hb
      refine hK.out _ _ ⟨(blk_cell HU_9.out 0).trans rfl, (blk_cell HU_9.out 1).trans rfl, (el_get (Kd.C_below HC.out HB_9.out) (by rw [HLT.out]; exact hkl))⟩ (fun hHeld => ?_)
      clear hK K
      refine norm_ (a' := ?_) ?_ ?_
      rotate_left
      · show Act.put _ (some 64) _ = _
        simp only [Act.put, List.setIfInBounds_toArray, List.set_cons_zero, List.set_cons_succ, i64_w, i32_w]
        rfl
      refine last_ (i := 7) (N := none) #[true, true, true, true, true, true, true, true] rfl rfl (one_of HT_.out (by kernel_rfl)) (by decide) (fun K hK => ?_)
      have hf0 := blk_frozen HU_9.out 0
      have hf1 := blk_frozen HU_9.out 1
      have hlt6 := blk_lt HU_9.out
      refine skip_ (w1 := ?_) (by rfl) rfl ?_ ?_
      rotate_left
      · go_simp
        rfl
      refine hK.out _ _ ?_
      clear hK K
      refine done_ (done_of HT_.out (by kernel_rfl)) ?_
      go_wp2
      go_roundw
      case rel => exact ⟨k + 1, n4, A4, l4, c4, hkl, by go_num, ⟨(blk_put (blk_put HU_9.out 0 _ rfl) 1 _ rfl)⟩, ⟨by rw [sum_take (by rw [HLT.out]; exact hkl)]; exact (NV.set (NV.set N4_9.out (by simp) _) (by simp) _).le (max5 k)⟩, ⟨(blk_far (p := ⟨w6.heap.size, 1, none⟩) (blk_far (p := ⟨w6.heap.size, 0, none⟩) HX_9.out (Nat.ne_of_lt (Nat.lt_of_succ_lt hge62)) _) (Nat.ne_of_lt (Nat.lt_of_succ_lt hge62)) _)⟩, ⟨(blk_far (p := ⟨w6.heap.size, 1, none⟩) (blk_far (p := ⟨w6.heap.size, 0, none⟩) HY_9.out (Nat.ne_of_lt hge62) _) (Nat.ne_of_lt hge62) _)⟩, ⟨below_set (below_set HB_9.out hge6) hge6⟩, ⟨(NV.set (NV.set N1_9.out (by simp) _) (by simp) _)⟩, ⟨(NV.set (NV.set N2_9.out (by simp) _) (by simp) _)⟩⟩
      case measure => simp [intOf]; omega
    · have hkm : k = m := by omega
      subst hkm
      have NU2 := NU.out
      rw [List.take_of_length_le (by rw [HLT.out]; omega)] at NU2
      clear NU
      have NU := Aside0.mk NU2
      clear NU2
      go_upto_region 12 with (fail)
      have HU_10 := Aside0.mk (blk_drew HU.out)
      have NU_10 := Aside0.mk (NV.drew NU.out)
      have HX_10 := Aside0.mk (blk_drew HX.out)
      have HY_10 := Aside0.mk (blk_drew HY.out)
      have HB_10 := Aside0.mk (below_drew1 HB.out)
      have N1_10 := Aside0.mk (NV.drew N1.out)
      have N2_10 := Aside0.mk (NV.drew N2.out)
      clear HU NU HX HY HB N1 N2
      refine start_ (n := 33) (S := fun w' => w'.cell? ⟨w2.heap.size, 0, none⟩ = some (.bool n1) ∧ w'.cell? ⟨w2.heap.size, 1, none⟩ = some (.slice A1 l1 c1) ∧ w'.cell? ⟨w2.heap.size + 1, 0, none⟩ = some (.bool n2) ∧ w'.cell? ⟨w2.heap.size + 1, 1, none⟩ = some (.slice A2 l2 c2) ∧ w'.cell? ⟨w6.heap.size, 0, none⟩ = some (.bool nu) ∧ w'.cell? ⟨w6.heap.size, 1, none⟩ = some (.slice Au lu cu)) (ds := []) #[false, false, false, false, false, false, false, false, false, false, false, false, false, false, false, false, false, false, false, false, false, false, false, false, false, false, false, false, false, false, false, false, false] (by kernel_rfl) rfl rfl ⟨(blk_cell HX_10.out 0).trans rfl, (blk_cell HX_10.out 1).trans rfl, (blk_cell HY_10.out 0).trans rfl, (blk_cell HY_10.out 1).trans rfl, (blk_cell HU_10.out 0).trans rfl, (blk_cell HU_10.out 1).trans rfl⟩ (fun hHeld => ?_)
      refine with_tabW tabN12 bitsN12 (fun HT_ HW_ => ?_)
      generalize wr.drew = we at HU_10 NU_10 HX_10 HY_10 HB_10 N1_10 N2_10 hHeld ⊢
      refine one_ (i := 0) (N := some 65) #[true, false, false, false, false, false, false, false, false, false, false, false, false, false, false, false, false, false, false, false, false, false, false, false, false, false, false, false, false, false, false, false, false] rfl rfl (one_of HT_.out (by kernel_rfl)) (by decide) (fun K hK => ?_)
      refine goes_ Try.func9 (by kernel_rfl) rfl #[] (by rfl) rfl rfl (by (try simp only [List.map_toArray, List.map_cons, List.map_nil]); first | done | rfl) ?_
      refine (known_c).mono ?_
      rintro e w110 ⟨rfl, hb⟩
      refine ⟨_, rfl, ?_⟩
      have HU_11 := Aside0.mk (blk_below HU_10.out hb)
      have NU_11 := Aside0.mk (NV.below NU_10.out hb)
      have HX_11 := Aside0.mk (blk_below HX_10.out hb)
      have HY_11 := Aside0.mk (blk_below HY_10.out hb)
      have HB_11 := Aside0.mk (below_step HB_10.out hb)
      have N1_11 := Aside0.mk (NV.below N1_10.out hb)
      have N2_11 := Aside0.mk (NV.below N2_10.out hb)
      clear HU_10 NU_10 HX_10 HY_10 HB_10 N1_10 N2_10
      clear hb
      refine hK.out _ _ ⟨(blk_cell HX_11.out 0).trans rfl, (blk_cell HX_11.out 1).trans rfl, (blk_cell HY_11.out 0).trans rfl, (blk_cell HY_11.out 1).trans rfl, (blk_cell HU_11.out 0).trans rfl, (blk_cell HU_11.out 1).trans rfl⟩ (fun hHeld => ?_)
      clear hK K
      refine norm_ (a' := ?_) ?_ ?_
      rotate_left
      · show Act.put _ (some 65) _ = _
        simp only [Act.put, List.setIfInBounds_toArray, List.set_cons_zero, List.set_cons_succ, i64_w, i32_w]
        rfl
      refine pure_ (i := 1) (N := some 66) (v := ?_) (a' := ?_) #[true, true, false, false, false, false, false, false, false, false, false, false, false, false, false, false, false, false, false, false, false, false, false, false, false, false, false, false, false, false, false, false, false] rfl rfl (any_of HT_.out (by kernel_rfl)) (fun _ _ _ h => h) (Or.inl ⟨by rfl, ?_⟩) ?_ ?_
      rotate_left
      · intro w'
        go_simp
        with_reducible rfl
      rotate_left
      · simp only [Act.put, List.setIfInBounds_toArray, List.set_cons_zero, List.set_cons_succ, i64_w, i32_w]
        rfl
      refine pure_ (i := 2) (N := some 67) (v := ?_) (a' := ?_) #[true, true, true, false, false, false, false, false, false, false, false, false, false, false, false, false, false, false, false, false, false, false, false, false, false, false, false, false, false, false, false, false, false] rfl rfl (any_of HT_.out (by kernel_rfl)) (fun _ _ _ h => h) (Or.inl ⟨by rfl, ?_⟩) ?_ ?_
      rotate_left
      · intro w'
        go_simp
        with_reducible rfl
      rotate_left
      · simp only [Act.put, List.setIfInBounds_toArray, List.set_cons_zero, List.set_cons_succ, i64_w, i32_w]
        rfl
      refine pure_ (i := 3) (N := some 68) (v := ?_) (a' := ?_) #[true, true, true, true, false, false, false, false, false, false, false, false, false, false, false, false, false, false, false, false, false, false, false, false, false, false, false, false, false, false, false, false, false] rfl rfl (any_of HT_.out (by kernel_rfl)) (fun _ _ _ h => h) (Or.inl ⟨by rfl, ?_⟩) ?_ ?_
      rotate_left
      · intro w'
        go_simp
        with_reducible rfl
      rotate_left
      · simp only [Act.put, List.setIfInBounds_toArray, List.set_cons_zero, List.set_cons_succ, i64_w, i32_w]
        rfl
      refine take_ (i := 4) (N := some 69) (v := ?_) (a' := ?_) #[true, true, true, true, true, false, false, false, false, false, false, false, false, false, false, false, false, false, false, false, false, false, false, false, false, false, false, false, false, false, false, false, false] rfl rfl (take_ofW HT_.out HW_.out (by kernel_rfl)) (fun _ _ _ h => h) (Or.inl ⟨by rfl, ?_⟩) hHeld ?_ ?_
      rotate_left
      · rintro w' ⟨s0, s1, s2, s3, s4, s5⟩
        go_simp
        with_reducible rfl
      rotate_left
      · simp only [Act.put, List.setIfInBounds_toArray, List.set_cons_zero, List.set_cons_succ, i64_w, i32_w]
        rfl
      refine take_ (i := 5) (N := some 70) (v := ?_) (a' := ?_) #[true, true, true, true, true, true, false, false, false, false, false, false, false, false, false, false, false, false, false, false, false, false, false, false, false, false, false, false, false, false, false, false, false] rfl rfl (take_ofW HT_.out HW_.out (by kernel_rfl)) (fun _ _ _ h => h) (Or.inl ⟨by rfl, ?_⟩) hHeld ?_ ?_
      rotate_left
      · rintro w' ⟨s0, s1, s2, s3, s4, s5⟩
        go_simp
        with_reducible rfl
      rotate_left
      · simp only [Act.put, List.setIfInBounds_toArray, List.set_cons_zero, List.set_cons_succ, i64_w, i32_w]
        rfl
      refine one_ (i := 6) (N := some 71) #[true, true, true, true, true, true, true, false, false, false, false, false, false, false, false, false, false, false, false, false, false, false, false, false, false, false, false, false, false, false, false, false, false] rfl rfl (one_of HT_.out (by kernel_rfl)) (by decide) (fun K hK => ?_)
      refine goes_ Try.func21 (by kernel_rfl) rfl #[.agg #[.bool n1, .slice A1 l1 c1], .agg #[.bool n2, .slice A2 l2 c2]] (by rfl) rfl rfl (by (try simp only [List.map_toArray, List.map_cons, List.map_nil]); first | done | rfl) ?_
      refine (add_c (G := []) N1_11.out N2_11.out (by omega) (by omega) (fun g hg => by cases hg)).mono ?_
      rintro e w111 ⟨n12, A12, l12, c12, rfl, hN, hb⟩
      refine ⟨_, rfl, ?_⟩
      have HU_12 := Aside0.mk (blk_below HU_11.out hb)
      have NU_12 := Aside0.mk (NV.below NU_11.out hb)
      have HX_12 := Aside0.mk (blk_below HX_11.out hb)
      have HY_12 := Aside0.mk (blk_below HY_11.out hb)
      have HB_12 := Aside0.mk (below_step HB_11.out hb)
      have N1_12 := Aside0.mk (NV.below N1_11.out hb)
      have N2_12 := Aside0.mk (NV.below N2_11.out hb)
      clear HU_11 NU_11 HX_11 HY_11 HB_11 N1_11 N2_11
      have HN12_12 := Aside0.mk hN
      clear hN
      clear hb
      refine hK.out _ _ ⟨(blk_cell HX_12.out 0).trans rfl, (blk_cell HX_12.out 1).trans rfl, (blk_cell HY_12.out 0).trans rfl, (blk_cell HY_12.out 1).trans rfl, (blk_cell HU_12.out 0).trans rfl, (blk_cell HU_12.out 1).trans rfl⟩ (fun hHeld => ?_)
      clear hK K
      refine norm_ (a' := ?_) ?_ ?_
      rotate_left
      · show Act.put _ (some 71) _ = _
        simp only [Act.put, List.setIfInBounds_toArray, List.set_cons_zero, List.set_cons_succ, i64_w, i32_w]
        rfl
      refine one_ (i := 7) (N := some 72) #[true, true, true, true, true, true, true, true, false, false, false, false, false, false, false, false, false, false, false, false, false, false, false, false, false, false, false, false, false, false, false, false, false] rfl rfl (one_of HT_.out (by kernel_rfl)) (by decide) (fun K hK => ?_)
      refine goes_ Try.func29 (by kernel_rfl) rfl #[.int .i64 s1, .int .i64 e1, .agg #[.bool n12, .slice A12 l12 c12]] (by rfl) rfl rfl (by (try simp only [List.map_toArray, List.map_cons, List.map_nil]); first | done | rfl) ?_
      refine (judge64_c HI1.out HN12_12.out).mono ?_
      rintro e w112 ⟨rfl, hb⟩
      refine ⟨_, rfl, ?_⟩
      have HU_13 := Aside0.mk (blk_below HU_12.out hb)
      have NU_13 := Aside0.mk (NV.below NU_12.out hb)
      have HX_13 := Aside0.mk (blk_below HX_12.out hb)
      have HY_13 := Aside0.mk (blk_below HY_12.out hb)
      have HB_13 := Aside0.mk (below_step HB_12.out hb)
      have N1_13 := Aside0.mk (NV.below N1_12.out hb)
      have N2_13 := Aside0.mk (NV.below N2_12.out hb)
      clear HU_12 NU_12 HX_12 HY_12 HB_12 N1_12 N2_12
      clear hb
      refine hK.out _ _ ⟨(blk_cell HX_13.out 0).trans rfl, (blk_cell HX_13.out 1).trans rfl, (blk_cell HY_13.out 0).trans rfl, (blk_cell HY_13.out 1).trans rfl, (blk_cell HU_13.out 0).trans rfl, (blk_cell HU_13.out 1).trans rfl⟩ (fun hHeld => ?_)
      clear hK K
      refine norm_ (a' := ?_) ?_ ?_
      rotate_left
      · show Act.put _ (some 72) _ = _
        simp only [Act.put, List.setIfInBounds_toArray, List.set_cons_zero, List.set_cons_succ, i64_w, i32_w]
        rfl
      refine pure_ (i := 8) (N := some 73) (v := ?_) (a' := ?_) #[true, true, true, true, true, true, true, true, true, false, false, false, false, false, false, false, false, false, false, false, false, false, false, false, false, false, false, false, false, false, false, false, false] rfl rfl (any_of HT_.out (by kernel_rfl)) (fun _ _ _ h => h) (Or.inl ⟨by rfl, ?_⟩) ?_ ?_
      rotate_left
      · intro w'
        go_simp
        with_reducible rfl
      rotate_left
      · simp only [Act.put, List.setIfInBounds_toArray, List.set_cons_zero, List.set_cons_succ, i64_w, i32_w]
        rfl
      refine pure_ (i := 9) (N := some 74) (v := ?_) (a' := ?_) #[true, true, true, true, true, true, true, true, true, true, false, false, false, false, false, false, false, false, false, false, false, false, false, false, false, false, false, false, false, false, false, false, false] rfl rfl (any_of HT_.out (by kernel_rfl)) (fun _ _ _ h => h) (Or.inl ⟨by rfl, ?_⟩) ?_ ?_
      rotate_left
      · intro w'
        go_simp
        with_reducible rfl
      rotate_left
      · simp only [Act.put, List.setIfInBounds_toArray, List.set_cons_zero, List.set_cons_succ, i64_w, i32_w]
        rfl
      refine pure_ (i := 10) (N := some 75) (v := ?_) (a' := ?_) #[true, true, true, true, true, true, true, true, true, true, true, false, false, false, false, false, false, false, false, false, false, false, false, false, false, false, false, false, false, false, false, false, false] rfl rfl (any_of HT_.out (by kernel_rfl)) (fun _ _ _ h => h) (Or.inl ⟨by rfl, ?_⟩) ?_ ?_
      rotate_left
      · intro w'
        go_simp
        with_reducible rfl
      rotate_left
      · simp only [Act.put, List.setIfInBounds_toArray, List.set_cons_zero, List.set_cons_succ, i64_w, i32_w]
        rfl
      refine pure_ (i := 11) (N := some 76) (v := ?_) (a' := ?_) #[true, true, true, true, true, true, true, true, true, true, true, true, false, false, false, false, false, false, false, false, false, false, false, false, false, false, false, false, false, false, false, false, false] rfl rfl (any_of HT_.out (by kernel_rfl)) (fun _ _ _ h => h) (Or.inl ⟨by rfl, ?_⟩) ?_ ?_
      rotate_left
      · intro w'
        go_simp
        with_reducible rfl
      rotate_left
      · simp only [Act.put, List.setIfInBounds_toArray, List.set_cons_zero, List.set_cons_succ, i64_w, i32_w]
        rfl
      refine take_ (i := 12) (N := some 77) (v := ?_) (a' := ?_) #[true, true, true, true, true, true, true, true, true, true, true, true, true, false, false, false, false, false, false, false, false, false, false, false, false, false, false, false, false, false, false, false, false] rfl rfl (take_ofW HT_.out HW_.out (by kernel_rfl)) (fun _ _ _ h => h) (Or.inl ⟨by rfl, ?_⟩) hHeld ?_ ?_
      rotate_left
      · rintro w' ⟨s0, s1, s2, s3, s4, s5⟩
        go_simp
        with_reducible rfl
      rotate_left
      · simp only [Act.put, List.setIfInBounds_toArray, List.set_cons_zero, List.set_cons_succ, i64_w, i32_w]
        rfl
      refine take_ (i := 13) (N := some 78) (v := ?_) (a' := ?_) #[true, true, true, true, true, true, true, true, true, true, true, true, true, true, false, false, false, false, false, false, false, false, false, false, false, false, false, false, false, false, false, false, false] rfl rfl (take_ofW HT_.out HW_.out (by kernel_rfl)) (fun _ _ _ h => h) (Or.inl ⟨by rfl, ?_⟩) hHeld ?_ ?_
      rotate_left
      · rintro w' ⟨s0, s1, s2, s3, s4, s5⟩
        go_simp
        with_reducible rfl
      rotate_left
      · simp only [Act.put, List.setIfInBounds_toArray, List.set_cons_zero, List.set_cons_succ, i64_w, i32_w]
        rfl
      refine one_ (i := 14) (N := some 79) #[true, true, true, true, true, true, true, true, true, true, true, true, true, true, true, false, false, false, false, false, false, false, false, false, false, false, false, false, false, false, false, false, false] rfl rfl (one_of HT_.out (by kernel_rfl)) (by decide) (fun K hK => ?_)
      refine goes_ Try.func22 (by kernel_rfl) rfl #[.agg #[.bool n2, .slice A2 l2 c2]] (by rfl) rfl rfl (by (try simp only [List.map_toArray, List.map_cons, List.map_nil]); first | done | rfl) ?_
      refine (neg_c (G := []) (NV.sub (G' := []) N2_13.out (fun g hg => by cases hg)) (fun g hg => by cases hg)).mono ?_
      rintro e w113 ⟨n14, A14, l14, c14, rfl, hN, hb⟩
      refine ⟨_, rfl, ?_⟩
      have HU_14 := Aside0.mk (blk_below HU_13.out hb)
      have NU_14 := Aside0.mk (NV.below NU_13.out hb)
      have HX_14 := Aside0.mk (blk_below HX_13.out hb)
      have HY_14 := Aside0.mk (blk_below HY_13.out hb)
      have HB_14 := Aside0.mk (below_step HB_13.out hb)
      have N1_14 := Aside0.mk (NV.below N1_13.out hb)
      have N2_14 := Aside0.mk (NV.below N2_13.out hb)
      clear HU_13 NU_13 HX_13 HY_13 HB_13 N1_13 N2_13
      have HN14_14 := Aside0.mk hN
      clear hN
      clear hb
      refine hK.out _ _ ⟨(blk_cell HX_14.out 0).trans rfl, (blk_cell HX_14.out 1).trans rfl, (blk_cell HY_14.out 0).trans rfl, (blk_cell HY_14.out 1).trans rfl, (blk_cell HU_14.out 0).trans rfl, (blk_cell HU_14.out 1).trans rfl⟩ (fun hHeld => ?_)
      clear hK K
      refine norm_ (a' := ?_) ?_ ?_
      rotate_left
      · show Act.put _ (some 79) _ = _
        simp only [Act.put, List.setIfInBounds_toArray, List.set_cons_zero, List.set_cons_succ, i64_w, i32_w]
        rfl
      refine one_ (i := 15) (N := some 80) #[true, true, true, true, true, true, true, true, true, true, true, true, true, true, true, true, false, false, false, false, false, false, false, false, false, false, false, false, false, false, false, false, false] rfl rfl (one_of HT_.out (by kernel_rfl)) (by decide) (fun K hK => ?_)
      refine goes_ Try.func21 (by kernel_rfl) rfl #[.agg #[.bool n1, .slice A1 l1 c1], .agg #[.bool n14, .slice A14 l14 c14]] (by rfl) rfl rfl (by (try simp only [List.map_toArray, List.map_cons, List.map_nil]); first | done | rfl) ?_
      refine (add_c (G := []) N1_14.out HN14_14.out (by omega) (by omega) (fun g hg => by cases hg)).mono ?_
      rintro e w114 ⟨n15, A15, l15, c15, rfl, hN, hb⟩
      refine ⟨_, rfl, ?_⟩
      have HU_15 := Aside0.mk (blk_below HU_14.out hb)
      have NU_15 := Aside0.mk (NV.below NU_14.out hb)
      have HX_15 := Aside0.mk (blk_below HX_14.out hb)
      have HY_15 := Aside0.mk (blk_below HY_14.out hb)
      have HB_15 := Aside0.mk (below_step HB_14.out hb)
      have N1_15 := Aside0.mk (NV.below N1_14.out hb)
      have N2_15 := Aside0.mk (NV.below N2_14.out hb)
      have HN14_15 := Aside0.mk (NV.below HN14_14.out hb)
      clear HU_14 NU_14 HX_14 HY_14 HB_14 N1_14 N2_14 HN14_14
      have HN15_15 := Aside0.mk hN
      clear hN
      clear hb
      refine hK.out _ _ ⟨(blk_cell HX_15.out 0).trans rfl, (blk_cell HX_15.out 1).trans rfl, (blk_cell HY_15.out 0).trans rfl, (blk_cell HY_15.out 1).trans rfl, (blk_cell HU_15.out 0).trans rfl, (blk_cell HU_15.out 1).trans rfl⟩ (fun hHeld => ?_)
      clear hK K
      refine norm_ (a' := ?_) ?_ ?_
      rotate_left
      · show Act.put _ (some 80) _ = _
        simp only [Act.put, List.setIfInBounds_toArray, List.set_cons_zero, List.set_cons_succ, i64_w, i32_w]
        rfl
      refine one_ (i := 16) (N := some 81) #[true, true, true, true, true, true, true, true, true, true, true, true, true, true, true, true, true, false, false, false, false, false, false, false, false, false, false, false, false, false, false, false, false] rfl rfl (one_of HT_.out (by kernel_rfl)) (by decide) (fun K hK => ?_)
      refine goes_ Try.func29 (by kernel_rfl) rfl #[.int .i64 s2, .int .i64 e2, .agg #[.bool n15, .slice A15 l15 c15]] (by rfl) rfl rfl (by (try simp only [List.map_toArray, List.map_cons, List.map_nil]); first | done | rfl) ?_
      refine (judge64_c HI2.out HN15_15.out).mono ?_
      rintro e w115 ⟨rfl, hb⟩
      refine ⟨_, rfl, ?_⟩
      have HU_16 := Aside0.mk (blk_below HU_15.out hb)
      have NU_16 := Aside0.mk (NV.below NU_15.out hb)
      have HX_16 := Aside0.mk (blk_below HX_15.out hb)
      have HY_16 := Aside0.mk (blk_below HY_15.out hb)
      have HB_16 := Aside0.mk (below_step HB_15.out hb)
      have N1_16 := Aside0.mk (NV.below N1_15.out hb)
      have N2_16 := Aside0.mk (NV.below N2_15.out hb)
      have HN14_16 := Aside0.mk (NV.below HN14_15.out hb)
      clear HU_15 NU_15 HX_15 HY_15 HB_15 N1_15 N2_15 HN14_15
      clear hb
      refine hK.out _ _ ⟨(blk_cell HX_16.out 0).trans rfl, (blk_cell HX_16.out 1).trans rfl, (blk_cell HY_16.out 0).trans rfl, (blk_cell HY_16.out 1).trans rfl, (blk_cell HU_16.out 0).trans rfl, (blk_cell HU_16.out 1).trans rfl⟩ (fun hHeld => ?_)
      clear hK K
      refine norm_ (a' := ?_) ?_ ?_
      rotate_left
      · show Act.put _ (some 81) _ = _
        simp only [Act.put, List.setIfInBounds_toArray, List.set_cons_zero, List.set_cons_succ, i64_w, i32_w]
        rfl
      refine pure_ (i := 17) (N := some 82) (v := ?_) (a' := ?_) #[true, true, true, true, true, true, true, true, true, true, true, true, true, true, true, true, true, true, false, false, false, false, false, false, false, false, false, false, false, false, false, false, false] rfl rfl (any_of HT_.out (by kernel_rfl)) (fun _ _ _ h => h) (Or.inl ⟨by rfl, ?_⟩) ?_ ?_
      rotate_left
      · intro w'
        go_simp
        with_reducible rfl
      rotate_left
      · simp only [Act.put, List.setIfInBounds_toArray, List.set_cons_zero, List.set_cons_succ, i64_w, i32_w]
        rfl
      refine pure_ (i := 18) (N := some 83) (v := ?_) (a' := ?_) #[true, true, true, true, true, true, true, true, true, true, true, true, true, true, true, true, true, true, true, false, false, false, false, false, false, false, false, false, false, false, false, false, false] rfl rfl (any_of HT_.out (by kernel_rfl)) (fun _ _ _ h => h) (Or.inl ⟨by rfl, ?_⟩) ?_ ?_
      rotate_left
      · intro w'
        go_simp
        with_reducible rfl
      rotate_left
      · simp only [Act.put, List.setIfInBounds_toArray, List.set_cons_zero, List.set_cons_succ, i64_w, i32_w]
        rfl
      refine pure_ (i := 19) (N := some 84) (v := ?_) (a' := ?_) #[true, true, true, true, true, true, true, true, true, true, true, true, true, true, true, true, true, true, true, true, false, false, false, false, false, false, false, false, false, false, false, false, false] rfl rfl (any_of HT_.out (by kernel_rfl)) (fun _ _ _ h => h) (Or.inl ⟨by rfl, ?_⟩) ?_ ?_
      rotate_left
      · intro w'
        go_simp
        with_reducible rfl
      rotate_left
      · simp only [Act.put, List.setIfInBounds_toArray, List.set_cons_zero, List.set_cons_succ, i64_w, i32_w]
        rfl
      refine pure_ (i := 20) (N := some 85) (v := ?_) (a' := ?_) #[true, true, true, true, true, true, true, true, true, true, true, true, true, true, true, true, true, true, true, true, true, false, false, false, false, false, false, false, false, false, false, false, false] rfl rfl (any_of HT_.out (by kernel_rfl)) (fun _ _ _ h => h) (Or.inl ⟨by rfl, ?_⟩) ?_ ?_
      rotate_left
      · intro w'
        go_simp
        with_reducible rfl
      rotate_left
      · simp only [Act.put, List.setIfInBounds_toArray, List.set_cons_zero, List.set_cons_succ, i64_w, i32_w]
        rfl
      refine take_ (i := 21) (N := some 86) (v := ?_) (a' := ?_) #[true, true, true, true, true, true, true, true, true, true, true, true, true, true, true, true, true, true, true, true, true, true, false, false, false, false, false, false, false, false, false, false, false] rfl rfl (take_ofW HT_.out HW_.out (by kernel_rfl)) (fun _ _ _ h => h) (Or.inl ⟨by rfl, ?_⟩) hHeld ?_ ?_
      rotate_left
      · rintro w' ⟨s0, s1, s2, s3, s4, s5⟩
        go_simp
        with_reducible rfl
      rotate_left
      · simp only [Act.put, List.setIfInBounds_toArray, List.set_cons_zero, List.set_cons_succ, i64_w, i32_w]
        rfl
      refine take_ (i := 22) (N := some 87) (v := ?_) (a' := ?_) #[true, true, true, true, true, true, true, true, true, true, true, true, true, true, true, true, true, true, true, true, true, true, true, false, false, false, false, false, false, false, false, false, false] rfl rfl (take_ofW HT_.out HW_.out (by kernel_rfl)) (fun _ _ _ h => h) (Or.inl ⟨by rfl, ?_⟩) hHeld ?_ ?_
      rotate_left
      · rintro w' ⟨s0, s1, s2, s3, s4, s5⟩
        go_simp
        with_reducible rfl
      rotate_left
      · simp only [Act.put, List.setIfInBounds_toArray, List.set_cons_zero, List.set_cons_succ, i64_w, i32_w]
        rfl
      refine one_ (i := 23) (N := some 88) #[true, true, true, true, true, true, true, true, true, true, true, true, true, true, true, true, true, true, true, true, true, true, true, true, false, false, false, false, false, false, false, false, false] rfl rfl (one_of HT_.out (by kernel_rfl)) (by decide) (fun K hK => ?_)
      refine goes_ Try.func26 (by kernel_rfl) rfl #[.agg #[.bool n1, .slice A1 l1 c1], .agg #[.bool n2, .slice A2 l2 c2]] (by rfl) rfl rfl (by (try simp only [List.map_toArray, List.map_cons, List.map_nil]); first | done | rfl) ?_
      refine (mul_c (G := []) N1_16.out N2_16.out (by omega) (by omega) (fun g hg => by cases hg)).mono ?_
      rintro e w116 ⟨n17, A17, l17, c17, rfl, hN, hb⟩
      refine ⟨_, rfl, ?_⟩
      have HU_17 := Aside0.mk (blk_below HU_16.out hb)
      have NU_17 := Aside0.mk (NV.below NU_16.out hb)
      have HX_17 := Aside0.mk (blk_below HX_16.out hb)
      have HY_17 := Aside0.mk (blk_below HY_16.out hb)
      have HB_17 := Aside0.mk (below_step HB_16.out hb)
      have N1_17 := Aside0.mk (NV.below N1_16.out hb)
      have N2_17 := Aside0.mk (NV.below N2_16.out hb)
      have HN14_17 := Aside0.mk (NV.below HN14_16.out hb)
      clear HU_16 NU_16 HX_16 HY_16 HB_16 N1_16 N2_16 HN14_16
      have HN17_17 := Aside0.mk hN
      clear hN
      clear hb
      refine hK.out _ _ ⟨(blk_cell HX_17.out 0).trans rfl, (blk_cell HX_17.out 1).trans rfl, (blk_cell HY_17.out 0).trans rfl, (blk_cell HY_17.out 1).trans rfl, (blk_cell HU_17.out 0).trans rfl, (blk_cell HU_17.out 1).trans rfl⟩ (fun hHeld => ?_)
      clear hK K
      refine norm_ (a' := ?_) ?_ ?_
      rotate_left
      · show Act.put _ (some 88) _ = _
        simp only [Act.put, List.setIfInBounds_toArray, List.set_cons_zero, List.set_cons_succ, i64_w, i32_w]
        rfl
      refine one_ (i := 24) (N := some 89) #[true, true, true, true, true, true, true, true, true, true, true, true, true, true, true, true, true, true, true, true, true, true, true, true, true, false, false, false, false, false, false, false, false] rfl rfl (one_of HT_.out (by kernel_rfl)) (by decide) (fun K hK => ?_)
      refine goes_ Try.func29 (by kernel_rfl) rfl #[.int .i64 s3, .int .i64 e3, .agg #[.bool n17, .slice A17 l17 c17]] (by rfl) rfl rfl (by (try simp only [List.map_toArray, List.map_cons, List.map_nil]); first | done | rfl) ?_
      refine (judge64_c HI3.out HN17_17.out).mono ?_
      rintro e w117 ⟨rfl, hb⟩
      refine ⟨_, rfl, ?_⟩
      have HU_18 := Aside0.mk (blk_below HU_17.out hb)
      have NU_18 := Aside0.mk (NV.below NU_17.out hb)
      have HX_18 := Aside0.mk (blk_below HX_17.out hb)
      have HY_18 := Aside0.mk (blk_below HY_17.out hb)
      have HB_18 := Aside0.mk (below_step HB_17.out hb)
      have N1_18 := Aside0.mk (NV.below N1_17.out hb)
      have N2_18 := Aside0.mk (NV.below N2_17.out hb)
      have HN14_18 := Aside0.mk (NV.below HN14_17.out hb)
      clear HU_17 NU_17 HX_17 HY_17 HB_17 N1_17 N2_17 HN14_17
      clear hb
      refine hK.out _ _ ⟨(blk_cell HX_18.out 0).trans rfl, (blk_cell HX_18.out 1).trans rfl, (blk_cell HY_18.out 0).trans rfl, (blk_cell HY_18.out 1).trans rfl, (blk_cell HU_18.out 0).trans rfl, (blk_cell HU_18.out 1).trans rfl⟩ (fun hHeld => ?_)
      clear hK K
      refine norm_ (a' := ?_) ?_ ?_
      rotate_left
      · show Act.put _ (some 89) _ = _
        simp only [Act.put, List.setIfInBounds_toArray, List.set_cons_zero, List.set_cons_succ, i64_w, i32_w]
        rfl
      refine pure_ (i := 25) (N := some 90) (v := ?_) (a' := ?_) #[true, true, true, true, true, true, true, true, true, true, true, true, true, true, true, true, true, true, true, true, true, true, true, true, true, true, false, false, false, false, false, false, false] rfl rfl (any_of HT_.out (by kernel_rfl)) (fun _ _ _ h => h) (Or.inl ⟨by rfl, ?_⟩) ?_ ?_
      rotate_left
      · intro w'
        go_simp
        with_reducible rfl
      rotate_left
      · simp only [Act.put, List.setIfInBounds_toArray, List.set_cons_zero, List.set_cons_succ, i64_w, i32_w]
        rfl
      refine pure_ (i := 26) (N := some 91) (v := ?_) (a' := ?_) #[true, true, true, true, true, true, true, true, true, true, true, true, true, true, true, true, true, true, true, true, true, true, true, true, true, true, true, false, false, false, false, false, false] rfl rfl (any_of HT_.out (by kernel_rfl)) (fun _ _ _ h => h) (Or.inl ⟨by rfl, ?_⟩) ?_ ?_
      rotate_left
      · intro w'
        go_simp
        with_reducible rfl
      rotate_left
      · simp only [Act.put, List.setIfInBounds_toArray, List.set_cons_zero, List.set_cons_succ, i64_w, i32_w]
        rfl
      refine pure_ (i := 27) (N := some 92) (v := ?_) (a' := ?_) #[true, true, true, true, true, true, true, true, true, true, true, true, true, true, true, true, true, true, true, true, true, true, true, true, true, true, true, true, false, false, false, false, false] rfl rfl (any_of HT_.out (by kernel_rfl)) (fun _ _ _ h => h) (Or.inl ⟨by rfl, ?_⟩) ?_ ?_
      rotate_left
      · intro w'
        go_simp
        with_reducible rfl
      rotate_left
      · simp only [Act.put, List.setIfInBounds_toArray, List.set_cons_zero, List.set_cons_succ, i64_w, i32_w]
        rfl
      refine pure_ (i := 28) (N := some 93) (v := ?_) (a' := ?_) #[true, true, true, true, true, true, true, true, true, true, true, true, true, true, true, true, true, true, true, true, true, true, true, true, true, true, true, true, true, false, false, false, false] rfl rfl (any_of HT_.out (by kernel_rfl)) (fun _ _ _ h => h) (Or.inl ⟨by rfl, ?_⟩) ?_ ?_
      rotate_left
      · intro w'
        go_simp
        with_reducible rfl
      rotate_left
      · simp only [Act.put, List.setIfInBounds_toArray, List.set_cons_zero, List.set_cons_succ, i64_w, i32_w]
        rfl
      refine take_ (i := 29) (N := some 94) (v := ?_) (a' := ?_) #[true, true, true, true, true, true, true, true, true, true, true, true, true, true, true, true, true, true, true, true, true, true, true, true, true, true, true, true, true, true, false, false, false] rfl rfl (take_ofW HT_.out HW_.out (by kernel_rfl)) (fun _ _ _ h => h) (Or.inl ⟨by rfl, ?_⟩) hHeld ?_ ?_
      rotate_left
      · rintro w' ⟨s0, s1, s2, s3, s4, s5⟩
        go_simp
        with_reducible rfl
      rotate_left
      · simp only [Act.put, List.setIfInBounds_toArray, List.set_cons_zero, List.set_cons_succ, i64_w, i32_w]
        rfl
      refine one_ (i := 30) (N := some 95) #[true, true, true, true, true, true, true, true, true, true, true, true, true, true, true, true, true, true, true, true, true, true, true, true, true, true, true, true, true, true, true, false, false] rfl rfl (one_of HT_.out (by kernel_rfl)) (by decide) (fun K hK => ?_)
      refine goes_ Try.func29 (by kernel_rfl) rfl #[.int .i64 s4, .int .i64 e4, .agg #[.bool nu, .slice Au lu cu]] (by rfl) rfl rfl (by (try simp only [List.map_toArray, List.map_cons, List.map_nil]); first | done | rfl) ?_
      refine (judge64_c HI4.out NU_18.out).mono ?_
      rintro e w118 ⟨rfl, hb⟩
      refine ⟨_, rfl, ?_⟩
      have HU_19 := Aside0.mk (blk_below HU_18.out hb)
      have HX_19 := Aside0.mk (blk_below HX_18.out hb)
      have HY_19 := Aside0.mk (blk_below HY_18.out hb)
      have HB_19 := Aside0.mk (below_step HB_18.out hb)
      have N1_19 := Aside0.mk (NV.below N1_18.out hb)
      have N2_19 := Aside0.mk (NV.below N2_18.out hb)
      have HN14_19 := Aside0.mk (NV.below HN14_18.out hb)
      clear HU_18 HX_18 HY_18 HB_18 N1_18 N2_18 HN14_18
      clear hb
      refine hK.out _ _ ⟨(blk_cell HX_19.out 0).trans rfl, (blk_cell HX_19.out 1).trans rfl, (blk_cell HY_19.out 0).trans rfl, (blk_cell HY_19.out 1).trans rfl, (blk_cell HU_19.out 0).trans rfl, (blk_cell HU_19.out 1).trans rfl⟩ (fun hHeld => ?_)
      clear hK K
      refine norm_ (a' := ?_) ?_ ?_
      rotate_left
      · show Act.put _ (some 95) _ = _
        simp only [Act.put, List.setIfInBounds_toArray, List.set_cons_zero, List.set_cons_succ, i64_w, i32_w]
        rfl
      refine pure_ (i := 31) (N := some 96) (v := ?_) (a' := ?_) #[true, true, true, true, true, true, true, true, true, true, true, true, true, true, true, true, true, true, true, true, true, true, true, true, true, true, true, true, true, true, true, true, false] rfl rfl (any_of HT_.out (by kernel_rfl)) (fun _ _ _ h => h) (Or.inl ⟨by rfl, ?_⟩) ?_ ?_
      rotate_left
      · intro w'
        go_simp
        with_reducible rfl
      rotate_left
      · simp only [Act.put, List.setIfInBounds_toArray, List.set_cons_zero, List.set_cons_succ, i64_w, i32_w]
        rfl
      refine pure_ (i := 32) (N := some 6) (v := ?_) (a' := ?_) #[true, true, true, true, true, true, true, true, true, true, true, true, true, true, true, true, true, true, true, true, true, true, true, true, true, true, true, true, true, true, true, true, true] rfl rfl (any_of HT_.out (by kernel_rfl)) (fun _ _ _ h => h) (Or.inl ⟨by rfl, ?_⟩) ?_ ?_
      rotate_left
      · intro w'
        go_simp
        with_reducible rfl
      rotate_left
      · simp only [Act.put, List.setIfInBounds_toArray, List.set_cons_zero, List.set_cons_succ, i64_w, i32_w]
        rfl
      refine done_ (done_of HT_.out (by kernel_rfl)) ?_
      go_wp2
      go_ret
      exact ⟨rfl, HB_19.out⟩
end Go.Proofs.Ytjbcigiffihjaaa.Fc
end
