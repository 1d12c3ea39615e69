/- Texts of this seat, put together (ZW11). -/
import Derived.RegionTactic
import Derived.Test.YtjbcigiffihjaaaZW9
import Derived.Test.YtjbcigiffihjaaaZW10
section
namespace Go.Proofs.Ytjbcigiffihjaaa.Fc
set_option linter.unusedSimpArgs false
set_option linter.unusedVariables false
open Go Go.RowKit Go.Proofs.Ytjbcigiffihjaaa.Fx Go.Proofs.YtjbcigiffihjaaaW.PrintWords Go.Proofs.Ytjbcigiffihjaaa.Fv
structure NV (G : List Nat) (w : World) (n : Bool) (A : Option Addr) (l c : Nat) (v : Int) (m : Nat) : Prop where
  ex : ∃ d : List Int, d.length = l ∧ l ≤ m ∧ Kd.V (Kd.int .i64) 3 w 0 (fun k => k ∉ G) (.slice A l c) d ∧ Nm v n d
section
variable {G : List Nat} {w w1 : World} {n n' : Bool} {A A' : Option Addr} {l l' c c' : Nat} {v v' : Int} {m m' : Nat}
theorem NV.below (h : NV G w n A l c v m) (hb : Below w.heap.size w w1) : NV G w1 n A l c v m := by
  obtain ⟨d, h1, h2, h3, h4⟩ := h.ex
  exact ⟨d, h1, h2, Kd.V_below h3 hb, h4⟩
theorem NV.alloc (h : NV G w n A l c v m) (o : Obj) : NV G (w.alloc o) n A l c v m := by
  obtain ⟨d, h1, h2, h3, h4⟩ := h.ex
  exact ⟨d, h1, h2, Kd.V_alloc h3 o, h4⟩
theorem NV.drew (h : NV G w n A l c v m) : NV G w.drew n A l c v m := by
  obtain ⟨d, h1, h2, h3, h4⟩ := h.ex
  exact ⟨d, h1, h2, Kd.V_drew h3, h4⟩
theorem NV.set (h : NV G w n A l c v m) {p : Addr} (hp : p.block ∈ G) (u : Value) : NV G (w.setCell p u) n A l c v m := by
  obtain ⟨d, h1, h2, h3, h4⟩ := h.ex
  exact ⟨d, h1, h2, Kd.V_far h3 (fun k hk hkp => hk (hkp ▸ hp)) u, h4⟩
theorem NV.le (h : NV G w n A l c v m) (hm : m ≤ m') : NV G w n A l c v m' := by
  obtain ⟨d, h1, h2, h3, h4⟩ := h.ex
  exact ⟨d, h1, by omega, h3, h4⟩
theorem NV.zero (G : List Nat) (w : World) : NV G w false none 0 0 0 0 :=
  ⟨[], rfl, Nat.le_refl _, Kd.V_nil _ _ _ _ _, ⟨Ds.nil, fun h => absurd rfl h, fun h => by simp at h, rfl, by simp⟩⟩
theorem NV.of {d : List Int} {W0 : World} {base : Nat} {x : Value} (hG : ∀ g ∈ G, g < W0.heap.size) (h : Kd.V (Kd.int .i64) 3 w base (fun k => W0.heap.size ≤ k) x d) (hn : Nm v n d) (hm : d.length ≤ m) : ∃ A l c, x = .slice A l c ∧ NV G w n A l c v m := by
  obtain ⟨A, c, rfl⟩ := Kd.V_slice h
  exact ⟨A, d.length, c, rfl, d, rfl, hm, Kd.V_mono h (fun k hk hg => by have := hG k hg; omega), hn⟩
def Gives (G : List Nat) (w : World) (v : Int) (m : Nat) (e : Ending) (w' : World) : Prop := ∃ n A l c, e = .returned (.agg #[.bool n, .slice A l c]) ∧ NV G w' n A l c v m ∧ Below w.heap.size w w'
theorem num_c {a0 a1 : Int} (ha : I64 a0) (hu : U64 a1) (hG : ∀ g ∈ G, g < w.heap.size) : Calls Try.prog 11 #[.agg #[.int .i64 a0, .int .u64 a1]] w (Gives G w (W a0 a1) 9) := by
  obtain ⟨K, n, d, h1, h2, h3⟩ := Num_f a0 a1 ha.1 ha.2 hu.1 hu.2
  refine (clevislaw01_Num.calls (K + 0) a0 a1 n d w (h1 0)).mono ?_
  rintro e w' ⟨x, rfl, hv, hb⟩
  obtain ⟨A, l, c, rfl, hN⟩ := NV.of hG hv h2 h3
  exact ⟨n, A, l, c, rfl, hN, hb⟩
theorem add_c {G1 G2 : List Nat} (h1 : NV G1 w n A l c v m) (h2 : NV G2 w n' A' l' c' v' m') (hm : m ≤ 900000) (hm' : m' ≤ 900000) (hG : ∀ g ∈ G, g < w.heap.size) : Calls Try.prog 21 #[.agg #[.bool n, .slice A l c], .agg #[.bool n', .slice A' l' c']] w (Gives G w (v + v') (max m m' + 1)) := by
  obtain ⟨d, rfl, k2, k3, k4⟩ := h1.ex
  obtain ⟨d', rfl, j2, j3, j4⟩ := h2.ex
  obtain ⟨K, n0, d0, i1, i2, i3⟩ := Add_f k4 j4 (by omega) (by omega)
  refine (clevisref01_Add.calls (K + 0) n A c d n' A' c' d' n0 d0 w (Kd.V_reads' k3).2.2 (Kd.V_reads' k3).2.1 (Kd.V_reads' j3).2.2 (Kd.V_reads' j3).2.1 (i1 0)).mono ?_
  rintro e w' ⟨x, rfl, hv, hb⟩
  obtain ⟨A, l, c, rfl, hN⟩ := NV.of (m := max m m' + 1) hG hv i2 (by omega)
  exact ⟨n0, A, l, c, rfl, hN, hb⟩
theorem neg_c (h1 : NV G w n A l c v m) (hG : ∀ g ∈ G, g < w.heap.size) : Calls Try.prog 22 #[.agg #[.bool n, .slice A l c]] w (Gives G w (-v) m) := by
  obtain ⟨d, rfl, k2, k3, k4⟩ := h1.ex
  obtain ⟨K, n0, d0, i1, i2, i3⟩ := Neg_f k4
  refine (clevisref01_Neg.calls (K + 0) n (fun k => k ∉ G) A c d n0 d0 w k3 (i1 0)).mono ?_
  rintro e w' ⟨x, rfl, hv, hb⟩
  obtain ⟨A, c, rfl⟩ := Kd.V_slice hv
  exact ⟨n0, A, d0.length, c, rfl, ⟨d0, rfl, by omega, Kd.V_mono hv (fun k hk hg => hk.elim (fun h => h hg) (fun h => by have := hG k hg; omega)), i2⟩, hb⟩
theorem judge128_c {r1 r2 r3 : Int} (hr : Is128 v r1 r2 r3) (h1 : NV G w n A l c v m) : Calls Try.prog 17 #[.agg #[.int .i64 r1, .int .u64 r2], .int .i64 r3, .agg #[.bool n, .slice A l c]] w fun e w' => e = .returned (.bool true) ∧ Below w.heap.size w w' := by
  obtain ⟨d, rfl, k2, k3, k4⟩ := h1.ex
  obtain ⟨K, hK⟩ := judge128 hr k4
  exact clevislaw01_wide.calls (K + 0) r1 r2 r3 n A c d true w (Kd.V_reads' k3).2.2 (Kd.V_reads' k3).2.1 (hK 0)
end
section
variable {w : World}
theorem known_c : Calls Try.prog 9 #[] w fun e w' => e = .returned (.bool true) ∧ Below w.heap.size w w' := clevislaw01_known.calls true w rfl
def Tells128 (w : World) (v : Int) (e : Ending) (w' : World) : Prop := ∃ r1 r2 r3, e = .returned (.tuple #[.agg #[.int .i64 r1, .int .u64 r2], .int .i64 r3]) ∧ Is128 v r1 r2 r3 ∧ Below w.heap.size w w'
theorem minus_c {a0 a1 b0 b1 : Int} (ha : I64 a0) (ua : U64 a1) (hb : I64 b0) (ub : U64 b1) : Calls Try.prog 18 #[.agg #[.int .i64 a0, .int .u64 a1], .agg #[.int .i64 b0, .int .u64 b1]] w (Tells128 w (W a0 a1 - W b0 b1)) := by
  obtain ⟨r1, r2, r3, h1, h2⟩ := Minus_f ha ua hb ub
  refine (fixed_Minus.calls a0 a1 b0 b1 r1 r2 r3 w h1).mono ?_
  rintro e w' ⟨rfl, hb⟩
  exact ⟨_, _, _, rfl, h2, hb⟩
theorem opposite_c {a0 a1 : Int} (ha : I64 a0) (ua : U64 a1) : Calls Try.prog 19 #[.agg #[.int .i64 a0, .int .u64 a1]] w (Tells128 w (-W a0 a1)) := by
  obtain ⟨r1, r2, r3, h1, h2⟩ := Opposite_f ha ua
  refine (fixed_Opposite.calls a0 a1 r1 r2 r3 w h1).mono ?_
  rintro e w' ⟨rfl, hb⟩
  exact ⟨_, _, _, rfl, h2, hb⟩
theorem plus_c {A : Option Addr} {c n : Nat} {l : List S24} (hn : n = l.length) (hC : Kd.C k24 w A l.length l) (hc : l.length ≤ c) (hl : l.length ≤ 1000000) (ha : ∀ a ∈ l, I64 a.f0 ∧ U64 a.f1) : Calls Try.prog 20 #[.slice A n c] w (Tells128 w (tot24 l)) := by
  subst hn
  obtain ⟨r1, r2, r3, h1, h2⟩ := Plus_f l hl ha
  refine (fixed_Plus.calls A c l r1 r2 r3 w hC hc h1).mono ?_
  rintro e w' ⟨rfl, hb⟩
  exact ⟨_, _, _, rfl, h2, hb⟩
end
end Go.Proofs.Ytjbcigiffihjaaa.Fc
end
section
namespace Go.Proofs.Ytjbcigiffihjaaa.Fc
set_option linter.unusedSimpArgs false
set_option linter.unusedVariables false
open Go Go.RowKit Go.Proofs.Ytjbcigiffihjaaa.Fx Go.Proofs.YtjbcigiffihjaaaW.PrintWords Go.Proofs.YtjbcigiffihjaaaW.PrintLast Go.Proofs.YtjbcigiffihjaaaW.PrintMore Go.Proofs.Ytjbcigiffihjaaa.Fv
attribute [local go_sem] max_two min_two
theorem cut_w (A : Option Addr) (c : Nat) (xs : List S24) (j : Nat) (hm : j ≤ xs.length) (hc : xs.length ≤ c) : ∀ W : World, (Instr.slice 43 (.slice A xs.length c) none (some (.int .i64 j)) none).run Try.prog W = .ok (.slice A j c) W := by
  obtain ⟨i0, hi, hz0, hz1, hz2⟩ := info_parts info24
  have hel : Try.prog.elem 43 = 24 := by simp [Program.elem, Try.underlying43]
  have hu : Try.prog.underlying 43 = some (.slice (Try.prog.elem 43)) := by rw [hel]; exact Try.underlying43
  have ha : (A.map fun x => x.add 0) = A := by cases A <;> simp [Addr.add]
  intro W
  rw [run_slice_h W 43 A xs.length c hu .i64 j (by omega) (by omega), hel]
  simp [sizeOf, typeInfo, hi, hz1, sliced, Result.andThen, ha]
theorem new_at {w : World} {g : Nat} {o : Obj} (h : w.heap.size = g) : (w.alloc o).heap[g]? = some o := by
  subst h
  exact blk_new w o
theorem C_pair {W : World} {g t : Nat} {a0 a1 b0 b1 : Int} (h : W.heap[g]? = some (.cells #[.int .i64 a0, .int .u64 a1, .int .i64 b0, .int .u64 b1] t (0, 0))) : Kd.C k24 W (some ⟨g, 0, none⟩) 2 [⟨a0, a1⟩, ⟨b0, b1⟩] := by
  refine ⟨rfl, by omega, fun _ => ⟨_, rfl, fun j x hj => ⟨_, rfl, k24_mk W x, fun i u hi => ?_⟩⟩⟩
  match j, hj with
  | 0, hj =>
    simp at hj
    subst hj
    match i, hi with
    | 0, hi => simp at hi; subst hi; exact (blk_cell h 0).trans rfl
    | 1, hi => simp at hi; subst hi; exact (blk_cell h 1).trans rfl
  | 1, hj =>
    simp at hj
    subst hj
    match i, hi with
    | 0, hi => simp at hi; subst hi; exact (blk_cell h 2).trans rfl
    | 1, hi => simp at hi; subst hi; exact (blk_cell h 3).trans rfl
theorem two_ok {a0 a1 b0 b1 : Int} (ha : I64 a0 ∧ U64 a1) (hb : I64 b0 ∧ U64 b1) : ∀ a ∈ [(⟨a0, a1⟩ : S24), ⟨b0, b1⟩], I64 a.f0 ∧ U64 a.f1 := by
  intro a h
  simp at h
  rcases h with rfl | rfl
  · exact ha
  · exact hb
theorem tot_two {a0 a1 b0 b1 r1 r2 r3 : Int} (h : Is128 (tot24 [⟨a0, a1⟩, ⟨b0, b1⟩]) r1 r2 r3) : Is128 (W a0 a1 + W b0 b1) r1 r2 r3 := by
  have e : tot24 [⟨a0, a1⟩, ⟨b0, b1⟩] = W a0 a1 + W b0 b1 := by simp [tot24]
  rw [e] at h
  exact h
theorem el_atW {w : World} {A : Option Addr} {t : List S24} {k : Nat} (h : Kd.C k24 w A t.length t) (hk : k < t.length) : ∃ ad, A = some ad ∧ w.cell? (ad.add (k * 2)) = some (.int .i64 (rd_T24 t k).f0) ∧ w.cell? ⟨(ad.add (k * 2)).block, (ad.add (k * 2)).off + 1, none⟩ = some (.int .u64 (rd_T24 t k).f1) := by
  obtain ⟨ad, h1, h2, h3⟩ := at_T24 h (k : Int) (by omega) (by omega)
  rw [Int.toNat_natCast] at h2 h3
  exact ⟨ad, h1, h2, h3⟩
theorem el_getW {w : World} {ad : Addr} {t : List S24} {k : Nat} (h : Kd.C k24 w (some ad) t.length t) (hk : k < t.length) : w.cell? (ad.add (k * 2)) = some (.int .i64 (rd_T24 t k).f0) ∧ w.cell? ⟨(ad.add (k * 2)).block, (ad.add (k * 2)).off + 1, none⟩ = some (.int .u64 (rd_T24 t k).f1) := by
  obtain ⟨ad', h1, h2⟩ := el_atW h hk
  cases h1
  exact h2
theorem rd_memW {t : List S24} {k : Nat} (hk : k < t.length) : rd_T24 t (k : Int) ∈ t := by
  unfold rd_T24
  rw [Int.toNat_natCast, List.getD_eq_getElem?_getD, List.getElem?_eq_getElem hk]
  exact List.getElem_mem hk
theorem sum_takeW {t : List S24} {k : Nat} (hk : k < t.length) : tot24 (t.take (k + 1)) = tot24 (t.take k) + W (rd_T24 t (k : Int)).f0 (rd_T24 t (k : Int)).f1 := by
  unfold rd_T24 tot24
  rw [Int.toNat_natCast, List.getD_eq_getElem?_getD, List.take_add_one, List.getElem?_eq_getElem hk]
  show ((t.take k ++ [t[k]]).map _).sum = _
  rw [List.map_append, List.sum_append]
  simp only [List.map_cons, List.map_nil, List.sum_cons, List.sum_nil, Option.getD_some, Int.add_zero]
theorem max9 (k : Nat) : max (9 + k) 9 + 1 ≤ 9 + (k + 1) := by omega
def TW10 : Bool × List (List Nat × List Nat) := (true, [([], []), ([], []), ([], []), ([1, 2], [1, 2]), ([3], [3]), ([4], [4]), ([0, 5, 5], [0, 5]), ([6, 6, 0, 1, 2, 3, 4, 5, 6], [6])])
def BW10 : List Nat := [0, 0, 0, 6, 14, 30, 63, 127]
theorem tabW10 : rtab .any (opsOf Try.f5 10) = TW10 := by kernel_rfl
theorem bitsW10 : waitsOk TW10.2 BW10 = true := by kernel_rfl
def TW11 : Bool × List (List Nat × List Nat) := (true, [([], []), ([0, 0], [0]), ([1], [1]), ([1], [1]), ([1], [1]), ([4, 1, 1], [1, 4]), ([1], [1]), ([6, 5, 1], [1, 6]), ([7, 7, 1], [1, 7]), ([5, 8, 8, 1], [1, 5, 8]), ([2, 3, 9, 9, 1], [1, 2, 3, 9]), ([1, 10], [1, 10]), ([11, 10], [11]), ([12], [12]), ([12], [12]), ([12], [12]), ([15, 12, 12], [12, 15]), ([16, 16, 12], [12, 16]), ([13, 14, 17, 17, 12], [12, 13, 14, 17]), ([12, 18], [12, 18]), ([19, 18], [19]), ([20], [20]), ([20], [20]), ([20], [20]), ([21, 22, 23, 20, 20], [20, 21, 22, 23]), ([20, 24], [20, 24]), ([25, 24], [25]), ([26], [26]), ([26], [26]), ([26], [26]), ([29, 26, 26], [26, 29]), ([26], [26]), ([31, 30, 26], [26, 31]), ([30, 32, 32, 26], [26, 30, 32]), ([27, 28, 33, 33, 26], [26, 27, 28, 33]), ([26, 34], [26, 34]), ([35, 34, 0, 1, 2, 3, 4, 5, 6, 7, 8, 9, 10, 11, 12, 13, 14, 15, 16, 17, 18, 19, 20, 21, 22, 23, 24, 25, 26, 27, 28, 29, 30, 31, 32, 33, 34, 35], [35])])
def BW11 : List Nat := [0, 1, 3, 3, 3, 19, 3, 115, 243, 499, 1023, 2047, 4095, 8191, 8191, 8191, 40959, 106495, 262143, 524287, 1048575, 2097151, 2097151, 2097151, 16777215, 33554431, 67108863, 134217727, 134217727, 134217727, 671088639, 134217727, 3892314111, 8187281407, 17179869183, 34359738367, 68719476735]
theorem tabW11 : rtab .any (opsOf Try.f5 11) = TW11 := by kernel_rfl
theorem bitsW11 : waitsOk TW11.2 BW11 = true := by kernel_rfl
set_option maxHeartbeats 8000000 in
set_option maxRecDepth 100000 in
theorem walkW (a0 a1 b0 b1 : Int) (A : Option Addr) (c : Nat) (l : List S24) (w : World) (ha : I64 a0 ∧ U64 a1) (hbb : I64 b0 ∧ U64 b1) (hc : l.length ≤ c) (hC : Kd.C k24 w A l.length l) (hl : ∀ x ∈ l, I64 x.f0 ∧ U64 x.f1) : Calls Try.prog 5 #[.agg #[.int .i64 a0, .int .u64 a1], .agg #[.int .i64 b0, .int .u64 b1], .slice A l.length c] w fun e w' => e = .returned (.bool true) ∧ Below w.heap.size w w' := by
  obtain ⟨m, t, hm1, hm2, hmt, hlt, hcase⟩ : ∃ (m : Nat) (t : List S24), m ≤ l.length ∧ m ≤ 30 ∧ t = l.take m ∧ t.length = m ∧ ((l.length ≤ 30 ∧ m = l.length) ∨ (30 < l.length ∧ m = 30)) := by
    by_cases h : l.length ≤ 30
    · exact ⟨l.length, l.take l.length, Nat.le_refl _, h, rfl, by rw [List.length_take]; omega, Or.inl ⟨h, rfl⟩⟩
    · exact ⟨30, l.take 30, by omega, Nat.le_refl _, rfl, by rw [List.length_take]; omega, Or.inr ⟨by omega, rfl⟩⟩
  have HT2 : Aside0 (∀ x ∈ t, I64 x.f0 ∧ U64 x.f1) := ⟨fun x hx => by rw [hmt] at hx; exact hl x (List.mem_of_mem_take hx)⟩
  have HC : Aside0 (Kd.C k24 w A t.length t) := ⟨by rw [hmt]; exact Kd.C_take hC hm1⟩
  have hcut := cut_w A c l m hm1 hc
  have hmin : Builtin.min2 (.int .i64 (l.length : Int)) (.int .i64 30) = pure (.int .i64 (m : Int)) := by
    rw [min2_int]
    rcases hcase with ⟨h1, h2⟩ | ⟨h1, h2⟩
    · rw [if_neg (by omega), h2]
    · rw [if_pos (by omega), h2]
      rfl
  have HLT := Aside0.mk hlt
  have hmc : m ≤ c := by omega
  clear hmt hlt hcase hl hC
  go_enter Try.func5, Try.ntmps5
  go_wp2_with fail
  refine (minus_c ha.1 ha.2 hbb.1 hbb.2).mono ?_
  rintro e w1 ⟨r1, q1, e1, rfl, hI, hb⟩
  rw [Int.sub_eq_add_neg] at hI
  have HI1 := Aside0.mk hI
  have HA := Aside0.mk (blk_below (g := w.heap.size) (o := .cells #[.int .i64 a0, .int .u64 a1] 24 (0, 0)) (blk_alloc (heap_alloc_new w _) _) hb)
  have HE := Aside0.mk (blk_below (g := w.heap.size + 1) (o := .cells #[.int .i64 b0, .int .u64 b1] 24 (0, 0)) (by simpa using heap_alloc_new (w.alloc (.cells #[.int .i64 a0, .int .u64 a1] 24)) _) hb)
  have HB := Aside0.mk (below_step (below_alloc (below_alloc (Below.refl w.heap.size w) _) _) hb)
  clear hb hI
  have hge := HB.out.size
  have hcza0 : w1.cell? ⟨w.heap.size, 0, none⟩ = some (.int .i64 a0) := (blk_cell HA.out 0).trans rfl
  have hcza1 : w1.cell? ⟨w.heap.size, 1, none⟩ = some (.int .u64 a1) := (blk_cell HA.out 1).trans rfl
  have hlta : w.heap.size < w1.heap.size := blk_lt HA.out
  have hnea : w.heap.size ≠ w1.heap.size := Nat.ne_of_lt hlta
  have hena : w1.heap.size ≠ w.heap.size := (Nat.ne_of_lt hlta).symm
  have hczb0 : w1.cell? ⟨w.heap.size + 1, 0, none⟩ = some (.int .i64 b0) := (blk_cell HE.out 0).trans rfl
  have hczb1 : w1.cell? ⟨w.heap.size + 1, 1, none⟩ = some (.int .u64 b1) := (blk_cell HE.out 1).trans rfl
  have hltb : w.heap.size + 1 < w1.heap.size := blk_lt HE.out
  have hneb : w.heap.size + 1 ≠ w1.heap.size := Nat.ne_of_lt hltb
  have henb : w1.heap.size ≠ w.heap.size + 1 := (Nat.ne_of_lt hltb).symm
  go_wp2_with fail
  refine (opposite_c ha.1 ha.2).mono ?_
  rintro e w2 ⟨r2, q2, e2, rfl, hI, hb⟩
  have HA_w2 := Aside0.mk (blk_below (g := w.heap.size) (o := .cells #[.int .i64 a0, .int .u64 a1] 24 (0, 0)) (by exact blk_alloc HA.out _) hb)
  have HE_w2 := Aside0.mk (blk_below (g := w.heap.size + 1) (o := .cells #[.int .i64 b0, .int .u64 b1] 24 (0, 0)) (by exact blk_alloc HE.out _) hb)
  have HB_w2 := Aside0.mk (below_step (by exact below_alloc HB.out _) hb)
  have HR1_w2 := Aside0.mk (blk_below (g := w1.heap.size) (o := .cells #[.int .i64 r1, .int .u64 q1] 24 (0, 0)) (by exact blk_new w1 _) hb)
  have HI2 := Aside0.mk hI
  clear hb hI hge HA HE HB
  clear hcza0 hcza1 hczb0 hczb1 hlta hltb hnea hneb hena henb
  have hge := HB_w2.out.size
  have hcza0 : w2.cell? ⟨w.heap.size, 0, none⟩ = some (.int .i64 a0) := (blk_cell HA_w2.out 0).trans rfl
  have hcza1 : w2.cell? ⟨w.heap.size, 1, none⟩ = some (.int .u64 a1) := (blk_cell HA_w2.out 1).trans rfl
  have hlta : w.heap.size < w2.heap.size := blk_lt HA_w2.out
  have hnea : w.heap.size ≠ w2.heap.size := Nat.ne_of_lt hlta
  have hena : w2.heap.size ≠ w.heap.size := (Nat.ne_of_lt hlta).symm
  have hczb0 : w2.cell? ⟨w.heap.size + 1, 0, none⟩ = some (.int .i64 b0) := (blk_cell HE_w2.out 0).trans rfl
  have hczb1 : w2.cell? ⟨w.heap.size + 1, 1, none⟩ = some (.int .u64 b1) := (blk_cell HE_w2.out 1).trans rfl
  have hltb : w.heap.size + 1 < w2.heap.size := blk_lt HE_w2.out
  have hneb : w.heap.size + 1 ≠ w2.heap.size := Nat.ne_of_lt hltb
  have henb : w2.heap.size ≠ w.heap.size + 1 := (Nat.ne_of_lt hltb).symm
  go_wp2_with fail
  refine (plus_c HLT.out.symm (Kd.C_below HC.out (by exact below_alloc HB_w2.out _)) (by rw [HLT.out]; exact hmc) (by rw [HLT.out]; omega) HT2.out).mono ?_
  rintro e w3 ⟨r3, q3, e3, rfl, hI, hb⟩
  have HA_w3 := Aside0.mk (blk_below (g := w.heap.size) (o := .cells #[.int .i64 a0, .int .u64 a1] 24 (0, 0)) (by exact blk_alloc HA_w2.out _) hb)
  have HE_w3 := Aside0.mk (blk_below (g := w.heap.size + 1) (o := .cells #[.int .i64 b0, .int .u64 b1] 24 (0, 0)) (by exact blk_alloc HE_w2.out _) hb)
  have HB_w3 := Aside0.mk (below_step (by exact below_alloc HB_w2.out _) hb)
  have HR1_w3 := Aside0.mk (blk_below (g := w1.heap.size) (o := .cells #[.int .i64 r1, .int .u64 q1] 24 (0, 0)) (by exact blk_alloc HR1_w2.out _) hb)
  have HR2_w3 := Aside0.mk (blk_below (g := w2.heap.size) (o := .cells #[.int .i64 r2, .int .u64 q2] 24 (0, 0)) (by exact blk_new w2 _) hb)
  have HI3 := Aside0.mk hI
  clear hb hI hge HA_w2 HE_w2 HB_w2 HR1_w2
  clear hcza0 hcza1 hczb0 hczb1 hlta hltb hnea hneb hena henb
  have hge := HB_w3.out.size
  have hcza0 : w3.cell? ⟨w.heap.size, 0, none⟩ = some (.int .i64 a0) := (blk_cell HA_w3.out 0).trans rfl
  have hcza1 : w3.cell? ⟨w.heap.size, 1, none⟩ = some (.int .u64 a1) := (blk_cell HA_w3.out 1).trans rfl
  have hlta : w.heap.size < w3.heap.size := blk_lt HA_w3.out
  have hnea : w.heap.size ≠ w3.heap.size := Nat.ne_of_lt hlta
  have hena : w3.heap.size ≠ w.heap.size := (Nat.ne_of_lt hlta).symm
  have hczb0 : w3.cell? ⟨w.heap.size + 1, 0, none⟩ = some (.int .i64 b0) := (blk_cell HE_w3.out 0).trans rfl
  have hczb1 : w3.cell? ⟨w.heap.size + 1, 1, none⟩ = some (.int .u64 b1) := (blk_cell HE_w3.out 1).trans rfl
  have hltb : w.heap.size + 1 < w3.heap.size := blk_lt HE_w3.out
  have hneb : w.heap.size + 1 ≠ w3.heap.size := Nat.ne_of_lt hltb
  have henb : w3.heap.size ≠ w.heap.size + 1 := (Nat.ne_of_lt hltb).symm
  go_wp2_with fail
  refine (plus_c (A := some ⟨w3.heap.size + 1, 0, none⟩) (c := 2) (n := 2) (l := [⟨a0, a1⟩, ⟨b0, b1⟩]) rfl (by exact C_pair (new_at (by simp))) (by simp) (by simp) (two_ok ha hbb)).mono ?_
  rintro e w4 ⟨r4, q4, e4, rfl, hI, hb⟩
  have HA_w4 := Aside0.mk (blk_below (g := w.heap.size) (o := .cells #[.int .i64 a0, .int .u64 a1] 24 (0, 0)) (by exact blk_alloc (blk_alloc HA_w3.out _) _) hb)
  have HE_w4 := Aside0.mk (blk_below (g := w.heap.size + 1) (o := .cells #[.int .i64 b0, .int .u64 b1] 24 (0, 0)) (by exact blk_alloc (blk_alloc HE_w3.out _) _) hb)
  have HB_w4 := Aside0.mk (below_step (by exact below_alloc (below_alloc HB_w3.out _) _) hb)
  have HR1_w4 := Aside0.mk (blk_below (g := w1.heap.size) (o := .cells #[.int .i64 r1, .int .u64 q1] 24 (0, 0)) (by exact blk_alloc (blk_alloc HR1_w3.out _) _) hb)
  have HR2_w4 := Aside0.mk (blk_below (g := w2.heap.size) (o := .cells #[.int .i64 r2, .int .u64 q2] 24 (0, 0)) (by exact blk_alloc (blk_alloc HR2_w3.out _) _) hb)
  have HR3_w4 := Aside0.mk (blk_below (g := w3.heap.size) (o := .cells #[.int .i64 r3, .int .u64 q3] 24 (0, 0)) (by exact blk_alloc (blk_new w3 _) _) hb)
  have HI4 := Aside0.mk hI
  clear hb hI hge HA_w3 HE_w3 HB_w3 HR1_w3 HR2_w3
  clear hcza0 hcza1 hczb0 hczb1 hlta hltb hnea hneb hena henb
  have HI4b := Aside0.mk (tot_two HI4.out)
  clear HI4
  have hge := HB_w4.out.size
  have hcza0 : w4.cell? ⟨w.heap.size, 0, none⟩ = some (.int .i64 a0) := (blk_cell HA_w4.out 0).trans rfl
  have hcza1 : w4.cell? ⟨w.heap.size, 1, none⟩ = some (.int .u64 a1) := (blk_cell HA_w4.out 1).trans rfl
  have hlta : w.heap.size < w4.heap.size := blk_lt HA_w4.out
  have hnea : w.heap.size ≠ w4.heap.size := Nat.ne_of_lt hlta
  have hena : w4.heap.size ≠ w.heap.size := (Nat.ne_of_lt hlta).symm
  have hczb0 : w4.cell? ⟨w.heap.size + 1, 0, none⟩ = some (.int .i64 b0) := (blk_cell HE_w4.out 0).trans rfl
  have hczb1 : w4.cell? ⟨w.heap.size + 1, 1, none⟩ = some (.int .u64 b1) := (blk_cell HE_w4.out 1).trans rfl
  have hltb : w.heap.size + 1 < w4.heap.size := blk_lt HE_w4.out
  have hneb : w.heap.size + 1 ≠ w4.heap.size := Nat.ne_of_lt hltb
  have henb : w4.heap.size ≠ w.heap.size + 1 := (Nat.ne_of_lt hltb).symm
  have HG := Aside0.mk (show w.heap.size ≤ w4.heap.size + 1 from Nat.le_trans hge (Nat.le_succ _))
  have HGHA := Aside0.mk (show w.heap.size < w4.heap.size from blk_lt HA_w4.out)
  have HGHE := Aside0.mk (show w.heap.size + 1 < w4.heap.size from blk_lt HE_w4.out)
  have HGHR1 := Aside0.mk (show w1.heap.size < w4.heap.size from blk_lt HR1_w4.out)
  have HGHR2 := Aside0.mk (show w2.heap.size < w4.heap.size from blk_lt HR2_w4.out)
  have HGHR3 := Aside0.mk (show w3.heap.size < w4.heap.size from blk_lt HR3_w4.out)
  go_wp2
  go_loopw [16] (fun v16 wr => ∃ (k : Nat) (nu : Bool) (Au : Option Addr) (lu cu : Nat), k ≤ m ∧ v16 = .int .i64 k ∧ Aside0 (wr.heap[w4.heap.size + 1]? = some (.cells #[.bool nu, .slice Au lu cu] 32 (0, 0))) ∧ Aside0 (NV [w4.heap.size + 1] wr nu Au lu cu (tot24 (t.take k)) (9 + k)) ∧ Aside0 (wr.heap[w.heap.size]? = some (.cells #[.int .i64 a0, .int .u64 a1] 24 (0, 0))) ∧ Aside0 (wr.heap[w.heap.size + 1]? = some (.cells #[.int .i64 b0, .int .u64 b1] 24 (0, 0))) ∧ Aside0 (wr.heap[w1.heap.size]? = some (.cells #[.int .i64 r1, .int .u64 q1] 24 (0, 0))) ∧ Aside0 (wr.heap[w2.heap.size]? = some (.cells #[.int .i64 r2, .int .u64 q2] 24 (0, 0))) ∧ Aside0 (wr.heap[w3.heap.size]? = some (.cells #[.int .i64 r3, .int .u64 q3] 24 (0, 0))) ∧ Aside0 (wr.heap[w4.heap.size]? = some (.cells #[.int .i64 r4, .int .u64 q4] 24 (0, 0))) ∧ Aside0 (Below w.heap.size w wr)) (fun v16 _ => m - (intOf v16).toNat)
  case atStart =>
    exact ⟨0, false, none, 0, 0, Nat.zero_le _, rfl, ⟨by exact new_at (by simp)⟩, ⟨by simpa [tot24] using (NV.zero _ _).le (m' := 9) (by omega)⟩, ⟨by exact blk_alloc (blk_alloc HA_w4.out _) _⟩, ⟨by exact blk_alloc (blk_alloc HE_w4.out _) _⟩, ⟨by exact blk_alloc (blk_alloc HR1_w4.out _) _⟩, ⟨by exact blk_alloc (blk_alloc HR2_w4.out _) _⟩, ⟨by exact blk_alloc (blk_alloc HR3_w4.out _) _⟩, ⟨by exact blk_alloc (blk_new w4 _) _⟩, ⟨by exact below_alloc (below_alloc HB_w4.out _) _⟩⟩
  case round =>
    clear hcza0 hcza1 hczb0 hczb1 hlta hltb hnea hneb hena henb
    clear hge HA_w4 HE_w4 HB_w4 HR1_w4 HR2_w4 HR3_w4
    obtain ⟨k, nu, Au, lu, cu, hk, rfl, HU, NU, HA, HE, HR1, HR2, HR3, HR4, HB⟩ := hrel
    by_cases hkl : k < m
    · obtain ⟨ad, hA, he, he2⟩ := el_atW (Kd.C_below HC.out HB.out) (by rw [HLT.out]; exact hkl)
      subst hA
      clear he he2
      go_upto_region 10 with (fail)
      have hnHA : w.heap.size ≠ w4.heap.size + 1 := Nat.ne_of_lt (Nat.lt_trans HGHA.out (Nat.lt_succ_self _))
      have hnHE : w.heap.size + 1 ≠ w4.heap.size + 1 := Nat.ne_of_lt (Nat.lt_trans HGHE.out (Nat.lt_succ_self _))
      have hnHR1 : w1.heap.size ≠ w4.heap.size + 1 := Nat.ne_of_lt (Nat.lt_trans HGHR1.out (Nat.lt_succ_self _))
      have hnHR2 : w2.heap.size ≠ w4.heap.size + 1 := Nat.ne_of_lt (Nat.lt_trans HGHR2.out (Nat.lt_succ_self _))
      have hnHR3 : w3.heap.size ≠ w4.heap.size + 1 := Nat.ne_of_lt (Nat.lt_trans HGHR3.out (Nat.lt_succ_self _))
      have hnHR4 : w4.heap.size ≠ w4.heap.size + 1 := Nat.ne_of_lt (Nat.lt_succ_self _)
      have HU_1 := Aside0.mk (blk_drew HU.out)
      have NU_1 := Aside0.mk (NV.drew NU.out)
      have HA_1 := Aside0.mk (blk_drew HA.out)
      have HE_1 := Aside0.mk (blk_drew HE.out)
      have HR1_1 := Aside0.mk (blk_drew HR1.out)
      have HR2_1 := Aside0.mk (blk_drew HR2.out)
      have HR3_1 := Aside0.mk (blk_drew HR3.out)
      have HR4_1 := Aside0.mk (blk_drew HR4.out)
      have HB_1 := Aside0.mk (below_drew1 HB.out)
      clear HU NU HA HE HR1 HR2 HR3 HR4 HB
      refine start_ (n := 8) (S := fun w' => w'.cell? ⟨w4.heap.size + 1, 0, none⟩ = some (.bool nu) ∧ w'.cell? ⟨w4.heap.size + 1, 1, none⟩ = some (.slice Au lu cu) ∧ w'.cell? (ad.add (k * 2)) = some (.int .i64 (rd_T24 t k).f0) ∧ w'.cell? ⟨(ad.add (k * 2)).block, (ad.add (k * 2)).off + 1, none⟩ = some (.int .u64 (rd_T24 t k).f1)) (ds := [7]) #[false, false, false, false, false, false, false, false] (by kernel_rfl) rfl rfl ⟨(blk_cell HU_1.out 0).trans rfl, (blk_cell HU_1.out 1).trans rfl, (el_getW (Kd.C_below HC.out HB_1.out) (by rw [HLT.out]; exact hkl)).1, (el_getW (Kd.C_below HC.out HB_1.out) (by rw [HLT.out]; exact hkl)).2⟩ (fun hHeld => ?_)
      refine with_tabW tabW10 bitsW10 (fun HT_ HW_ => ?_)
      generalize wr.drew = wd at HU_1 NU_1 HA_1 HE_1 HR1_1 HR2_1 HR3_1 HR4_1 HB_1 hHeld ⊢
      refine take_ (i := 0) (N := some 52) (v := ?_) (a' := ?_) #[true, false, false, false, false, false, false, false] rfl rfl (take_ofW HT_.out HW_.out (by kernel_rfl)) (fun _ _ _ h => h) (Or.inl ⟨by rfl, ?_⟩) hHeld ?_ ?_
      rotate_left
      · rintro w' ⟨s0, s1, s2, s3⟩
        go_simp
        with_reducible rfl
      rotate_left
      · simp only [Act.put, List.setIfInBounds_toArray, List.set_cons_zero, List.set_cons_succ, i64_w, i32_w]
        rfl
      refine pure_ (i := 1) (N := some 53) (v := ?_) (a' := ?_) #[true, true, false, false, false, false, false, false] rfl rfl (any_of HT_.out (by kernel_rfl)) (fun _ _ _ h => h) (Or.inl ⟨by rfl, ?_⟩) ?_ ?_
      rotate_left
      · intro w'
        go_simp
        with_reducible rfl
      rotate_left
      · simp only [Act.put, List.setIfInBounds_toArray, List.set_cons_zero, List.set_cons_succ, i64_w, i32_w]
        rfl
      refine pure_ (i := 2) (N := some 54) (v := ?_) (a' := ?_) #[true, true, true, false, false, false, false, false] rfl rfl (any_of HT_.out (by kernel_rfl)) (fun _ _ _ h => h) (Or.inl ⟨by rfl, ?_⟩) ?_ ?_
      rotate_left
      · intro w'
        go_simp
        with_reducible rfl
      rotate_left
      · simp only [Act.put, List.setIfInBounds_toArray, List.set_cons_zero, List.set_cons_succ, i64_w, i32_w]
        rfl
      refine pure_ (i := 3) (N := some 55) (v := ?_) (a' := ?_) #[true, true, true, true, false, false, false, false] rfl rfl (any_of HT_.out (by kernel_rfl)) (fun _ _ _ h => h) (Or.inl ⟨by rfl, ?_⟩) ?_ ?_
      rotate_left
      · intro w'
        go_simp
        with_reducible rfl
      rotate_left
      · simp only [Act.put, List.setIfInBounds_toArray, List.set_cons_zero, List.set_cons_succ, i64_w, i32_w]
        rfl
      refine take_ (i := 4) (N := some 56) (v := ?_) (a' := ?_) #[true, true, true, true, true, false, false, false] rfl rfl (take_ofW HT_.out HW_.out (by kernel_rfl)) (fun _ _ _ h => h) (Or.inl ⟨by rfl, ?_⟩) hHeld ?_ ?_
      rotate_left
      · rintro w' ⟨s0, s1, s2, s3⟩
        go_simp
        with_reducible rfl
      rotate_left
      · simp only [Act.put, List.setIfInBounds_toArray, List.set_cons_zero, List.set_cons_succ, i64_w, i32_w]
        rfl
      refine one_ (i := 5) (N := some 57) #[true, true, true, true, true, true, false, false] rfl rfl (one_of HT_.out (by kernel_rfl)) (by decide) (fun K hK => ?_)
      refine goes_ Try.func11 (by kernel_rfl) rfl #[.agg #[.int .i64 (rd_T24 t k).f0, .int .u64 (rd_T24 t k).f1]] (by rfl) rfl rfl (by (try simp only [List.map_toArray, List.map_cons, List.map_nil]); first | done | rfl) ?_
      refine (num_c (G := []) (HT2.out _ (rd_memW (by rw [HLT.out]; exact hkl))).1 (HT2.out _ (rd_memW (by rw [HLT.out]; exact hkl))).2 (fun g hg => by cases hg)).mono ?_
      rintro e w101 ⟨n3, A3, l3, c3, rfl, hN, hb⟩
      refine ⟨_, rfl, ?_⟩
      have HU_2 := Aside0.mk (blk_below HU_1.out hb)
      have NU_2 := Aside0.mk (NV.below NU_1.out hb)
      have HA_2 := Aside0.mk (blk_below HA_1.out hb)
      have HE_2 := Aside0.mk (blk_below HE_1.out hb)
      have HR1_2 := Aside0.mk (blk_below HR1_1.out hb)
      have HR2_2 := Aside0.mk (blk_below HR2_1.out hb)
      have HR3_2 := Aside0.mk (blk_below HR3_1.out hb)
      have HR4_2 := Aside0.mk (blk_below HR4_1.out hb)
      have HB_2 := Aside0.mk (below_step HB_1.out hb)
      clear HU_1 NU_1 HA_1 HE_1 HR1_1 HR2_1 HR3_1 HR4_1 HB_1
      have N3_2 := Aside0.mk hN
      clear hN
      clear hb
      refine hK.out _ _ ⟨(blk_cell HU_2.out 0).trans rfl, (blk_cell HU_2.out 1).trans rfl, (el_getW (Kd.C_below HC.out HB_2.out) (by rw [HLT.out]; exact hkl)).1, (el_getW (Kd.C_below HC.out HB_2.out) (by rw [HLT.out]; exact hkl)).2⟩ (fun hHeld => ?_)
      clear hK K
      refine norm_ (a' := ?_) ?_ ?_
      rotate_left
      · show Act.put _ (some 57) _ = _
        simp only [Act.put, List.setIfInBounds_toArray, List.set_cons_zero, List.set_cons_succ, i64_w, i32_w]
        rfl
      refine one_ (i := 6) (N := some 58) #[true, true, true, true, true, true, true, false] rfl rfl (one_of HT_.out (by kernel_rfl)) (by decide) (fun K hK => ?_)
      refine goes_ Try.func21 (by kernel_rfl) rfl #[.agg #[.bool nu, .slice Au lu cu], .agg #[.bool n3, .slice A3 l3 c3]] (by rfl) rfl rfl (by (try simp only [List.map_toArray, List.map_cons, List.map_nil]); first | done | rfl) ?_
      refine (add_c (G := [w4.heap.size + 1]) NU_2.out N3_2.out (by omega) (by omega) (fun g hg => by rw [List.mem_singleton.1 hg]; exact blk_lt HU_2.out)).mono ?_
      rintro e w102 ⟨n4, A4, l4, c4, rfl, hN, hb⟩
      refine ⟨_, rfl, ?_⟩
      have HU_3 := Aside0.mk (blk_below HU_2.out hb)
      have HA_3 := Aside0.mk (blk_below HA_2.out hb)
      have HE_3 := Aside0.mk (blk_below HE_2.out hb)
      have HR1_3 := Aside0.mk (blk_below HR1_2.out hb)
      have HR2_3 := Aside0.mk (blk_below HR2_2.out hb)
      have HR3_3 := Aside0.mk (blk_below HR3_2.out hb)
      have HR4_3 := Aside0.mk (blk_below HR4_2.out hb)
      have HB_3 := Aside0.mk (below_step HB_2.out hb)
      clear HU_2 HA_2 HE_2 HR1_2 HR2_2 HR3_2 HR4_2 HB_2
      have N4_3 := Aside0.mk hN
      clear hN
      clear hb
      refine hK.out _ _ ⟨(blk_cell HU_3.out 0).trans rfl, (blk_cell HU_3.out 1).trans rfl, (el_getW (Kd.C_below HC.out HB_3.out) (by rw [HLT.out]; exact hkl)).1, (el_getW (Kd.C_below HC.out HB_3.out) (by rw [HLT.out]; exact hkl)).2⟩ (fun hHeld => ?_)
      clear hK K
      refine norm_ (a' := ?_) ?_ ?_
      rotate_left
      · show Act.put _ (some 58) _ = _
        simp only [Act.put, List.setIfInBounds_toArray, List.set_cons_zero, List.set_cons_succ, i64_w, i32_w]
        rfl
      refine last_ (i := 7) (N := none) #[true, true, true, true, true, true, true, true] rfl rfl (one_of HT_.out (by kernel_rfl)) (by decide) (fun K hK => ?_)
      have hf0 := blk_frozen HU_3.out 0
      have hf1 := blk_frozen HU_3.out 1
      have hlt6 := blk_lt HU_3.out
      refine skip_ (w1 := ?_) (by rfl) rfl ?_ ?_
      rotate_left
      · go_simp
        rfl
      refine hK.out _ _ ?_
      clear hK K
      refine done_ (done_of HT_.out (by kernel_rfl)) ?_
      go_wp2
      go_roundw
      case rel => exact ⟨k + 1, n4, A4, l4, c4, hkl, by go_num, ⟨(blk_put (blk_put HU_3.out 0 _ rfl) 1 _ rfl)⟩, ⟨by rw [sum_takeW (by rw [HLT.out]; exact hkl)]; exact (NV.set (NV.set N4_3.out (by simp) _) (by simp) _).le (max9 k)⟩, ⟨blk_far (p := ⟨w4.heap.size + 1, 1, none⟩) (blk_far (p := ⟨w4.heap.size + 1, 0, none⟩) HA_3.out hnHA _) hnHA _⟩, ⟨blk_far (p := ⟨w4.heap.size + 1, 1, none⟩) (blk_far (p := ⟨w4.heap.size + 1, 0, none⟩) HE_3.out hnHE _) hnHE _⟩, ⟨blk_far (p := ⟨w4.heap.size + 1, 1, none⟩) (blk_far (p := ⟨w4.heap.size + 1, 0, none⟩) HR1_3.out hnHR1 _) hnHR1 _⟩, ⟨blk_far (p := ⟨w4.heap.size + 1, 1, none⟩) (blk_far (p := ⟨w4.heap.size + 1, 0, none⟩) HR2_3.out hnHR2 _) hnHR2 _⟩, ⟨blk_far (p := ⟨w4.heap.size + 1, 1, none⟩) (blk_far (p := ⟨w4.heap.size + 1, 0, none⟩) HR3_3.out hnHR3 _) hnHR3 _⟩, ⟨blk_far (p := ⟨w4.heap.size + 1, 1, none⟩) (blk_far (p := ⟨w4.heap.size + 1, 0, none⟩) HR4_3.out hnHR4 _) hnHR4 _⟩, ⟨below_set (below_set HB_3.out HG.out) HG.out⟩⟩
      case measure => simp [intOf]; omega
    · have hkm : k = m := by omega
      subst hkm
      have NU2 := NU.out
      rw [List.take_of_length_le (by rw [HLT.out]; omega)] at NU2
      clear NU
      have NU := Aside0.mk NU2
      clear NU2
      go_upto_region 11 with (fail)
      have HU_4 := Aside0.mk (blk_drew HU.out)
      have NU_4 := Aside0.mk (NV.drew NU.out)
      have HA_4 := Aside0.mk (blk_drew HA.out)
      have HE_4 := Aside0.mk (blk_drew HE.out)
      have HR1_4 := Aside0.mk (blk_drew HR1.out)
      have HR2_4 := Aside0.mk (blk_drew HR2.out)
      have HR3_4 := Aside0.mk (blk_drew HR3.out)
      have HR4_4 := Aside0.mk (blk_drew HR4.out)
      have HB_4 := Aside0.mk (below_drew1 HB.out)
      clear HU NU HA HE HR1 HR2 HR3 HR4 HB
      refine start_ (n := 37) (S := fun w' => w'.cell? ⟨w.heap.size, 0, none⟩ = some (.int .i64 a0) ∧ w'.cell? ⟨w.heap.size, 1, none⟩ = some (.int .u64 a1) ∧ w'.cell? ⟨w.heap.size + 1, 0, none⟩ = some (.int .i64 b0) ∧ w'.cell? ⟨w.heap.size + 1, 1, none⟩ = some (.int .u64 b1) ∧ w'.cell? ⟨w1.heap.size, 0, none⟩ = some (.int .i64 r1) ∧ w'.cell? ⟨w1.heap.size, 1, none⟩ = some (.int .u64 q1) ∧ w'.cell? ⟨w2.heap.size, 0, none⟩ = some (.int .i64 r2) ∧ w'.cell? ⟨w2.heap.size, 1, none⟩ = some (.int .u64 q2) ∧ w'.cell? ⟨w3.heap.size, 0, none⟩ = some (.int .i64 r3) ∧ w'.cell? ⟨w3.heap.size, 1, none⟩ = some (.int .u64 q3) ∧ w'.cell? ⟨w4.heap.size, 0, none⟩ = some (.int .i64 r4) ∧ w'.cell? ⟨w4.heap.size, 1, none⟩ = some (.int .u64 q4) ∧ w'.cell? ⟨w4.heap.size + 1, 0, none⟩ = some (.bool nu) ∧ w'.cell? ⟨w4.heap.size + 1, 1, none⟩ = some (.slice Au lu cu)) (ds := []) #[false, false, false, false, false, false, false, false, false, false, false, false, false, false, false, false, false, false, false, false, false, false, false, false, false, false, false, false, false, false, false, false, false, false, false, false, false] (by kernel_rfl) rfl rfl ⟨(blk_cell HA_4.out 0).trans rfl, (blk_cell HA_4.out 1).trans rfl, (blk_cell HE_4.out 0).trans rfl, (blk_cell HE_4.out 1).trans rfl, (blk_cell HR1_4.out 0).trans rfl, (blk_cell HR1_4.out 1).trans rfl, (blk_cell HR2_4.out 0).trans rfl, (blk_cell HR2_4.out 1).trans rfl, (blk_cell HR3_4.out 0).trans rfl, (blk_cell HR3_4.out 1).trans rfl, (blk_cell HR4_4.out 0).trans rfl, (blk_cell HR4_4.out 1).trans rfl, (blk_cell HU_4.out 0).trans rfl, (blk_cell HU_4.out 1).trans rfl⟩ (fun hHeld => ?_)
      refine with_tabW tabW11 bitsW11 (fun HT_ HW_ => ?_)
      generalize wr.drew = we at HU_4 NU_4 HA_4 HE_4 HR1_4 HR2_4 HR3_4 HR4_4 HB_4 hHeld ⊢
      refine one_ (i := 0) (N := some 59) #[true, false, false, false, false, false, false, false, false, false, false, false, false, false, false, false, false, false, false, false, false, false, false, false, false, false, false, false, false, false, false, false, false, false, false, false, false] rfl rfl (one_of HT_.out (by kernel_rfl)) (by decide) (fun K hK => ?_)
      refine goes_ Try.func9 (by kernel_rfl) rfl #[] (by rfl) rfl rfl (by (try simp only [List.map_toArray, List.map_cons, List.map_nil]); first | done | rfl) ?_
      refine (known_c).mono ?_
      rintro e w104 ⟨rfl, hb⟩
      refine ⟨_, rfl, ?_⟩
      have HU_5 := Aside0.mk (blk_below HU_4.out hb)
      have NU_5 := Aside0.mk (NV.below NU_4.out hb)
      have HA_5 := Aside0.mk (blk_below HA_4.out hb)
      have HE_5 := Aside0.mk (blk_below HE_4.out hb)
      have HR1_5 := Aside0.mk (blk_below HR1_4.out hb)
      have HR2_5 := Aside0.mk (blk_below HR2_4.out hb)
      have HR3_5 := Aside0.mk (blk_below HR3_4.out hb)
      have HR4_5 := Aside0.mk (blk_below HR4_4.out hb)
      have HB_5 := Aside0.mk (below_step HB_4.out hb)
      clear HU_4 NU_4 HA_4 HE_4 HR1_4 HR2_4 HR3_4 HR4_4 HB_4
      clear hb
      refine hK.out _ _ ⟨(blk_cell HA_5.out 0).trans rfl, (blk_cell HA_5.out 1).trans rfl, (blk_cell HE_5.out 0).trans rfl, (blk_cell HE_5.out 1).trans rfl, (blk_cell HR1_5.out 0).trans rfl, (blk_cell HR1_5.out 1).trans rfl, (blk_cell HR2_5.out 0).trans rfl, (blk_cell HR2_5.out 1).trans rfl, (blk_cell HR3_5.out 0).trans rfl, (blk_cell HR3_5.out 1).trans rfl, (blk_cell HR4_5.out 0).trans rfl, (blk_cell HR4_5.out 1).trans rfl, (blk_cell HU_5.out 0).trans rfl, (blk_cell HU_5.out 1).trans rfl⟩ (fun hHeld => ?_)
      clear hK K
      refine norm_ (a' := ?_) ?_ ?_
      rotate_left
      · show Act.put _ (some 59) _ = _
        simp only [Act.put, List.setIfInBounds_toArray, List.set_cons_zero, List.set_cons_succ, i64_w, i32_w]
        rfl
      refine pure_ (i := 1) (N := some 60) (v := ?_) (a' := ?_) #[true, true, false, false, false, false, false, false, false, false, false, false, false, false, false, false, false, false, false, false, false, false, false, false, false, false, false, false, false, false, false, false, false, false, false, false, false] rfl rfl (any_of HT_.out (by kernel_rfl)) (fun _ _ _ h => h) (Or.inl ⟨by rfl, ?_⟩) ?_ ?_
      rotate_left
      · intro w'
        go_simp
        with_reducible rfl
      rotate_left
      · simp only [Act.put, List.setIfInBounds_toArray, List.set_cons_zero, List.set_cons_succ, i64_w, i32_w]
        rfl
      refine take_ (i := 2) (N := some 61) (v := ?_) (a' := ?_) #[true, true, true, false, false, false, false, false, false, false, false, false, false, false, false, false, false, false, false, false, false, false, false, false, false, false, false, false, false, false, false, false, false, false, false, false, false] rfl rfl (take_ofW HT_.out HW_.out (by kernel_rfl)) (fun _ _ _ h => h) (Or.inl ⟨by rfl, ?_⟩) hHeld ?_ ?_
      rotate_left
      · rintro w' ⟨s0, s1, s2, s3, s4, s5, s6, s7, s8, s9, s10, s11, s12, s13⟩
        go_simp
        with_reducible rfl
      rotate_left
      · simp only [Act.put, List.setIfInBounds_toArray, List.set_cons_zero, List.set_cons_succ, i64_w, i32_w]
        rfl
      refine pure_ (i := 3) (N := some 62) (v := ?_) (a' := ?_) #[true, true, true, true, false, false, false, false, false, false, false, false, false, false, false, false, false, false, false, false, false, false, false, false, false, false, false, false, false, false, false, false, false, false, false, false, false] rfl rfl (any_of HT_.out (by kernel_rfl)) (fun _ _ _ h => h) (Or.inl ⟨by rfl, ?_⟩) ?_ ?_
      rotate_left
      · intro w'
        go_simp
        with_reducible rfl
      rotate_left
      · simp only [Act.put, List.setIfInBounds_toArray, List.set_cons_zero, List.set_cons_succ, i64_w, i32_w]
        rfl
      refine take_ (i := 4) (N := some 63) (v := ?_) (a' := ?_) #[true, true, true, true, true, false, false, false, false, false, false, false, false, false, false, false, false, false, false, false, false, false, false, false, false, false, false, false, false, false, false, false, false, false, false, false, false] rfl rfl (take_ofW HT_.out HW_.out (by kernel_rfl)) (fun _ _ _ h => h) (Or.inl ⟨by rfl, ?_⟩) hHeld ?_ ?_
      rotate_left
      · rintro w' ⟨s0, s1, s2, s3, s4, s5, s6, s7, s8, s9, s10, s11, s12, s13⟩
        go_simp
        with_reducible rfl
      rotate_left
      · simp only [Act.put, List.setIfInBounds_toArray, List.set_cons_zero, List.set_cons_succ, i64_w, i32_w]
        rfl
      refine take_ (i := 6) (N := some 65) (v := ?_) (a' := ?_) #[true, true, true, true, true, false, true, false, false, false, false, false, false, false, false, false, false, false, false, false, false, false, false, false, false, false, false, false, false, false, false, false, false, false, false, false, false] rfl rfl (take_ofW HT_.out HW_.out (by kernel_rfl)) (fun _ _ _ h => h) (Or.inl ⟨by rfl, ?_⟩) hHeld ?_ ?_
      rotate_left
      · rintro w' ⟨s0, s1, s2, s3, s4, s5, s6, s7, s8, s9, s10, s11, s12, s13⟩
        go_simp
        with_reducible rfl
      rotate_left
      · simp only [Act.put, List.setIfInBounds_toArray, List.set_cons_zero, List.set_cons_succ, i64_w, i32_w]
        rfl
      refine one_ (i := 5) (N := some 64) #[true, true, true, true, true, true, true, false, false, false, false, false, false, false, false, false, false, false, false, false, false, false, false, false, false, false, false, false, false, false, false, false, false, false, false, false, false] rfl rfl (one_of HT_.out (by kernel_rfl)) (by decide) (fun K hK => ?_)
      refine goes_ Try.func11 (by kernel_rfl) rfl #[.agg #[.int .i64 a0, .int .u64 a1]] (by rfl) rfl rfl (by (try simp only [List.map_toArray, List.map_cons, List.map_nil]); first | done | rfl) ?_
      refine (num_c (G := []) ha.1 ha.2 (fun g hg => by cases hg)).mono ?_
      rintro e w105 ⟨n12, A12, l12, c12, rfl, hN, hb⟩
      refine ⟨_, rfl, ?_⟩
      have HU_6 := Aside0.mk (blk_below HU_5.out hb)
      have NU_6 := Aside0.mk (NV.below NU_5.out hb)
      have HA_6 := Aside0.mk (blk_below HA_5.out hb)
      have HE_6 := Aside0.mk (blk_below HE_5.out hb)
      have HR1_6 := Aside0.mk (blk_below HR1_5.out hb)
      have HR2_6 := Aside0.mk (blk_below HR2_5.out hb)
      have HR3_6 := Aside0.mk (blk_below HR3_5.out hb)
      have HR4_6 := Aside0.mk (blk_below HR4_5.out hb)
      have HB_6 := Aside0.mk (below_step HB_5.out hb)
      clear HU_5 NU_5 HA_5 HE_5 HR1_5 HR2_5 HR3_5 HR4_5 HB_5
      have HN12_6 := Aside0.mk hN
      clear hN
      clear hb
      refine hK.out _ _ ⟨(blk_cell HA_6.out 0).trans rfl, (blk_cell HA_6.out 1).trans rfl, (blk_cell HE_6.out 0).trans rfl, (blk_cell HE_6.out 1).trans rfl, (blk_cell HR1_6.out 0).trans rfl, (blk_cell HR1_6.out 1).trans rfl, (blk_cell HR2_6.out 0).trans rfl, (blk_cell HR2_6.out 1).trans rfl, (blk_cell HR3_6.out 0).trans rfl, (blk_cell HR3_6.out 1).trans rfl, (blk_cell HR4_6.out 0).trans rfl, (blk_cell HR4_6.out 1).trans rfl, (blk_cell HU_6.out 0).trans rfl, (blk_cell HU_6.out 1).trans rfl⟩ (fun hHeld => ?_)
      clear hK K
      refine norm_ (a' := ?_) ?_ ?_
      rotate_left
      · show Act.put _ (some 64) _ = _
        simp only [Act.put, List.setIfInBounds_toArray, List.set_cons_zero, List.set_cons_succ, i64_w, i32_w]
        rfl
      refine one_ (i := 7) (N := some 66) #[true, true, true, true, true, true, true, true, false, false, false, false, false, false, false, false, false, false, false, false, false, false, false, false, false, false, false, false, false, false, false, false, false, false, false, false, false] rfl rfl (one_of HT_.out (by kernel_rfl)) (by decide) (fun K hK => ?_)
      refine goes_ Try.func11 (by kernel_rfl) rfl #[.agg #[.int .i64 b0, .int .u64 b1]] (by rfl) rfl rfl (by (try simp only [List.map_toArray, List.map_cons, List.map_nil]); first | done | rfl) ?_
      refine (num_c (G := []) hbb.1 hbb.2 (fun g hg => by cases hg)).mono ?_
      rintro e w106 ⟨n13, A13, l13, c13, rfl, hN, hb⟩
      refine ⟨_, rfl, ?_⟩
      have HU_7 := Aside0.mk (blk_below HU_6.out hb)
      have NU_7 := Aside0.mk (NV.below NU_6.out hb)
      have HA_7 := Aside0.mk (blk_below HA_6.out hb)
      have HE_7 := Aside0.mk (blk_below HE_6.out hb)
      have HR1_7 := Aside0.mk (blk_below HR1_6.out hb)
      have HR2_7 := Aside0.mk (blk_below HR2_6.out hb)
      have HR3_7 := Aside0.mk (blk_below HR3_6.out hb)
      have HR4_7 := Aside0.mk (blk_below HR4_6.out hb)
      have HB_7 := Aside0.mk (below_step HB_6.out hb)
      have HN12_7 := Aside0.mk (NV.below HN12_6.out hb)
      clear HU_6 NU_6 HA_6 HE_6 HR1_6 HR2_6 HR3_6 HR4_6 HB_6 HN12_6
      have HN13_7 := Aside0.mk hN
      clear hN
      clear hb
      refine hK.out _ _ ⟨(blk_cell HA_7.out 0).trans rfl, (blk_cell HA_7.out 1).trans rfl, (blk_cell HE_7.out 0).trans rfl, (blk_cell HE_7.out 1).trans rfl, (blk_cell HR1_7.out 0).trans rfl, (blk_cell HR1_7.out 1).trans rfl, (blk_cell HR2_7.out 0).trans rfl, (blk_cell HR2_7.out 1).trans rfl, (blk_cell HR3_7.out 0).trans rfl, (blk_cell HR3_7.out 1).trans rfl, (blk_cell HR4_7.out 0).trans rfl, (blk_cell HR4_7.out 1).trans rfl, (blk_cell HU_7.out 0).trans rfl, (blk_cell HU_7.out 1).trans rfl⟩ (fun hHeld => ?_)
      clear hK K
      refine norm_ (a' := ?_) ?_ ?_
      rotate_left
      · show Act.put _ (some 66) _ = _
        simp only [Act.put, List.setIfInBounds_toArray, List.set_cons_zero, List.set_cons_succ, i64_w, i32_w]
        rfl
      refine one_ (i := 8) (N := some 67) #[true, true, true, true, true, true, true, true, true, false, false, false, false, false, false, false, false, false, false, false, false, false, false, false, false, false, false, false, false, false, false, false, false, false, false, false, false] rfl rfl (one_of HT_.out (by kernel_rfl)) (by decide) (fun K hK => ?_)
      refine goes_ Try.func22 (by kernel_rfl) rfl #[.agg #[.bool n13, .slice A13 l13 c13]] (by rfl) rfl rfl (by (try simp only [List.map_toArray, List.map_cons, List.map_nil]); first | done | rfl) ?_
      refine (neg_c (G := []) HN13_7.out (fun g hg => by cases hg)).mono ?_
      rintro e w107 ⟨n14, A14, l14, c14, rfl, hN, hb⟩
      refine ⟨_, rfl, ?_⟩
      have HU_8 := Aside0.mk (blk_below HU_7.out hb)
      have NU_8 := Aside0.mk (NV.below NU_7.out hb)
      have HA_8 := Aside0.mk (blk_below HA_7.out hb)
      have HE_8 := Aside0.mk (blk_below HE_7.out hb)
      have HR1_8 := Aside0.mk (blk_below HR1_7.out hb)
      have HR2_8 := Aside0.mk (blk_below HR2_7.out hb)
      have HR3_8 := Aside0.mk (blk_below HR3_7.out hb)
      have HR4_8 := Aside0.mk (blk_below HR4_7.out hb)
      have HB_8 := Aside0.mk (below_step HB_7.out hb)
      have HN12_8 := Aside0.mk (NV.below HN12_7.out hb)
      clear HU_7 NU_7 HA_7 HE_7 HR1_7 HR2_7 HR3_7 HR4_7 HB_7 HN12_7
      have HN14_8 := Aside0.mk hN
      clear hN
      clear hb
      refine hK.out _ _ ⟨(blk_cell HA_8.out 0).trans rfl, (blk_cell HA_8.out 1).trans rfl, (blk_cell HE_8.out 0).trans rfl, (blk_cell HE_8.out 1).trans rfl, (blk_cell HR1_8.out 0).trans rfl, (blk_cell HR1_8.out 1).trans rfl, (blk_cell HR2_8.out 0).trans rfl, (blk_cell HR2_8.out 1).trans rfl, (blk_cell HR3_8.out 0).trans rfl, (blk_cell HR3_8.out 1).trans rfl, (blk_cell HR4_8.out 0).trans rfl, (blk_cell HR4_8.out 1).trans rfl, (blk_cell HU_8.out 0).trans rfl, (blk_cell HU_8.out 1).trans rfl⟩ (fun hHeld => ?_)
      clear hK K
      refine norm_ (a' := ?_) ?_ ?_
      rotate_left
      · show Act.put _ (some 67) _ = _
        simp only [Act.put, List.setIfInBounds_toArray, List.set_cons_zero, List.set_cons_succ, i64_w, i32_w]
        rfl
      refine one_ (i := 9) (N := some 68) #[true, true, true, true, true, true, true, true, true, true, false, false, false, false, false, false, false, false, false, false, false, false, false, false, false, false, false, false, false, false, false, false, false, false, false, false, false] rfl rfl (one_of HT_.out (by kernel_rfl)) (by decide) (fun K hK => ?_)
      refine goes_ Try.func21 (by kernel_rfl) rfl #[.agg #[.bool n12, .slice A12 l12 c12], .agg #[.bool n14, .slice A14 l14 c14]] (by rfl) rfl rfl (by (try simp only [List.map_toArray, List.map_cons, List.map_nil]); first | done | rfl) ?_
      refine (add_c (G := []) HN12_8.out HN14_8.out (by omega) (by omega) (fun g hg => by cases hg)).mono ?_
      rintro e w108 ⟨n15, A15, l15, c15, rfl, hN, hb⟩
      refine ⟨_, rfl, ?_⟩
      have HU_9 := Aside0.mk (blk_below HU_8.out hb)
      have NU_9 := Aside0.mk (NV.below NU_8.out hb)
      have HA_9 := Aside0.mk (blk_below HA_8.out hb)
      have HE_9 := Aside0.mk (blk_below HE_8.out hb)
      have HR1_9 := Aside0.mk (blk_below HR1_8.out hb)
      have HR2_9 := Aside0.mk (blk_below HR2_8.out hb)
      have HR3_9 := Aside0.mk (blk_below HR3_8.out hb)
      have HR4_9 := Aside0.mk (blk_below HR4_8.out hb)
      have HB_9 := Aside0.mk (below_step HB_8.out hb)
      clear HU_8 NU_8 HA_8 HE_8 HR1_8 HR2_8 HR3_8 HR4_8 HB_8
      have HN15_9 := Aside0.mk hN
      clear hN
      clear hb
      refine hK.out _ _ ⟨(blk_cell HA_9.out 0).trans rfl, (blk_cell HA_9.out 1).trans rfl, (blk_cell HE_9.out 0).trans rfl, (blk_cell HE_9.out 1).trans rfl, (blk_cell HR1_9.out 0).trans rfl, (blk_cell HR1_9.out 1).trans rfl, (blk_cell HR2_9.out 0).trans rfl, (blk_cell HR2_9.out 1).trans rfl, (blk_cell HR3_9.out 0).trans rfl, (blk_cell HR3_9.out 1).trans rfl, (blk_cell HR4_9.out 0).trans rfl, (blk_cell HR4_9.out 1).trans rfl, (blk_cell HU_9.out 0).trans rfl, (blk_cell HU_9.out 1).trans rfl⟩ (fun hHeld => ?_)
      clear hK K
      refine norm_ (a' := ?_) ?_ ?_
      rotate_left
      · show Act.put _ (some 68) _ = _
        simp only [Act.put, List.setIfInBounds_toArray, List.set_cons_zero, List.set_cons_succ, i64_w, i32_w]
        rfl
      refine one_ (i := 10) (N := some 69) #[true, true, true, true, true, true, true, true, true, true, true, false, false, false, false, false, false, false, false, false, false, false, false, false, false, false, false, false, false, false, false, false, false, false, false, false, false] rfl rfl (one_of HT_.out (by kernel_rfl)) (by decide) (fun K hK => ?_)
      refine goes_ Try.func17 (by kernel_rfl) rfl #[.agg #[.int .i64 r1, .int .u64 q1], .int .i64 e1, .agg #[.bool n15, .slice A15 l15 c15]] (by rfl) rfl rfl (by (try simp only [List.map_toArray, List.map_cons, List.map_nil]); first | done | rfl) ?_
      refine (judge128_c HI1.out HN15_9.out).mono ?_
      rintro e w109 ⟨rfl, hb⟩
      refine ⟨_, rfl, ?_⟩
      have HU_10 := Aside0.mk (blk_below HU_9.out hb)
      have NU_10 := Aside0.mk (NV.below NU_9.out hb)
      have HA_10 := Aside0.mk (blk_below HA_9.out hb)
      have HE_10 := Aside0.mk (blk_below HE_9.out hb)
      have HR1_10 := Aside0.mk (blk_below HR1_9.out hb)
      have HR2_10 := Aside0.mk (blk_below HR2_9.out hb)
      have HR3_10 := Aside0.mk (blk_below HR3_9.out hb)
      have HR4_10 := Aside0.mk (blk_below HR4_9.out hb)
      have HB_10 := Aside0.mk (below_step HB_9.out hb)
      clear HU_9 NU_9 HA_9 HE_9 HR1_9 HR2_9 HR3_9 HR4_9 HB_9
      clear hb
      refine hK.out _ _ ⟨(blk_cell HA_10.out 0).trans rfl, (blk_cell HA_10.out 1).trans rfl, (blk_cell HE_10.out 0).trans rfl, (blk_cell HE_10.out 1).trans rfl, (blk_cell HR1_10.out 0).trans rfl, (blk_cell HR1_10.out 1).trans rfl, (blk_cell HR2_10.out 0).trans rfl, (blk_cell HR2_10.out 1).trans rfl, (blk_cell HR3_10.out 0).trans rfl, (blk_cell HR3_10.out 1).trans rfl, (blk_cell HR4_10.out 0).trans rfl, (blk_cell HR4_10.out 1).trans rfl, (blk_cell HU_10.out 0).trans rfl, (blk_cell HU_10.out 1).trans rfl⟩ (fun hHeld => ?_)
      clear hK K
      refine norm_ (a' := ?_) ?_ ?_
      rotate_left
      · show Act.put _ (some 69) _ = _
        simp only [Act.put, List.setIfInBounds_toArray, List.set_cons_zero, List.set_cons_succ, i64_w, i32_w]
        rfl
      refine pure_ (i := 11) (N := some 70) (v := ?_) (a' := ?_) #[true, true, true, true, true, true, true, true, true, true, true, true, false, false, false, false, false, false, false, false, false, false, false, false, false, false, false, false, false, false, false, false, false, false, false, false, false] rfl rfl (any_of HT_.out (by kernel_rfl)) (fun _ _ _ h => h) (Or.inl ⟨by rfl, ?_⟩) ?_ ?_
      rotate_left
      · intro w'
        go_simp
        with_reducible rfl
      rotate_left
      · simp only [Act.put, List.setIfInBounds_toArray, List.set_cons_zero, List.set_cons_succ, i64_w, i32_w]
        rfl
      refine pure_ (i := 12) (N := some 71) (v := ?_) (a' := ?_) #[true, true, true, true, true, true, true, true, true, true, true, true, true, false, false, false, false, false, false, false, false, false, false, false, false, false, false, false, false, false, false, false, false, false, false, false, false] rfl rfl (any_of HT_.out (by kernel_rfl)) (fun _ _ _ h => h) (Or.inl ⟨by rfl, ?_⟩) ?_ ?_
      rotate_left
      · intro w'
        go_simp
        with_reducible rfl
      rotate_left
      · simp only [Act.put, List.setIfInBounds_toArray, List.set_cons_zero, List.set_cons_succ, i64_w, i32_w]
        rfl
      refine take_ (i := 13) (N := some 72) (v := ?_) (a' := ?_) #[true, true, true, true, true, true, true, true, true, true, true, true, true, true, false, false, false, false, false, false, false, false, false, false, false, false, false, false, false, false, false, false, false, false, false, false, false] rfl rfl (take_ofW HT_.out HW_.out (by kernel_rfl)) (fun _ _ _ h => h) (Or.inl ⟨by rfl, ?_⟩) hHeld ?_ ?_
      rotate_left
      · rintro w' ⟨s0, s1, s2, s3, s4, s5, s6, s7, s8, s9, s10, s11, s12, s13⟩
        go_simp
        with_reducible rfl
      rotate_left
      · simp only [Act.put, List.setIfInBounds_toArray, List.set_cons_zero, List.set_cons_succ, i64_w, i32_w]
        rfl
      refine pure_ (i := 14) (N := some 73) (v := ?_) (a' := ?_) #[true, true, true, true, true, true, true, true, true, true, true, true, true, true, true, false, false, false, false, false, false, false, false, false, false, false, false, false, false, false, false, false, false, false, false, false, false] rfl rfl (any_of HT_.out (by kernel_rfl)) (fun _ _ _ h => h) (Or.inl ⟨by rfl, ?_⟩) ?_ ?_
      rotate_left
      · intro w'
        go_simp
        with_reducible rfl
      rotate_left
      · simp only [Act.put, List.setIfInBounds_toArray, List.set_cons_zero, List.set_cons_succ, i64_w, i32_w]
        rfl
      refine take_ (i := 15) (N := some 74) (v := ?_) (a' := ?_) #[true, true, true, true, true, true, true, true, true, true, true, true, true, true, true, true, false, false, false, false, false, false, false, false, false, false, false, false, false, false, false, false, false, false, false, false, false] rfl rfl (take_ofW HT_.out HW_.out (by kernel_rfl)) (fun _ _ _ h => h) (Or.inl ⟨by rfl, ?_⟩) hHeld ?_ ?_
      rotate_left
      · rintro w' ⟨s0, s1, s2, s3, s4, s5, s6, s7, s8, s9, s10, s11, s12, s13⟩
        go_simp
        with_reducible rfl
      rotate_left
      · simp only [Act.put, List.setIfInBounds_toArray, List.set_cons_zero, List.set_cons_succ, i64_w, i32_w]
        rfl
      refine one_ (i := 16) (N := some 75) #[true, true, true, true, true, true, true, true, true, true, true, true, true, true, true, true, true, false, false, false, false, false, false, false, false, false, false, false, false, false, false, false, false, false, false, false, false] rfl rfl (one_of HT_.out (by kernel_rfl)) (by decide) (fun K hK => ?_)
      refine goes_ Try.func11 (by kernel_rfl) rfl #[.agg #[.int .i64 a0, .int .u64 a1]] (by rfl) rfl rfl (by (try simp only [List.map_toArray, List.map_cons, List.map_nil]); first | done | rfl) ?_
      refine (num_c (G := []) ha.1 ha.2 (fun g hg => by cases hg)).mono ?_
      rintro e w110 ⟨n17, A17, l17, c17, rfl, hN, hb⟩
      refine ⟨_, rfl, ?_⟩
      have HU_11 := Aside0.mk (blk_below HU_10.out hb)
      have NU_11 := Aside0.mk (NV.below NU_10.out hb)
      have HA_11 := Aside0.mk (blk_below HA_10.out hb)
      have HE_11 := Aside0.mk (blk_below HE_10.out hb)
      have HR1_11 := Aside0.mk (blk_below HR1_10.out hb)
      have HR2_11 := Aside0.mk (blk_below HR2_10.out hb)
      have HR3_11 := Aside0.mk (blk_below HR3_10.out hb)
      have HR4_11 := Aside0.mk (blk_below HR4_10.out hb)
      have HB_11 := Aside0.mk (below_step HB_10.out hb)
      clear HU_10 NU_10 HA_10 HE_10 HR1_10 HR2_10 HR3_10 HR4_10 HB_10
      have HN17_11 := Aside0.mk hN
      clear hN
      clear hb
      refine hK.out _ _ ⟨(blk_cell HA_11.out 0).trans rfl, (blk_cell HA_11.out 1).trans rfl, (blk_cell HE_11.out 0).trans rfl, (blk_cell HE_11.out 1).trans rfl, (blk_cell HR1_11.out 0).trans rfl, (blk_cell HR1_11.out 1).trans rfl, (blk_cell HR2_11.out 0).trans rfl, (blk_cell HR2_11.out 1).trans rfl, (blk_cell HR3_11.out 0).trans rfl, (blk_cell HR3_11.out 1).trans rfl, (blk_cell HR4_11.out 0).trans rfl, (blk_cell HR4_11.out 1).trans rfl, (blk_cell HU_11.out 0).trans rfl, (blk_cell HU_11.out 1).trans rfl⟩ (fun hHeld => ?_)
      clear hK K
      refine norm_ (a' := ?_) ?_ ?_
      rotate_left
      · show Act.put _ (some 75) _ = _
        simp only [Act.put, List.setIfInBounds_toArray, List.set_cons_zero, List.set_cons_succ, i64_w, i32_w]
        rfl
      refine one_ (i := 17) (N := some 76) #[true, true, true, true, true, true, true, true, true, true, true, true, true, true, true, true, true, true, false, false, false, false, false, false, false, false, false, false, false, false, false, false, false, false, false, false, false] rfl rfl (one_of HT_.out (by kernel_rfl)) (by decide) (fun K hK => ?_)
      refine goes_ Try.func22 (by kernel_rfl) rfl #[.agg #[.bool n17, .slice A17 l17 c17]] (by rfl) rfl rfl (by (try simp only [List.map_toArray, List.map_cons, List.map_nil]); first | done | rfl) ?_
      refine (neg_c (G := []) HN17_11.out (fun g hg => by cases hg)).mono ?_
      rintro e w111 ⟨n18, A18, l18, c18, rfl, hN, hb⟩
      refine ⟨_, rfl, ?_⟩
      have HU_12 := Aside0.mk (blk_below HU_11.out hb)
      have NU_12 := Aside0.mk (NV.below NU_11.out hb)
      have HA_12 := Aside0.mk (blk_below HA_11.out hb)
      have HE_12 := Aside0.mk (blk_below HE_11.out hb)
      have HR1_12 := Aside0.mk (blk_below HR1_11.out hb)
      have HR2_12 := Aside0.mk (blk_below HR2_11.out hb)
      have HR3_12 := Aside0.mk (blk_below HR3_11.out hb)
      have HR4_12 := Aside0.mk (blk_below HR4_11.out hb)
      have HB_12 := Aside0.mk (below_step HB_11.out hb)
      clear HU_11 NU_11 HA_11 HE_11 HR1_11 HR2_11 HR3_11 HR4_11 HB_11
      have HN18_12 := Aside0.mk hN
      clear hN
      clear hb
      refine hK.out _ _ ⟨(blk_cell HA_12.out 0).trans rfl, (blk_cell HA_12.out 1).trans rfl, (blk_cell HE_12.out 0).trans rfl, (blk_cell HE_12.out 1).trans rfl, (blk_cell HR1_12.out 0).trans rfl, (blk_cell HR1_12.out 1).trans rfl, (blk_cell HR2_12.out 0).trans rfl, (blk_cell HR2_12.out 1).trans rfl, (blk_cell HR3_12.out 0).trans rfl, (blk_cell HR3_12.out 1).trans rfl, (blk_cell HR4_12.out 0).trans rfl, (blk_cell HR4_12.out 1).trans rfl, (blk_cell HU_12.out 0).trans rfl, (blk_cell HU_12.out 1).trans rfl⟩ (fun hHeld => ?_)
      clear hK K
      refine norm_ (a' := ?_) ?_ ?_
      rotate_left
      · show Act.put _ (some 76) _ = _
        simp only [Act.put, List.setIfInBounds_toArray, List.set_cons_zero, List.set_cons_succ, i64_w, i32_w]
        rfl
      refine one_ (i := 18) (N := some 77) #[true, true, true, true, true, true, true, true, true, true, true, true, true, true, true, true, true, true, true, false, false, false, false, false, false, false, false, false, false, false, false, false, false, false, false, false, false] rfl rfl (one_of HT_.out (by kernel_rfl)) (by decide) (fun K hK => ?_)
      refine goes_ Try.func17 (by kernel_rfl) rfl #[.agg #[.int .i64 r2, .int .u64 q2], .int .i64 e2, .agg #[.bool n18, .slice A18 l18 c18]] (by rfl) rfl rfl (by (try simp only [List.map_toArray, List.map_cons, List.map_nil]); first | done | rfl) ?_
      refine (judge128_c HI2.out HN18_12.out).mono ?_
      rintro e w112 ⟨rfl, hb⟩
      refine ⟨_, rfl, ?_⟩
      have HU_13 := Aside0.mk (blk_below HU_12.out hb)
      have NU_13 := Aside0.mk (NV.below NU_12.out hb)
      have HA_13 := Aside0.mk (blk_below HA_12.out hb)
      have HE_13 := Aside0.mk (blk_below HE_12.out hb)
      have HR1_13 := Aside0.mk (blk_below HR1_12.out hb)
      have HR2_13 := Aside0.mk (blk_below HR2_12.out hb)
      have HR3_13 := Aside0.mk (blk_below HR3_12.out hb)
      have HR4_13 := Aside0.mk (blk_below HR4_12.out hb)
      have HB_13 := Aside0.mk (below_step HB_12.out hb)
      clear HU_12 NU_12 HA_12 HE_12 HR1_12 HR2_12 HR3_12 HR4_12 HB_12
      clear hb
      refine hK.out _ _ ⟨(blk_cell HA_13.out 0).trans rfl, (blk_cell HA_13.out 1).trans rfl, (blk_cell HE_13.out 0).trans rfl, (blk_cell HE_13.out 1).trans rfl, (blk_cell HR1_13.out 0).trans rfl, (blk_cell HR1_13.out 1).trans rfl, (blk_cell HR2_13.out 0).trans rfl, (blk_cell HR2_13.out 1).trans rfl, (blk_cell HR3_13.out 0).trans rfl, (blk_cell HR3_13.out 1).trans rfl, (blk_cell HR4_13.out 0).trans rfl, (blk_cell HR4_13.out 1).trans rfl, (blk_cell HU_13.out 0).trans rfl, (blk_cell HU_13.out 1).trans rfl⟩ (fun hHeld => ?_)
      clear hK K
      refine norm_ (a' := ?_) ?_ ?_
      rotate_left
      · show Act.put _ (some 77) _ = _
        simp only [Act.put, List.setIfInBounds_toArray, List.set_cons_zero, List.set_cons_succ, i64_w, i32_w]
        rfl
      refine pure_ (i := 19) (N := some 78) (v := ?_) (a' := ?_) #[true, true, true, true, true, true, true, true, true, true, true, true, true, true, true, true, true, true, true, true, false, false, false, false, false, false, false, false, false, false, false, false, false, false, false, false, false] rfl rfl (any_of HT_.out (by kernel_rfl)) (fun _ _ _ h => h) (Or.inl ⟨by rfl, ?_⟩) ?_ ?_
      rotate_left
      · intro w'
        go_simp
        with_reducible rfl
      rotate_left
      · simp only [Act.put, List.setIfInBounds_toArray, List.set_cons_zero, List.set_cons_succ, i64_w, i32_w]
        rfl
      refine pure_ (i := 20) (N := some 79) (v := ?_) (a' := ?_) #[true, true, true, true, true, true, true, true, true, true, true, true, true, true, true, true, true, true, true, true, true, false, false, false, false, false, false, false, false, false, false, false, false, false, false, false, false] rfl rfl (any_of HT_.out (by kernel_rfl)) (fun _ _ _ h => h) (Or.inl ⟨by rfl, ?_⟩) ?_ ?_
      rotate_left
      · intro w'
        go_simp
        with_reducible rfl
      rotate_left
      · simp only [Act.put, List.setIfInBounds_toArray, List.set_cons_zero, List.set_cons_succ, i64_w, i32_w]
        rfl
      refine take_ (i := 21) (N := some 80) (v := ?_) (a' := ?_) #[true, true, true, true, true, true, true, true, true, true, true, true, true, true, true, true, true, true, true, true, true, true, false, false, false, false, false, false, false, false, false, false, false, false, false, false, false] rfl rfl (take_ofW HT_.out HW_.out (by kernel_rfl)) (fun _ _ _ h => h) (Or.inl ⟨by rfl, ?_⟩) hHeld ?_ ?_
      rotate_left
      · rintro w' ⟨s0, s1, s2, s3, s4, s5, s6, s7, s8, s9, s10, s11, s12, s13⟩
        go_simp
        with_reducible rfl
      rotate_left
      · simp only [Act.put, List.setIfInBounds_toArray, List.set_cons_zero, List.set_cons_succ, i64_w, i32_w]
        rfl
      refine pure_ (i := 22) (N := some 81) (v := ?_) (a' := ?_) #[true, true, true, true, true, true, true, true, true, true, true, true, true, true, true, true, true, true, true, true, true, true, true, false, false, false, false, false, false, false, false, false, false, false, false, false, false] rfl rfl (any_of HT_.out (by kernel_rfl)) (fun _ _ _ h => h) (Or.inl ⟨by rfl, ?_⟩) ?_ ?_
      rotate_left
      · intro w'
        go_simp
        with_reducible rfl
      rotate_left
      · simp only [Act.put, List.setIfInBounds_toArray, List.set_cons_zero, List.set_cons_succ, i64_w, i32_w]
        rfl
      refine take_ (i := 23) (N := some 82) (v := ?_) (a' := ?_) #[true, true, true, true, true, true, true, true, true, true, true, true, true, true, true, true, true, true, true, true, true, true, true, true, false, false, false, false, false, false, false, false, false, false, false, false, false] rfl rfl (take_ofW HT_.out HW_.out (by kernel_rfl)) (fun _ _ _ h => h) (Or.inl ⟨by rfl, ?_⟩) hHeld ?_ ?_
      rotate_left
      · rintro w' ⟨s0, s1, s2, s3, s4, s5, s6, s7, s8, s9, s10, s11, s12, s13⟩
        go_simp
        with_reducible rfl
      rotate_left
      · simp only [Act.put, List.setIfInBounds_toArray, List.set_cons_zero, List.set_cons_succ, i64_w, i32_w]
        rfl
      refine one_ (i := 24) (N := some 83) #[true, true, true, true, true, true, true, true, true, true, true, true, true, true, true, true, true, true, true, true, true, true, true, true, true, false, false, false, false, false, false, false, false, false, false, false, false] rfl rfl (one_of HT_.out (by kernel_rfl)) (by decide) (fun K hK => ?_)
      refine goes_ Try.func17 (by kernel_rfl) rfl #[.agg #[.int .i64 r3, .int .u64 q3], .int .i64 e3, .agg #[.bool nu, .slice Au lu cu]] (by rfl) rfl rfl (by (try simp only [List.map_toArray, List.map_cons, List.map_nil]); first | done | rfl) ?_
      refine (judge128_c HI3.out NU_13.out).mono ?_
      rintro e w113 ⟨rfl, hb⟩
      refine ⟨_, rfl, ?_⟩
      have HU_14 := Aside0.mk (blk_below HU_13.out hb)
      have HA_14 := Aside0.mk (blk_below HA_13.out hb)
      have HE_14 := Aside0.mk (blk_below HE_13.out hb)
      have HR1_14 := Aside0.mk (blk_below HR1_13.out hb)
      have HR2_14 := Aside0.mk (blk_below HR2_13.out hb)
      have HR3_14 := Aside0.mk (blk_below HR3_13.out hb)
      have HR4_14 := Aside0.mk (blk_below HR4_13.out hb)
      have HB_14 := Aside0.mk (below_step HB_13.out hb)
      clear HU_13 HA_13 HE_13 HR1_13 HR2_13 HR3_13 HR4_13 HB_13
      clear hb
      refine hK.out _ _ ⟨(blk_cell HA_14.out 0).trans rfl, (blk_cell HA_14.out 1).trans rfl, (blk_cell HE_14.out 0).trans rfl, (blk_cell HE_14.out 1).trans rfl, (blk_cell HR1_14.out 0).trans rfl, (blk_cell HR1_14.out 1).trans rfl, (blk_cell HR2_14.out 0).trans rfl, (blk_cell HR2_14.out 1).trans rfl, (blk_cell HR3_14.out 0).trans rfl, (blk_cell HR3_14.out 1).trans rfl, (blk_cell HR4_14.out 0).trans rfl, (blk_cell HR4_14.out 1).trans rfl, (blk_cell HU_14.out 0).trans rfl, (blk_cell HU_14.out 1).trans rfl⟩ (fun hHeld => ?_)
      clear hK K
      refine norm_ (a' := ?_) ?_ ?_
      rotate_left
      · show Act.put _ (some 83) _ = _
        simp only [Act.put, List.setIfInBounds_toArray, List.set_cons_zero, List.set_cons_succ, i64_w, i32_w]
        rfl
      refine pure_ (i := 25) (N := some 84) (v := ?_) (a' := ?_) #[true, true, true, true, true, true, true, true, true, true, true, true, true, true, true, true, true, true, true, true, true, true, true, true, true, true, false, false, false, false, false, false, false, false, false, false, false] rfl rfl (any_of HT_.out (by kernel_rfl)) (fun _ _ _ h => h) (Or.inl ⟨by rfl, ?_⟩) ?_ ?_
      rotate_left
      · intro w'
        go_simp
        with_reducible rfl
      rotate_left
      · simp only [Act.put, List.setIfInBounds_toArray, List.set_cons_zero, List.set_cons_succ, i64_w, i32_w]
        rfl
      refine pure_ (i := 26) (N := some 85) (v := ?_) (a' := ?_) #[true, true, true, true, true, true, true, true, true, true, true, true, true, true, true, true, true, true, true, true, true, true, true, true, true, true, true, false, false, false, false, false, false, false, false, false, false] rfl rfl (any_of HT_.out (by kernel_rfl)) (fun _ _ _ h => h) (Or.inl ⟨by rfl, ?_⟩) ?_ ?_
      rotate_left
      · intro w'
        go_simp
        with_reducible rfl
      rotate_left
      · simp only [Act.put, List.setIfInBounds_toArray, List.set_cons_zero, List.set_cons_succ, i64_w, i32_w]
        rfl
      refine take_ (i := 27) (N := some 86) (v := ?_) (a' := ?_) #[true, true, true, true, true, true, true, true, true, true, true, true, true, true, true, true, true, true, true, true, true, true, true, true, true, true, true, true, false, false, false, false, false, false, false, false, false] rfl rfl (take_ofW HT_.out HW_.out (by kernel_rfl)) (fun _ _ _ h => h) (Or.inl ⟨by rfl, ?_⟩) hHeld ?_ ?_
      rotate_left
      · rintro w' ⟨s0, s1, s2, s3, s4, s5, s6, s7, s8, s9, s10, s11, s12, s13⟩
        go_simp
        with_reducible rfl
      rotate_left
      · simp only [Act.put, List.setIfInBounds_toArray, List.set_cons_zero, List.set_cons_succ, i64_w, i32_w]
        rfl
      refine pure_ (i := 28) (N := some 87) (v := ?_) (a' := ?_) #[true, true, true, true, true, true, true, true, true, true, true, true, true, true, true, true, true, true, true, true, true, true, true, true, true, true, true, true, true, false, false, false, false, false, false, false, false] rfl rfl (any_of HT_.out (by kernel_rfl)) (fun _ _ _ h => h) (Or.inl ⟨by rfl, ?_⟩) ?_ ?_
      rotate_left
      · intro w'
        go_simp
        with_reducible rfl
      rotate_left
      · simp only [Act.put, List.setIfInBounds_toArray, List.set_cons_zero, List.set_cons_succ, i64_w, i32_w]
        rfl
      refine take_ (i := 29) (N := some 88) (v := ?_) (a' := ?_) #[true, true, true, true, true, true, true, true, true, true, true, true, true, true, true, true, true, true, true, true, true, true, true, true, true, true, true, true, true, true, false, false, false, false, false, false, false] rfl rfl (take_ofW HT_.out HW_.out (by kernel_rfl)) (fun _ _ _ h => h) (Or.inl ⟨by rfl, ?_⟩) hHeld ?_ ?_
      rotate_left
      · rintro w' ⟨s0, s1, s2, s3, s4, s5, s6, s7, s8, s9, s10, s11, s12, s13⟩
        go_simp
        with_reducible rfl
      rotate_left
      · simp only [Act.put, List.setIfInBounds_toArray, List.set_cons_zero, List.set_cons_succ, i64_w, i32_w]
        rfl
      refine take_ (i := 31) (N := some 90) (v := ?_) (a' := ?_) #[true, true, true, true, true, true, true, true, true, true, true, true, true, true, true, true, true, true, true, true, true, true, true, true, true, true, true, true, true, true, false, true, false, false, false, false, false] rfl rfl (take_ofW HT_.out HW_.out (by kernel_rfl)) (fun _ _ _ h => h) (Or.inl ⟨by rfl, ?_⟩) hHeld ?_ ?_
      rotate_left
      · rintro w' ⟨s0, s1, s2, s3, s4, s5, s6, s7, s8, s9, s10, s11, s12, s13⟩
        go_simp
        with_reducible rfl
      rotate_left
      · simp only [Act.put, List.setIfInBounds_toArray, List.set_cons_zero, List.set_cons_succ, i64_w, i32_w]
        rfl
      refine one_ (i := 30) (N := some 89) #[true, true, true, true, true, true, true, true, true, true, true, true, true, true, true, true, true, true, true, true, true, true, true, true, true, true, true, true, true, true, true, true, false, false, false, false, false] rfl rfl (one_of HT_.out (by kernel_rfl)) (by decide) (fun K hK => ?_)
      refine goes_ Try.func11 (by kernel_rfl) rfl #[.agg #[.int .i64 a0, .int .u64 a1]] (by rfl) rfl rfl (by (try simp only [List.map_toArray, List.map_cons, List.map_nil]); first | done | rfl) ?_
      refine (num_c (G := []) ha.1 ha.2 (fun g hg => by cases hg)).mono ?_
      rintro e w114 ⟨n21, A21, l21, c21, rfl, hN, hb⟩
      refine ⟨_, rfl, ?_⟩
      have HU_15 := Aside0.mk (blk_below HU_14.out hb)
      have HA_15 := Aside0.mk (blk_below HA_14.out hb)
      have HE_15 := Aside0.mk (blk_below HE_14.out hb)
      have HR1_15 := Aside0.mk (blk_below HR1_14.out hb)
      have HR2_15 := Aside0.mk (blk_below HR2_14.out hb)
      have HR3_15 := Aside0.mk (blk_below HR3_14.out hb)
      have HR4_15 := Aside0.mk (blk_below HR4_14.out hb)
      have HB_15 := Aside0.mk (below_step HB_14.out hb)
      clear HU_14 HA_14 HE_14 HR1_14 HR2_14 HR3_14 HR4_14 HB_14
      have HN21_15 := Aside0.mk hN
      clear hN
      clear hb
      refine hK.out _ _ ⟨(blk_cell HA_15.out 0).trans rfl, (blk_cell HA_15.out 1).trans rfl, (blk_cell HE_15.out 0).trans rfl, (blk_cell HE_15.out 1).trans rfl, (blk_cell HR1_15.out 0).trans rfl, (blk_cell HR1_15.out 1).trans rfl, (blk_cell HR2_15.out 0).trans rfl, (blk_cell HR2_15.out 1).trans rfl, (blk_cell HR3_15.out 0).trans rfl, (blk_cell HR3_15.out 1).trans rfl, (blk_cell HR4_15.out 0).trans rfl, (blk_cell HR4_15.out 1).trans rfl, (blk_cell HU_15.out 0).trans rfl, (blk_cell HU_15.out 1).trans rfl⟩ (fun hHeld => ?_)
      clear hK K
      refine norm_ (a' := ?_) ?_ ?_
      rotate_left
      · show Act.put _ (some 89) _ = _
        simp only [Act.put, List.setIfInBounds_toArray, List.set_cons_zero, List.set_cons_succ, i64_w, i32_w]
        rfl
      refine one_ (i := 32) (N := some 91) #[true, true, true, true, true, true, true, true, true, true, true, true, true, true, true, true, true, true, true, true, true, true, true, true, true, true, true, true, true, true, true, true, true, false, false, false, false] rfl rfl (one_of HT_.out (by kernel_rfl)) (by decide) (fun K hK => ?_)
      refine goes_ Try.func11 (by kernel_rfl) rfl #[.agg #[.int .i64 b0, .int .u64 b1]] (by rfl) rfl rfl (by (try simp only [List.map_toArray, List.map_cons, List.map_nil]); first | done | rfl) ?_
      refine (num_c (G := []) hbb.1 hbb.2 (fun g hg => by cases hg)).mono ?_
      rintro e w115 ⟨n22, A22, l22, c22, rfl, hN, hb⟩
      refine ⟨_, rfl, ?_⟩
      have HU_16 := Aside0.mk (blk_below HU_15.out hb)
      have HA_16 := Aside0.mk (blk_below HA_15.out hb)
      have HE_16 := Aside0.mk (blk_below HE_15.out hb)
      have HR1_16 := Aside0.mk (blk_below HR1_15.out hb)
      have HR2_16 := Aside0.mk (blk_below HR2_15.out hb)
      have HR3_16 := Aside0.mk (blk_below HR3_15.out hb)
      have HR4_16 := Aside0.mk (blk_below HR4_15.out hb)
      have HB_16 := Aside0.mk (below_step HB_15.out hb)
      have HN21_16 := Aside0.mk (NV.below HN21_15.out hb)
      clear HU_15 HA_15 HE_15 HR1_15 HR2_15 HR3_15 HR4_15 HB_15 HN21_15
      have HN22_16 := Aside0.mk hN
      clear hN
      clear hb
      refine hK.out _ _ ⟨(blk_cell HA_16.out 0).trans rfl, (blk_cell HA_16.out 1).trans rfl, (blk_cell HE_16.out 0).trans rfl, (blk_cell HE_16.out 1).trans rfl, (blk_cell HR1_16.out 0).trans rfl, (blk_cell HR1_16.out 1).trans rfl, (blk_cell HR2_16.out 0).trans rfl, (blk_cell HR2_16.out 1).trans rfl, (blk_cell HR3_16.out 0).trans rfl, (blk_cell HR3_16.out 1).trans rfl, (blk_cell HR4_16.out 0).trans rfl, (blk_cell HR4_16.out 1).trans rfl, (blk_cell HU_16.out 0).trans rfl, (blk_cell HU_16.out 1).trans rfl⟩ (fun hHeld => ?_)
      clear hK K
      refine norm_ (a' := ?_) ?_ ?_
      rotate_left
      · show Act.put _ (some 91) _ = _
        simp only [Act.put, List.setIfInBounds_toArray, List.set_cons_zero, List.set_cons_succ, i64_w, i32_w]
        rfl
      refine one_ (i := 33) (N := some 92) #[true, true, true, true, true, true, true, true, true, true, true, true, true, true, true, true, true, true, true, true, true, true, true, true, true, true, true, true, true, true, true, true, true, true, false, false, false] rfl rfl (one_of HT_.out (by kernel_rfl)) (by decide) (fun K hK => ?_)
      refine goes_ Try.func21 (by kernel_rfl) rfl #[.agg #[.bool n21, .slice A21 l21 c21], .agg #[.bool n22, .slice A22 l22 c22]] (by rfl) rfl rfl (by (try simp only [List.map_toArray, List.map_cons, List.map_nil]); first | done | rfl) ?_
      refine (add_c (G := []) HN21_16.out HN22_16.out (by omega) (by omega) (fun g hg => by cases hg)).mono ?_
      rintro e w116 ⟨n23, A23, l23, c23, rfl, hN, hb⟩
      refine ⟨_, rfl, ?_⟩
      have HU_17 := Aside0.mk (blk_below HU_16.out hb)
      have HA_17 := Aside0.mk (blk_below HA_16.out hb)
      have HE_17 := Aside0.mk (blk_below HE_16.out hb)
      have HR1_17 := Aside0.mk (blk_below HR1_16.out hb)
      have HR2_17 := Aside0.mk (blk_below HR2_16.out hb)
      have HR3_17 := Aside0.mk (blk_below HR3_16.out hb)
      have HR4_17 := Aside0.mk (blk_below HR4_16.out hb)
      have HB_17 := Aside0.mk (below_step HB_16.out hb)
      clear HU_16 HA_16 HE_16 HR1_16 HR2_16 HR3_16 HR4_16 HB_16
      have HN23_17 := Aside0.mk hN
      clear hN
      clear hb
      refine hK.out _ _ ⟨(blk_cell HA_17.out 0).trans rfl, (blk_cell HA_17.out 1).trans rfl, (blk_cell HE_17.out 0).trans rfl, (blk_cell HE_17.out 1).trans rfl, (blk_cell HR1_17.out 0).trans rfl, (blk_cell HR1_17.out 1).trans rfl, (blk_cell HR2_17.out 0).trans rfl, (blk_cell HR2_17.out 1).trans rfl, (blk_cell HR3_17.out 0).trans rfl, (blk_cell HR3_17.out 1).trans rfl, (blk_cell HR4_17.out 0).trans rfl, (blk_cell HR4_17.out 1).trans rfl, (blk_cell HU_17.out 0).trans rfl, (blk_cell HU_17.out 1).trans rfl⟩ (fun hHeld => ?_)
      clear hK K
      refine norm_ (a' := ?_) ?_ ?_
      rotate_left
      · show Act.put _ (some 92) _ = _
        simp only [Act.put, List.setIfInBounds_toArray, List.set_cons_zero, List.set_cons_succ, i64_w, i32_w]
        rfl
      refine one_ (i := 34) (N := some 93) #[true, true, true, true, true, true, true, true, true, true, true, true, true, true, true, true, true, true, true, true, true, true, true, true, true, true, true, true, true, true, true, true, true, true, true, false, false] rfl rfl (one_of HT_.out (by kernel_rfl)) (by decide) (fun K hK => ?_)
      refine goes_ Try.func17 (by kernel_rfl) rfl #[.agg #[.int .i64 r4, .int .u64 q4], .int .i64 e4, .agg #[.bool n23, .slice A23 l23 c23]] (by rfl) rfl rfl (by (try simp only [List.map_toArray, List.map_cons, List.map_nil]); first | done | rfl) ?_
      refine (judge128_c HI4b.out HN23_17.out).mono ?_
      rintro e w117 ⟨rfl, hb⟩
      refine ⟨_, rfl, ?_⟩
      have HU_18 := Aside0.mk (blk_below HU_17.out hb)
      have HA_18 := Aside0.mk (blk_below HA_17.out hb)
      have HE_18 := Aside0.mk (blk_below HE_17.out hb)
      have HR1_18 := Aside0.mk (blk_below HR1_17.out hb)
      have HR2_18 := Aside0.mk (blk_below HR2_17.out hb)
      have HR3_18 := Aside0.mk (blk_below HR3_17.out hb)
      have HR4_18 := Aside0.mk (blk_below HR4_17.out hb)
      have HB_18 := Aside0.mk (below_step HB_17.out hb)
      clear HU_17 HA_17 HE_17 HR1_17 HR2_17 HR3_17 HR4_17 HB_17
      clear hb
      refine hK.out _ _ ⟨(blk_cell HA_18.out 0).trans rfl, (blk_cell HA_18.out 1).trans rfl, (blk_cell HE_18.out 0).trans rfl, (blk_cell HE_18.out 1).trans rfl, (blk_cell HR1_18.out 0).trans rfl, (blk_cell HR1_18.out 1).trans rfl, (blk_cell HR2_18.out 0).trans rfl, (blk_cell HR2_18.out 1).trans rfl, (blk_cell HR3_18.out 0).trans rfl, (blk_cell HR3_18.out 1).trans rfl, (blk_cell HR4_18.out 0).trans rfl, (blk_cell HR4_18.out 1).trans rfl, (blk_cell HU_18.out 0).trans rfl, (blk_cell HU_18.out 1).trans rfl⟩ (fun hHeld => ?_)
      clear hK K
      refine norm_ (a' := ?_) ?_ ?_
      rotate_left
      · show Act.put _ (some 93) _ = _
        simp only [Act.put, List.setIfInBounds_toArray, List.set_cons_zero, List.set_cons_succ, i64_w, i32_w]
        rfl
      refine pure_ (i := 35) (N := some 94) (v := ?_) (a' := ?_) #[true, true, true, true, true, true, true, true, true, true, true, true, true, true, true, true, true, true, true, true, true, true, true, true, true, true, true, true, true, true, true, true, true, true, true, true, false] rfl rfl (any_of HT_.out (by kernel_rfl)) (fun _ _ _ h => h) (Or.inl ⟨by rfl, ?_⟩) ?_ ?_
      rotate_left
      · intro w'
        go_simp
        with_reducible rfl
      rotate_left
      · simp only [Act.put, List.setIfInBounds_toArray, List.set_cons_zero, List.set_cons_succ, i64_w, i32_w]
        rfl
      refine pure_ (i := 36) (N := some 6) (v := ?_) (a' := ?_) #[true, true, true, true, true, true, true, true, true, true, true, true, true, true, true, true, true, true, true, true, true, true, true, true, true, true, true, true, true, true, true, true, true, true, true, true, true] rfl rfl (any_of HT_.out (by kernel_rfl)) (fun _ _ _ h => h) (Or.inl ⟨by rfl, ?_⟩) ?_ ?_
      rotate_left
      · intro w'
        go_simp
        with_reducible rfl
      rotate_left
      · simp only [Act.put, List.setIfInBounds_toArray, List.set_cons_zero, List.set_cons_succ, i64_w, i32_w]
        rfl
      refine done_ (done_of HT_.out (by kernel_rfl)) ?_
      go_wp2
      go_ret
      exact ⟨rfl, HB_18.out⟩
end Go.Proofs.Ytjbcigiffihjaaa.Fc
end
