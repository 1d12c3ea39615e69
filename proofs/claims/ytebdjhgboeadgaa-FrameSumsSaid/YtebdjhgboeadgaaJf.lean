/- slices.Grow (of nil), slices.Concat, slices.Clone: of bytes. -/
import Derived.Test.YtebdjhgboeadgaaProg
import Derived.Test.YtebdjhgboeadgaaWMore
import Derived.Test.YtebdjhgboeadgaaWLast
import Derived.Test.YtebdjhgboeadgaaWSized
import Derived.Test.YtebdjhgboeadgaaWZeros
import Derived.RegionTactic
import Derived.ChangeAlike
import Derived.BigRegion
import Derived.Lib.SmallJoins
namespace Go.Proofs.Ytebdjhgboeadgaa.Jf
set_option linter.unusedSimpArgs false
set_option linter.unusedVariables false
open Go Go.RowKit Go.Proofs.YtebdjhgboeadgaaW.PrintWords Go.Proofs.YtebdjhgboeadgaaW.PrintLast Go.Proofs.YtebdjhgboeadgaaW.PrintMore
theorem info5 : (Try.prog.info? 5).map (fun i => (i.zero, i.size, i.bytes)) = some (some (.int .u8 0), 1, 1) := by kernel_rfl
/-- A row of bytes of the call's own. -/
abbrev R5 (w : World) (base : Nat) (v : Value) (xs : List Int) : Prop := Kd.R (Kd.int .u8) 5 w base (fun _ => True) v xs
abbrev C5 (w : World) (A : Option Addr) (xs : List Int) : Prop := Kd.C (Kd.int .u8) w A xs.length xs
/-- A row of such rows, read. -/
abbrev CC (w : World) (A : Option Addr) (xs : List (List Int)) : Prop := Kd.C (Kd.slice 5 (Kd.int .u8)) w A xs.length xs
theorem at_CC {w : World} {A : Option Addr} {xs : List (List Int)} (h : CC w A xs) (i : Nat) (hi : i < xs.length) : ∃ ad A0 c0, A = some ad ∧ w.cell? (ad.add i) = some (.slice A0 (xs.getD i []).length c0) ∧ (xs.getD i []).length ≤ c0 ∧ C5 w A0 (xs.getD i []) := by
  obtain ⟨ad, c, e, _, hK, hc0⟩ := Kd.C_get h ([] : List Int) (i : Int) (by omega) (by omega)
  have hc : ∀ j u, c[j]? = some u → w.cell? (ad.add (i * 1 + j)) = some u := hc0
  obtain ⟨A0, c0, rfl, l0, g0⟩ := hK
  exact ⟨ad, A0, c0, e, by have hq := hc 0 _ rfl; rwa [Nat.mul_one, Nat.add_zero] at hq, l0, g0⟩
theorem cut_to (A : Option Addr) (c : Nat) (xs : List Int) (j : Nat) (hm : j ≤ xs.length) (hc : xs.length ≤ c) : ∀ W : World, (Instr.slice 44 (.slice A xs.length c) none (some (.int .i64 j)) none).run Try.prog W = .ok (.slice A j c) W := by
  obtain ⟨i0, hi, hz0, hz1, hz2⟩ := info_parts info5
  have h := (print_take_int (k := .u8) (P := Try.prog) 44 5 Try.underlying44 hi hz1 A c xs j (by omega) (by omega) hc).1
  intro W
  rw [h W, List.length_take, Int.toNat_natCast, Nat.min_eq_left hm]
theorem R_cut0 {w : World} {base : Nat} {A : Option Addr} {c : Nat} {xs : List Int} (h : R5 w base (.slice A xs.length c) xs) : R5 w base (.slice A 0 c) [] := by
  have h1 := own_take (m := 0) (Kd.own_of_R h) (Nat.zero_le _)
  exact Kd.R_of_own (by simpa [encs] using h1) (fun _ _ => trivial)
set_option maxRecDepth 100000 in
set_option maxHeartbeats 2000000 in
theorem grow_nil (n : Nat) (hn : n ≤ 1073741824) (w : World) : Calls Try.prog 75 #[.slice none 0 0, .int .i64 n] w fun e w' => ∃ v, e = .returned v ∧ R5 w' w.heap.size v [] ∧ Below w.heap.size w w' := by
  by_cases hp : 0 < n
  · have hc0 := cut_to none 0 [] 0 (Nat.le_refl _) (Nat.le_refl _)
    go_enter Try.func75, Try.ntmps75
    go_wp2_with (((with_reducible refine gate_builtin (b := .append) (xs := #[.tmp 20, .tmp 21]) rfl ?_); at_builtin; refine Kd.R_append_zeros (Kd.int .u8) (w0 := w) w.heap.size rfl (.tmp 20) (.tmp 21) 44 3 5 (.int .u8 0) 1 rfl Try.underlying44 Try.underlying3 info5 rfl (by decide) (by decide) (.slice none 0 0) [] (0 : Int) n (fun _ => True) rfl rfl (by rfl) (fun _ _ => trivial) (Kd.R_nil _ _ _ _ _) (by omega) (Below.refl _ _) (Nat.le_refl _) (by simp; omega) ?_; intro v1 w1 ho hb hg hat; obtain ⟨A1, c1, hv⟩ := Kd.R_slice ho; have hl : ([] ++ List.replicate (n : Int).toNat (0 : Int)).length = n := (by simp); have hR := Kd.R_reads ho; have hcut := cut_to A1 c1 ([] ++ List.replicate (n : Int).toNat (0 : Int)) 0 (Nat.zero_le _) (by obtain ⟨A2, c2, e2, hc2, _⟩ := hR; rw [hv] at e2; injection e2 with _ _ e3; omega); rw [hl] at hcut; have HO := Aside0.mk (R_cut0 (hv ▸ ho)); rw [hl] at hv; subst hv; clear hR ho hg hat))
    go_ret
    exact ⟨_, rfl, HO.out, hb⟩
  · have h0 : n = 0 := by omega
    subst h0
    go_enter Try.func75, Try.ntmps75
    go_wp2
    go_ret
    exact ⟨_, rfl, Kd.R_nil _ _ _ _ _, Below.refl _ _⟩
theorem is_nil (A : Option Addr) (n c : Nat) (W : World) : (binOp .eql 44 (.slice A n c) (.slice none 0 0)).run Try.prog W = .ok (.bool A.isNone) W := by
  cases A <;> kernel_rfl
set_option maxRecDepth 100000 in
set_option maxHeartbeats 2000000 in
theorem clone_calls (A : Option Addr) (c : Nat) (l : List Int) (w : World) (hC : C5 w A l) (hc : l.length ≤ c) (hl : l.length ≤ 1073741824) : Calls Try.prog 69 #[.slice A l.length c] w fun e w' => ∃ v, e = .returned v ∧ R5 w' w.heap.size v l ∧ Below w.heap.size w w' := by
  have HC := Aside0.mk hC
  clear hC
  have hnil := is_nil
  cases A with
  | none =>
    have h0 : l = [] := by
      rcases Nat.eq_zero_or_pos l.length with h | h
      · exact List.eq_nil_of_length_eq_zero h
      · obtain ⟨ad, h2, _⟩ := HC.out.2.2 h
        cases h2
    subst h0
    go_enter Try.func69, Try.ntmps69
    go_wp2
    go_ret
    exact ⟨_, rfl, Kd.R_nil _ _ _ _ _, Below.refl _ _⟩
  | some ad =>
    go_enter Try.func69, Try.ntmps69
    go_wp2_with (((with_reducible refine gate_builtin (b := .append) (xs := #[.tmp 5, .tmp 6]) rfl ?_); at_builtin; refine Kd.R_append_row (Value.int .u8) (0 : Int) (h1 := fun _ => rfl) (w0 := w) w.heap.size rfl (.tmp 5) (.tmp 6) 44 5 (.int .u8 0) 1 rfl Try.underlying44 info5 rfl (by decide) _ [] l (some ad) l.length c (fun _ => True) rfl rfl (fun _ _ => trivial) (Kd.R_of_own (own_lit_of w w.heap.size 5 [] (Nat.le_refl _) (by simp)) (fun _ _ => trivial)) (Kd.C_below HC.out ((Below.refl _ _).alloc (Nat.le_refl _) _)) ((Below.refl _ _).alloc (Nat.le_refl _) _) (by simp) (by simp; omega) ?_; intro v1 w1 ho hb hg hat; have HO := Aside0.mk ho; clear ho hg hat))
    go_ret
    exact ⟨_, rfl, HO.out, hb⟩
/-- How many bytes rows have, all in all. -/
def tot (l : List (List Int)) : Nat := l.flatten.length
theorem flat_take (l : List (List Int)) (k : Nat) (h : k < l.length) : (l.take (k + 1)).flatten = (l.take k).flatten ++ l.getD k [] := by
  rw [List.take_add_one, List.flatten_append, List.getElem?_eq_getElem h, List.getD_eq_getElem?_getD, List.getElem?_eq_getElem h]
  simp
theorem tot_take (l : List (List Int)) (k : Nat) (h : k < l.length) : tot (l.take (k + 1)) = tot (l.take k) + (l.getD k []).length := by
  unfold tot
  rw [flat_take l k h, List.length_append]
theorem tot_le (l : List (List Int)) (k : Nat) : tot (l.take k) ≤ tot l := by
  have h : (l.take k ++ l.drop k).flatten = l.flatten := by rw [List.take_append_drop]
  have h2 := congrArg List.length h
  rw [List.flatten_append, List.length_append] at h2
  unfold tot
  omega
set_option maxRecDepth 100000 in
set_option maxHeartbeats 4000000 in
theorem concat_calls (A : Option Addr) (c : Nat) (l : List (List Int)) (w : World) (hC : CC w A l) (hc : l.length ≤ c) (hl : tot l ≤ 1073741824) (hn : l.length ≤ 1073741824) : Calls Try.prog 65 #[.slice A l.length c] w fun e w' => ∃ v, e = .returned v ∧ R5 w' w.heap.size v l.flatten ∧ Below w.heap.size w w' := by
  have HC := Aside0.mk hC
  clear hC
  go_enter Try.func65, Try.ntmps65
  go_wp2_with fail
  go_loopw [3, 11] (fun v3 v11 wr => ∃ (k : Nat), v11 = .int .i64 k ∧ v3 = .int .i64 (tot (l.take k) : Nat) ∧ k ≤ l.length ∧ wr = w) (fun _ v11 _ => l.length - (intOf v11).toNat)
  case atStart => exact ⟨0, rfl, rfl, Nat.zero_le _, rfl⟩
  case round =>
    obtain ⟨k, rfl, rfl, hk, hwr⟩ := hrel
    have hwr2 := hwr.symm
    subst hwr2
    by_cases hlt : k < l.length
    · obtain ⟨ad, A0, c0, rfl, hcell, hc0, hC0⟩ := at_CC HC.out k hlt
      have hf := tot_take l k hlt
      have hf2 := tot_le l (k + 1)
      generalize tot (l.take k) = n at *
      generalize l.getD k [] = x at *
      go_wp2_with fail
      go_roundw
      case measure => simp [intOf]; omega
      case rel => exact ⟨k + 1, by go_num, by go_num, by omega, trivial⟩
    · have e0 : k = l.length := by omega
      subst e0
      rw [List.take_length]
      go_wp2_with fail
      refine (grow_nil (tot l) hl w).mono ?_
      rintro e w1 ⟨v1, rfl, ho, hb⟩
      have HO := Aside0.mk ho
      have HB := Aside0.mk hb
      clear ho hb
      go_wp2_with fail
      go_loopw [6, 27] (fun v6 v27 w2 => ∃ (k : Nat), v27 = .int .i64 k ∧ k ≤ l.length ∧ Aside0 (R5 w2 w.heap.size v6 (l.take k).flatten) ∧ Aside0 (Below w.heap.size w w2)) (fun _ v27 _ => l.length - (intOf v27).toNat)
      case atStart => exact ⟨0, rfl, Nat.zero_le _, HO, HB⟩
      case round =>
        obtain ⟨k, rfl, hk, HO, HB⟩ := hrel
        by_cases hlt : k < l.length
        · obtain ⟨ad, A0, c0, rfl, hcell, hc0, hC0⟩ := at_CC HC.out k hlt
          have hf := tot_take l k hlt
          have hf2 := tot_le l (k + 1)
          have hft := Aside0.mk (flat_take l k hlt)
          have hcell2 := pw_cell_below HB.out hcell
          have HC0 := Aside0.mk (Kd.C_below hC0 HB.out)
          have hlen : (l.take k).flatten.length = tot (l.take k) := rfl
          clear hcell hC0
          generalize tot (l.take k) = n at *
          generalize (l.take k).flatten = y at *
          generalize l.getD k [] = x at *
          go_wp2_with (((with_reducible refine gate_builtin (b := .append) (xs := #[.tmp 31, .tmp 32]) rfl ?_); at_builtin; refine Kd.R_append_row (Value.int .u8) (0 : Int) (h1 := fun _ => rfl) (w0 := w) w.heap.size rfl (.tmp 31) (.tmp 32) 44 5 (.int .u8 0) 1 rfl Try.underlying44 info5 rfl (by decide) _ y x A0 x.length c0 (fun _ => True) rfl rfl (fun _ _ => trivial) HO.out HC0.out HB.out HB.out.size (by omega) ?_; intro v3 w3 ho hb hg hat; have HO3 := Aside0.mk ho; have HB3 := Aside0.mk hb; clear ho hg hat hb))
          go_roundw
          case measure => simp [intOf]; omega
          case rel => exact ⟨k + 1, by go_num, by omega, ⟨by rw [hft.out]; exact HO3.out⟩, HB3⟩
        · have e0 : k = l.length := by omega
          subst e0
          have HO4 := HO.out
          rw [List.take_length] at HO4
          have HO5 := Aside0.mk HO4
          clear HO4
          go_wp2
          go_ret
          exact ⟨_, rfl, HO5.out, HB.out⟩
/-- Rows that lie in one block are read as a row of rows. -/
theorem CC_lit {w : World} {ad : Addr} {xs : List (List Int)} (hl : xs.length ≤ 9223372036854775807) (h : ∀ j p, xs[j]? = some p → ∃ A c, w.cell? (ad.add j) = some (.slice A p.length c) ∧ p.length ≤ c ∧ C5 w A p) : CC w (some ad) xs := by
  refine ⟨rfl, hl, fun _ => ⟨ad, rfl, fun j p hj => ?_⟩⟩
  obtain ⟨A, c, hc, hle, hC⟩ := h j p hj
  refine ⟨[.slice A p.length c], rfl, ⟨A, c, rfl, hle, hC⟩, fun i u hu => ?_⟩
  have h0 : i = 0 ∧ u = .slice A p.length c := by
    cases i with
    | zero => simp at hu; exact ⟨rfl, hu.symm⟩
    | succ i => simp at hu
  obtain ⟨rfl, rfl⟩ := h0
  have e : j * (Kd.slice 5 (Kd.int .u8)).sz + 0 = j := by
    show j * 1 + 0 = j
    omega
  rw [e]
  exact hc
theorem lit_at (w : World) (o : Obj) : (w.alloc o).heap[w.heap.size]? = some o := by
  show (w.heap.push o)[w.heap.size]? = _
  simp
theorem cell_lit {w : World} {vs : Array Value} {e : TypeId} {j : Nat} {v : Value} (h : vs[j]? = some v) : (w.alloc (.cells vs e)).cell? ((⟨w.heap.size, 0, none⟩ : Addr).add j) = some v := by
  have h1 := lit_at w (.cells vs e)
  rw [add_plain]
  unfold World.cell?
  rw [h1]
  simp [h]
/-- One, two, three rows in a new block. -/
theorem CC_one {w : World} {A1 : Option Addr} {c1 : Nat} {x1 : List Int} {n1 : Nat} {e : TypeId} (h1 : n1 = x1.length) (l1 : x1.length ≤ c1) (hC1 : C5 w A1 x1) : CC (w.alloc (.cells #[.slice A1 n1 c1] e)) (some ⟨w.heap.size, 0, none⟩) [x1] := by
  subst h1
  have hb := (Below.refl w.heap.size w).alloc (Nat.le_refl _) (.cells #[.slice A1 x1.length c1] e)
  refine CC_lit (by simp) fun j p hj => ?_
  match j with
  | 0 => simp at hj; subst hj; exact ⟨A1, c1, cell_lit rfl, l1, Kd.C_below hC1 hb⟩
  | j + 1 => simp at hj
theorem CC_two {w : World} {A1 A2 : Option Addr} {c1 c2 : Nat} {x1 x2 : List Int} {n1 n2 : Nat} {e : TypeId} (h1 : n1 = x1.length) (h2 : n2 = x2.length) (l1 : x1.length ≤ c1) (l2 : x2.length ≤ c2) (hC1 : C5 w A1 x1) (hC2 : C5 w A2 x2) : CC (w.alloc (.cells #[.slice A1 n1 c1, .slice A2 n2 c2] e)) (some ⟨w.heap.size, 0, none⟩) [x1, x2] := by
  subst h1 h2
  have hb := (Below.refl w.heap.size w).alloc (Nat.le_refl _) (.cells #[.slice A1 x1.length c1, .slice A2 x2.length c2] e)
  refine CC_lit (by simp) fun j p hj => ?_
  match j with
  | 0 => simp at hj; subst hj; exact ⟨A1, c1, cell_lit rfl, l1, Kd.C_below hC1 hb⟩
  | 1 => simp at hj; subst hj; exact ⟨A2, c2, cell_lit rfl, l2, Kd.C_below hC2 hb⟩
  | j + 2 => simp at hj
theorem CC_three {w : World} {A1 A2 A3 : Option Addr} {c1 c2 c3 : Nat} {x1 x2 x3 : List Int} {n1 n2 n3 : Nat} {e : TypeId} (h1 : n1 = x1.length) (h2 : n2 = x2.length) (h3 : n3 = x3.length) (l1 : x1.length ≤ c1) (l2 : x2.length ≤ c2) (l3 : x3.length ≤ c3) (hC1 : C5 w A1 x1) (hC2 : C5 w A2 x2) (hC3 : C5 w A3 x3) : CC (w.alloc (.cells #[.slice A1 n1 c1, .slice A2 n2 c2, .slice A3 n3 c3] e)) (some ⟨w.heap.size, 0, none⟩) [x1, x2, x3] := by
  subst h1 h2 h3
  have hb := (Below.refl w.heap.size w).alloc (Nat.le_refl _) (.cells #[.slice A1 x1.length c1, .slice A2 x2.length c2, .slice A3 x3.length c3] e)
  refine CC_lit (by simp) fun j p hj => ?_
  match j with
  | 0 => simp at hj; subst hj; exact ⟨A1, c1, cell_lit rfl, l1, Kd.C_below hC1 hb⟩
  | 1 => simp at hj; subst hj; exact ⟨A2, c2, cell_lit rfl, l2, Kd.C_below hC2 hb⟩
  | 2 => simp at hj; subst hj; exact ⟨A3, c3, cell_lit rfl, l3, Kd.C_below hC3 hb⟩
  | j + 3 => simp at hj
theorem cut_mid3 (A : Option Addr) (n c lo hi : Nat) (h1 : lo ≤ hi) (h2 : hi ≤ c) : ∀ W : World, (Instr.slice 44 (.slice A n c) (some (.int .i64 lo)) (some (.int .i64 hi)) (some (.int .i64 hi))).run Try.prog W = .ok (.slice (if hi = lo then A else A.map (·.add (lo * 1))) (hi - lo) (hi - lo)) W := by
  obtain ⟨i0, hinf, hz0, hz1, hz2⟩ := info_parts info5
  intro W
  have hel : Try.prog.elem 44 = 5 := by simp [Program.elem, Try.underlying44]
  have hu : Try.prog.underlying 44 = some (.slice (Try.prog.elem 44)) := by rw [hel]; exact Try.underlying44
  rw [run_slice_lhm W 44 A n c hu .i64 .i64 .i64 lo hi hi (by omega) (by omega) (by omega) (by omega), hel]
  simp [sizeOf, typeInfo, hinf, hz1, sliced, Result.andThen]
theorem lit_C (W : World) (xs : List Int) (vs : Array Value) (hv : (encs (Value.int .u8) xs).toArray = vs) (hm : xs.length ≤ 9223372036854775807) : C5 (W.alloc (.cells vs 5)) (some ⟨W.heap.size, 0, none⟩) xs := by
  subst hv
  obtain ⟨A, c, e, _, hC⟩ := Kd.R_reads (Kd.R_of_own (h1 := fun _ => rfl) (ok := fun _ => True) (own_lit_of (enc := Value.int .u8) W W.heap.size 5 xs (Nat.le_refl _) hm) (fun _ _ => trivial))
  injection e with e1
  rw [e1]
  exact hC
theorem asz (w : World) (o : Obj) : (w.alloc o).heap.size = w.heap.size + 1 := by
  show (w.heap.push o).size = _
  simp
theorem CC_at {w : World} {b b' : Nat} {xs : List (List Int)} (h : CC w (some ⟨b, 0, none⟩) xs) (e : b = b') : CC w (some ⟨b', 0, none⟩) xs := e ▸ h
theorem lit_CF (W : World) (xs : List Int) (vs : Array Value) (fr : Nat × Nat) (hv : (encs (Value.int .u8) xs).toArray = vs) (hm : xs.length ≤ 9223372036854775807) : C5 (W.alloc (.cells vs 5 fr)) (some ⟨W.heap.size, 0, none⟩) xs := by
  refine Kd.C_of_reads (d := (0 : Int)) (h1 := fun _ => rfl) ⟨rfl, hm, fun _ => ⟨_, rfl, fun j hj => ?_⟩⟩
  have h1 := lit_at W (.cells vs 5 fr)
  rw [add_plain]
  unfold World.cell?
  rw [h1]
  subst hv
  simp [encs, hj, List.getD_eq_getElem?_getD]
end Go.Proofs.Ytebdjhgboeadgaa.Jf
