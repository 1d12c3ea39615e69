/- The walk of the law FrameSums. -/
import Derived.Test.YtebdjhgboeadgaaJs
import Derived.Test.YtebdjhgboeadgaaFr13
namespace Go.Proofs.Ytebdjhgboeadgaa.Sums
set_option linter.unusedSimpArgs false
set_option linter.unusedVariables false
open Go Go.RowKit Go.Proofs.Ytebdjhgboeadgaa.Fr Go.Proofs.YtebdjhgboeadgaaW.PrintWords Go.Proofs.YtebdjhgboeadgaaW.PrintLast Go.Proofs.YtebdjhgboeadgaaW.PrintMore
attribute [local go_sem] max2_int min2_int max_two min_two max_three min_three max_four min_four
theorem info44 : (Try.prog.info? 44).map (fun i => (i.zero, i.size, i.bytes)) = some (some (.slice none 0 0), 1, 24) := by kernel_rfl
/-- Values of one cell, as elements of a row. -/
abbrev V1 := {x : Value // x.oneCell' = true}
def VK : Kd V1 := Kd.scalar Subtype.val (fun x => x.2)
def sl (A : Option Addr) (n c : Nat) : V1 := ⟨.slice A n c, rfl⟩
/-- The slices on a list lead to the rows on another. -/
def Leads (w : World) (ps : List V1) (rows : List (List Int)) : Prop := ps.length = rows.length ∧ ∀ (j : Nat) (p : List Int), rows[j]? = some p → ∃ A c, ps[j]? = some (sl A p.length c) ∧ p.length ≤ c ∧ Jf.C5 w A p
theorem Leads.below {w w1 : World} {ps : List V1} {rows : List (List Int)} (h : Leads w ps rows) (hb : Below w.heap.size w w1) : Leads w1 ps rows :=
  ⟨h.1, fun j p hj => by
    obtain ⟨A, c, h1, h2, h3⟩ := h.2 j p hj
    exact ⟨A, c, h1, h2, Kd.C_below h3 hb⟩⟩
theorem Leads.snoc {w : World} {ps : List V1} {rows : List (List Int)} (h : Leads w ps rows) {A : Option Addr} {c : Nat} {p : List Int} (hc : p.length ≤ c) (hC : Jf.C5 w A p) : Leads w (ps ++ [sl A p.length c]) (rows ++ [p]) := by
  refine ⟨by simp [h.1], fun j q hj => ?_⟩
  rcases Nat.lt_or_ge j rows.length with hl | hl
  · rw [List.getElem?_append_left hl] at hj
    obtain ⟨A', c', h1, h2, h3⟩ := h.2 j q hj
    exact ⟨A', c', by rw [List.getElem?_append_left (by rw [h.1]; exact hl)]; exact h1, h2, h3⟩
  · rw [List.getElem?_append_right hl] at hj
    have h0 : j - rows.length = 0 ∧ q = p := by
      cases hk : j - rows.length with
      | zero => rw [hk] at hj; simp at hj; exact ⟨rfl, hj.symm⟩
      | succ i => rw [hk] at hj; simp at hj
    obtain ⟨h1, rfl⟩ := h0
    refine ⟨A, c, ?_, hc, hC⟩
    rw [List.getElem?_append_right (by rw [h.1]; exact hl), h.1, h1]
    rfl
/-- A row of such slices is read as a row of rows. -/
theorem Leads.rows {w : World} {ps : List V1} {rows : List (List Int)} {base : Nat} {v : Value} (h : Leads w ps rows) (hR : VK.R 44 w base (fun _ => True) v ps) : ∃ A c, v = .slice A rows.length c ∧ rows.length ≤ c ∧ Jf.CC w A rows := by
  obtain ⟨A, c, hv, hc, hC⟩ := Kd.R_reads hR
  rw [h.1] at hv hc
  refine ⟨A, c, hv, hc, ?_⟩
  have hrd : ReadsOf Subtype.val (sl none 0 0) w A ps.length ps := Kd.reads_of_C hC
  have hn := hrd.2.1
  rw [h.1] at hn
  rcases Nat.eq_zero_or_pos rows.length with h0 | h0
  · have e : rows = [] := List.eq_nil_of_length_eq_zero h0
    subst e
    exact ⟨rfl, hn, fun hk => absurd hk (by simp)⟩
  · obtain ⟨ad, rfl, hcell⟩ := hrd.2.2 (by rw [h.1]; exact h0)
    refine Jf.CC_lit hn fun j p hj => ?_
    obtain ⟨A', c', h1, h2, h3⟩ := h.2 j p hj
    have hl : j < ps.length := (List.getElem?_eq_some_iff.1 h1).1
    have h4 := hcell j hl
    rw [List.getD_eq_getElem?_getD, h1] at h4
    exact ⟨A', c', h4, h2, h3⟩
theorem Leads.rows' {w w1 : World} {ps : List V1} {rows : List (List Int)} {base : Nat} {v : Value} (h : Leads w ps rows) (hb : Below w.heap.size w w1) (hR : VK.R 44 w1 base (fun _ => True) v ps) : ∃ A c, v = .slice A rows.length c ∧ rows.length ≤ c ∧ Jf.CC w1 A rows := (h.below hb).rows hR
theorem sum_c {A : Option Addr} {c : Nat} {l : List (List Int)} {w : World} {k : Nat} {r : Int} (h : frame_Sum.f k l = some r) (hc : l.length ≤ c) (hC : Jf.CC w A l) : Calls Try.prog 43 #[.slice A l.length c] w fun e w' => e = .returned (.int .u32 r) ∧ Below w.heap.size w w' := by
  refine (frame_Sum.calls k A c l r w hC hc h).mono ?_
  rintro e w' ⟨rfl, hd⟩
  exact ⟨rfl, hd.below⟩
theorem rsum_c {A : Option Addr} {c : Nat} {l : List Int} {w : World} {k : Nat} {r : Int} (h : clevisref06_Sum.f k l = some r) (hc : l.length ≤ c) (hC : Jf.C5 w A l) : Calls Try.prog 44 #[.slice A l.length c] w fun e w' => e = .returned (.int .i64 r) ∧ Below w.heap.size w w' := by
  refine (clevisref06_Sum.calls k A c l r w hC hc h).mono ?_
  rintro e w' ⟨rfl, hd⟩
  exact ⟨rfl, hd.below⟩
theorem rmake_c {A : Option Addr} {c n : Nat} {l : List Int} {w : World} (hn : n = l.length) {k : Nat} {r : List Int} (h : clevisref06_Make.f k l = some r) (hc : l.length ≤ c) (hC : Jf.C5 w A l) : Calls Try.prog 46 #[.slice A n c] w fun e w' => ∃ A' c', e = .returned (.slice A' r.length c') ∧ r.length ≤ c' ∧ Jf.C5 w' A' r ∧ Below w.heap.size w w' := by
  subst hn
  refine (clevisref06_Make.calls k A c l r w hC hc h).mono ?_
  rintro e w' ⟨v, rfl, hR, hb⟩
  obtain ⟨A', c', rfl, hc', hC'⟩ := Kd.R_reads hR
  exact ⟨A', c', rfl, hc', hC', hb⟩
/-- The rows that are taken. -/
def cutR (l : List (List Int)) : List (List Int) := (l.take 10).map (·.take 200)
theorem cutR_len (l : List (List Int)) : (cutR l).length = min 10 l.length := by unfold cutR; rw [List.length_map, List.length_take]
theorem cutR_at (l : List (List Int)) (k : Nat) (h : k < l.length) (h2 : k < 10) : (cutR l).getD k [] = (l.getD k []).take 200 := by
  unfold cutR
  rw [List.getD_eq_getElem?_getD, List.getElem?_map, List.getElem?_take_of_lt h2, List.getElem?_eq_getElem h, List.getD_eq_getElem?_getD, List.getElem?_eq_getElem h]
  rfl
theorem rMake (b : List Int) (hb : Jp.bytes b) (hl : b.length ≤ 1048568) : ∃ k, clevisref06_Make.f k b = some (Jp.frameOf b) := by
  have hw : ∀ n : Int, 0 ≤ n → n < 4294967296 → clevisref06_word.f n = some (Jp.wordL n) := fun n h0 h1 => by
    unfold clevisref06_word.f Jp.wordL
    have w : ∀ m : Int, 0 ≤ m → m < 4294967296 → wrap64 m = m := fun m a b => by unfold wrap64; omega
    rw [Int.tdiv_eq_ediv_of_nonneg h0, Int.tdiv_eq_ediv_of_nonneg h0, Int.tdiv_eq_ediv_of_nonneg h0, w (n / 16777216) (by omega) (by omega), w (n / 65536) (by omega) (by omega), w (n / 256) (by omega) (by omega), Int.tmod_eq_emod_of_nonneg (by omega), Int.tmod_eq_emod_of_nonneg (by omega), Int.tmod_eq_emod_of_nonneg (by omega)]
    simp only [Option.some.injEq, List.cons.injEq, and_true, true_and]
    refine ⟨by omega, by omega, by omega⟩
  have hhb := Jp.head_bytes b hb
  have hc := Jp.crc_range _ hhb
  obtain ⟨K, hK⟩ := Js.rSum _ hhb (by rw [List.length_append, Jp.wordL_length]; omega)
  refine ⟨K + 0, ?_⟩
  unfold clevisref06_Make.f
  rw [hw _ (by omega) (by omega), Option.bind_some, if_pos (by rw [Jp.wordL_length]; omega), Option.bind_some, hK 0, Option.bind_some, hw _ hc.1 hc.2, Option.bind_some, if_pos (by rw [List.length_append, Jp.wordL_length, Jp.wordL_length]; omega)]
  rfl
set_option maxRecDepth 100000 in
set_option maxHeartbeats 8000000 in
theorem walk3 (A : Option Addr) (c : Nat) (l : List (List Int)) (A1 : Option Addr) (c1 : Nat) (b : List Int) (w : World) (hc : l.length ≤ c) (hn : l.length ≤ 9223372036854775807)
    (hl : ∀ j, j < l.length → ∃ ad A' c', A = some ad ∧ w.cell? (ad.add j) = some (.slice A' (l.getD j []).length c') ∧ (l.getD j []).length ≤ c' ∧ Kd.C (Kd.int .u8) w A' (l.getD j []).length (l.getD j []) ∧ ∀ x ∈ l.getD j [], 0 ≤ x ∧ x ≤ 255)
    (hc1 : b.length ≤ c1) (hC1 : Jf.C5 w A1 b) (hb1 : Jp.bytes b) : Calls Try.prog 10 #[.slice A l.length c, .slice A1 b.length c1] w fun e w' => e = .returned (.bool true) ∧ Below w.heap.size w w' := by
  have HL := Aside0.mk hl
  have HC1 := Aside0.mk hC1
  have hcl := cutR_len l
  have HRB : Aside0 (∀ r ∈ cutR l, Jp.bytes r) := ⟨fun r hr => by
    unfold cutR at hr
    obtain ⟨q, hq, rfl⟩ := List.mem_map.1 hr
    obtain ⟨j, hj, rfl⟩ := List.getElem_of_mem (List.mem_of_mem_take hq)
    obtain ⟨_, _, _, _, _, _, _, hby⟩ := hl j hj
    rw [List.getD_eq_getElem?_getD, List.getElem?_eq_getElem hj] at hby
    exact fun x hx => hby x (List.mem_of_mem_take hx)⟩
  have HRL : Aside0 (∀ r ∈ cutR l, r.length ≤ 200) := ⟨fun r hr => by
    unfold cutR at hr
    obtain ⟨q, hq, rfl⟩ := List.mem_map.1 hr
    rw [List.length_take]
    omega⟩
  have HCL := Aside0.mk hcl
  obtain ⟨m5, tb, hm51, hm52, hmt5, hlt5, hcase5⟩ : ∃ (m : Nat) (t : List Int), m ≤ b.length ∧ m ≤ 500 ∧ t = b.take m ∧ t.length = m ∧ ((b.length ≤ 500 ∧ m = b.length) ∨ (500 < b.length ∧ m = 500)) := by
    by_cases h : b.length ≤ 500
    · exact ⟨b.length, b.take b.length, Nat.le_refl _, h, rfl, by rw [List.length_take]; omega, Or.inl ⟨h, rfl⟩⟩
    · exact ⟨500, b.take 500, by omega, Nat.le_refl _, rfl, by rw [List.length_take]; omega, Or.inr ⟨by omega, rfl⟩⟩
  have htb : Jp.bytes tb := fun x hx => by rw [hmt5] at hx; exact hb1 x (List.mem_of_mem_take hx)
  have hCt : Jf.C5 w A1 tb := by rw [hmt5]; exact Kd.C_take hC1 hm51
  have hcut5 := Jf.cut_to A1 c1 b m5 hm51 hc1
  clear hmt5
  have hmk := Jr.iMake tb htb (by omega)
  rw [if_neg (by omega)] at hmk
  have hfl := Jp.frameOf_length tb
  have hfb := Jp.frameOf_bytes tb htb
  have ho2 := Jr.iOpen _ hfb (by omega)
  rw [Jr.openL_frame tb htb (by omega), Jp.open_frame tb htb (by omega)] at ho2
  have hs1 := Jr.same_k tb 1000 (by omega) (by omega)
  have hs2 := Jr.same_k (Jp.frameOf tb) 1000 (by omega) (by omega)
  obtain ⟨kr, hkr⟩ := rMake tb htb (by omega)
  generalize Jp.frameOf tb = f at *
  have hfl2 : f.length = m5 + 8 := by omega
  have hcutm5 : ∀ (v : Int), v = (m5 : Int) → ∀ W : World, (Instr.slice 44 (.slice A1 b.length c1) none (some (.int .i64 v)) none).run Try.prog W = .ok (.slice A1 m5 c1) W := fun v hv => by rw [hv]; exact hcut5
  have hcutA5 : b.length ≤ 500 → ∀ W : World, (Instr.slice 44 (.slice A1 b.length c1) none (some (.int .i64 (b.length : Int))) none).run Try.prog W = .ok (.slice A1 m5 c1) W := fun h => hcutm5 _ (by omega)
  have hcutB5 : 500 < b.length → ∀ W : World, (Instr.slice 44 (.slice A1 b.length c1) none (some (.int .i64 500)) none).run Try.prog W = .ok (.slice A1 m5 c1) W := fun h => hcutm5 _ (by omega)
  have HCA5 := Aside0.mk hcutA5
  have HCB5 := Aside0.mk hcutB5
  have HCT := Aside0.mk hCt
  have HMK := Aside0.mk hmk
  have HO2 := Aside0.mk ho2
  have HS1 := Aside0.mk hs1
  have HS2 := Aside0.mk hs2
  have HKR := Aside0.mk hkr
  have HLT5 := Aside0.mk hlt5
  have HFL5 := Aside0.mk hfl2
  clear hcase5 hlt5 hcut5 hcutm5 hCt hmk hfl hfb ho2 hs1 hs2 hkr hfl2 hcutA5 hcutB5 htb
  clear hl hC1 hcl
  go_enter Try.func10, Try.ntmps10
  go_wp2_with fail
  go_loopw [5, 6, 7] (fun v5 v6 v7 wr => ∃ (k : Nat) (ps : List V1), v7 = .int .i64 k ∧ k ≤ l.length ∧ k ≤ 10 ∧ Aside0 (VK.R 44 wr w.heap.size (fun _ => True) v5 ps) ∧ Aside0 (Leads w ps ((cutR l).take k)) ∧ Aside0 (Jf.R5 wr w.heap.size v6 ((cutR l).take k).flatten) ∧ Aside0 (Below w.heap.size w wr)) (fun _ _ v7 _ => l.length - (intOf v7).toNat)
  case atStart => exact ⟨0, [], rfl, Nat.zero_le _, Nat.zero_le _, ⟨Kd.R_nil _ _ _ _ _⟩, ⟨rfl, fun j p hj => by simp at hj⟩, ⟨Kd.R_nil _ _ _ _ _⟩, ⟨Below.refl _ _⟩⟩
  case round =>
    obtain ⟨k, ps, rfl, hk, hk10, HR, HLd, HO, HB⟩ := hrel
    by_cases hlt : k < l.length ∧ k < 10
    · obtain ⟨ad, A2, c2, rfl, hcell, hc2, hC2, hby⟩ := HL.out k hlt.1
      have hx : (cutR l).getD k [] = (l.getD k []).take 200 := cutR_at l k hlt.1 hlt.2
      have hkl : k < (cutR l).length := by rw [cutR_len]; omega
      have HFT := Aside0.mk (Jf.flat_take (cutR l) k hkl)
      have htk : (cutR l).take (k + 1) = (cutR l).take k ++ [(l.getD k []).take 200] := by
        rw [← hx, List.take_add_one, List.getElem?_eq_getElem hkl, List.getD_eq_getElem?_getD, List.getElem?_eq_getElem hkl]
        rfl
      have HTK := Aside0.mk htk
      have hcell3 := pw_cell_below HB.out hcell
      have hlen6 : ((cutR l).take k).flatten.length ≤ 2000 := by
        have h1 : ∀ (rs : List (List Int)) (m : Nat), (∀ r ∈ rs, r.length ≤ 200) → rs.length ≤ m → rs.flatten.length ≤ 200 * m := by
          intro rs
          induction rs with
          | nil => intro m _ _; simp
          | cons r rs ih =>
            intro m h2 h3
            have h4 := ih (m - 1) (fun q hq => h2 q (by simp [hq])) (by simp at h3; omega)
            have h5 := h2 r (by simp)
            simp at h3
            rw [List.flatten_cons, List.length_append]
            omega
        exact h1 _ 10 (fun r hr => HRL.out r (List.mem_of_mem_take hr)) (by rw [List.length_take]; omega)
      rw [hx] at HFT
      obtain ⟨x, hxe⟩ : ∃ x, l.getD k [] = x := ⟨_, rfl⟩
      rw [hxe] at hcell hc2 hC2 hby HFT HTK hcell3
      obtain ⟨n, hnx⟩ : ∃ n, x.length = n := ⟨_, rfl⟩
      obtain ⟨m, hm⟩ : ∃ m, (x.take 200).length = m := ⟨_, rfl⟩
      have hmv : (n ≤ 200 ∧ m = n) ∨ (200 < n ∧ m = 200) := by rw [List.length_take] at hm; omega
      have HCM := Aside0.mk (Kd.C_take hC2 (m := m) (by omega))
      have hcut := Jf.cut_to A2 c2 x m (by omega) hc2
      have hxm : x.take m = x.take 200 := by
        rcases hmv with ⟨h1, h2⟩ | ⟨h1, h2⟩
        · rw [List.take_of_length_le (by omega), List.take_of_length_le (by omega)]
        · rw [h2]
      rw [hxm] at HCM
      rw [hnx] at hcell3 hcut hc2
      obtain ⟨y, hy⟩ : ∃ y, x.take 200 = y := ⟨_, rfl⟩
      rw [hy] at hm HFT HTK HCM
      have HM := Aside0.mk hm
      have hpsl : ps.length ≤ 10 := by rw [HLd.out.1, List.length_take]; omega
      have HR0 := Aside0.mk (Kd.R_drew HR.out)
      have HO0 := Aside0.mk (Kd.R_drew HO.out)
      have HB0 := Aside0.mk HB.out.drew
      have HLs : Aside0 (Leads w (ps ++ [sl A2 m c2]) ((cutR l).take k ++ [y])) := ⟨by have h9 := HLd.out.snoc (by omega : y.length ≤ c2) HCM.out; rw [hm] at h9; exact h9⟩
      have HMV := Aside0.mk hmv
      have hmc : m ≤ c2 := by omega
      have hm2 : m ≤ 200 := by omega
      have hcutm : ∀ (v : Int), v = (m : Int) → ∀ W : World, (Instr.slice 44 (.slice A2 n c2) none (some (.int .i64 v)) none).run Try.prog W = .ok (.slice A2 m c2) W := fun v hv => by rw [hv]; exact hcut
      have hcutA : n ≤ 200 → ∀ W : World, (Instr.slice 44 (.slice A2 n c2) none (some (.int .i64 (n : Int))) none).run Try.prog W = .ok (.slice A2 m c2) W := fun h => hcutm _ (by omega)
      have hcutB : 200 < n → ∀ W : World, (Instr.slice 44 (.slice A2 n c2) none (some (.int .i64 200)) none).run Try.prog W = .ok (.slice A2 m c2) W := fun h => hcutm _ (by omega)
      obtain ⟨hlt1, hlt2⟩ := hlt
      clear hcell hC2 hby hxe hnx hm hmv hcut hxm hy hcutm hx htk hkl
      have q1 : decide ((k : Int) < (l.length : Int)) = true := decide_eq_true (by omega)
      have q2 : ((k : Int) < (l.length : Int)) = True := eq_true (by omega)
      by_cases hq : n ≤ 200
      · replace hcutA := hcutA hq
        clear hcutB
        have q3 : ¬ (200 : Int) < (n : Int) := by omega
        go_upto_region 6 with (fail)
        refine start_ (n := 12) (S := fun w' => w'.cell? (ad.add k) = some (.slice A2 n c2)) (ds := []) #[false, false, false, false, false, false, false, false, false, false, false, false] (by kernel_rfl) rfl rfl (hcell3) (fun hHeld => ?_)
        refine pure_ (i := 0) (N := some 23) (v := ?_) (a' := ?_) #[true, false, false, false, false, false, false, false, false, false, false, false] rfl rfl (by kernel_rfl) (fun _ _ _ h => h) (Or.inl ⟨by rfl, ?_⟩) ?_ ?_
        rotate_left
        · intro w'
          go_simp
          with_reducible rfl
        rotate_left
        · simp only [Act.put, List.setIfInBounds_toArray, List.set_cons_zero, List.set_cons_succ, i64_w, i32_w]
          rfl
        refine pure_ (i := 1) (N := some 24) (v := ?_) (a' := ?_) #[true, true, false, false, false, false, false, false, false, false, false, false] rfl rfl (by kernel_rfl) (fun _ _ _ h => h) (Or.inl ⟨by rfl, ?_⟩) ?_ ?_
        rotate_left
        · intro w'
          go_simp
          with_reducible rfl
        rotate_left
        · simp only [Act.put, List.setIfInBounds_toArray, List.set_cons_zero, List.set_cons_succ, i64_w, i32_w]
          rfl
        refine pure_ (i := 2) (N := some 25) (v := ?_) (a' := ?_) #[true, true, true, false, false, false, false, false, false, false, false, false] rfl rfl (by kernel_rfl) (fun _ _ _ h => h) (Or.inl ⟨by rfl, ?_⟩) ?_ ?_
        rotate_left
        · intro w'
          go_simp
          with_reducible rfl
        rotate_left
        · simp only [Act.put, List.setIfInBounds_toArray, List.set_cons_zero, List.set_cons_succ, i64_w, i32_w]
          rfl
        refine take_ (i := 3) (N := some 26) (v := ?_) (a' := ?_) #[true, true, true, true, false, false, false, false, false, false, false, false] rfl rfl (by kernel_rfl) (fun _ _ _ h => h) (Or.inl ⟨by rfl, ?_⟩) hHeld ?_ ?_
        rotate_left
        · intro w' s0
          go_simp
          with_reducible rfl
        rotate_left
        · simp only [Act.put, List.setIfInBounds_toArray, List.set_cons_zero, List.set_cons_succ, i64_w, i32_w]
          rfl
        refine pure_ (i := 4) (N := some 27) (v := ?_) (a' := ?_) #[true, true, true, true, true, false, false, false, false, false, false, false] rfl rfl (by kernel_rfl) (fun _ _ _ h => h) (Or.inl ⟨by rfl, ?_⟩) ?_ ?_
        rotate_left
        · intro w'
          go_simp
          with_reducible rfl
        rotate_left
        · simp only [Act.put, List.setIfInBounds_toArray, List.set_cons_zero, List.set_cons_succ, i64_w, i32_w]
          rfl
        refine pure_ (i := 5) (N := some 28) (v := ?_) (a' := ?_) #[true, true, true, true, true, true, false, false, false, false, false, false] rfl rfl (by kernel_rfl) (fun _ _ _ h => h) (Or.inl ⟨by rfl, ?_⟩) ?_ ?_
        rotate_left
        · intro w'
          go_simp
          with_reducible rfl
        rotate_left
        · simp only [Act.put, List.setIfInBounds_toArray, List.set_cons_zero, List.set_cons_succ, i64_w, i32_w]
          rfl
        refine pure_ (i := 6) (N := some 29) (v := ?_) (a' := ?_) #[true, true, true, true, true, true, true, false, false, false, false, false] rfl rfl (by kernel_rfl) (fun _ _ _ h => h) (Or.inl ⟨by rfl, ?_⟩) ?_ ?_
        rotate_left
        · intro w'
          go_simp
          with_reducible rfl
        rotate_left
        · simp only [Act.put, List.setIfInBounds_toArray, List.set_cons_zero, List.set_cons_succ, i64_w, i32_w]
          rfl
        refine take_ (i := 7) (N := some 30) (v := ?_) (a' := ?_) #[true, true, true, true, true, true, true, true, false, false, false, false] rfl rfl (by kernel_rfl) (fun _ _ _ h => h) (Or.inl ⟨by rfl, ?_⟩) hHeld ?_ ?_
        rotate_left
        · intro w' s0
          go_simp
          with_reducible rfl
        rotate_left
        · simp only [Act.put, List.setIfInBounds_toArray, List.set_cons_zero, List.set_cons_succ, i64_w, i32_w]
          rfl
        refine pure_ (i := 8) (N := some 31) (v := ?_) (a' := ?_) #[true, true, true, true, true, true, true, true, true, false, false, false] rfl rfl (by kernel_rfl) (fun _ _ _ h => h) (Or.inl ⟨by rfl, ?_⟩) ?_ ?_
        rotate_left
        · intro w'
          go_simp
          with_reducible rfl
        rotate_left
        · simp only [Act.put, List.setIfInBounds_toArray, List.set_cons_zero, List.set_cons_succ, i64_w, i32_w]
          rfl
        refine pure_ (i := 9) (N := some 32) (v := ?_) (a' := ?_) #[true, true, true, true, true, true, true, true, true, true, false, false] rfl rfl (by kernel_rfl) (fun _ _ _ h => h) (Or.inl ⟨by rfl, ?_⟩) ?_ ?_
        rotate_left
        · intro w'
          go_simp
          with_reducible rfl
        rotate_left
        · simp only [Act.put, List.setIfInBounds_toArray, List.set_cons_zero, List.set_cons_succ, i64_w, i32_w]
          rfl
        refine pure_ (i := 10) (N := some 33) (v := ?_) (a' := ?_) #[true, true, true, true, true, true, true, true, true, true, true, false] rfl rfl (by kernel_rfl) (fun _ _ _ h => h) (Or.inl ⟨by rfl, ?_⟩) ?_ ?_
        rotate_left
        · intro w'
          go_simp
          with_reducible rfl
        rotate_left
        · simp only [Act.put, List.setIfInBounds_toArray, List.set_cons_zero, List.set_cons_succ, i64_w, i32_w]
          rfl
        refine pure_ (i := 11) (N := some 8) (v := ?_) (a' := ?_) #[true, true, true, true, true, true, true, true, true, true, true, true] rfl rfl (by kernel_rfl) (fun _ _ _ h => h) (Or.inl ⟨by rfl, ?_⟩) ?_ ?_
        rotate_left
        · intro w'
          go_simp
          with_reducible rfl
        rotate_left
        · simp only [Act.put, List.setIfInBounds_toArray, List.set_cons_zero, List.set_cons_succ, i64_w, i32_w]
          rfl
        refine done_ (by kernel_rfl) ?_
        go_wp2_with (first | ((with_reducible refine gate_builtin (b := .append) (xs := #[.tmp 34, .tmp 36]) rfl ?_); at_builtin; refine Kd.R_append VK (w0 := w) w.heap.size rfl (.tmp 34) (.tmp 36) 58 44 (.slice none 0 0) 24 rfl Try.underlying58 info44 rfl (by decide) (by omega) _ ps (sl A2 m c2) [.slice A2 m c2] (fun _ => True) (fun _ => False) rfl rfl rfl (fun _ hk => hk.elim) (fun _ _ => trivial) HR0.out HB0.out HB0.out.size (by omega) ?_; intro v9 w9 ho hb9 hg9 hat9; have HO9 := Aside0.mk (Kd.R_over' HO0.out (Kd.R_typed HR0.out) (fun q hq => (by simp [Kd.int, Kd.scalar] at hq; omega)) hg9); have HR9 := Aside0.mk ho; have HB9 := Aside0.mk hb9; clear ho hb9 hg9 hat9) | ((with_reducible refine gate_builtin (b := .append) (xs := #[.tmp 38, .tmp 39]) rfl ?_); at_builtin; refine Kd.R_append_row (Value.int .u8) (0 : Int) (h1 := fun _ => rfl) (w0 := w) w.heap.size rfl (.tmp 38) (.tmp 39) 44 5 (.int .u8 0) 1 rfl Try.underlying44 Jf.info5 rfl (by decide) _ ((cutR l).take k).flatten y A2 m c2 (fun _ => True) rfl rfl (fun _ _ => trivial) HO9.out (by have h9 := Kd.C_below HCM.out HB9.out; rw [HM.out] at h9; exact h9) HB9.out HB9.out.size (by omega) ?_; intro v10 w10 ho hb9 hg9 hat9; have HR10 := Aside0.mk (Kd.R_over' HR9.out (Kd.R_typed HO9.out) (fun q hq => (by simp [VK, Kd.scalar] at hq; omega)) hg9); have HO10 := Aside0.mk ho; have HB10 := Aside0.mk hb9; clear ho hb9 hg9 hat9))
        go_roundw
        case measure => simp [intOf]; omega
        case rel => exact ⟨k + 1, ps ++ [sl A2 m c2], by go_num, by omega, by omega, HR10, ⟨by rw [HTK.out]; exact HLs.out⟩, ⟨by rw [HFT.out]; exact HO10.out⟩, HB10⟩
      · replace hcutB := hcutB (by omega)
        clear hcutA
        have q3 : (200 : Int) < (n : Int) := by omega
        go_upto_region 6 with (fail)
        refine start_ (n := 12) (S := fun w' => w'.cell? (ad.add k) = some (.slice A2 n c2)) (ds := []) #[false, false, false, false, false, false, false, false, false, false, false, false] (by kernel_rfl) rfl rfl (hcell3) (fun hHeld => ?_)
        refine pure_ (i := 0) (N := some 23) (v := ?_) (a' := ?_) #[true, false, false, false, false, false, false, false, false, false, false, false] rfl rfl (by kernel_rfl) (fun _ _ _ h => h) (Or.inl ⟨by rfl, ?_⟩) ?_ ?_
        rotate_left
        · intro w'
          go_simp
          with_reducible rfl
        rotate_left
        · simp only [Act.put, List.setIfInBounds_toArray, List.set_cons_zero, List.set_cons_succ, i64_w, i32_w]
          rfl
        refine pure_ (i := 1) (N := some 24) (v := ?_) (a' := ?_) #[true, true, false, false, false, false, false, false, false, false, false, false] rfl rfl (by kernel_rfl) (fun _ _ _ h => h) (Or.inl ⟨by rfl, ?_⟩) ?_ ?_
        rotate_left
        · intro w'
          go_simp
          with_reducible rfl
        rotate_left
        · simp only [Act.put, List.setIfInBounds_toArray, List.set_cons_zero, List.set_cons_succ, i64_w, i32_w]
          rfl
        refine pure_ (i := 2) (N := some 25) (v := ?_) (a' := ?_) #[true, true, true, false, false, false, false, false, false, false, false, false] rfl rfl (by kernel_rfl) (fun _ _ _ h => h) (Or.inl ⟨by rfl, ?_⟩) ?_ ?_
        rotate_left
        · intro w'
          go_simp
          with_reducible rfl
        rotate_left
        · simp only [Act.put, List.setIfInBounds_toArray, List.set_cons_zero, List.set_cons_succ, i64_w, i32_w]
          rfl
        refine take_ (i := 3) (N := some 26) (v := ?_) (a' := ?_) #[true, true, true, true, false, false, false, false, false, false, false, false] rfl rfl (by kernel_rfl) (fun _ _ _ h => h) (Or.inl ⟨by rfl, ?_⟩) hHeld ?_ ?_
        rotate_left
        · intro w' s0
          go_simp
          with_reducible rfl
        rotate_left
        · simp only [Act.put, List.setIfInBounds_toArray, List.set_cons_zero, List.set_cons_succ, i64_w, i32_w]
          rfl
        refine pure_ (i := 4) (N := some 27) (v := ?_) (a' := ?_) #[true, true, true, true, true, false, false, false, false, false, false, false] rfl rfl (by kernel_rfl) (fun _ _ _ h => h) (Or.inl ⟨by rfl, ?_⟩) ?_ ?_
        rotate_left
        · intro w'
          go_simp
          with_reducible rfl
        rotate_left
        · simp only [Act.put, List.setIfInBounds_toArray, List.set_cons_zero, List.set_cons_succ, i64_w, i32_w]
          rfl
        refine pure_ (i := 5) (N := some 28) (v := ?_) (a' := ?_) #[true, true, true, true, true, true, false, false, false, false, false, false] rfl rfl (by kernel_rfl) (fun _ _ _ h => h) (Or.inl ⟨by rfl, ?_⟩) ?_ ?_
        rotate_left
        · intro w'
          go_simp
          with_reducible rfl
        rotate_left
        · simp only [Act.put, List.setIfInBounds_toArray, List.set_cons_zero, List.set_cons_succ, i64_w, i32_w]
          rfl
        refine pure_ (i := 6) (N := some 29) (v := ?_) (a' := ?_) #[true, true, true, true, true, true, true, false, false, false, false, false] rfl rfl (by kernel_rfl) (fun _ _ _ h => h) (Or.inl ⟨by rfl, ?_⟩) ?_ ?_
        rotate_left
        · intro w'
          go_simp
          with_reducible rfl
        rotate_left
        · simp only [Act.put, List.setIfInBounds_toArray, List.set_cons_zero, List.set_cons_succ, i64_w, i32_w]
          rfl
        refine take_ (i := 7) (N := some 30) (v := ?_) (a' := ?_) #[true, true, true, true, true, true, true, true, false, false, false, false] rfl rfl (by kernel_rfl) (fun _ _ _ h => h) (Or.inl ⟨by rfl, ?_⟩) hHeld ?_ ?_
        rotate_left
        · intro w' s0
          go_simp
          with_reducible rfl
        rotate_left
        · simp only [Act.put, List.setIfInBounds_toArray, List.set_cons_zero, List.set_cons_succ, i64_w, i32_w]
          rfl
        refine pure_ (i := 8) (N := some 31) (v := ?_) (a' := ?_) #[true, true, true, true, true, true, true, true, true, false, false, false] rfl rfl (by kernel_rfl) (fun _ _ _ h => h) (Or.inl ⟨by rfl, ?_⟩) ?_ ?_
        rotate_left
        · intro w'
          go_simp
          with_reducible rfl
        rotate_left
        · simp only [Act.put, List.setIfInBounds_toArray, List.set_cons_zero, List.set_cons_succ, i64_w, i32_w]
          rfl
        refine pure_ (i := 9) (N := some 32) (v := ?_) (a' := ?_) #[true, true, true, true, true, true, true, true, true, true, false, false] rfl rfl (by kernel_rfl) (fun _ _ _ h => h) (Or.inl ⟨by rfl, ?_⟩) ?_ ?_
        rotate_left
        · intro w'
          go_simp
          with_reducible rfl
        rotate_left
        · simp only [Act.put, List.setIfInBounds_toArray, List.set_cons_zero, List.set_cons_succ, i64_w, i32_w]
          rfl
        refine pure_ (i := 10) (N := some 33) (v := ?_) (a' := ?_) #[true, true, true, true, true, true, true, true, true, true, true, false] rfl rfl (by kernel_rfl) (fun _ _ _ h => h) (Or.inl ⟨by rfl, ?_⟩) ?_ ?_
        rotate_left
        · intro w'
          go_simp
          with_reducible rfl
        rotate_left
        · simp only [Act.put, List.setIfInBounds_toArray, List.set_cons_zero, List.set_cons_succ, i64_w, i32_w]
          rfl
        refine pure_ (i := 11) (N := some 8) (v := ?_) (a' := ?_) #[true, true, true, true, true, true, true, true, true, true, true, true] rfl rfl (by kernel_rfl) (fun _ _ _ h => h) (Or.inl ⟨by rfl, ?_⟩) ?_ ?_
        rotate_left
        · intro w'
          go_simp
          with_reducible rfl
        rotate_left
        · simp only [Act.put, List.setIfInBounds_toArray, List.set_cons_zero, List.set_cons_succ, i64_w, i32_w]
          rfl
        refine done_ (by kernel_rfl) ?_
        go_wp2_with (first | ((with_reducible refine gate_builtin (b := .append) (xs := #[.tmp 34, .tmp 36]) rfl ?_); at_builtin; refine Kd.R_append VK (w0 := w) w.heap.size rfl (.tmp 34) (.tmp 36) 58 44 (.slice none 0 0) 24 rfl Try.underlying58 info44 rfl (by decide) (by omega) _ ps (sl A2 m c2) [.slice A2 m c2] (fun _ => True) (fun _ => False) rfl rfl rfl (fun _ hk => hk.elim) (fun _ _ => trivial) HR0.out HB0.out HB0.out.size (by omega) ?_; intro v9 w9 ho hb9 hg9 hat9; have HO9 := Aside0.mk (Kd.R_over' HO0.out (Kd.R_typed HR0.out) (fun q hq => (by simp [Kd.int, Kd.scalar] at hq; omega)) hg9); have HR9 := Aside0.mk ho; have HB9 := Aside0.mk hb9; clear ho hb9 hg9 hat9) | ((with_reducible refine gate_builtin (b := .append) (xs := #[.tmp 38, .tmp 39]) rfl ?_); at_builtin; refine Kd.R_append_row (Value.int .u8) (0 : Int) (h1 := fun _ => rfl) (w0 := w) w.heap.size rfl (.tmp 38) (.tmp 39) 44 5 (.int .u8 0) 1 rfl Try.underlying44 Jf.info5 rfl (by decide) _ ((cutR l).take k).flatten y A2 m c2 (fun _ => True) rfl rfl (fun _ _ => trivial) HO9.out (by have h9 := Kd.C_below HCM.out HB9.out; rw [HM.out] at h9; exact h9) HB9.out HB9.out.size (by omega) ?_; intro v10 w10 ho hb9 hg9 hat9; have HR10 := Aside0.mk (Kd.R_over' HR9.out (Kd.R_typed HO9.out) (fun q hq => (by simp [VK, Kd.scalar] at hq; omega)) hg9); have HO10 := Aside0.mk ho; have HB10 := Aside0.mk hb9; clear ho hb9 hg9 hat9))
        go_roundw
        case measure => simp [intOf]; omega
        case rel => exact ⟨k + 1, ps ++ [sl A2 m c2], by go_num, by omega, by omega, HR10, ⟨by rw [HTK.out]; exact HLs.out⟩, ⟨by rw [HFT.out]; exact HO10.out⟩, HB10⟩
    · have hk2 : k = min 10 l.length := by omega
      have htk : (cutR l).take k = cutR l := List.take_of_length_le (by rw [HCL.out]; omega)
      rw [htk] at HLd HO
      clear htk
      obtain ⟨A5, c5, rfl, hc5, hCC⟩ := (show Leads w ps (cutR l) from HLd.out).rows' HB.out HR.out
      obtain ⟨A6, c6, rfl, hc6, hC6⟩ := Kd.R_reads HO.out
      obtain ⟨K1, hK1⟩ := frame_Make.sum (cutR l) HRB.out (fun r hr => by have := HRL.out r hr; omega) (by rw [HCL.out]; omega)
      have hfb : Jp.bytes (cutR l).flatten := fun x hx => by
        obtain ⟨r, hr, hxr⟩ := List.mem_flatten.1 hx
        exact HRB.out r hr x hxr
      have hfl6 : (cutR l).flatten.length ≤ 1073741824 := by
        have h1 : ∀ (rs : List (List Int)) (m : Nat), (∀ r ∈ rs, r.length ≤ 200) → rs.length ≤ m → rs.flatten.length ≤ 200 * m := by
          intro rs
          induction rs with
          | nil => intro m _ _; simp
          | cons r rs ih =>
            intro m h2 h3
            have h4 := ih (m - 1) (fun q hq => h2 q (by simp [hq])) (by simp at h3; omega)
            have h5 := h2 r (by simp)
            simp at h3
            rw [List.flatten_cons, List.length_append]
            omega
        have h2 := h1 _ 10 HRL.out (by rw [HCL.out]; omega)
        omega
      obtain ⟨K2, hK2⟩ := Js.rSum _ hfb hfl6
      have hq := Jp.crc_range _ hfb
      have HKS := Aside0.mk (hK1 0)
      have HKA := Aside0.mk (hK2 0)
      generalize Jp.crc (cutR l).flatten = q at HKS HKA hq
      have hqw : IntKind.i64.wrap q = q := by rw [IntKind.wrap_i64]; omega
      have hqw2 : wrap64 q = q := by unfold wrap64; omega
      have HCTT := Aside0.mk (Kd.C_below HCT.out HB.out)
      have HCP := Aside0.mk hCC
      have HCA := Aside0.mk hC6
      generalize (cutR l).flatten = fl at *
      generalize cutR l = cr at *
      clear hK1 hK2 hfb hfl6 hCC hC6 HR HO HLd
      have hlx : (¬ k < l.length) ∨ (k < l.length ∧ ¬ k < 10) := by omega
      rcases hlx with h1 | ⟨h1, h2⟩
      · by_cases h5 : b.length ≤ 500
        · have hcutA5 := HCA5.out h5
          go_wp2_with fail
          refine (Jr.make_c HLT5.out.symm HCTT.out (by rw [HLT5.out]; omega) HMK.out).mono ?_
          rintro e w1 ⟨A3, c3, rfl, hc3, hC3, hbb⟩
          rw [HFL5.out]
          have CT_1 := Aside0.mk (Kd.C_below HCTT.out hbb)
          have CP_1 := Aside0.mk (Kd.C_below HCP.out hbb)
          have CA_1 := Aside0.mk (Kd.C_below HCA.out hbb)
          have CF_1 := Aside0.mk hC3
          have HB_1 := Aside0.mk (HB.out.trans (hbb.mono HB.out.size))
          clear hbb hC3
          clear HCTT
          clear HCP
          clear HCA
          rw [HFL5.out] at hc3
          go_wp2_with fail
          refine (Jr.open_c HFL5.out.symm CF_1.out (by rw [HFL5.out]; exact hc3) HO2.out).mono ?_
          rintro e w2 ⟨A4, c4, rfl, hc4, hC4, hbb⟩
          rw [HLT5.out]
          have CT_2 := Aside0.mk (Kd.C_below CT_1.out hbb)
          have CP_2 := Aside0.mk (Kd.C_below CP_1.out hbb)
          have CA_2 := Aside0.mk (Kd.C_below CA_1.out hbb)
          have CF_2 := Aside0.mk (Kd.C_below CF_1.out hbb)
          have CU_2 := Aside0.mk hC4
          have HB_2 := Aside0.mk (HB_1.out.trans (hbb.mono HB_1.out.size))
          clear hbb hC4
          clear CT_1
          clear CP_1
          clear CA_1
          clear CF_1
          rw [HLT5.out] at hc4
          go_wp2_with fail
          refine (clevislaw06_known.calls true _ rfl).mono ?_
          rintro e w3 ⟨rfl, hbb⟩
          have CT_3 := Aside0.mk (Kd.C_below CT_2.out hbb)
          have CP_3 := Aside0.mk (Kd.C_below CP_2.out hbb)
          have CA_3 := Aside0.mk (Kd.C_below CA_2.out hbb)
          have CF_3 := Aside0.mk (Kd.C_below CF_2.out hbb)
          have CU_3 := Aside0.mk (Kd.C_below CU_2.out hbb)
          have HB_3 := Aside0.mk (HB_2.out.trans (hbb.mono HB_2.out.size))
          clear hbb
          clear CT_2
          clear CP_2
          clear CA_2
          clear CF_2
          clear CU_2
          go_wp2_with fail
          refine (sum_c HKS.out hc5 CP_3.out).mono ?_
          rintro e w4 ⟨rfl, hbb⟩
          have CT_4 := Aside0.mk (Kd.C_below CT_3.out hbb)
          have CA_4 := Aside0.mk (Kd.C_below CA_3.out hbb)
          have CF_4 := Aside0.mk (Kd.C_below CF_3.out hbb)
          have CU_4 := Aside0.mk (Kd.C_below CU_3.out hbb)
          have HB_4 := Aside0.mk (HB_3.out.trans (hbb.mono HB_3.out.size))
          clear hbb
          clear CT_3
          clear CP_3
          clear CA_3
          clear CF_3
          clear CU_3
          go_wp2_with fail
          refine (rsum_c HKA.out hc6 CA_4.out).mono ?_
          rintro e w5 ⟨rfl, hbb⟩
          have CT_5 := Aside0.mk (Kd.C_below CT_4.out hbb)
          have CF_5 := Aside0.mk (Kd.C_below CF_4.out hbb)
          have CU_5 := Aside0.mk (Kd.C_below CU_4.out hbb)
          have HB_5 := Aside0.mk (HB_4.out.trans (hbb.mono HB_4.out.size))
          clear hbb
          clear CT_4
          clear CA_4
          clear CF_4
          clear CU_4
          go_wp2_with fail
          refine (rmake_c HLT5.out.symm HKR.out (by rw [HLT5.out]; omega) CT_5.out).mono ?_
          rintro e w6 ⟨A7, c7, rfl, hc7, hC7, hbb⟩
          rw [HFL5.out]
          have CT_6 := Aside0.mk (Kd.C_below CT_5.out hbb)
          have CF_6 := Aside0.mk (Kd.C_below CF_5.out hbb)
          have CU_6 := Aside0.mk (Kd.C_below CU_5.out hbb)
          have CG_6 := Aside0.mk hC7
          have HB_6 := Aside0.mk (HB_5.out.trans (hbb.mono HB_5.out.size))
          clear hbb hC7
          clear CT_5
          clear CF_5
          clear CU_5
          rw [HFL5.out] at hc7
          go_wp2_with fail
          refine (Jr.same_c HFL5.out.symm HFL5.out.symm CF_6.out (by rw [HFL5.out]; exact hc3) CG_6.out (by rw [HFL5.out]; exact hc7) HS2.out).mono ?_
          rintro e w7 ⟨rfl, hbb⟩
          have CT_7 := Aside0.mk (Kd.C_below CT_6.out hbb)
          have CU_7 := Aside0.mk (Kd.C_below CU_6.out hbb)
          have HB_7 := Aside0.mk (HB_6.out.trans (hbb.mono HB_6.out.size))
          clear hbb
          clear CT_6
          clear CF_6
          clear CU_6
          clear CG_6
          go_wp2_with fail
          refine (Jr.same_c HLT5.out.symm HLT5.out.symm CU_7.out (by rw [HLT5.out]; exact hc4) CT_7.out (by rw [HLT5.out]; omega) HS1.out).mono ?_
          rintro e w8 ⟨rfl, hbb⟩
          have HB_8 := Aside0.mk (HB_7.out.trans (hbb.mono HB_7.out.size))
          clear hbb
          clear CT_7
          clear CU_7
          go_wp2
          go_ret
          exact ⟨rfl, HB_8.out⟩
        · have hcutB5 := HCB5.out (by omega)
          go_wp2_with fail
          refine (Jr.make_c HLT5.out.symm HCTT.out (by rw [HLT5.out]; omega) HMK.out).mono ?_
          rintro e w1 ⟨A3, c3, rfl, hc3, hC3, hbb⟩
          rw [HFL5.out]
          have CT_1 := Aside0.mk (Kd.C_below HCTT.out hbb)
          have CP_1 := Aside0.mk (Kd.C_below HCP.out hbb)
          have CA_1 := Aside0.mk (Kd.C_below HCA.out hbb)
          have CF_1 := Aside0.mk hC3
          have HB_1 := Aside0.mk (HB.out.trans (hbb.mono HB.out.size))
          clear hbb hC3
          clear HCTT
          clear HCP
          clear HCA
          rw [HFL5.out] at hc3
          go_wp2_with fail
          refine (Jr.open_c HFL5.out.symm CF_1.out (by rw [HFL5.out]; exact hc3) HO2.out).mono ?_
          rintro e w2 ⟨A4, c4, rfl, hc4, hC4, hbb⟩
          rw [HLT5.out]
          have CT_2 := Aside0.mk (Kd.C_below CT_1.out hbb)
          have CP_2 := Aside0.mk (Kd.C_below CP_1.out hbb)
          have CA_2 := Aside0.mk (Kd.C_below CA_1.out hbb)
          have CF_2 := Aside0.mk (Kd.C_below CF_1.out hbb)
          have CU_2 := Aside0.mk hC4
          have HB_2 := Aside0.mk (HB_1.out.trans (hbb.mono HB_1.out.size))
          clear hbb hC4
          clear CT_1
          clear CP_1
          clear CA_1
          clear CF_1
          rw [HLT5.out] at hc4
          go_wp2_with fail
          refine (clevislaw06_known.calls true _ rfl).mono ?_
          rintro e w3 ⟨rfl, hbb⟩
          have CT_3 := Aside0.mk (Kd.C_below CT_2.out hbb)
          have CP_3 := Aside0.mk (Kd.C_below CP_2.out hbb)
          have CA_3 := Aside0.mk (Kd.C_below CA_2.out hbb)
          have CF_3 := Aside0.mk (Kd.C_below CF_2.out hbb)
          have CU_3 := Aside0.mk (Kd.C_below CU_2.out hbb)
          have HB_3 := Aside0.mk (HB_2.out.trans (hbb.mono HB_2.out.size))
          clear hbb
          clear CT_2
          clear CP_2
          clear CA_2
          clear CF_2
          clear CU_2
          go_wp2_with fail
          refine (sum_c HKS.out hc5 CP_3.out).mono ?_
          rintro e w4 ⟨rfl, hbb⟩
          have CT_4 := Aside0.mk (Kd.C_below CT_3.out hbb)
          have CA_4 := Aside0.mk (Kd.C_below CA_3.out hbb)
          have CF_4 := Aside0.mk (Kd.C_below CF_3.out hbb)
          have CU_4 := Aside0.mk (Kd.C_below CU_3.out hbb)
          have HB_4 := Aside0.mk (HB_3.out.trans (hbb.mono HB_3.out.size))
          clear hbb
          clear CT_3
          clear CP_3
          clear CA_3
          clear CF_3
          clear CU_3
          go_wp2_with fail
          refine (rsum_c HKA.out hc6 CA_4.out).mono ?_
          rintro e w5 ⟨rfl, hbb⟩
          have CT_5 := Aside0.mk (Kd.C_below CT_4.out hbb)
          have CF_5 := Aside0.mk (Kd.C_below CF_4.out hbb)
          have CU_5 := Aside0.mk (Kd.C_below CU_4.out hbb)
          have HB_5 := Aside0.mk (HB_4.out.trans (hbb.mono HB_4.out.size))
          clear hbb
          clear CT_4
          clear CA_4
          clear CF_4
          clear CU_4
          go_wp2_with fail
          refine (rmake_c HLT5.out.symm HKR.out (by rw [HLT5.out]; omega) CT_5.out).mono ?_
          rintro e w6 ⟨A7, c7, rfl, hc7, hC7, hbb⟩
          rw [HFL5.out]
          have CT_6 := Aside0.mk (Kd.C_below CT_5.out hbb)
          have CF_6 := Aside0.mk (Kd.C_below CF_5.out hbb)
          have CU_6 := Aside0.mk (Kd.C_below CU_5.out hbb)
          have CG_6 := Aside0.mk hC7
          have HB_6 := Aside0.mk (HB_5.out.trans (hbb.mono HB_5.out.size))
          clear hbb hC7
          clear CT_5
          clear CF_5
          clear CU_5
          rw [HFL5.out] at hc7
          go_wp2_with fail
          refine (Jr.same_c HFL5.out.symm HFL5.out.symm CF_6.out (by rw [HFL5.out]; exact hc3) CG_6.out (by rw [HFL5.out]; exact hc7) HS2.out).mono ?_
          rintro e w7 ⟨rfl, hbb⟩
          have CT_7 := Aside0.mk (Kd.C_below CT_6.out hbb)
          have CU_7 := Aside0.mk (Kd.C_below CU_6.out hbb)
          have HB_7 := Aside0.mk (HB_6.out.trans (hbb.mono HB_6.out.size))
          clear hbb
          clear CT_6
          clear CF_6
          clear CU_6
          clear CG_6
          go_wp2_with fail
          refine (Jr.same_c HLT5.out.symm HLT5.out.symm CU_7.out (by rw [HLT5.out]; exact hc4) CT_7.out (by rw [HLT5.out]; omega) HS1.out).mono ?_
          rintro e w8 ⟨rfl, hbb⟩
          have HB_8 := Aside0.mk (HB_7.out.trans (hbb.mono HB_7.out.size))
          clear hbb
          clear CT_7
          clear CU_7
          go_wp2
          go_ret
          exact ⟨rfl, HB_8.out⟩
      · by_cases h5 : b.length ≤ 500
        · have hcutA5 := HCA5.out h5
          go_wp2_with fail
          refine (Jr.make_c HLT5.out.symm HCTT.out (by rw [HLT5.out]; omega) HMK.out).mono ?_
          rintro e w1 ⟨A3, c3, rfl, hc3, hC3, hbb⟩
          rw [HFL5.out]
          have CT_1 := Aside0.mk (Kd.C_below HCTT.out hbb)
          have CP_1 := Aside0.mk (Kd.C_below HCP.out hbb)
          have CA_1 := Aside0.mk (Kd.C_below HCA.out hbb)
          have CF_1 := Aside0.mk hC3
          have HB_1 := Aside0.mk (HB.out.trans (hbb.mono HB.out.size))
          clear hbb hC3
          clear HCTT
          clear HCP
          clear HCA
          rw [HFL5.out] at hc3
          go_wp2_with fail
          refine (Jr.open_c HFL5.out.symm CF_1.out (by rw [HFL5.out]; exact hc3) HO2.out).mono ?_
          rintro e w2 ⟨A4, c4, rfl, hc4, hC4, hbb⟩
          rw [HLT5.out]
          have CT_2 := Aside0.mk (Kd.C_below CT_1.out hbb)
          have CP_2 := Aside0.mk (Kd.C_below CP_1.out hbb)
          have CA_2 := Aside0.mk (Kd.C_below CA_1.out hbb)
          have CF_2 := Aside0.mk (Kd.C_below CF_1.out hbb)
          have CU_2 := Aside0.mk hC4
          have HB_2 := Aside0.mk (HB_1.out.trans (hbb.mono HB_1.out.size))
          clear hbb hC4
          clear CT_1
          clear CP_1
          clear CA_1
          clear CF_1
          rw [HLT5.out] at hc4
          go_wp2_with fail
          refine (clevislaw06_known.calls true _ rfl).mono ?_
          rintro e w3 ⟨rfl, hbb⟩
          have CT_3 := Aside0.mk (Kd.C_below CT_2.out hbb)
          have CP_3 := Aside0.mk (Kd.C_below CP_2.out hbb)
          have CA_3 := Aside0.mk (Kd.C_below CA_2.out hbb)
          have CF_3 := Aside0.mk (Kd.C_below CF_2.out hbb)
          have CU_3 := Aside0.mk (Kd.C_below CU_2.out hbb)
          have HB_3 := Aside0.mk (HB_2.out.trans (hbb.mono HB_2.out.size))
          clear hbb
          clear CT_2
          clear CP_2
          clear CA_2
          clear CF_2
          clear CU_2
          go_wp2_with fail
          refine (sum_c HKS.out hc5 CP_3.out).mono ?_
          rintro e w4 ⟨rfl, hbb⟩
          have CT_4 := Aside0.mk (Kd.C_below CT_3.out hbb)
          have CA_4 := Aside0.mk (Kd.C_below CA_3.out hbb)
          have CF_4 := Aside0.mk (Kd.C_below CF_3.out hbb)
          have CU_4 := Aside0.mk (Kd.C_below CU_3.out hbb)
          have HB_4 := Aside0.mk (HB_3.out.trans (hbb.mono HB_3.out.size))
          clear hbb
          clear CT_3
          clear CP_3
          clear CA_3
          clear CF_3
          clear CU_3
          go_wp2_with fail
          refine (rsum_c HKA.out hc6 CA_4.out).mono ?_
          rintro e w5 ⟨rfl, hbb⟩
          have CT_5 := Aside0.mk (Kd.C_below CT_4.out hbb)
          have CF_5 := Aside0.mk (Kd.C_below CF_4.out hbb)
          have CU_5 := Aside0.mk (Kd.C_below CU_4.out hbb)
          have HB_5 := Aside0.mk (HB_4.out.trans (hbb.mono HB_4.out.size))
          clear hbb
          clear CT_4
          clear CA_4
          clear CF_4
          clear CU_4
          go_wp2_with fail
          refine (rmake_c HLT5.out.symm HKR.out (by rw [HLT5.out]; omega) CT_5.out).mono ?_
          rintro e w6 ⟨A7, c7, rfl, hc7, hC7, hbb⟩
          rw [HFL5.out]
          have CT_6 := Aside0.mk (Kd.C_below CT_5.out hbb)
          have CF_6 := Aside0.mk (Kd.C_below CF_5.out hbb)
          have CU_6 := Aside0.mk (Kd.C_below CU_5.out hbb)
          have CG_6 := Aside0.mk hC7
          have HB_6 := Aside0.mk (HB_5.out.trans (hbb.mono HB_5.out.size))
          clear hbb hC7
          clear CT_5
          clear CF_5
          clear CU_5
          rw [HFL5.out] at hc7
          go_wp2_with fail
          refine (Jr.same_c HFL5.out.symm HFL5.out.symm CF_6.out (by rw [HFL5.out]; exact hc3) CG_6.out (by rw [HFL5.out]; exact hc7) HS2.out).mono ?_
          rintro e w7 ⟨rfl, hbb⟩
          have CT_7 := Aside0.mk (Kd.C_below CT_6.out hbb)
          have CU_7 := Aside0.mk (Kd.C_below CU_6.out hbb)
          have HB_7 := Aside0.mk (HB_6.out.trans (hbb.mono HB_6.out.size))
          clear hbb
          clear CT_6
          clear CF_6
          clear CU_6
          clear CG_6
          go_wp2_with fail
          refine (Jr.same_c HLT5.out.symm HLT5.out.symm CU_7.out (by rw [HLT5.out]; exact hc4) CT_7.out (by rw [HLT5.out]; omega) HS1.out).mono ?_
          rintro e w8 ⟨rfl, hbb⟩
          have HB_8 := Aside0.mk (HB_7.out.trans (hbb.mono HB_7.out.size))
          clear hbb
          clear CT_7
          clear CU_7
          go_wp2
          go_ret
          exact ⟨rfl, HB_8.out⟩
        · have hcutB5 := HCB5.out (by omega)
          go_wp2_with fail
          refine (Jr.make_c HLT5.out.symm HCTT.out (by rw [HLT5.out]; omega) HMK.out).mono ?_
          rintro e w1 ⟨A3, c3, rfl, hc3, hC3, hbb⟩
          rw [HFL5.out]
          have CT_1 := Aside0.mk (Kd.C_below HCTT.out hbb)
          have CP_1 := Aside0.mk (Kd.C_below HCP.out hbb)
          have CA_1 := Aside0.mk (Kd.C_below HCA.out hbb)
          have CF_1 := Aside0.mk hC3
          have HB_1 := Aside0.mk (HB.out.trans (hbb.mono HB.out.size))
          clear hbb hC3
          clear HCTT
          clear HCP
          clear HCA
          rw [HFL5.out] at hc3
          go_wp2_with fail
          refine (Jr.open_c HFL5.out.symm CF_1.out (by rw [HFL5.out]; exact hc3) HO2.out).mono ?_
          rintro e w2 ⟨A4, c4, rfl, hc4, hC4, hbb⟩
          rw [HLT5.out]
          have CT_2 := Aside0.mk (Kd.C_below CT_1.out hbb)
          have CP_2 := Aside0.mk (Kd.C_below CP_1.out hbb)
          have CA_2 := Aside0.mk (Kd.C_below CA_1.out hbb)
          have CF_2 := Aside0.mk (Kd.C_below CF_1.out hbb)
          have CU_2 := Aside0.mk hC4
          have HB_2 := Aside0.mk (HB_1.out.trans (hbb.mono HB_1.out.size))
          clear hbb hC4
          clear CT_1
          clear CP_1
          clear CA_1
          clear CF_1
          rw [HLT5.out] at hc4
          go_wp2_with fail
          refine (clevislaw06_known.calls true _ rfl).mono ?_
          rintro e w3 ⟨rfl, hbb⟩
          have CT_3 := Aside0.mk (Kd.C_below CT_2.out hbb)
          have CP_3 := Aside0.mk (Kd.C_below CP_2.out hbb)
          have CA_3 := Aside0.mk (Kd.C_below CA_2.out hbb)
          have CF_3 := Aside0.mk (Kd.C_below CF_2.out hbb)
          have CU_3 := Aside0.mk (Kd.C_below CU_2.out hbb)
          have HB_3 := Aside0.mk (HB_2.out.trans (hbb.mono HB_2.out.size))
          clear hbb
          clear CT_2
          clear CP_2
          clear CA_2
          clear CF_2
          clear CU_2
          go_wp2_with fail
          refine (sum_c HKS.out hc5 CP_3.out).mono ?_
          rintro e w4 ⟨rfl, hbb⟩
          have CT_4 := Aside0.mk (Kd.C_below CT_3.out hbb)
          have CA_4 := Aside0.mk (Kd.C_below CA_3.out hbb)
          have CF_4 := Aside0.mk (Kd.C_below CF_3.out hbb)
          have CU_4 := Aside0.mk (Kd.C_below CU_3.out hbb)
          have HB_4 := Aside0.mk (HB_3.out.trans (hbb.mono HB_3.out.size))
          clear hbb
          clear CT_3
          clear CP_3
          clear CA_3
          clear CF_3
          clear CU_3
          go_wp2_with fail
          refine (rsum_c HKA.out hc6 CA_4.out).mono ?_
          rintro e w5 ⟨rfl, hbb⟩
          have CT_5 := Aside0.mk (Kd.C_below CT_4.out hbb)
          have CF_5 := Aside0.mk (Kd.C_below CF_4.out hbb)
          have CU_5 := Aside0.mk (Kd.C_below CU_4.out hbb)
          have HB_5 := Aside0.mk (HB_4.out.trans (hbb.mono HB_4.out.size))
          clear hbb
          clear CT_4
          clear CA_4
          clear CF_4
          clear CU_4
          go_wp2_with fail
          refine (rmake_c HLT5.out.symm HKR.out (by rw [HLT5.out]; omega) CT_5.out).mono ?_
          rintro e w6 ⟨A7, c7, rfl, hc7, hC7, hbb⟩
          rw [HFL5.out]
          have CT_6 := Aside0.mk (Kd.C_below CT_5.out hbb)
          have CF_6 := Aside0.mk (Kd.C_below CF_5.out hbb)
          have CU_6 := Aside0.mk (Kd.C_below CU_5.out hbb)
          have CG_6 := Aside0.mk hC7
          have HB_6 := Aside0.mk (HB_5.out.trans (hbb.mono HB_5.out.size))
          clear hbb hC7
          clear CT_5
          clear CF_5
          clear CU_5
          rw [HFL5.out] at hc7
          go_wp2_with fail
          refine (Jr.same_c HFL5.out.symm HFL5.out.symm CF_6.out (by rw [HFL5.out]; exact hc3) CG_6.out (by rw [HFL5.out]; exact hc7) HS2.out).mono ?_
          rintro e w7 ⟨rfl, hbb⟩
          have CT_7 := Aside0.mk (Kd.C_below CT_6.out hbb)
          have CU_7 := Aside0.mk (Kd.C_below CU_6.out hbb)
          have HB_7 := Aside0.mk (HB_6.out.trans (hbb.mono HB_6.out.size))
          clear hbb
          clear CT_6
          clear CF_6
          clear CU_6
          clear CG_6
          go_wp2_with fail
          refine (Jr.same_c HLT5.out.symm HLT5.out.symm CU_7.out (by rw [HLT5.out]; exact hc4) CT_7.out (by rw [HLT5.out]; omega) HS1.out).mono ?_
          rintro e w8 ⟨rfl, hbb⟩
          have HB_8 := Aside0.mk (HB_7.out.trans (hbb.mono HB_7.out.size))
          clear hbb
          clear CT_7
          clear CU_7
          go_wp2
          go_ret
          exact ⟨rfl, HB_8.out⟩
end Go.Proofs.Ytebdjhgboeadgaa.Sums
