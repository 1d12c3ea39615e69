/- Texts of this seat, put together (ZM11). -/
import Derived.Test.YtfbkgfffalppmaaZM8
import Derived.Test.YtfbkgfffalppmaaZM9
import Derived.Test.YtfbkgfffalppmaaZM10
section
namespace Go.Proofs.Ytfbkgfffalppmaa.Wm
set_option linter.unusedSimpArgs false
set_option linter.unusedVariables false
open Go Go.RowKit Go.Proofs.Ytfbkgfffalppmaa.Wf Go.Proofs.YtfbkgfffalppmaaW.PrintWords Go.Proofs.YtfbkgfffalppmaaW.PrintLast Go.Proofs.YtfbkgfffalppmaaW.PrintMore Go.Proofs.Ytfbkgfffalppmaa.Fv Go.Proofs.Ytfbkgfffalppmaa.Fc Go.Proofs.Ytfbkgfffalppmaa.Wq
theorem Ok_more {l : List S28} {z : S28} (h : ∀ x ∈ l, ∀ p ∈ x.f1, I64 p.f1) (hz : ∀ p ∈ z.f1, I64 p.f1) : Ok (cut l ++ cut [z]) := by
  have h1 := cut_Ok h
  have h2 := cut_Ok (l := [z]) (fun x hx => by obtain rfl : x = z := by simpa using hx
                                               exact hz)
  refine ⟨?_, fun x hx => ?_, fun x hx => ?_⟩
  · have h3 : (cut l).length ≤ 70 := by unfold cut; simp; omega
    have h4 : (cut [z]).length = 1 := by unfold cut; simp
    rw [List.length_append]
    omega
  · rcases List.mem_append.1 hx with hx | hx
    · exact h1.parts x hx
    · exact h2.parts x hx
  · rcases List.mem_append.1 hx with hx | hx
    · exact h1.good x hx
    · exact h2.good x hx
theorem more_pure (loss : Int) (hl : I64 loss) {l : List S28} {z : S28} (h : ∀ x ∈ l, ∀ p ∈ x.f1, I64 p.f1) (hz : ∀ p ∈ z.f1, I64 p.f1) :
    ∃ (x y : List S35) (dx dy : List S28) (ra : List S52) (rest ea : Int) (rb : List S52) (less eb : Int) (K : Nat), clevislaw28_To.f K l = some (x, dx) ∧ clevislaw28_To.f K [z] = some (y, dy) ∧ x.length + y.length ≤ 1000 ∧ waterfall_Run.f K loss x = some (ra, rest, ea) ∧ waterfall_Run.f K loss (x ++ y) = some (rb, less, eb) ∧ (ea = 0 → eb = 0 → ra <+: rb ∧ 0 ≤ less ∧ less ≤ rest) := by
  obtain ⟨K1, h1⟩ := To_f l
  obtain ⟨K2, h2⟩ := To_f [z]
  have hO := cut_Ok h
  have hO2 := Ok_more h hz
  obtain ⟨K3, h3⟩ := Run_f hO loss hl
  obtain ⟨K4, h4⟩ := Run_f hO2 loss hl
  rw [List.map_append] at h4
  refine ⟨_, _, _, _, (runF loss (cut l)).1, (runF loss (cut l)).2.1, (runF loss (cut l)).2.2, (runF loss (cut l ++ cut [z])).1, (runF loss (cut l ++ cut [z])).2.1, (runF loss (cut l ++ cut [z])).2.2, K1 + K2 + K3 + K4, (by rw [show K1 + K2 + K3 + K4 = K1 + (K2 + K3 + K4) by omega]; exact h1 _), (by rw [show K1 + K2 + K3 + K4 = K2 + (K1 + K3 + K4) by omega]; exact h2 _), ?_, (by rw [show K1 + K2 + K3 + K4 = K3 + (K1 + K2 + K4) by omega]; exact h3 _), (by rw [show K1 + K2 + K3 + K4 = K4 + (K1 + K2 + K3) by omega]; exact h4 _), ?_⟩
  · rw [List.length_map, List.length_map, ← List.length_append]
    have := hO2.len
    omega
  · unfold runF
    by_cases c1 : chk (cut l) = 0
    · by_cases c2 : chk (cut l ++ cut [z]) = 0
      · by_cases d : loss < 0
        · simp only [if_pos c1, if_pos d]
          intro h
          exact absurd h (by decide)
        · simp only [if_pos c1, if_pos c2, if_neg d]
          intro _ _
          have hG := chk_Gd hO2 c2
          rw [List.map_append] at hG
          have r1 := runR_range _ loss (fun a ha => hG a (List.mem_append_left _ ha)) (by omega)
          have r2 := runR_range _ (runR loss ((cut l).map cl)) (fun a ha => hG a (List.mem_append_right _ ha)) r1.1
          rw [List.map_append, runA_append, runR_append]
          exact ⟨List.prefix_append _ _, r2.1, r2.2⟩
      · simp only [if_neg c2]
        intro _ h
        exact absurd h c2
    · simp only [if_neg c1]
      intro h
      exact absurd h c1
def more.T12 : Bool × List (List Nat × List Nat) := (true, [([], []), ([], []), ([0, 1], [0, 1]), ([2], [2]), ([], []), ([], []), ([4, 5], [4, 5]), ([6], [6]), ([3, 7], [3, 7])])
def more.B12 : List Nat := [0, 0, 3, 7, 0, 0, 48, 112, 255]
theorem more.tab12 : rtab .any (opsOf Try.f4 12) = more.T12 := by kernel_rfl
theorem more.bits12 : waitsOk more.T12.2 more.B12 = true := by kernel_rfl
set_option maxHeartbeats 8000000
set_option maxRecDepth 100000
theorem walk (loss : Int) (hl : I64 loss) (A : Option Addr) (c : Nat) (l : List S28) (nm : ByteArray) (A' : Option Addr) (c' : Nat) (pl : List S41) (w : World) (hc : l.length ≤ c) (hC : Kd.C k28 w A l.length l) (hc' : pl.length ≤ c') (hC' : Kd.C k41 w A' pl.length pl)
    (hg : ∀ x ∈ l, ∀ p ∈ x.f1, I64 p.f1) (hz : ∀ p ∈ pl, I64 p.f1) :
    Calls Try.prog 4 #[.int .i64 loss, .slice A l.length c, .agg #[.string nm, .slice A' pl.length c']] w fun e w' => e = .returned (.bool true) ∧ Below w.heap.size w w' := by
  obtain ⟨x, y, dx, dy, ra, rest, ea, rb, less, eb, K, h1, h2, hxy, h3, h4, hE⟩ := more_pure loss hl (z := ⟨nm, pl⟩) hg hz
  replace hE := Aside0.mk hE
  go_enter Try.func4, Try.ntmps4
  go_wp2_with fail
  refine (clevislaw28_To.calls K A c l _ _ _ (Kd.C_alloc hC _) hc h1).mono ?_
  rintro e w1 ⟨v0, v1, rfl, hs0, hs1, hb1⟩
  have hk0 : w1.cell? ⟨w.heap.size, 0, none⟩ = some (.string nm) := (hb1.cell (by simp)).trans (by simp)
  have hk1 : w1.cell? ⟨w.heap.size, 1, none⟩ = some (.slice A' pl.length c') := (hb1.cell (by simp)).trans (by simp)
  have hB1 : Below w.heap.size w w1 := below_step (below_alloc (Below.refl _ _) _) hb1
  go_wp2_with fail
  have hC2 : Kd.C k28 (w1.alloc (.cells #[.string nm, .slice A' pl.length c'] 28)) (some ⟨w1.heap.size, 0, none⟩) [(⟨nm, pl⟩ : S28)].length [(⟨nm, pl⟩ : S28)] := by
    refine ⟨rfl, by simp, fun _ => ⟨_, rfl, fun j p hj => ?_⟩⟩
    have hj0 : j = 0 := by
      rcases Nat.eq_zero_or_pos j with h | h
      · exact h
      · rw [List.getElem?_eq_none (by simp; omega)] at hj
        cases hj
    subst hj0
    obtain rfl : (⟨nm, pl⟩ : S28) = p := by simpa using hj
    refine ⟨[.string nm, .slice A' pl.length c'], rfl, k28_mk _ ⟨nm, pl⟩ hc' (Kd.C_alloc (Kd.C_below hC' hB1) _), fun i u hu => ?_⟩
    rw [add_at]
    refine (blk_cell (heap_alloc_new w1 _) _).trans ?_
    simpa using hu
  refine (clevislaw28_To.calls K _ 1 [⟨nm, pl⟩] _ _ _ hC2 (by simp) h2).mono ?_
  rintro e w2 ⟨v2, v3, rfl, hs2, hs3, hb2⟩
  have hB2 := below_step (below_alloc hB1 _) hb2
  replace hs0 := Kd.S_below (Kd.S_alloc hs0 _) hb2
  obtain ⟨A1, c1, rfl⟩ := Kd.S_slice hs0
  obtain ⟨_, hc1, hC1⟩ := Kd.S_reads' hs0
  obtain ⟨A2, c2, rfl⟩ := Kd.S_slice hs2
  obtain ⟨_, hc2, hC2⟩ := Kd.S_reads' hs2
  clear hs0 hs1 hs2 hs3 hb1 hb2 hk0 hk1
  go_wp2_with fail
  refine (waterfall_Run.calls K loss A1 c1 x ra rest ea w2 hC1 hc1 h3).mono ?_
  rintro e w3 ⟨v4, rfl, hr4, hb3⟩
  have hB3 := below_step hB2 hb3
  replace hC1 := Kd.C_below hC1 hb3
  replace hC2 := Kd.C_below hC2 hb3
  obtain ⟨A3, c3, rfl, hc3, hC3⟩ := Kd.R_reads hr4
  clear hr4 hb3
  go_wp2_with ((with_reducible refine gate_builtin (b := .append) (xs := #[.tmp 43, .tmp 44]) rfl ?_); at_builtin; refine Wn.print_app_cut k35 23 35 (.agg #[.string ⟨#[]⟩, .slice none 0 0]) 40 rfl (.tmp 43) (.tmp 44) rfl Try.underlying23 info35 (by decide) (by omega) rfl rfl hC1 hC2 (by omega) ?_; intro A4 c4 w4 hc4 hC4 hb4)
  have hB4 := below_step hB3 hb4
  replace hC3 := Kd.C_below hC3 hb4
  have hrun := waterfall_Run.calls K loss A4 c4 (x ++ y) rb less eb w4 hC4 (by rw [List.length_append]; exact hc4) h4
  rw [List.length_append] at hrun
  refine hrun.mono ?_
  clear hrun
  rintro e w5 ⟨v5, rfl, hr5, hb5⟩
  have hB5 := below_step hB4 hb5
  replace hC3 := Kd.C_below hC3 hb5
  obtain ⟨A5, c5, rfl, hc5, hC5⟩ := Kd.R_reads hr5
  clear hr5 hb5 hC4 hb4 hC1 hC2 hB1 hB2 hB3 hB4 h1 h2 h3 h4 hC hC' hg hz
  by_cases ca : ea = 0
  · by_cases cb : eb = 0
    · obtain ⟨hp, h0, hle⟩ := hE.out ca cb
      obtain ⟨tl, rfl⟩ := hp
      subst ca cb
      have d1 : ¬ (((ra ++ tl).length : Int) < (ra.length : Int)) := by rw [List.length_append]; omega
      have d2 : ¬ (less > rest) := by omega
      have d3 : ¬ (less < 0) := by omega
      replace d1 := eq_false d1
      replace d2 := eq_false d2
      replace d3 := eq_false d3
      obtain ⟨rb, hrb⟩ : ∃ rb, rb = ra ++ tl := ⟨_, rfl⟩
      rw [← hrb] at d1 hc5 hC5 ⊢
      replace hrb := Aside0.mk hrb
      replace hC3 := Aside0.mk hC3
      replace hC5 := Aside0.mk hC5
      replace hB5 := Aside0.mk hB5
      go_wp2_with fail
      go_loopg [17] (ra.length + 1) (fun kq v17 w' => ∃ (i : Nat), v17 = .int .i64 (i : Int) ∧ Aside0 (i ≤ ra.length ∧ kq = ra.length + 1 - i) ∧ Aside0 (Kd.C k52 w' A3 ra.length ra) ∧ Aside0 (Kd.C k52 w' A5 rb.length rb) ∧ Aside0 (Below w.heap.size w w'))
      case atStart => exact ⟨0, rfl, ⟨by omega, by omega⟩, hC3, hC5, hB5⟩
      case round =>
        obtain ⟨i, rfl, HF, HC3, HC5, HB⟩ := hrel
        by_cases c : (i : Int) < (ra.length : Int)
        · have hil : i < ra.length := by omega
          have hi1 : Aside0 (i + 1 ≤ ra.length) := ⟨hil⟩
          have m1 : Aside0 (ra.length + 1 - (i + 1) < gk) := ⟨by have := HF.out.2; omega⟩
          have hil2 : i < rb.length := by rw [hrb.out, List.length_append]; omega
          obtain ⟨ad3, e3, p0, p1, p2⟩ := at_T52 HC3.out (i : Int) (by omega) c
          obtain ⟨ad5, e5, q0, q1, q2⟩ := at_T52 HC5.out (i : Int) (by omega) (by omega)
          have hr : rd_T52 rb (i : Int) = rd_T52 ra (i : Int) := by
            unfold rd_T52
            rw [hrb.out, Int.toNat_natCast, List.getD_eq_getElem?_getD, List.getD_eq_getElem?_getD, List.getElem?_append_left hil]
          rw [hr] at q0 q1 q2
          rw [Int.toNat_natCast] at p0 p1 p2 q0 q1 q2
          have hu52 := Try.underlying52
          have l3 := World.block_lt_of_cell? _ _ p0
          have l5 := World.block_lt_of_cell? _ _ q0
          have j0 : (0 : Int) ≤ (i : Int) := by omega
          have j2 : (i : Int) < (rb.length : Int) := by omega
          generalize rd_T52 ra (i : Int) = v at *
          have hw : wrap64 ((i : Int) + 1) = ((i + 1 : Nat) : Int) := by have := HC3.out.2.1; unfold wrap64; omega
          subst e3 e5
          replace c := eq_true c
          replace j0 := eq_true j0
          replace j2 := eq_true j2
          go_wp2_with fail
          refine start_ (n := 9) (S := fun w' => w'.cell? (ad3.add (i * 3)) = some (.string v.f0) ∧ w'.cell? ⟨(ad3.add (i * 3)).block, (ad3.add (i * 3)).off + 1, none⟩ = some (.string v.f1) ∧ w'.cell? ⟨(ad3.add (i * 3)).block, (ad3.add (i * 3)).off + 2, none⟩ = some (.int .i64 v.f2) ∧ w'.cell? (ad5.add (i * 3)) = some (.string v.f0) ∧ w'.cell? ⟨(ad5.add (i * 3)).block, (ad5.add (i * 3)).off + 1, none⟩ = some (.string v.f1) ∧ w'.cell? ⟨(ad5.add (i * 3)).block, (ad5.add (i * 3)).off + 2, none⟩ = some (.int .i64 v.f2)) (ds := []) #[false, false, false, false, false, false, false, false, false] (by kernel_rfl) rfl rfl ⟨p0, p1, p2, q0, q1, q2⟩ (fun hHeld => ?_)
          refine with_tabW more.tab12 more.bits12 (fun HT_ HW_ => ?_)
          refine pure_ (i := 0) (N := some 77) (v := ?_) (a' := ?_) #[true, false, false, false, false, false, false, false, false] rfl rfl (any_of HT_.out (by kernel_rfl)) (fun _ _ _ h => h) (Or.inl ⟨by rfl, ?_⟩) ?_ ?_
          rotate_left
          · intro w'
            go_simp
            with_reducible rfl
          rotate_left
          · simp only [Act.put, List.setIfInBounds_toArray, List.set_cons_zero, List.set_cons_succ, i64_w, i32_w]
            rfl
          refine pure_ (i := 1) (N := some 78) (v := ?_) (a' := ?_) #[true, true, false, false, false, false, false, false, false] rfl rfl (any_of HT_.out (by kernel_rfl)) (fun _ _ _ h => h) (Or.inl ⟨by rfl, ?_⟩) ?_ ?_
          rotate_left
          · intro w'
            go_simp
            with_reducible rfl
          rotate_left
          · simp only [Act.put, List.setIfInBounds_toArray, List.set_cons_zero, List.set_cons_succ, i64_w, i32_w]
            rfl
          refine pure_ (i := 2) (N := some 79) (v := ?_) (a' := ?_) #[true, true, true, false, false, false, false, false, false] rfl rfl (any_of HT_.out (by kernel_rfl)) (fun _ _ _ h => h) (Or.inl ⟨by rfl, ?_⟩) ?_ ?_
          rotate_left
          · intro w'
            go_simp
            with_reducible rfl
          rotate_left
          · simp only [Act.put, List.setIfInBounds_toArray, List.set_cons_zero, List.set_cons_succ, i64_w, i32_w]
            rfl
          refine take_ (i := 3) (N := some 80) (v := ?_) (a' := ?_) #[true, true, true, true, false, false, false, false, false] rfl rfl (take_ofW HT_.out HW_.out (by kernel_rfl)) (fun _ _ _ h => h) (Or.inl ⟨by rfl, ?_⟩) hHeld ?_ ?_
          rotate_left
          · rintro w' ⟨s0, s1, s2, s3, s4, s5⟩
            go_simp
            with_reducible rfl
          rotate_left
          · simp only [Act.put, List.setIfInBounds_toArray, List.set_cons_zero, List.set_cons_succ, i64_w, i32_w]
            rfl
          refine pure_ (i := 4) (N := some 81) (v := ?_) (a' := ?_) #[true, true, true, true, true, false, false, false, false] rfl rfl (any_of HT_.out (by kernel_rfl)) (fun _ _ _ h => h) (Or.inl ⟨by rfl, ?_⟩) ?_ ?_
          rotate_left
          · intro w'
            go_simp
            with_reducible rfl
          rotate_left
          · simp only [Act.put, List.setIfInBounds_toArray, List.set_cons_zero, List.set_cons_succ, i64_w, i32_w]
            rfl
          refine pure_ (i := 5) (N := some 82) (v := ?_) (a' := ?_) #[true, true, true, true, true, true, false, false, false] rfl rfl (any_of HT_.out (by kernel_rfl)) (fun _ _ _ h => h) (Or.inl ⟨by rfl, ?_⟩) ?_ ?_
          rotate_left
          · intro w'
            go_simp
            with_reducible rfl
          rotate_left
          · simp only [Act.put, List.setIfInBounds_toArray, List.set_cons_zero, List.set_cons_succ, i64_w, i32_w]
            rfl
          refine pure_ (i := 6) (N := some 83) (v := ?_) (a' := ?_) #[true, true, true, true, true, true, true, false, false] rfl rfl (any_of HT_.out (by kernel_rfl)) (fun _ _ _ h => h) (Or.inl ⟨by rfl, ?_⟩) ?_ ?_
          rotate_left
          · intro w'
            go_simp
            with_reducible rfl
          rotate_left
          · simp only [Act.put, List.setIfInBounds_toArray, List.set_cons_zero, List.set_cons_succ, i64_w, i32_w]
            rfl
          refine take_ (i := 7) (N := some 84) (v := ?_) (a' := ?_) #[true, true, true, true, true, true, true, true, false] rfl rfl (take_ofW HT_.out HW_.out (by kernel_rfl)) (fun _ _ _ h => h) (Or.inl ⟨by rfl, ?_⟩) hHeld ?_ ?_
          rotate_left
          · rintro w' ⟨s0, s1, s2, s3, s4, s5⟩
            go_simp
            with_reducible rfl
          rotate_left
          · simp only [Act.put, List.setIfInBounds_toArray, List.set_cons_zero, List.set_cons_succ, i64_w, i32_w]
            rfl
          refine pure_ (i := 8) (N := some 85) (v := ?_) (a' := ?_) #[true, true, true, true, true, true, true, true, true] rfl rfl (any_of HT_.out (by kernel_rfl)) (fun _ _ _ h => h) (Or.inl ⟨by rfl, ?_⟩) ?_ ?_
          rotate_left
          · intro w'
            go_simp
            with_reducible rfl
          rotate_left
          · simp only [Act.put, List.setIfInBounds_toArray, List.set_cons_zero, List.set_cons_succ, i64_w, i32_w]
            rfl
          refine done_ (done_of HT_.out (by kernel_rfl)) ?_
          go_wp2
          go_roundg (ra.length + 1 - (i + 1))
          case measure => exact m1.out
          case rel => exact ⟨i + 1, by rw [hw], ⟨hi1.out, rfl⟩, ⟨Kd.C_drew HC3.out⟩, ⟨Kd.C_drew HC5.out⟩, ⟨below_drew1 HB.out⟩⟩
        · replace c := eq_false c
          go_wp2_with fail
          refine (clevislaw28_known.calls 60 true _ (Wp.known_f 0)).mono ?_
          rintro e w6 ⟨rfl, hb6⟩
          go_wp2
          go_ret
          exact ⟨rfl, below_step HB.out hb6⟩
    · have cb : (eb != 0) = true := by simpa using cb
      go_wp2_with fail
      refine (clevislaw28_known.calls 60 true _ (Wp.known_f 0)).mono ?_
      rintro e w6 ⟨rfl, hb6⟩
      go_wp2
      go_ret
      exact ⟨rfl, below_step hB5 hb6⟩
  · have ca : (ea != 0) = true := by simpa using ca
    go_wp2_with fail
    refine (clevislaw28_known.calls 60 true _ (Wp.known_f 0)).mono ?_
    rintro e w6 ⟨rfl, hb6⟩
    go_wp2
    go_ret
    exact ⟨rfl, below_step hB5 hb6⟩
end Go.Proofs.Ytfbkgfffalppmaa.Wm
end
