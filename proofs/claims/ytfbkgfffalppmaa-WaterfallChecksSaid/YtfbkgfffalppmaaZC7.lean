/- Texts of this seat, put together (ZC7). -/
import Derived.Test.YtfbkgfffalppmaaZC2
import Derived.Test.YtfbkgfffalppmaaZC4
import Derived.Test.YtfbkgfffalppmaaZC5
import Derived.Test.YtfbkgfffalppmaaZC6
section
namespace Go.Proofs.Ytfbkgfffalppmaa.Wf
open Go.RowKit Go.Proofs.YtfbkgfffalppmaaW.PrintWords Go.Proofs.YtfbkgfffalppmaaW.PrintLast Go.Proofs.YtfbkgfffalppmaaW.PrintMore
attribute [local go_sem] max2_int min2_int max_two min_two max_three min_three max_four min_four   -- for this text's walks alone
set_option linter.unusedVariables false
set_option linter.unusedSimpArgs false
attribute [local go_sem] run_add64_any
def clevisref01_Fits.f (k : Nat) (a0_0 : Bool) (l0_1 : List Int) (a1 : Int) : Option (Bool) := if a0_0 = true then ((clevisref01_power.f k (wrap64 (a1 - 1)) 0).bind fun bt322 => ((clevisref01_size.f k l0_1 bt322.2).bind fun t326 => (some (decide (t326 ≤ 0))))) else ((clevisref01_power.f k (wrap64 (a1 - 1)) 1).bind fun bt327 => ((clevisref01_size.f k l0_1 bt327.2).bind fun t331 => (some (decide (t331 ≤ 0)))))
def clevisref01_Fits.T2 : Bool × List (List Nat × List Nat) := (true, [([], []), ([0], [0]), ([], []), ([2], [2]), ([3], [3]), ([4], [4]), ([1, 5, 4], [1, 5]), ([6], [6]), ([7, 6, 0, 1, 2, 3, 4, 5, 6, 7], [7])])
def clevisref01_Fits.B2 : List Nat := [0, 1, 0, 4, 12, 28, 63, 127, 255]
theorem clevisref01_Fits.tab2 : rtab .any (opsOf Try.f13 2) = clevisref01_Fits.T2 := by kernel_rfl
theorem clevisref01_Fits.bits2 : waitsOk clevisref01_Fits.T2.2 clevisref01_Fits.B2 = true := by kernel_rfl
def clevisref01_Fits.T3 : Bool × List (List Nat × List Nat) := (true, [([], []), ([0], [0]), ([], []), ([2], [2]), ([3], [3]), ([4], [4]), ([1, 5, 4], [1, 5]), ([6], [6]), ([7, 6, 0, 1, 2, 3, 4, 5, 6, 7], [7])])
def clevisref01_Fits.B3 : List Nat := [0, 1, 0, 4, 12, 28, 63, 127, 255]
theorem clevisref01_Fits.tab3 : rtab .any (opsOf Try.f13 3) = clevisref01_Fits.T3 := by kernel_rfl
theorem clevisref01_Fits.bits3 : waitsOk clevisref01_Fits.T3.2 clevisref01_Fits.B3 = true := by kernel_rfl
set_option maxHeartbeats 8000000 in
set_option maxRecDepth 100000 in
theorem clevisref01_Fits.calls (k : Nat) (a0_0 : Bool) (A0_1 : Option Addr) (c0_1 : Nat) (l0_1 : List Int) (a1 : Int) (r : Bool) (w : World) (hr0_1 : Kd.C (Kd.int .i64) w A0_1 l0_1.length l0_1) (hc0_1 : l0_1.length ≤ c0_1) (h : clevisref01_Fits.f k a0_0 l0_1 a1 = some r) :
  Calls Try.prog 13 #[.agg #[.bool a0_0, .slice A0_1 l0_1.length c0_1], .int .i64 a1] w fun e w' => e = .returned (.bool r) ∧ Below w.heap.size w w' := by
 have hu38 := Try.underlying38
 have hfd38_1 : ∀ (fc0 fc1 : Value) (W : World), (Instr.field 38 (.agg #[fc0, fc1]) 1).run Try.prog W = .ok (fc1) W := fun _ _ _ => rfl
 have HR0_1 := A_ hr0_1
 have HC0_1 := A_ hc0_1
 clear hr0_1 hc0_1
 have HB := A_ (Below.refl w.heap.size w)
 have H : (if a0_0 = true then ((clevisref01_power.f k (wrap64 (a1 - 1)) 0).bind fun bt322 => ((clevisref01_size.f k l0_1 bt322.2).bind fun t326 => (some (decide (t326 ≤ 0))))) else ((clevisref01_power.f k (wrap64 (a1 - 1)) 1).bind fun bt327 => ((clevisref01_size.f k l0_1 bt327.2).bind fun t331 => (some (decide (t331 ≤ 0)))))) = some r := h
 clear h
 by_cases c3 : a0_0 = true
 ·
  subst c3
  have H1 : ((clevisref01_power.f k (wrap64 (a1 - 1)) 0).bind fun bt322 => ((clevisref01_size.f k l0_1 bt322.2).bind fun t326 => (some (decide (t326 ≤ 0))))) = some r := by rw [if_pos rfl] at H; exact H
  clear H
  have H := H1
  clear H1
  replace H := os_ H
  obtain ⟨⟨t322, t323⟩, A40, H⟩ := H
  replace H : ((clevisref01_size.f k l0_1 t323).bind fun t326 => (some (decide (t326 ≤ 0)))) = some r := H
  have A4 := A_ A40
  clear A40
  replace H := os_ H
  obtain ⟨t326, A50, H⟩ := H
  replace H : (some (decide (t326 ≤ 0))) = some r := H
  have A5 := A_ A50
  clear A50
  obtain rfl := Option.some.inj H
  go_enter Try.func13, Try.ntmps13
  try go_wp2_with (first | ((with_reducible refine gate_dst (N := 2) rfl ?_); refine box_event ?hg (N := 2) ?hd (cs := #[.bool true, .slice A0_1 l0_1.length c0_1]) (t := 38) ?hr ?_; (case hd => rfl); (case hg => rfl); (case hr => first | (go_simp; done) | (go_simp; rfl)); intro gb302 hg w6 hbox hb; have n0_ := A_ (bs_ bw_ hb); have n1_ := A_ (hbox); have n2_ := A_ ((by rw [hg]; exact (bz_ bw_) : w.heap.size ≤ gb302)); have n3_ := A_ ((by rw [hg]; exact (bz_ bw_) : w.heap.size ≤ gb302)); clear HB; have HB := n0_; have BK302 := n1_; have GW302 := n2_; have GE302 := n3_; clear n0_ n1_ n2_ n3_; clear hb hbox hg; have hcz7_0 : w6.cell? ⟨gb302, 0, none⟩ = some (.bool true) := (bc_ BK302.out 0).trans rfl; have hcz7_1 : w6.cell? ⟨gb302, 1, none⟩ = some (.slice A0_1 l0_1.length c0_1) := (bc_ BK302.out 1).trans rfl; have hfz7_0 := bf_ BK302.out 0; have hfz7_1 := bf_ BK302.out 1))
  have n0_ := A_ (bd_ BK302.out)
  have n1_ := A_ (b1_ HB.out)
  clear BK302
  clear HB
  have BK302 := n0_
  have HB := n1_
  clear n0_ n1_
  refine start_ (n := 9) (S := fun w' => w'.cell? ⟨gb302, 0, none⟩ = some (.bool true) ∧ w'.cell? ⟨gb302, 1, none⟩ = some (.slice A0_1 l0_1.length c0_1)) (ds := []) #[false, false, false, false, false, false, false, false, false] (by kernel_rfl) rfl rfl ⟨(bc_ BK302.out 0).trans rfl, (bc_ BK302.out 1).trans rfl⟩ (fun hHeld => ?_); refine with_tabW clevisref01_Fits.tab2 clevisref01_Fits.bits2 (fun HT_ HW_ => ?_)
  generalize w6.drew = w8 at BK302 HB hHeld ⊢
  refine pure_ (i := 0) (N := some 7) (v := ?_) (a' := ?_) #[true, false, false, false, false, false, false, false, false] rfl rfl (any_of HT_.out (by kernel_rfl)) (fun _ _ _ h => h) (Or.inl ⟨by rfl, ?_⟩) ?_ ?_
  rotate_left
  ·
   intro w'
   go_simp
   with_reducible rfl
  rotate_left
  ·
   simp only [Act.put, sA_, sZ_, sS_, i64_w, i32_w]
   rfl
  refine pure_ (i := 2) (N := some 9) (v := ?_) (a' := ?_) #[true, false, true, false, false, false, false, false, false] rfl rfl (any_of HT_.out (by kernel_rfl)) (fun _ _ _ h => h) (Or.inl ⟨by rfl, ?_⟩) ?_ ?_
  rotate_left
  ·
   intro w'
   go_simp
   with_reducible rfl
  rotate_left
  ·
   simp only [Act.put, sA_, sZ_, sS_, i64_w, i32_w]
   rfl
  refine pure_ (i := 3) (N := some 10) (v := ?_) (a' := ?_) #[true, false, true, true, false, false, false, false, false] rfl rfl (any_of HT_.out (by kernel_rfl)) (fun _ _ _ h => h) (Or.inl ⟨by rfl, ?_⟩) ?_ ?_
  rotate_left
  ·
   intro w'
   go_simp
   with_reducible rfl
  rotate_left
  ·
   simp only [Act.put, sA_, sZ_, sS_, i64_w, i32_w]
   rfl
  refine take_ (i := 1) (N := some 8) (v := ?_) (a' := ?_) #[true, true, true, true, false, false, false, false, false] rfl rfl (take_ofW HT_.out HW_.out (by kernel_rfl)) (fun _ _ _ h => h) (Or.inl ⟨by rfl, ?_⟩) hHeld ?_ ?_
  rotate_left
  ·
   rintro w' ⟨s0, s1⟩
   go_simp
   with_reducible rfl
  rotate_left
  ·
   simp only [Act.put, sA_, sZ_, sS_, i64_w, i32_w]
   rfl
  refine one_ (i := 4) (N := some 11) #[true, true, true, true, true, false, false, false, false] rfl rfl (one_of HT_.out (by kernel_rfl)) (by decide) (fun K hK => ?_)
  refine goes_ Try.func37 (by kernel_rfl) rfl #[.int .i64 (wrap64 (a1 - 1)), .int .i64 0] (by rfl) rfl rfl (by (try simp only [List.map_toArray, List.map_cons, List.map_nil]); first | done | rfl | (simp only [List.length_drop, List.length_take]; rfl)) ?_
  with_reducible refine (clevisref01_power.calls k (wrap64 (a1 - 1)) 0 t322 t323 _ A4.out).mono ?_
  rintro e w9 ⟨v324, rfl, ho0, hb⟩
  refine ⟨_, rfl, ?_⟩
  have n0_ := A_ (Kd.V_lower (vm_ (ok' := fun k_ => k_ ≠ gb302) ho0 (fun k_ hk_ => (Kd.freshB (g := gb302) (o := .cells #[.bool true, .slice A0_1 l0_1.length c0_1] 38 (0, 0)) bk_ k_ hk_))) (bz_ bw_))
  have n1_ := A_ (kb_ BK302 hb)
  have n2_ := A_ (bs_ bw_ hb)
  clear BK302
  clear HB
  have HO325 := n0_
  have BK302 := n1_
  have HB := n2_
  clear n0_ n1_ n2_
  (try clear hb)
  (try clear hb2)
  (try clear hk)
  (try clear hi)
  (try clear ho0)
  obtain ⟨Ao10, co10, eo10⟩ := Kd.V_slice HO325.out
  (first | subst eo10 | (injection eo10 with f1_ f2_ f3_; have f4_ := f1_.symm; have f5_ := f3_.symm; clear f1_ f2_ f3_; subst f4_; subst f5_))
  refine hK.out _ _ ⟨(bc_ BK302.out 0).trans rfl, (bc_ BK302.out 1).trans rfl⟩ (fun hHeld => ?_)
  clear hK K
  refine norm_ (a' := ?_) ?_ ?_
  rotate_left
  ·
   show Act.put _ (some 11) _ = _
   simp only [Act.put, sA_, sZ_, sS_, i64_w, i32_w]
   rfl
  refine pure_ (i := 5) (N := some 12) (v := ?_) (a' := ?_) #[true, true, true, true, true, true, false, false, false] rfl rfl (any_of HT_.out (by kernel_rfl)) (fun _ _ _ h => h) (Or.inl ⟨by rfl, ?_⟩) ?_ ?_
  rotate_left
  ·
   intro w'
   go_simp
   with_reducible rfl
  rotate_left
  ·
   simp only [Act.put, sA_, sZ_, sS_, i64_w, i32_w]
   rfl
  refine one_ (i := 6) (N := some 13) #[true, true, true, true, true, true, true, false, false] rfl rfl (one_of HT_.out (by kernel_rfl)) (by decide) (fun K hK => ?_)
  refine goes_ Try.func36 (by kernel_rfl) rfl #[.slice A0_1 l0_1.length c0_1, .slice Ao10 t323.length co10] (by rfl) rfl rfl (by (try simp only [List.map_toArray, List.map_cons, List.map_nil]); first | done | rfl | (simp only [List.length_drop, List.length_take]; rfl)) ?_
  with_reducible refine (clevisref01_size.calls k _ _ l0_1 _ _ t323 t326 _ ?side1 ?side2 ?side3 ?side4 A5.out).mono ?_
  (case side1 => repeat (first | exact (cb_ HR0_1.out HB.out) | (with_reducible refine ca_ ?_ _) | (with_reducible refine cn_ ?_ _) | (with_reducible refine cd_ ?_)))
  (case side2 => exact HC0_1.out)
  (case side3 => repeat (first | exact (Kd.V_reads' HO325.out).2.2 | (with_reducible refine ca_ ?_ _) | (with_reducible refine cn_ ?_ _) | (with_reducible refine cd_ ?_)))
  (case side4 => exact (Kd.V_reads' HO325.out).2.1)
  rintro e w' ⟨rfl, ⟨nd, rfl⟩⟩
  refine ⟨_, rfl, ?_⟩
  refine hK.out _ _ ⟨(bc_ BK302.out 0).trans rfl, (bc_ BK302.out 1).trans rfl⟩ (fun hHeld => ?_)
  clear hK K
  refine norm_ (a' := ?_) ?_ ?_
  rotate_left
  ·
   show Act.put _ (some 13) _ = _
   simp only [Act.put, sA_, sZ_, sS_, i64_w, i32_w]
   rfl
  refine pure_ (i := 7) (N := some 14) (v := ?_) (a' := ?_) #[true, true, true, true, true, true, true, true, false] rfl rfl (any_of HT_.out (by kernel_rfl)) (fun _ _ _ h => h) (Or.inl ⟨by rfl, ?_⟩) ?_ ?_
  rotate_left
  ·
   intro w'
   go_simp
   with_reducible rfl
  rotate_left
  ·
   simp only [Act.put, sA_, sZ_, sS_, i64_w, i32_w]
   rfl
  refine pure_ (i := 8) (N := some 4) (v := ?_) (a' := ?_) #[true, true, true, true, true, true, true, true, true] rfl rfl (any_of HT_.out (by kernel_rfl)) (fun _ _ _ h => h) (Or.inl ⟨by rfl, ?_⟩) ?_ ?_
  rotate_left
  ·
   intro w'
   go_simp
   with_reducible rfl
  rotate_left
  ·
   simp only [Act.put, sA_, sZ_, sS_, i64_w, i32_w]
   rfl
  refine done_ (done_of HT_.out (by kernel_rfl)) ?_
  try go_wp2
  go_ret
  exact ⟨by first | rfl | (simp [errW_none, errW_some] <;> rfl) | (simp [*, errW_none, errW_some] <;> rfl), bw_⟩
 ·
  replace c3 := Bool.eq_false_iff.mpr c3
  subst c3
  have H1 : ((clevisref01_power.f k (wrap64 (a1 - 1)) 1).bind fun bt327 => ((clevisref01_size.f k l0_1 bt327.2).bind fun t331 => (some (decide (t331 ≤ 0))))) = some r := by rw [if_neg (show ¬ (false = true) by decide)] at H; exact H
  clear H
  have H := H1
  clear H1
  replace H := os_ H
  obtain ⟨⟨t327, t328⟩, A110, H⟩ := H
  replace H : ((clevisref01_size.f k l0_1 t328).bind fun t331 => (some (decide (t331 ≤ 0)))) = some r := H
  have A11 := A_ A110
  clear A110
  replace H := os_ H
  obtain ⟨t331, A120, H⟩ := H
  replace H : (some (decide (t331 ≤ 0))) = some r := H
  have A12 := A_ A120
  clear A120
  obtain rfl := Option.some.inj H
  go_enter Try.func13, Try.ntmps13
  try go_wp2_with (first | ((with_reducible refine gate_dst (N := 2) rfl ?_); refine box_event ?hg (N := 2) ?hd (cs := #[.bool false, .slice A0_1 l0_1.length c0_1]) (t := 38) ?hr ?_; (case hd => rfl); (case hg => rfl); (case hr => first | (go_simp; done) | (go_simp; rfl)); intro gb302 hg w13 hbox hb; have n0_ := A_ (bs_ bw_ hb); have n1_ := A_ (hbox); have n2_ := A_ ((by rw [hg]; exact (bz_ bw_) : w.heap.size ≤ gb302)); have n3_ := A_ ((by rw [hg]; exact (bz_ bw_) : w.heap.size ≤ gb302)); clear HB; have HB := n0_; have BK302 := n1_; have GW302 := n2_; have GE302 := n3_; clear n0_ n1_ n2_ n3_; clear hb hbox hg; have hcz14_0 : w13.cell? ⟨gb302, 0, none⟩ = some (.bool false) := (bc_ BK302.out 0).trans rfl; have hcz14_1 : w13.cell? ⟨gb302, 1, none⟩ = some (.slice A0_1 l0_1.length c0_1) := (bc_ BK302.out 1).trans rfl; have hfz14_0 := bf_ BK302.out 0; have hfz14_1 := bf_ BK302.out 1))
  have n0_ := A_ (bd_ BK302.out)
  have n1_ := A_ (b1_ HB.out)
  clear BK302
  clear HB
  have BK302 := n0_
  have HB := n1_
  clear n0_ n1_
  refine start_ (n := 9) (S := fun w' => w'.cell? ⟨gb302, 0, none⟩ = some (.bool false) ∧ w'.cell? ⟨gb302, 1, none⟩ = some (.slice A0_1 l0_1.length c0_1)) (ds := []) #[false, false, false, false, false, false, false, false, false] (by kernel_rfl) rfl rfl ⟨(bc_ BK302.out 0).trans rfl, (bc_ BK302.out 1).trans rfl⟩ (fun hHeld => ?_); refine with_tabW clevisref01_Fits.tab3 clevisref01_Fits.bits3 (fun HT_ HW_ => ?_)
  generalize w13.drew = w15 at BK302 HB hHeld ⊢
  refine pure_ (i := 0) (N := some 15) (v := ?_) (a' := ?_) #[true, false, false, false, false, false, false, false, false] rfl rfl (any_of HT_.out (by kernel_rfl)) (fun _ _ _ h => h) (Or.inl ⟨by rfl, ?_⟩) ?_ ?_
  rotate_left
  ·
   intro w'
   go_simp
   with_reducible rfl
  rotate_left
  ·
   simp only [Act.put, sA_, sZ_, sS_, i64_w, i32_w]
   rfl
  refine pure_ (i := 2) (N := some 17) (v := ?_) (a' := ?_) #[true, false, true, false, false, false, false, false, false] rfl rfl (any_of HT_.out (by kernel_rfl)) (fun _ _ _ h => h) (Or.inl ⟨by rfl, ?_⟩) ?_ ?_
  rotate_left
  ·
   intro w'
   go_simp
   with_reducible rfl
  rotate_left
  ·
   simp only [Act.put, sA_, sZ_, sS_, i64_w, i32_w]
   rfl
  refine pure_ (i := 3) (N := some 18) (v := ?_) (a' := ?_) #[true, false, true, true, false, false, false, false, false] rfl rfl (any_of HT_.out (by kernel_rfl)) (fun _ _ _ h => h) (Or.inl ⟨by rfl, ?_⟩) ?_ ?_
  rotate_left
  ·
   intro w'
   go_simp
   with_reducible rfl
  rotate_left
  ·
   simp only [Act.put, sA_, sZ_, sS_, i64_w, i32_w]
   rfl
  refine take_ (i := 1) (N := some 16) (v := ?_) (a' := ?_) #[true, true, true, true, false, false, false, false, false] rfl rfl (take_ofW HT_.out HW_.out (by kernel_rfl)) (fun _ _ _ h => h) (Or.inl ⟨by rfl, ?_⟩) hHeld ?_ ?_
  rotate_left
  ·
   rintro w' ⟨s0, s1⟩
   go_simp
   with_reducible rfl
  rotate_left
  ·
   simp only [Act.put, sA_, sZ_, sS_, i64_w, i32_w]
   rfl
  refine one_ (i := 4) (N := some 19) #[true, true, true, true, true, false, false, false, false] rfl rfl (one_of HT_.out (by kernel_rfl)) (by decide) (fun K hK => ?_)
  refine goes_ Try.func37 (by kernel_rfl) rfl #[.int .i64 (wrap64 (a1 - 1)), .int .i64 1] (by rfl) rfl rfl (by (try simp only [List.map_toArray, List.map_cons, List.map_nil]); first | done | rfl | (simp only [List.length_drop, List.length_take]; rfl)) ?_
  with_reducible refine (clevisref01_power.calls k (wrap64 (a1 - 1)) 1 t327 t328 _ A11.out).mono ?_
  rintro e w16 ⟨v329, rfl, ho0, hb⟩
  refine ⟨_, rfl, ?_⟩
  have n0_ := A_ (Kd.V_lower (vm_ (ok' := fun k_ => k_ ≠ gb302) ho0 (fun k_ hk_ => (Kd.freshB (g := gb302) (o := .cells #[.bool false, .slice A0_1 l0_1.length c0_1] 38 (0, 0)) bk_ k_ hk_))) (bz_ bw_))
  have n1_ := A_ (kb_ BK302 hb)
  have n2_ := A_ (bs_ bw_ hb)
  clear BK302
  clear HB
  have HO330 := n0_
  have BK302 := n1_
  have HB := n2_
  clear n0_ n1_ n2_
  (try clear hb)
  (try clear hb2)
  (try clear hk)
  (try clear hi)
  (try clear ho0)
  obtain ⟨Ao17, co17, eo17⟩ := Kd.V_slice HO330.out
  (first | subst eo17 | (injection eo17 with f1_ f2_ f3_; have f4_ := f1_.symm; have f5_ := f3_.symm; clear f1_ f2_ f3_; subst f4_; subst f5_))
  refine hK.out _ _ ⟨(bc_ BK302.out 0).trans rfl, (bc_ BK302.out 1).trans rfl⟩ (fun hHeld => ?_)
  clear hK K
  refine norm_ (a' := ?_) ?_ ?_
  rotate_left
  ·
   show Act.put _ (some 19) _ = _
   simp only [Act.put, sA_, sZ_, sS_, i64_w, i32_w]
   rfl
  refine pure_ (i := 5) (N := some 20) (v := ?_) (a' := ?_) #[true, true, true, true, true, true, false, false, false] rfl rfl (any_of HT_.out (by kernel_rfl)) (fun _ _ _ h => h) (Or.inl ⟨by rfl, ?_⟩) ?_ ?_
  rotate_left
  ·
   intro w'
   go_simp
   with_reducible rfl
  rotate_left
  ·
   simp only [Act.put, sA_, sZ_, sS_, i64_w, i32_w]
   rfl
  refine one_ (i := 6) (N := some 21) #[true, true, true, true, true, true, true, false, false] rfl rfl (one_of HT_.out (by kernel_rfl)) (by decide) (fun K hK => ?_)
  refine goes_ Try.func36 (by kernel_rfl) rfl #[.slice A0_1 l0_1.length c0_1, .slice Ao17 t328.length co17] (by rfl) rfl rfl (by (try simp only [List.map_toArray, List.map_cons, List.map_nil]); first | done | rfl | (simp only [List.length_drop, List.length_take]; rfl)) ?_
  with_reducible refine (clevisref01_size.calls k _ _ l0_1 _ _ t328 t331 _ ?side1 ?side2 ?side3 ?side4 A12.out).mono ?_
  (case side1 => repeat (first | exact (cb_ HR0_1.out HB.out) | (with_reducible refine ca_ ?_ _) | (with_reducible refine cn_ ?_ _) | (with_reducible refine cd_ ?_)))
  (case side2 => exact HC0_1.out)
  (case side3 => repeat (first | exact (Kd.V_reads' HO330.out).2.2 | (with_reducible refine ca_ ?_ _) | (with_reducible refine cn_ ?_ _) | (with_reducible refine cd_ ?_)))
  (case side4 => exact (Kd.V_reads' HO330.out).2.1)
  rintro e w' ⟨rfl, ⟨nd, rfl⟩⟩
  refine ⟨_, rfl, ?_⟩
  refine hK.out _ _ ⟨(bc_ BK302.out 0).trans rfl, (bc_ BK302.out 1).trans rfl⟩ (fun hHeld => ?_)
  clear hK K
  refine norm_ (a' := ?_) ?_ ?_
  rotate_left
  ·
   show Act.put _ (some 21) _ = _
   simp only [Act.put, sA_, sZ_, sS_, i64_w, i32_w]
   rfl
  refine pure_ (i := 7) (N := some 22) (v := ?_) (a' := ?_) #[true, true, true, true, true, true, true, true, false] rfl rfl (any_of HT_.out (by kernel_rfl)) (fun _ _ _ h => h) (Or.inl ⟨by rfl, ?_⟩) ?_ ?_
  rotate_left
  ·
   intro w'
   go_simp
   with_reducible rfl
  rotate_left
  ·
   simp only [Act.put, sA_, sZ_, sS_, i64_w, i32_w]
   rfl
  refine pure_ (i := 8) (N := some 4) (v := ?_) (a' := ?_) #[true, true, true, true, true, true, true, true, true] rfl rfl (any_of HT_.out (by kernel_rfl)) (fun _ _ _ h => h) (Or.inl ⟨by rfl, ?_⟩) ?_ ?_
  rotate_left
  ·
   intro w'
   go_simp
   with_reducible rfl
  rotate_left
  ·
   simp only [Act.put, sA_, sZ_, sS_, i64_w, i32_w]
   rfl
  refine done_ (done_of HT_.out (by kernel_rfl)) ?_
  try go_wp2
  go_ret
  exact ⟨by first | rfl | (simp [errW_none, errW_some] <;> rfl) | (simp [*, errW_none, errW_some] <;> rfl), bw_⟩
end Go.Proofs.Ytfbkgfffalppmaa.Wf
end
section
namespace Go.Proofs.Ytfbkgfffalppmaa.Wf
open Go.RowKit Go.Proofs.YtfbkgfffalppmaaW.PrintWords Go.Proofs.YtfbkgfffalppmaaW.PrintLast Go.Proofs.YtfbkgfffalppmaaW.PrintMore
attribute [local go_sem] max2_int min2_int max_two min_two max_three min_three max_four min_four   -- for this text's walks alone
set_option linter.unusedVariables false
set_option linter.unusedSimpArgs false
attribute [local go_sem] run_add64_any
mutual
def clevisref28_Check.l0 : Nat → List (S28) → Int → Bool → List Int → Option (Int)
 | 0, _, _, _, _ => none
 | k + 1, x0, x4, x304000, x304001 => if x4 < (x0.length : Int) then (clevisref28_Check.l1 k x0 x4 0 x304000 x304001) else (clevisref28_Check.l2 k x0 0 x304000 x304001)
def clevisref28_Check.l1 : Nat → List (S28) → Int → Int → Bool → List Int → Option (Int)
 | 0, _, _, _, _, _ => none
 | k + 1, x0, x4, x5, x304000, x304001 => if 0 ≤ x4 then (if x4 < (x0.length : Int) then (if x5 < (((rd_T28 x0 x4).f1).length : Int) then (if 0 ≤ x5 then (if ((rd_T41 ((rd_T28 x0 x4).f1) x5).f1) < 0 then (some 1) else (clevisref28_Check.l1 k x0 x4 (wrap64 (x5 + 1)) x304000 x304001)) else (none)) else ((clevisref28_Room.f k ((rd_T28 x0 x4).f1)).bind fun bt476 => ((clevisref01_Add.f k x304000 x304001 bt476.1 bt476.2).bind fun bt480 => (clevisref28_Check.l0 k x0 (wrap64 (x4 + 1)) bt480.1 bt480.2)))) else (none)) else (none)
def clevisref28_Check.l2 : Nat → List (S28) → Int → Bool → List Int → Option (Int)
 | 0, _, _, _, _ => none
 | k + 1, x0, x6, x304000, x304001 => if x6 < (x0.length : Int) then (clevisref28_Check.l3 k x0 x6 0 x304000 x304001) else (clevisref28_Check.l6 k x0 0 x304000 x304001)
def clevisref28_Check.l3 : Nat → List (S28) → Int → Int → Bool → List Int → Option (Int)
 | 0, _, _, _, _, _ => none
 | k + 1, x0, x6, x7, x304000, x304001 => if x7 < x6 then (if 0 ≤ x6 then (if x6 < (x0.length : Int) then (if 0 ≤ x7 then (if x7 < (x0.length : Int) then (if ((rd_T28 x0 x6).f0).toList = ((rd_T28 x0 x7).f0).toList then (some 6) else (clevisref28_Check.l3 k x0 x6 (wrap64 (x7 + 1)) x304000 x304001)) else (none)) else (none)) else (none)) else (none)) else (clevisref28_Check.l4 k x0 x6 0 x304000 x304001)
def clevisref28_Check.l4 : Nat → List (S28) → Int → Int → Bool → List Int → Option (Int)
 | 0, _, _, _, _, _ => none
 | k + 1, x0, x6, x8, x304000, x304001 => if 0 ≤ x6 then (if x6 < (x0.length : Int) then (if x8 < (((rd_T28 x0 x6).f1).length : Int) then (clevisref28_Check.l5 k x0 x6 x8 0 x304000 x304001) else (clevisref28_Check.l2 k x0 (wrap64 (x6 + 1)) x304000 x304001)) else (none)) else (none)
def clevisref28_Check.l5 : Nat → List (S28) → Int → Int → Int → Bool → List Int → Option (Int)
 | 0, _, _, _, _, _, _ => none
 | k + 1, x0, x6, x8, x9, x304000, x304001 => if x9 < x8 then (if 0 ≤ x6 then (if x6 < (x0.length : Int) then (if 0 ≤ x8 then (if x8 < (((rd_T28 x0 x6).f1).length : Int) then (if 0 ≤ x9 then (if x9 < (((rd_T28 x0 x6).f1).length : Int) then (if ((rd_T41 ((rd_T28 x0 x6).f1) x8).f0).toList = ((rd_T41 ((rd_T28 x0 x6).f1) x9).f0).toList then (some 6) else (clevisref28_Check.l5 k x0 x6 x8 (wrap64 (x9 + 1)) x304000 x304001)) else (none)) else (none)) else (none)) else (none)) else (none)) else (none)) else (clevisref28_Check.l4 k x0 x6 (wrap64 (x8 + 1)) x304000 x304001)
def clevisref28_Check.l6 : Nat → List (S28) → Int → Bool → List Int → Option (Int)
 | 0, _, _, _, _ => none
 | k + 1, x0, x10, x304000, x304001 => if x10 < (x0.length : Int) then (if (x0.length : Int) > 64 then (some 2) else (if 0 ≤ x10 then (if (((rd_T28 x0 x10).f1).length : Int) > 64 then (some 2) else (clevisref28_Check.l6 k x0 (wrap64 (x10 + 1)) x304000 x304001)) else (none))) else ((clevisref01_Fits.f k x304000 x304001 64).bind fun t492 => (if t492 = true then (some 0) else (some 4)))
end
def clevisref28_Check.f (k : Nat) (l0 : List (S28)) : Option (Int) := clevisref28_Check.l0 k l0 0 false ([] : List Int)
def clevisref28_Check.T10 : Bool × List (List Nat × List Nat) := (true, [([], []), ([], []), ([], []), ([1, 2], [1, 2]), ([3], [3]), ([4], [4]), ([5], [5]), ([0, 6, 6], [0, 6]), ([7, 7, 0, 1, 2, 3, 4, 5, 6, 7], [7])])
def clevisref28_Check.B10 : List Nat := [0, 0, 0, 6, 14, 30, 62, 127, 255]
theorem clevisref28_Check.tab10 : rtab .any (opsOf Try.f18 10) = clevisref28_Check.T10 := by kernel_rfl
theorem clevisref28_Check.bits10 : waitsOk clevisref28_Check.T10.2 clevisref28_Check.B10 = true := by kernel_rfl
def clevisref28_Check.T17 : Bool × List (List Nat × List Nat) := (true, [([], []), ([], []), ([0, 1], [0, 1]), ([2], [2]), ([3], [3]), ([], []), ([], []), ([5, 6], [5, 6]), ([7], [7]), ([8], [8]), ([4, 9], [4, 9])])
def clevisref28_Check.B17 : List Nat := [0, 0, 3, 7, 15, 0, 0, 96, 224, 480, 1023]
theorem clevisref28_Check.tab17 : rtab .any (opsOf Try.f18 17) = clevisref28_Check.T17 := by kernel_rfl
theorem clevisref28_Check.bits17 : waitsOk clevisref28_Check.T17.2 clevisref28_Check.B17 = true := by kernel_rfl
def clevisref28_Check.T25 : Bool × List (List Nat × List Nat) := (true, [([], []), ([], []), ([0, 1], [0, 1]), ([2], [2]), ([3], [3]), ([], []), ([4, 5], [4, 5]), ([6], [6]), ([7], [7]), ([], []), ([], []), ([9, 10], [9, 10]), ([11], [11]), ([12], [12]), ([], []), ([13, 14], [13, 14]), ([15], [15]), ([16], [16]), ([8, 17], [8, 17])])
def clevisref28_Check.B25 : List Nat := [0, 0, 3, 7, 15, 0, 63, 127, 255, 0, 0, 1536, 3584, 7680, 0, 32256, 65024, 130560, 262143]
theorem clevisref28_Check.tab25 : rtab .any (opsOf Try.f18 25) = clevisref28_Check.T25 := by kernel_rfl
theorem clevisref28_Check.bits25 : waitsOk clevisref28_Check.T25.2 clevisref28_Check.B25 = true := by kernel_rfl
set_option maxHeartbeats 8000000 in
set_option maxRecDepth 100000 in
theorem clevisref28_Check.calls (k : Nat) (A0 : Option Addr) (c0 : Nat) (l0 : List (S28)) (r : Int) (w : World) (hr0 : Kd.C k28 w A0 l0.length l0) (hc0 : l0.length ≤ c0) (h : clevisref28_Check.f k l0 = some r) :
  Calls Try.prog 18 #[.slice A0 l0.length c0] w fun e w' => e = .returned (.int .i64 r) ∧ Below w.heap.size w w' := by
 have hu38 := Try.underlying38
 have HR0 := A_ hr0
 have HC0 := A_ hc0
 clear hr0 hc0
 have HB := A_ (Below.refl w.heap.size w)
 have H : (clevisref28_Check.l0 k l0 0 false ([] : List Int)) = some r := h
 clear h
 have H' := A_ H
 clear H
 go_enter Try.func18, Try.ntmps18
 go_wp2_with (first | ((with_reducible refine gate_dst (N := 3) rfl ?_); (try (refine gate_guard (by rfl) ?_; dsimp only)); refine box_event ?hg (N := 3) ?hd (cs := #[.bool false, .slice none 0 0]) (t := 38) ?hr ?_; (case hd => rfl); (case hg => rfl); (case hr => first | (go_simp; done) | (go_simp; rfl)); intro gb303 hg w2 hbox hb; have n0_ := A_ (bs_ bw_ hb); have n1_ := A_ (hbox); have n2_ := A_ ((by rw [hg]; exact (bz_ bw_) : w.heap.size ≤ gb303)); have n3_ := A_ ((by rw [hg]; exact (bz_ bw_) : w.heap.size ≤ gb303)); clear HB; have HB := n0_; have BK303 := n1_; have GW303 := n2_; have GE303 := n3_; clear n0_ n1_ n2_ n3_; clear hb hbox hg; have hcz3_0 : w2.cell? ⟨gb303, 0, none⟩ = some (.bool false) := (bc_ BK303.out 0).trans rfl; have hcz3_1 : w2.cell? ⟨gb303, 1, none⟩ = some (.slice none 0 0) := (bc_ BK303.out 1).trans rfl; have hfz3_0 := bf_ BK303.out 0; have hfz3_1 := bf_ BK303.out 1))
 (try simp only [Act.put, sA_, sZ_, sS_])
 go_loopg [4] k (fun kq v4 w' => ∃ (x4_1 : Int) (x304000_1 : Bool) (x304001_1 : List Int) (u304001 : Value), v4 = .int .i64 x4_1 ∧ Aside0 (clevisref28_Check.l0 kq l0 x4_1 x304000_1 x304001_1 = some r) ∧ Aside0 (kq ≤ k) ∧ Aside0 (Kd.V (Kd.int .i64) 3 w' w.heap.size (fun k_ => k_ ≠ gb303) u304001 x304001_1) ∧ Aside0 (w'.heap[gb303]? = some (.cells #[.bool x304000_1, u304001] 38 (0, 0))) ∧ Aside0 (Below w.heap.size w w'))
 case atStart => exact ⟨(0), (false), (([] : List Int)), (.slice none 0 0), (by first | rfl | (simp; done) | (simp [*]; done)), H', ⟨Nat.le_refl _⟩, ⟨Kd.V_nil _ _ _ _ _⟩, ⟨by (with_reducible repeat (first | refine bn_ ?_ _ | refine bd_ ?_ | refine ba_ ?_ _)); refine bp_ (cs := #[.bool false, .slice none 0 0]) ?_ 1 _ rfl; (with_reducible repeat (first | refine bn_ ?_ _ | refine bd_ ?_ | refine ba_ ?_ _)); refine bp_ (cs := #[.bool false, .slice none 0 0]) ?_ 0 _ rfl; (with_reducible repeat (first | refine bn_ ?_ _ | refine bd_ ?_ | refine ba_ ?_ _)); exact BK303.out⟩, ⟨bw_⟩⟩
 case round =>
  clear H'
  try clear c1
  try clear p2
  try clear hcz3_0
  try clear hcz3_1
  try clear hfz3_0
  try clear hfz3_1
  obtain ⟨x4_1, x304000_1, x304001_1, u304001, rfl, HA, HK1, HO_304001, BK303, HB⟩ := hrel
  cases gk with
  | zero => exact absurd HA.out (by simp [clevisref28_Check.l0])
  | succ k1 =>
   have H := HA.out
   clear HA
   simp only [clevisref28_Check.l0] at H
   by_cases c4 : x4_1 < (l0.length : Int)
   ·
    rw [if_pos c4] at H
    have c4b0 : decide (x4_1 < (l0.length : Int)) = true := decide_eq_true c4
    clear c4
    have H' := A_ H
    clear H
    go_wp2
    (try simp only [Act.put, sA_, sZ_, sS_])
    go_loopg [5] k1 (fun kq v5 w' => ∃ (x5_2 : Int), v5 = .int .i64 x5_2 ∧ Aside0 (clevisref28_Check.l1 kq l0 x4_1 x5_2 x304000_1 x304001_1 = some r) ∧ Aside0 (kq ≤ k1) ∧ Aside0 (Kd.V (Kd.int .i64) 3 w' w.heap.size (fun k_ => k_ ≠ gb303) u304001 x304001_1) ∧ Aside0 (w'.heap[gb303]? = some (.cells #[.bool x304000_1, u304001] 38 (0, 0))) ∧ Aside0 (Below w.heap.size w w'))
    case atStart => exact ⟨(0), (by first | rfl | (simp; done) | (simp [*]; done)), H', ⟨Nat.le_refl _⟩, ⟨by (with_reducible repeat (first | apply va_ | apply vn_ | apply vd_)); exact HO_304001.out⟩, ⟨bk_⟩, ⟨bw_⟩⟩
    case round =>
     clear H'
     try clear c1
     try clear p2
     try clear c4
     try clear c4b0
     try clear hcz3_0
     try clear hcz3_1
     try clear hfz3_0
     try clear hfz3_1
     try clear p2
     obtain ⟨x5_2, rfl, HA, HK2, HO_304001, BK303, HB⟩ := hrel
     cases gk with
     | zero => exact absurd HA.out (by simp [clevisref28_Check.l1])
     | succ k2 =>
      have H := HA.out
      clear HA
      simp only [clevisref28_Check.l1] at H
      by_cases c5 : 0 ≤ x4_1
      ·
       rw [if_pos c5] at H
       have c5b0 : decide (0 ≤ x4_1) = true := decide_eq_true c5
       clear c5
       by_cases c6 : x4_1 < (l0.length : Int)
       ·
        rw [if_pos c6] at H
        have c6b0 : decide (x4_1 < (l0.length : Int)) = true := decide_eq_true c6
        clear c6
        by_cases c7 : x5_2 < (((rd_T28 l0 x4_1).f1).length : Int)
        ·
         rw [if_pos c7] at H
         have c7b0 : decide (x5_2 < (((rd_T28 l0 x4_1).f1).length : Int)) = true := decide_eq_true c7
         clear c7
         by_cases c8 : 0 ≤ x5_2
         ·
          rw [if_pos c8] at H
          have c8b0 : decide (0 ≤ x5_2) = true := decide_eq_true c8
          clear c8
          by_cases c9 : ((rd_T41 ((rd_T28 l0 x4_1).f1) x5_2).f1) < 0
          ·
           rw [if_pos c9] at H
           have c9b0 : decide (((rd_T41 ((rd_T28 l0 x4_1).f1) x5_2).f1) < 0) = true := decide_eq_true c9
           clear c9
           obtain rfl := Option.some.inj H
           have p472 : 0 ≤ (x4_1 : Int) := od_ (by first | (with_reducible assumption) | assumption)
           have q472 : x4_1 < (l0.length : Int) := od_ (by first | (with_reducible assumption) | assumption)
           obtain ⟨ad472, A472_1, c472_1, e472, hx472_0, hx472_1, hl472_1, hi472_1⟩ := at_T28 HR0.out x4_1 p472 q472
           cases e472
           replace hx472_0 := (HB.out.cell (World.block_lt_of_cell? w _ hx472_0)).trans hx472_0
           replace hx472_1 := (HB.out.cell (World.block_lt_of_cell? w _ hx472_1)).trans hx472_1
           have HR472_1 := A_ hi472_1
           have HC472_1 := A_ hl472_1
           clear hi472_1 hl472_1
           replace p472 := eq_true p472
           replace q472 := eq_true q472
           have p473 : 0 ≤ (x4_1 : Int) := od_ (by first | (with_reducible assumption) | assumption)
           have q473 : x4_1 < (l0.length : Int) := od_ (by first | (with_reducible assumption) | assumption)
           obtain ⟨ad473, A473_1, c473_1, e473, hx473_0, hx473_1, hl473_1, hi473_1⟩ := at_T28 HR0.out x4_1 p473 q473
           obtain rfl : ad472 = ad473 := (by injection e473)
           replace hx473_0 := (HB.out.cell (World.block_lt_of_cell? w _ hx473_0)).trans hx473_0
           replace hx473_1 := (HB.out.cell (World.block_lt_of_cell? w _ hx473_1)).trans hx473_1
           have HR473_1 := A_ hi473_1
           have HC473_1 := A_ hl473_1
           clear hi473_1 hl473_1
           replace p473 := eq_true p473
           replace q473 := eq_true q473
           have ea_ := Option.some.inj (hx472_1.symm.trans hx473_1)
           injection ea_ with ea_ en_ ec_
           subst ea_
           subst ec_
           clear en_
           have p474 : 0 ≤ (x5_2 : Int) := od_ (by first | (with_reducible assumption) | assumption)
           have q474 : x5_2 < (((rd_T28 l0 x4_1).f1).length : Int) := od_ (by first | (with_reducible assumption) | assumption)
           obtain ⟨ad474, e474, hx474_0, hx474_1⟩ := at_T41 HR473_1.out x5_2 p474 q474
           cases e474
           replace hx474_0 := (HB.out.cell (World.block_lt_of_cell? w _ hx474_0)).trans hx474_0
           replace hx474_1 := (HB.out.cell (World.block_lt_of_cell? w _ hx474_1)).trans hx474_1
           replace p474 := eq_true p474
           replace q474 := eq_true q474
           go_wp2
           go_ret
           exact ⟨by first | rfl | (simp [errW_none, errW_some] <;> rfl) | (simp [*, errW_none, errW_some] <;> rfl), bw_⟩
          ·
           rw [if_neg c9] at H
           have c9b0 : decide (((rd_T41 ((rd_T28 l0 x4_1).f1) x5_2).f1) < 0) = false := decide_eq_false c9
           clear c9
           have H' := A_ H
           clear H
           have p472 : 0 ≤ (x4_1 : Int) := od_ (by first | (with_reducible assumption) | assumption)
           have q472 : x4_1 < (l0.length : Int) := od_ (by first | (with_reducible assumption) | assumption)
           obtain ⟨ad472, A472_1, c472_1, e472, hx472_0, hx472_1, hl472_1, hi472_1⟩ := at_T28 HR0.out x4_1 p472 q472
           cases e472
           replace hx472_0 := (HB.out.cell (World.block_lt_of_cell? w _ hx472_0)).trans hx472_0
           replace hx472_1 := (HB.out.cell (World.block_lt_of_cell? w _ hx472_1)).trans hx472_1
           have HR472_1 := A_ hi472_1
           have HC472_1 := A_ hl472_1
           clear hi472_1 hl472_1
           replace p472 := eq_true p472
           replace q472 := eq_true q472
           have p473 : 0 ≤ (x4_1 : Int) := od_ (by first | (with_reducible assumption) | assumption)
           have q473 : x4_1 < (l0.length : Int) := od_ (by first | (with_reducible assumption) | assumption)
           obtain ⟨ad473, A473_1, c473_1, e473, hx473_0, hx473_1, hl473_1, hi473_1⟩ := at_T28 HR0.out x4_1 p473 q473
           obtain rfl : ad472 = ad473 := (by injection e473)
           replace hx473_0 := (HB.out.cell (World.block_lt_of_cell? w _ hx473_0)).trans hx473_0
           replace hx473_1 := (HB.out.cell (World.block_lt_of_cell? w _ hx473_1)).trans hx473_1
           have HR473_1 := A_ hi473_1
           have HC473_1 := A_ hl473_1
           clear hi473_1 hl473_1
           replace p473 := eq_true p473
           replace q473 := eq_true q473
           have ea_ := Option.some.inj (hx472_1.symm.trans hx473_1)
           injection ea_ with ea_ en_ ec_
           subst ea_
           subst ec_
           clear en_
           have p474 : 0 ≤ (x5_2 : Int) := od_ (by first | (with_reducible assumption) | assumption)
           have q474 : x5_2 < (((rd_T28 l0 x4_1).f1).length : Int) := od_ (by first | (with_reducible assumption) | assumption)
           obtain ⟨ad474, e474, hx474_0, hx474_1⟩ := at_T41 HR473_1.out x5_2 p474 q474
           cases e474
           replace hx474_0 := (HB.out.cell (World.block_lt_of_cell? w _ hx474_0)).trans hx474_0
           replace hx474_1 := (HB.out.cell (World.block_lt_of_cell? w _ hx474_1)).trans hx474_1
           replace p474 := eq_true p474
           replace q474 := eq_true q474
           go_wp2
           go_roundg k2
           case measure => have := HK1.out; have := HK2.out; omega
           case rel => exact ⟨(wrap64 (x5_2 + 1)), (by first | rfl | (simp; done) | (simp [*]; done)), H', ⟨by have := HK1.out; have := HK2.out; omega⟩, ⟨by (with_reducible repeat (first | apply va_ | apply vn_ | apply vd_)); exact HO_304001.out⟩, ⟨bk_⟩, ⟨bw_⟩⟩
         ·
          rw [if_neg c8] at H
          exact absurd H (by simp)
        ·
         rw [if_neg c7] at H
         have c7b0 : decide (x5_2 < (((rd_T28 l0 x4_1).f1).length : Int)) = false := decide_eq_false c7
         clear c7
         replace H := os_ H
         obtain ⟨⟨t476, t477⟩, A100, H⟩ := H
         replace H : ((clevisref01_Add.f k2 x304000_1 x304001_1 t476 t477).bind fun bt480 => (clevisref28_Check.l0 k2 l0 (wrap64 (x4_1 + 1)) bt480.1 bt480.2)) = some r := H
         have A10 := A_ A100
         clear A100
         replace H := os_ H
         obtain ⟨⟨t480, t481⟩, A110, H⟩ := H
         replace H : (clevisref28_Check.l0 k2 l0 (wrap64 (x4_1 + 1)) t480 t481) = some r := H
         have A11 := A_ A110
         clear A110
         have H' := A_ H
         clear H
         have p472 : 0 ≤ (x4_1 : Int) := od_ (by first | (with_reducible assumption) | assumption)
         have q472 : x4_1 < (l0.length : Int) := od_ (by first | (with_reducible assumption) | assumption)
         obtain ⟨ad472, A472_1, c472_1, e472, hx472_0, hx472_1, hl472_1, hi472_1⟩ := at_T28 HR0.out x4_1 p472 q472
         cases e472
         replace hx472_0 := (HB.out.cell (World.block_lt_of_cell? w _ hx472_0)).trans hx472_0
         replace hx472_1 := (HB.out.cell (World.block_lt_of_cell? w _ hx472_1)).trans hx472_1
         have HR472_1 := A_ hi472_1
         have HC472_1 := A_ hl472_1
         clear hi472_1 hl472_1
         replace p472 := eq_true p472
         replace q472 := eq_true q472
         try go_wp2
         have n0_ := A_ (vd_ HO_304001.out)
         have n1_ := A_ (bd_ BK303.out)
         have n2_ := A_ (b1_ HB.out)
         clear HO_304001
         clear BK303
         clear HB
         have HO_304001 := n0_
         have BK303 := n1_
         have HB := n2_
         clear n0_ n1_ n2_
         have p475 : 0 ≤ (x4_1 : Int) := od_ (by first | (with_reducible assumption) | assumption)
         have q475 : x4_1 < (l0.length : Int) := od_ (by first | (with_reducible assumption) | assumption)
         obtain ⟨ad475, A475_1, c475_1, e475, hx475_0, hx475_1, hl475_1, hi475_1⟩ := at_T28 HR0.out x4_1 p475 q475
         have hw475_1 := hx475_1
         have hw475_0 := hx475_0
         obtain rfl : ad472 = ad475 := (by injection e475)
         replace hx475_0 := (HB.out.cell (World.block_lt_of_cell? w _ hx475_0)).trans hx475_0
         replace hx475_1 := (HB.out.cell (World.block_lt_of_cell? w _ hx475_1)).trans hx475_1
         have HR475_1 := A_ hi475_1
         have HC475_1 := A_ hl475_1
         clear hi475_1 hl475_1
         replace p475 := eq_true p475
         replace q475 := eq_true q475
         refine start_ (n := 9) (S := fun w' => w'.cell? ⟨gb303, 0, none⟩ = some (.bool x304000_1) ∧ w'.cell? ⟨gb303, 1, none⟩ = some (u304001) ∧ w'.cell? (ad472.add ((x4_1).toNat * 2)) = some (.string ((rd_T28 l0 x4_1).f0)) ∧ w'.cell? ⟨(ad472.add ((x4_1).toNat * 2)).block, (ad472.add ((x4_1).toNat * 2)).off + 1, none⟩ = some (.slice A475_1 ((rd_T28 l0 x4_1).f1).length c475_1)) (ds := [8]) #[false, false, false, false, false, false, false, false, false] (by kernel_rfl) rfl rfl ⟨(bc_ BK303.out 0).trans rfl, (bc_ BK303.out 1).trans rfl, ((HB.out.cell (World.block_lt_of_cell? w _ hw475_0)).trans hw475_0), ((HB.out.cell (World.block_lt_of_cell? w _ hw475_1)).trans hw475_1)⟩ (fun hHeld => ?_); refine with_tabW clevisref28_Check.tab10 clevisref28_Check.bits10 (fun HT_ HW_ => ?_)
         generalize wr.drew = w12 at HO_304001 BK303 HB HR475_1 hx475_0 hx475_1 hHeld ⊢
         refine pure_ (i := 1) (N := some 39) (v := ?_) (a' := ?_) #[false, true, false, false, false, false, false, false, false] rfl rfl (any_of HT_.out (by kernel_rfl)) (fun _ _ _ h => h) (Or.inl ⟨by rfl, ?_⟩) ?_ ?_
         rotate_left
         ·
          intro w'
          go_simp
          with_reducible rfl
         rotate_left
         ·
          simp only [Act.put, sA_, sZ_, sS_, i64_w, i32_w]
          rfl
         refine pure_ (i := 2) (N := some 40) (v := ?_) (a' := ?_) #[false, true, true, false, false, false, false, false, false] rfl rfl (any_of HT_.out (by kernel_rfl)) (fun _ _ _ h => h) (Or.inl ⟨by rfl, ?_⟩) ?_ ?_
         rotate_left
         ·
          intro w'
          go_simp
          with_reducible rfl
         rotate_left
         ·
          simp only [Act.put, sA_, sZ_, sS_, i64_w, i32_w]
          rfl
         refine pure_ (i := 3) (N := some 41) (v := ?_) (a' := ?_) #[false, true, true, true, false, false, false, false, false] rfl rfl (any_of HT_.out (by kernel_rfl)) (fun _ _ _ h => h) (Or.inl ⟨by rfl, ?_⟩) ?_ ?_
         rotate_left
         ·
          intro w'
          go_simp
          with_reducible rfl
         rotate_left
         ·
          simp only [Act.put, sA_, sZ_, sS_, i64_w, i32_w]
          rfl
         refine pure_ (i := 4) (N := some 42) (v := ?_) (a' := ?_) #[false, true, true, true, true, false, false, false, false] rfl rfl (any_of HT_.out (by kernel_rfl)) (fun _ _ _ h => h) (Or.inl ⟨by rfl, ?_⟩) ?_ ?_
         rotate_left
         ·
          intro w'
          go_simp
          with_reducible rfl
         rotate_left
         ·
          simp only [Act.put, sA_, sZ_, sS_, i64_w, i32_w]
          rfl
         refine take_ (i := 0) (N := some 38) (v := ?_) (a' := ?_) #[true, true, true, true, true, false, false, false, false] rfl rfl (take_ofW HT_.out HW_.out (by kernel_rfl)) (fun _ _ _ h => h) (Or.inl ⟨by rfl, ?_⟩) hHeld ?_ ?_
         rotate_left
         ·
          rintro w' ⟨s0, s1, s2, s3⟩
          go_simp
          with_reducible rfl
         rotate_left
         ·
          simp only [Act.put, sA_, sZ_, sS_, i64_w, i32_w]
          rfl
         refine take_ (i := 5) (N := some 43) (v := ?_) (a' := ?_) #[true, true, true, true, true, true, false, false, false] rfl rfl (take_ofW HT_.out HW_.out (by kernel_rfl)) (fun _ _ _ h => h) (Or.inl ⟨by rfl, ?_⟩) hHeld ?_ ?_
         rotate_left
         ·
          rintro w' ⟨s0, s1, s2, s3⟩
          go_simp
          with_reducible rfl
         rotate_left
         ·
          simp only [Act.put, sA_, sZ_, sS_, i64_w, i32_w]
          rfl
         refine one_ (i := 6) (N := some 44) #[true, true, true, true, true, true, true, false, false] rfl rfl (one_of HT_.out (by kernel_rfl)) (by decide) (fun K hK => ?_)
         refine goes_ Try.func11 (by kernel_rfl) rfl #[.slice A475_1 ((rd_T28 l0 x4_1).f1).length c475_1] (by rfl) rfl rfl (by (try simp only [List.map_toArray, List.map_cons, List.map_nil]); first | done | rfl | (simp only [List.length_drop, List.length_take]; rfl)) ?_
         with_reducible refine (clevisref28_Room.calls k2 _ _ ((rd_T28 l0 x4_1).f1) t476 t477 _ ?side1 ?side2 A10.out).mono ?_
         (case side1 => repeat (first | exact (cb_ HR475_1.out HB.out) | (with_reducible refine ca_ ?_ _) | (with_reducible refine cn_ ?_ _) | (with_reducible refine cd_ ?_)))
         (case side2 => exact HC475_1.out)
         rintro e w13 ⟨v478, rfl, ho0, hb⟩
         refine ⟨_, rfl, ?_⟩
         have n0_ := A_ (Kd.V_below (by (with_reducible repeat (first | apply va_ | apply vn_ | apply vd_)); exact HO_304001.out) hb)
         have n1_ := A_ (Kd.V_lower (vm_ (ok' := fun k_ => k_ ≠ gb303) ho0 (fun k_ hk_ => (Kd.freshB (g := gb303) (o := .cells #[.bool x304000_1, u304001] 38 (0, 0)) bk_ k_ hk_))) (bz_ bw_))
         have n2_ := A_ (kb_ BK303 hb)
         have n3_ := A_ (bs_ bw_ hb)
         clear HO_304001
         clear BK303
         clear HB
         have HO_304001 := n0_
         have HO479 := n1_
         have BK303 := n2_
         have HB := n3_
         clear n0_ n1_ n2_ n3_
         (try clear hb)
         (try clear hb2)
         (try clear hk)
         (try clear hi)
         (try clear ho0)
         obtain ⟨Ao14, co14, eo14⟩ := Kd.V_slice HO_304001.out
         (first | subst eo14 | (injection eo14 with f1_ f2_ f3_; have f4_ := f1_.symm; have f5_ := f3_.symm; clear f1_ f2_ f3_; subst f4_; subst f5_))
         obtain ⟨Ao15, co15, eo15⟩ := Kd.V_slice HO479.out
         (first | subst eo15 | (injection eo15 with f1_ f2_ f3_; have f4_ := f1_.symm; have f5_ := f3_.symm; clear f1_ f2_ f3_; subst f4_; subst f5_))
         refine hK.out _ _ ⟨(bc_ BK303.out 0).trans rfl, (bc_ BK303.out 1).trans rfl, ((HB.out.cell (World.block_lt_of_cell? w _ hw475_0)).trans hw475_0), ((HB.out.cell (World.block_lt_of_cell? w _ hw475_1)).trans hw475_1)⟩ (fun hHeld => ?_)
         clear hK K
         refine norm_ (a' := ?_) ?_ ?_
         rotate_left
         ·
          show Act.put _ (some 44) _ = _
          simp only [Act.put, sA_, sZ_, sS_, i64_w, i32_w]
          rfl
         refine one_ (i := 7) (N := some 45) #[true, true, true, true, true, true, true, true, false] rfl rfl (one_of HT_.out (by kernel_rfl)) (by decide) (fun K hK => ?_)
         refine goes_ Try.func20 (by kernel_rfl) rfl #[.agg #[.bool x304000_1, .slice Ao14 x304001_1.length co14], .agg #[.bool t476, .slice Ao15 t477.length co15]] (by rfl) rfl rfl (by (try simp only [List.map_toArray, List.map_cons, List.map_nil]); first | done | rfl | (simp only [List.length_drop, List.length_take]; rfl)) ?_
         with_reducible refine (clevisref01_Add.calls k2 x304000_1 _ _ x304001_1 t476 _ _ t477 t480 t481 _ ?side1 ?side2 ?side3 ?side4 A11.out).mono ?_
         (case side1 => repeat (first | exact (Kd.V_reads' HO_304001.out).2.2 | (with_reducible refine ca_ ?_ _) | (with_reducible refine cn_ ?_ _) | (with_reducible refine cd_ ?_)))
         (case side2 => exact (Kd.V_reads' HO_304001.out).2.1)
         (case side3 => repeat (first | exact (Kd.V_reads' HO479.out).2.2 | (with_reducible refine ca_ ?_ _) | (with_reducible refine cn_ ?_ _) | (with_reducible refine cd_ ?_)))
         (case side4 => exact (Kd.V_reads' HO479.out).2.1)
         rintro e w16 ⟨v482, rfl, ho0, hb⟩
         refine ⟨_, rfl, ?_⟩
         have n0_ := A_ (Kd.V_below (by (with_reducible repeat (first | apply va_ | apply vn_ | apply vd_)); exact HO_304001.out) hb)
         have n1_ := A_ (Kd.V_below (by (with_reducible repeat (first | apply va_ | apply vn_ | apply vd_)); exact HO479.out) hb)
         have n2_ := A_ (Kd.V_lower (vm_ (ok' := fun k_ => k_ ≠ gb303) ho0 (fun k_ hk_ => (Kd.freshB (g := gb303) (o := .cells #[.bool x304000_1, .slice Ao14 x304001_1.length co14] 38 (0, 0)) bk_ k_ hk_))) (bz_ bw_))
         have n3_ := A_ (kb_ BK303 hb)
         have n4_ := A_ (bs_ bw_ hb)
         clear HO_304001
         clear HO479
         clear BK303
         clear HB
         have HO_304001 := n0_
         have HO479 := n1_
         have HO483 := n2_
         have BK303 := n3_
         have HB := n4_
         clear n0_ n1_ n2_ n3_ n4_
         (try clear hb)
         (try clear hb2)
         (try clear hk)
         (try clear hi)
         (try clear ho0)
         obtain ⟨Ao18, co18, eo18⟩ := Kd.V_slice HO483.out
         (first | subst eo18 | (injection eo18 with f1_ f2_ f3_; have f4_ := f1_.symm; have f5_ := f3_.symm; clear f1_ f2_ f3_; subst f4_; subst f5_))
         refine hK.out _ _ ⟨(bc_ BK303.out 0).trans rfl, (bc_ BK303.out 1).trans rfl, ((HB.out.cell (World.block_lt_of_cell? w _ hw475_0)).trans hw475_0), ((HB.out.cell (World.block_lt_of_cell? w _ hw475_1)).trans hw475_1)⟩ (fun hHeld => ?_)
         clear hK K
         refine norm_ (a' := ?_) ?_ ?_
         rotate_left
         ·
          show Act.put _ (some 45) _ = _
          simp only [Act.put, sA_, sZ_, sS_, i64_w, i32_w]
          rfl
         refine last_ (i := 8) (N := none) #[true, true, true, true, true, true, true, true, true] rfl rfl (one_of HT_.out (by kernel_rfl)) (by decide) (fun K hK => ?_)
         have hs17 : w16.cell? ⟨gb303, 0, none⟩ = some (.bool x304000_1) := (bc_ BK303.out 0).trans rfl
         have hfs17 := bf_ BK303.out 0
         have hs19 : w16.cell? ⟨gb303, 1, none⟩ = some (.slice Ao14 x304001_1.length co14) := (bc_ BK303.out 1).trans rfl
         have hfs19 := bf_ BK303.out 1
         refine skip_ (w1 := ?_) (by rfl) rfl ?_ ?_
         rotate_left
         ·
          go_simp
          rfl
         refine hK.out _ _ ?_
         clear hK K
         refine done_ (done_of HT_.out (by kernel_rfl)) ?_
         try go_wp2
         go_roundg k2
         case measure => have := HK1.out; have := HK2.out; omega
         case rel => exact ⟨(wrap64 (x4_1 + 1)), (t480), (t481), (.slice Ao18 t481.length co18), (by first | rfl | (simp; done) | (simp [*]; done)), H', ⟨by have := HK1.out; have := HK2.out; omega⟩, ⟨by (with_reducible repeat (first | apply va_ | apply vn_ | apply vd_)); exact vm_ (Kd.V_far (p := ⟨gb303, 1, none⟩) (Kd.V_far (p := ⟨gb303, 0, none⟩) (vm_ HO483.out (fun k_ hk => (⟨hk, hk⟩ : _ ∧ k_ ≠ gb303))) (fun _ hk => hk.2) (.bool t480)) (fun _ hk => hk.2) (.slice Ao18 t481.length co18)) (fun _ hk => hk.1)⟩, ⟨by (with_reducible repeat (first | refine bn_ ?_ _ | refine bd_ ?_ | refine ba_ ?_ _)); refine bp_ (cs := #[.bool t480, .slice Ao14 x304001_1.length co14]) ?_ 1 _ rfl; (with_reducible repeat (first | refine bn_ ?_ _ | refine bd_ ?_ | refine ba_ ?_ _)); refine bp_ (cs := #[.bool x304000_1, .slice Ao14 x304001_1.length co14]) ?_ 0 _ rfl; (with_reducible repeat (first | refine bn_ ?_ _ | refine bd_ ?_ | refine ba_ ?_ _)); exact BK303.out⟩, ⟨bw_⟩⟩
       ·
        rw [if_neg c6] at H
        exact absurd H (by simp)
      ·
       rw [if_neg c5] at H
       exact absurd H (by simp)
   ·
    rw [if_neg c4] at H
    have c4b0 : decide (x4_1 < (l0.length : Int)) = false := decide_eq_false c4
    clear c4
    have H' := A_ H
    clear H
    go_wp2
    (try simp only [Act.put, sA_, sZ_, sS_])
    go_loopg [6] k1 (fun kq v6 w' => ∃ (x6_2 : Int), v6 = .int .i64 x6_2 ∧ Aside0 (clevisref28_Check.l2 kq l0 x6_2 x304000_1 x304001_1 = some r) ∧ Aside0 (kq ≤ k1) ∧ Aside0 (Kd.V (Kd.int .i64) 3 w' w.heap.size (fun k_ => k_ ≠ gb303) u304001 x304001_1) ∧ Aside0 (w'.heap[gb303]? = some (.cells #[.bool x304000_1, u304001] 38 (0, 0))) ∧ Aside0 (Below w.heap.size w w'))
    case atStart => exact ⟨(0), (by first | rfl | (simp; done) | (simp [*]; done)), H', ⟨Nat.le_refl _⟩, ⟨by (with_reducible repeat (first | apply va_ | apply vn_ | apply vd_)); exact HO_304001.out⟩, ⟨bk_⟩, ⟨bw_⟩⟩
    case round =>
     clear H'
     try clear c1
     try clear c2
     try clear p2
     try clear c4
     try clear c4b0
     try clear p4
     try clear q4
     try clear hx4
     try clear c5
     try clear c5b0
     try clear c6
     try clear c6b0
     try clear p6
     try clear c7
     try clear c7b0
     try clear c8
     try clear c8b0
     try clear c9
     try clear c9b0
     try clear c11
     try clear c18
     try clear hcz3_0
     try clear hcz3_1
     try clear hfz3_0
     try clear hfz3_1
     try clear hx472_0
     try clear hx472_1
     try clear hx473_0
     try clear hx473_1
     try clear hx474_0
     try clear hx474_1
     try clear hx475_0
     try clear hx475_1
     try clear p2
     try clear p472
     try clear p473
     try clear p474
     try clear p475
     try clear q472
     try clear q473
     try clear q474
     try clear q475
     obtain ⟨x6_2, rfl, HA, HK2, HO_304001, BK303, HB⟩ := hrel
     cases gk with
     | zero => exact absurd HA.out (by simp [clevisref28_Check.l2])
     | succ k2 =>
      have H := HA.out
      clear HA
      simp only [clevisref28_Check.l2] at H
      by_cases c20 : x6_2 < (l0.length : Int)
      ·
       rw [if_pos c20] at H
       have c20b0 : decide (x6_2 < (l0.length : Int)) = true := decide_eq_true c20
       clear c20
       have H' := A_ H
       clear H
       go_wp2
       (try simp only [Act.put, sA_, sZ_, sS_])
       go_loopg [7] k2 (fun kq v7 w' => ∃ (x7_3 : Int), v7 = .int .i64 x7_3 ∧ Aside0 (clevisref28_Check.l3 kq l0 x6_2 x7_3 x304000_1 x304001_1 = some r) ∧ Aside0 (kq ≤ k2) ∧ Aside0 (Kd.V (Kd.int .i64) 3 w' w.heap.size (fun k_ => k_ ≠ gb303) u304001 x304001_1) ∧ Aside0 (w'.heap[gb303]? = some (.cells #[.bool x304000_1, u304001] 38 (0, 0))) ∧ Aside0 (Below w.heap.size w w'))
       case atStart => exact ⟨(0), (by first | rfl | (simp; done) | (simp [*]; done)), H', ⟨Nat.le_refl _⟩, ⟨by (with_reducible repeat (first | apply va_ | apply vn_ | apply vd_)); exact HO_304001.out⟩, ⟨bk_⟩, ⟨bw_⟩⟩
       case round =>
        clear H'
        try clear c1
        try clear c2
        try clear p2
        try clear c4
        try clear c4b0
        try clear p4
        try clear q4
        try clear hx4
        try clear c5
        try clear c5b0
        try clear c6
        try clear c6b0
        try clear p6
        try clear c7
        try clear c7b0
        try clear c8
        try clear c8b0
        try clear c9
        try clear c9b0
        try clear c11
        try clear c18
        try clear c20
        try clear c20b0
        try clear hcz3_0
        try clear hcz3_1
        try clear hfz3_0
        try clear hfz3_1
        try clear hx472_0
        try clear hx472_1
        try clear hx473_0
        try clear hx473_1
        try clear hx474_0
        try clear hx474_1
        try clear hx475_0
        try clear hx475_1
        try clear p2
        try clear p4
        try clear p472
        try clear p473
        try clear p474
        try clear p475
        try clear p6
        try clear q4
        try clear q472
        try clear q473
        try clear q474
        try clear q475
        obtain ⟨x7_3, rfl, HA, HK3, HO_304001, BK303, HB⟩ := hrel
        cases gk with
        | zero => exact absurd HA.out (by simp [clevisref28_Check.l3])
        | succ k3 =>
         have H := HA.out
         clear HA
         simp only [clevisref28_Check.l3] at H
         by_cases c21 : x7_3 < x6_2
         ·
          rw [if_pos c21] at H
          have c21b0 : decide (x7_3 < x6_2) = true := decide_eq_true c21
          clear c21
          by_cases c22 : 0 ≤ x6_2
          ·
           rw [if_pos c22] at H
           have c22b0 : decide (0 ≤ x6_2) = true := decide_eq_true c22
           clear c22
           by_cases c23 : x6_2 < (l0.length : Int)
           ·
            rw [if_pos c23] at H
            have c23b0 : decide (x6_2 < (l0.length : Int)) = true := decide_eq_true c23
            clear c23
            by_cases c24 : 0 ≤ x7_3
            ·
             rw [if_pos c24] at H
             have c24b0 : decide (0 ≤ x7_3) = true := decide_eq_true c24
             clear c24
             by_cases c25 : x7_3 < (l0.length : Int)
             ·
              rw [if_pos c25] at H
              have c25b0 : decide (x7_3 < (l0.length : Int)) = true := decide_eq_true c25
              clear c25
              by_cases c26 : ((rd_T28 l0 x6_2).f0).toList = ((rd_T28 l0 x7_3).f0).toList
              ·
               rw [if_pos c26] at H
               have c26b0 : (((rd_T28 l0 x6_2).f0).toList == ((rd_T28 l0 x7_3).f0).toList) = true := q1_ c26
               have c26b1 : (((rd_T28 l0 x6_2).f0).toList != ((rd_T28 l0 x7_3).f0).toList) = false := q3_ c26
               clear c26
               obtain rfl := Option.some.inj H
               try go_wp2
               have n0_ := A_ (vd_ HO_304001.out)
               have n1_ := A_ (bd_ BK303.out)
               have n2_ := A_ (b1_ HB.out)
               clear HO_304001
               clear BK303
               clear HB
               have HO_304001 := n0_
               have BK303 := n1_
               have HB := n2_
               clear n0_ n1_ n2_
               have p484 : 0 ≤ (x6_2 : Int) := od_ (by first | (with_reducible assumption) | assumption)
               have q484 : x6_2 < (l0.length : Int) := od_ (by first | (with_reducible assumption) | assumption)
               obtain ⟨ad484, A484_1, c484_1, e484, hx484_0, hx484_1, hl484_1, hi484_1⟩ := at_T28 HR0.out x6_2 p484 q484
               have hw484_1 := hx484_1
               have hw484_0 := hx484_0
               cases e484
               replace hx484_0 := (HB.out.cell (World.block_lt_of_cell? w _ hx484_0)).trans hx484_0
               replace hx484_1 := (HB.out.cell (World.block_lt_of_cell? w _ hx484_1)).trans hx484_1
               have HR484_1 := A_ hi484_1
               have HC484_1 := A_ hl484_1
               clear hi484_1 hl484_1
               replace p484 := eq_true p484
               replace q484 := eq_true q484
               have p485 : 0 ≤ (x7_3 : Int) := od_ (by first | (with_reducible assumption) | assumption)
               have q485 : x7_3 < (l0.length : Int) := od_ (by first | (with_reducible assumption) | assumption)
               obtain ⟨ad485, A485_1, c485_1, e485, hx485_0, hx485_1, hl485_1, hi485_1⟩ := at_T28 HR0.out x7_3 p485 q485
               have hw485_1 := hx485_1
               have hw485_0 := hx485_0
               obtain rfl : ad484 = ad485 := (by injection e485)
               replace hx485_0 := (HB.out.cell (World.block_lt_of_cell? w _ hx485_0)).trans hx485_0
               replace hx485_1 := (HB.out.cell (World.block_lt_of_cell? w _ hx485_1)).trans hx485_1
               have HR485_1 := A_ hi485_1
               have HC485_1 := A_ hl485_1
               clear hi485_1 hl485_1
               replace p485 := eq_true p485
               replace q485 := eq_true q485
               refine start_ (n := 11) (S := fun w' => w'.cell? (ad484.add ((x6_2).toNat * 2)) = some (.string ((rd_T28 l0 x6_2).f0)) ∧ w'.cell? ⟨(ad484.add ((x6_2).toNat * 2)).block, (ad484.add ((x6_2).toNat * 2)).off + 1, none⟩ = some (.slice A484_1 ((rd_T28 l0 x6_2).f1).length c484_1) ∧ w'.cell? (ad484.add ((x7_3).toNat * 2)) = some (.string ((rd_T28 l0 x7_3).f0)) ∧ w'.cell? ⟨(ad484.add ((x7_3).toNat * 2)).block, (ad484.add ((x7_3).toNat * 2)).off + 1, none⟩ = some (.slice A485_1 ((rd_T28 l0 x7_3).f1).length c485_1)) (ds := []) #[false, false, false, false, false, false, false, false, false, false, false] (by kernel_rfl) rfl rfl ⟨((HB.out.cell (World.block_lt_of_cell? w _ hw484_0)).trans hw484_0), ((HB.out.cell (World.block_lt_of_cell? w _ hw484_1)).trans hw484_1), ((HB.out.cell (World.block_lt_of_cell? w _ hw485_0)).trans hw485_0), ((HB.out.cell (World.block_lt_of_cell? w _ hw485_1)).trans hw485_1)⟩ (fun hHeld => ?_); refine with_tabW clevisref28_Check.tab17 clevisref28_Check.bits17 (fun HT_ HW_ => ?_)
               generalize wr.drew = w27 at HO_304001 BK303 HB HR484_1 HR485_1 hx484_0 hx484_1 hx485_0 hx485_1 hHeld ⊢
               refine pure_ (i := 0) (N := some 57) (v := ?_) (a' := ?_) #[true, false, false, false, false, false, false, false, false, false, false] rfl rfl (any_of HT_.out (by kernel_rfl)) (fun _ _ _ h => h) (Or.inl ⟨by rfl, ?_⟩) ?_ ?_
               rotate_left
               ·
                intro w'
                go_simp
                with_reducible rfl
               rotate_left
               ·
                simp only [Act.put, sA_, sZ_, sS_, i64_w, i32_w]
                rfl
               refine pure_ (i := 1) (N := some 58) (v := ?_) (a' := ?_) #[true, true, false, false, false, false, false, false, false, false, false] rfl rfl (any_of HT_.out (by kernel_rfl)) (fun _ _ _ h => h) (Or.inl ⟨by rfl, ?_⟩) ?_ ?_
               rotate_left
               ·
                intro w'
                go_simp
                with_reducible rfl
               rotate_left
               ·
                simp only [Act.put, sA_, sZ_, sS_, i64_w, i32_w]
                rfl
               refine pure_ (i := 2) (N := some 59) (v := ?_) (a' := ?_) #[true, true, true, false, false, false, false, false, false, false, false] rfl rfl (any_of HT_.out (by kernel_rfl)) (fun _ _ _ h => h) (Or.inl ⟨by rfl, ?_⟩) ?_ ?_
               rotate_left
               ·
                intro w'
                go_simp
                with_reducible rfl
               rotate_left
               ·
                simp only [Act.put, sA_, sZ_, sS_, i64_w, i32_w]
                rfl
               refine pure_ (i := 3) (N := some 60) (v := ?_) (a' := ?_) #[true, true, true, true, false, false, false, false, false, false, false] rfl rfl (any_of HT_.out (by kernel_rfl)) (fun _ _ _ h => h) (Or.inl ⟨by rfl, ?_⟩) ?_ ?_
               rotate_left
               ·
                intro w'
                go_simp
                with_reducible rfl
               rotate_left
               ·
                simp only [Act.put, sA_, sZ_, sS_, i64_w, i32_w]
                rfl
               refine pure_ (i := 5) (N := some 62) (v := ?_) (a' := ?_) #[true, true, true, true, false, true, false, false, false, false, false] rfl rfl (any_of HT_.out (by kernel_rfl)) (fun _ _ _ h => h) (Or.inl ⟨by rfl, ?_⟩) ?_ ?_
               rotate_left
               ·
                intro w'
                go_simp
                with_reducible rfl
               rotate_left
               ·
                simp only [Act.put, sA_, sZ_, sS_, i64_w, i32_w]
                rfl
               refine pure_ (i := 6) (N := some 63) (v := ?_) (a' := ?_) #[true, true, true, true, false, true, true, false, false, false, false] rfl rfl (any_of HT_.out (by kernel_rfl)) (fun _ _ _ h => h) (Or.inl ⟨by rfl, ?_⟩) ?_ ?_
               rotate_left
               ·
                intro w'
                go_simp
                with_reducible rfl
               rotate_left
               ·
                simp only [Act.put, sA_, sZ_, sS_, i64_w, i32_w]
                rfl
               refine pure_ (i := 7) (N := some 64) (v := ?_) (a' := ?_) #[true, true, true, true, false, true, true, true, false, false, false] rfl rfl (any_of HT_.out (by kernel_rfl)) (fun _ _ _ h => h) (Or.inl ⟨by rfl, ?_⟩) ?_ ?_
               rotate_left
               ·
                intro w'
                go_simp
                with_reducible rfl
               rotate_left
               ·
                simp only [Act.put, sA_, sZ_, sS_, i64_w, i32_w]
                rfl
               refine pure_ (i := 8) (N := some 65) (v := ?_) (a' := ?_) #[true, true, true, true, false, true, true, true, true, false, false] rfl rfl (any_of HT_.out (by kernel_rfl)) (fun _ _ _ h => h) (Or.inl ⟨by rfl, ?_⟩) ?_ ?_
               rotate_left
               ·
                intro w'
                go_simp
                with_reducible rfl
               rotate_left
               ·
                simp only [Act.put, sA_, sZ_, sS_, i64_w, i32_w]
                rfl
               refine take_ (i := 4) (N := some 61) (v := ?_) (a' := ?_) #[true, true, true, true, true, true, true, true, true, false, false] rfl rfl (take_ofW HT_.out HW_.out (by kernel_rfl)) (fun _ _ _ h => h) (Or.inl ⟨by rfl, ?_⟩) hHeld ?_ ?_
               rotate_left
               ·
                rintro w' ⟨s0, s1, s2, s3⟩
                go_simp
                with_reducible rfl
               rotate_left
               ·
                simp only [Act.put, sA_, sZ_, sS_, i64_w, i32_w]
                rfl
               refine take_ (i := 9) (N := some 66) (v := ?_) (a' := ?_) #[true, true, true, true, true, true, true, true, true, true, false] rfl rfl (take_ofW HT_.out HW_.out (by kernel_rfl)) (fun _ _ _ h => h) (Or.inl ⟨by rfl, ?_⟩) hHeld ?_ ?_
               rotate_left
               ·
                rintro w' ⟨s0, s1, s2, s3⟩
                go_simp
                with_reducible rfl
               rotate_left
               ·
                simp only [Act.put, sA_, sZ_, sS_, i64_w, i32_w]
                rfl
               refine pure_ (i := 10) (N := some 67) (v := ?_) (a' := ?_) #[true, true, true, true, true, true, true, true, true, true, true] rfl rfl (any_of HT_.out (by kernel_rfl)) (fun _ _ _ h => h) (Or.inl ⟨by rfl, ?_⟩) ?_ ?_
               rotate_left
               ·
                intro w'
                go_simp
                with_reducible rfl
               rotate_left
               ·
                simp only [Act.put, sA_, sZ_, sS_, i64_w, i32_w]
                rfl
               refine done_ (done_of HT_.out (by kernel_rfl)) ?_
               try go_wp2
               go_ret
               exact ⟨by first | rfl | (simp [errW_none, errW_some] <;> rfl) | (simp [*, errW_none, errW_some] <;> rfl), bw_⟩
              ·
               rw [if_neg c26] at H
               have c26b0 : (((rd_T28 l0 x6_2).f0).toList == ((rd_T28 l0 x7_3).f0).toList) = false := q4_ c26
               have c26b1 : (((rd_T28 l0 x6_2).f0).toList != ((rd_T28 l0 x7_3).f0).toList) = true := q2_ c26
               have H' := A_ H
               clear H
               try go_wp2
               have n0_ := A_ (vd_ HO_304001.out)
               have n1_ := A_ (bd_ BK303.out)
               have n2_ := A_ (b1_ HB.out)
               clear HO_304001
               clear BK303
               clear HB
               have HO_304001 := n0_
               have BK303 := n1_
               have HB := n2_
               clear n0_ n1_ n2_
               have p484 : 0 ≤ (x6_2 : Int) := od_ (by first | (with_reducible assumption) | assumption)
               have q484 : x6_2 < (l0.length : Int) := od_ (by first | (with_reducible assumption) | assumption)
               obtain ⟨ad484, A484_1, c484_1, e484, hx484_0, hx484_1, hl484_1, hi484_1⟩ := at_T28 HR0.out x6_2 p484 q484
               have hw484_1 := hx484_1
               have hw484_0 := hx484_0
               cases e484
               replace hx484_0 := (HB.out.cell (World.block_lt_of_cell? w _ hx484_0)).trans hx484_0
               replace hx484_1 := (HB.out.cell (World.block_lt_of_cell? w _ hx484_1)).trans hx484_1
               have HR484_1 := A_ hi484_1
               have HC484_1 := A_ hl484_1
               clear hi484_1 hl484_1
               replace p484 := eq_true p484
               replace q484 := eq_true q484
               have p485 : 0 ≤ (x7_3 : Int) := od_ (by first | (with_reducible assumption) | assumption)
               have q485 : x7_3 < (l0.length : Int) := od_ (by first | (with_reducible assumption) | assumption)
               obtain ⟨ad485, A485_1, c485_1, e485, hx485_0, hx485_1, hl485_1, hi485_1⟩ := at_T28 HR0.out x7_3 p485 q485
               have hw485_1 := hx485_1
               have hw485_0 := hx485_0
               obtain rfl : ad484 = ad485 := (by injection e485)
               replace hx485_0 := (HB.out.cell (World.block_lt_of_cell? w _ hx485_0)).trans hx485_0
               replace hx485_1 := (HB.out.cell (World.block_lt_of_cell? w _ hx485_1)).trans hx485_1
               have HR485_1 := A_ hi485_1
               have HC485_1 := A_ hl485_1
               clear hi485_1 hl485_1
               replace p485 := eq_true p485
               replace q485 := eq_true q485
               refine start_ (n := 11) (S := fun w' => w'.cell? (ad484.add ((x6_2).toNat * 2)) = some (.string ((rd_T28 l0 x6_2).f0)) ∧ w'.cell? ⟨(ad484.add ((x6_2).toNat * 2)).block, (ad484.add ((x6_2).toNat * 2)).off + 1, none⟩ = some (.slice A484_1 ((rd_T28 l0 x6_2).f1).length c484_1) ∧ w'.cell? (ad484.add ((x7_3).toNat * 2)) = some (.string ((rd_T28 l0 x7_3).f0)) ∧ w'.cell? ⟨(ad484.add ((x7_3).toNat * 2)).block, (ad484.add ((x7_3).toNat * 2)).off + 1, none⟩ = some (.slice A485_1 ((rd_T28 l0 x7_3).f1).length c485_1)) (ds := []) #[false, false, false, false, false, false, false, false, false, false, false] (by kernel_rfl) rfl rfl ⟨((HB.out.cell (World.block_lt_of_cell? w _ hw484_0)).trans hw484_0), ((HB.out.cell (World.block_lt_of_cell? w _ hw484_1)).trans hw484_1), ((HB.out.cell (World.block_lt_of_cell? w _ hw485_0)).trans hw485_0), ((HB.out.cell (World.block_lt_of_cell? w _ hw485_1)).trans hw485_1)⟩ (fun hHeld => ?_); refine with_tabW clevisref28_Check.tab17 clevisref28_Check.bits17 (fun HT_ HW_ => ?_)
               generalize wr.drew = w28 at HO_304001 BK303 HB HR484_1 HR485_1 hx484_0 hx484_1 hx485_0 hx485_1 hHeld ⊢
               refine pure_ (i := 0) (N := some 57) (v := ?_) (a' := ?_) #[true, false, false, false, false, false, false, false, false, false, false] rfl rfl (any_of HT_.out (by kernel_rfl)) (fun _ _ _ h => h) (Or.inl ⟨by rfl, ?_⟩) ?_ ?_
               rotate_left
               ·
                intro w'
                go_simp
                with_reducible rfl
               rotate_left
               ·
                simp only [Act.put, sA_, sZ_, sS_, i64_w, i32_w]
                rfl
               refine pure_ (i := 1) (N := some 58) (v := ?_) (a' := ?_) #[true, true, false, false, false, false, false, false, false, false, false] rfl rfl (any_of HT_.out (by kernel_rfl)) (fun _ _ _ h => h) (Or.inl ⟨by rfl, ?_⟩) ?_ ?_
               rotate_left
               ·
                intro w'
                go_simp
                with_reducible rfl
               rotate_left
               ·
                simp only [Act.put, sA_, sZ_, sS_, i64_w, i32_w]
                rfl
               refine pure_ (i := 2) (N := some 59) (v := ?_) (a' := ?_) #[true, true, true, false, false, false, false, false, false, false, false] rfl rfl (any_of HT_.out (by kernel_rfl)) (fun _ _ _ h => h) (Or.inl ⟨by rfl, ?_⟩) ?_ ?_
               rotate_left
               ·
                intro w'
                go_simp
                with_reducible rfl
               rotate_left
               ·
                simp only [Act.put, sA_, sZ_, sS_, i64_w, i32_w]
                rfl
               refine pure_ (i := 3) (N := some 60) (v := ?_) (a' := ?_) #[true, true, true, true, false, false, false, false, false, false, false] rfl rfl (any_of HT_.out (by kernel_rfl)) (fun _ _ _ h => h) (Or.inl ⟨by rfl, ?_⟩) ?_ ?_
               rotate_left
               ·
                intro w'
                go_simp
                with_reducible rfl
               rotate_left
               ·
                simp only [Act.put, sA_, sZ_, sS_, i64_w, i32_w]
                rfl
               refine pure_ (i := 5) (N := some 62) (v := ?_) (a' := ?_) #[true, true, true, true, false, true, false, false, false, false, false] rfl rfl (any_of HT_.out (by kernel_rfl)) (fun _ _ _ h => h) (Or.inl ⟨by rfl, ?_⟩) ?_ ?_
               rotate_left
               ·
                intro w'
                go_simp
                with_reducible rfl
               rotate_left
               ·
                simp only [Act.put, sA_, sZ_, sS_, i64_w, i32_w]
                rfl
               refine pure_ (i := 6) (N := some 63) (v := ?_) (a' := ?_) #[true, true, true, true, false, true, true, false, false, false, false] rfl rfl (any_of HT_.out (by kernel_rfl)) (fun _ _ _ h => h) (Or.inl ⟨by rfl, ?_⟩) ?_ ?_
               rotate_left
               ·
                intro w'
                go_simp
                with_reducible rfl
               rotate_left
               ·
                simp only [Act.put, sA_, sZ_, sS_, i64_w, i32_w]
                rfl
               refine pure_ (i := 7) (N := some 64) (v := ?_) (a' := ?_) #[true, true, true, true, false, true, true, true, false, false, false] rfl rfl (any_of HT_.out (by kernel_rfl)) (fun _ _ _ h => h) (Or.inl ⟨by rfl, ?_⟩) ?_ ?_
               rotate_left
               ·
                intro w'
                go_simp
                with_reducible rfl
               rotate_left
               ·
                simp only [Act.put, sA_, sZ_, sS_, i64_w, i32_w]
                rfl
               refine pure_ (i := 8) (N := some 65) (v := ?_) (a' := ?_) #[true, true, true, true, false, true, true, true, true, false, false] rfl rfl (any_of HT_.out (by kernel_rfl)) (fun _ _ _ h => h) (Or.inl ⟨by rfl, ?_⟩) ?_ ?_
               rotate_left
               ·
                intro w'
                go_simp
                with_reducible rfl
               rotate_left
               ·
                simp only [Act.put, sA_, sZ_, sS_, i64_w, i32_w]
                rfl
               refine take_ (i := 4) (N := some 61) (v := ?_) (a' := ?_) #[true, true, true, true, true, true, true, true, true, false, false] rfl rfl (take_ofW HT_.out HW_.out (by kernel_rfl)) (fun _ _ _ h => h) (Or.inl ⟨by rfl, ?_⟩) hHeld ?_ ?_
               rotate_left
               ·
                rintro w' ⟨s0, s1, s2, s3⟩
                go_simp
                with_reducible rfl
               rotate_left
               ·
                simp only [Act.put, sA_, sZ_, sS_, i64_w, i32_w]
                rfl
               refine take_ (i := 9) (N := some 66) (v := ?_) (a' := ?_) #[true, true, true, true, true, true, true, true, true, true, false] rfl rfl (take_ofW HT_.out HW_.out (by kernel_rfl)) (fun _ _ _ h => h) (Or.inl ⟨by rfl, ?_⟩) hHeld ?_ ?_
               rotate_left
               ·
                rintro w' ⟨s0, s1, s2, s3⟩
                go_simp
                with_reducible rfl
               rotate_left
               ·
                simp only [Act.put, sA_, sZ_, sS_, i64_w, i32_w]
                rfl
               refine pure_ (i := 10) (N := some 67) (v := ?_) (a' := ?_) #[true, true, true, true, true, true, true, true, true, true, true] rfl rfl (any_of HT_.out (by kernel_rfl)) (fun _ _ _ h => h) (Or.inl ⟨by rfl, ?_⟩) ?_ ?_
               rotate_left
               ·
                intro w'
                go_simp
                with_reducible rfl
               rotate_left
               ·
                simp only [Act.put, sA_, sZ_, sS_, i64_w, i32_w]
                rfl
               refine done_ (done_of HT_.out (by kernel_rfl)) ?_
               try go_wp2
               go_roundg k3
               case measure => have := HK1.out; have := HK2.out; have := HK3.out; omega
               case rel => exact ⟨(wrap64 (x7_3 + 1)), (by first | rfl | (simp; done) | (simp [*]; done)), H', ⟨by have := HK1.out; have := HK2.out; have := HK3.out; omega⟩, ⟨by (with_reducible repeat (first | apply va_ | apply vn_ | apply vd_)); exact HO_304001.out⟩, ⟨bk_⟩, ⟨bw_⟩⟩
             ·
              rw [if_neg c25] at H
              exact absurd H (by simp)
            ·
             rw [if_neg c24] at H
             exact absurd H (by simp)
           ·
            rw [if_neg c23] at H
            exact absurd H (by simp)
          ·
           rw [if_neg c22] at H
           exact absurd H (by simp)
         ·
          rw [if_neg c21] at H
          have c21b0 : decide (x7_3 < x6_2) = false := decide_eq_false c21
          clear c21
          have H' := A_ H
          clear H
          go_wp2
          (try simp only [Act.put, sA_, sZ_, sS_])
          go_loopg [8] k3 (fun kq v8 w' => ∃ (x8_4 : Int), v8 = .int .i64 x8_4 ∧ Aside0 (clevisref28_Check.l4 kq l0 x6_2 x8_4 x304000_1 x304001_1 = some r) ∧ Aside0 (kq ≤ k3) ∧ Aside0 (Kd.V (Kd.int .i64) 3 w' w.heap.size (fun k_ => k_ ≠ gb303) u304001 x304001_1) ∧ Aside0 (w'.heap[gb303]? = some (.cells #[.bool x304000_1, u304001] 38 (0, 0))) ∧ Aside0 (Below w.heap.size w w'))
          case atStart => exact ⟨(0), (by first | rfl | (simp; done) | (simp [*]; done)), H', ⟨Nat.le_refl _⟩, ⟨by (with_reducible repeat (first | apply va_ | apply vn_ | apply vd_)); exact HO_304001.out⟩, ⟨bk_⟩, ⟨bw_⟩⟩
          case round =>
           clear H'
           try clear c1
           try clear c2
           try clear p2
           try clear c4
           try clear c4b0
           try clear p4
           try clear q4
           try clear hx4
           try clear c5
           try clear c5b0
           try clear c6
           try clear c6b0
           try clear p6
           try clear c7
           try clear c7b0
           try clear c8
           try clear c8b0
           try clear c9
           try clear c9b0
           try clear c11
           try clear c18
           try clear c20
           try clear c20b0
           try clear c21
           try clear c21b0
           try clear c22
           try clear c22b0
           try clear c23
           try clear c23b0
           try clear c24
           try clear c24b0
           try clear c25
           try clear c25b0
           try clear c26
           try clear c26b0
           try clear c26b1
           try clear hcz3_0
           try clear hcz3_1
           try clear hfz3_0
           try clear hfz3_1
           try clear hx472_0
           try clear hx472_1
           try clear hx473_0
           try clear hx473_1
           try clear hx474_0
           try clear hx474_1
           try clear hx475_0
           try clear hx475_1
           try clear hx484_0
           try clear hx484_1
           try clear hx485_0
           try clear hx485_1
           try clear p2
           try clear p4
           try clear p472
           try clear p473
           try clear p474
           try clear p475
           try clear p484
           try clear p485
           try clear p6
           try clear q4
           try clear q472
           try clear q473
           try clear q474
           try clear q475
           try clear q484
           try clear q485
           obtain ⟨x8_4, rfl, HA, HK4, HO_304001, BK303, HB⟩ := hrel
           cases gk with
           | zero => exact absurd HA.out (by simp [clevisref28_Check.l4])
           | succ k4 =>
            have H := HA.out
            clear HA
            simp only [clevisref28_Check.l4] at H
            by_cases c29 : 0 ≤ x6_2
            ·
             rw [if_pos c29] at H
             have c29b0 : decide (0 ≤ x6_2) = true := decide_eq_true c29
             clear c29
             by_cases c30 : x6_2 < (l0.length : Int)
             ·
              rw [if_pos c30] at H
              have c30b0 : decide (x6_2 < (l0.length : Int)) = true := decide_eq_true c30
              clear c30
              by_cases c31 : x8_4 < (((rd_T28 l0 x6_2).f1).length : Int)
              ·
               rw [if_pos c31] at H
               have c31b0 : decide (x8_4 < (((rd_T28 l0 x6_2).f1).length : Int)) = true := decide_eq_true c31
               clear c31
               have H' := A_ H
               clear H
               have p486 : 0 ≤ (x6_2 : Int) := od_ (by first | (with_reducible assumption) | assumption)
               have q486 : x6_2 < (l0.length : Int) := od_ (by first | (with_reducible assumption) | assumption)
               obtain ⟨ad486, A486_1, c486_1, e486, hx486_0, hx486_1, hl486_1, hi486_1⟩ := at_T28 HR0.out x6_2 p486 q486
               cases e486
               replace hx486_0 := (HB.out.cell (World.block_lt_of_cell? w _ hx486_0)).trans hx486_0
               replace hx486_1 := (HB.out.cell (World.block_lt_of_cell? w _ hx486_1)).trans hx486_1
               have HR486_1 := A_ hi486_1
               have HC486_1 := A_ hl486_1
               clear hi486_1 hl486_1
               replace p486 := eq_true p486
               replace q486 := eq_true q486
               go_wp2
               (try simp only [Act.put, sA_, sZ_, sS_])
               go_loopg [9] k4 (fun kq v9 w' => ∃ (x9_5 : Int), v9 = .int .i64 x9_5 ∧ Aside0 (clevisref28_Check.l5 kq l0 x6_2 x8_4 x9_5 x304000_1 x304001_1 = some r) ∧ Aside0 (kq ≤ k4) ∧ Aside0 (Kd.V (Kd.int .i64) 3 w' w.heap.size (fun k_ => k_ ≠ gb303) u304001 x304001_1) ∧ Aside0 (w'.heap[gb303]? = some (.cells #[.bool x304000_1, u304001] 38 (0, 0))) ∧ Aside0 (Below w.heap.size w w'))
               case atStart => exact ⟨(0), (by first | rfl | (simp; done) | (simp [*]; done)), H', ⟨Nat.le_refl _⟩, ⟨by (with_reducible repeat (first | apply va_ | apply vn_ | apply vd_)); exact HO_304001.out⟩, ⟨bk_⟩, ⟨bw_⟩⟩
               case round =>
                clear H'
                try clear c1
                try clear c2
                try clear p2
                try clear c3
                try clear c4
                try clear c4b0
                try clear p4
                try clear q4
                try clear hx4
                try clear c5
                try clear c5b0
                try clear c6
                try clear c6b0
                try clear p6
                try clear c7
                try clear c7b0
                try clear c8
                try clear c8b0
                try clear c9
                try clear c9b0
                try clear c11
                try clear c18
                try clear c20
                try clear c20b0
                try clear c21
                try clear c21b0
                try clear c22
                try clear c22b0
                try clear c23
                try clear c23b0
                try clear c24
                try clear c24b0
                try clear c25
                try clear c25b0
                try clear c26
                try clear c26b0
                try clear c26b1
                try clear c29
                try clear c29b0
                try clear c30
                try clear c30b0
                try clear c31
                try clear c31b0
                try clear hcz3_0
                try clear hcz3_1
                try clear hfz3_0
                try clear hfz3_1
                try clear hx472_0
                try clear hx472_1
                try clear hx473_0
                try clear hx473_1
                try clear hx474_0
                try clear hx474_1
                try clear hx475_0
                try clear hx475_1
                try clear hx484_0
                try clear hx484_1
                try clear hx485_0
                try clear hx485_1
                try clear hx486_0
                try clear hx486_1
                try clear p2
                try clear p4
                try clear p472
                try clear p473
                try clear p474
                try clear p475
                try clear p484
                try clear p485
                try clear p486
                try clear p6
                try clear q4
                try clear q472
                try clear q473
                try clear q474
                try clear q475
                try clear q484
                try clear q485
                try clear q486
                obtain ⟨x9_5, rfl, HA, HK5, HO_304001, BK303, HB⟩ := hrel
                cases gk with
                | zero => exact absurd HA.out (by simp [clevisref28_Check.l5])
                | succ k5 =>
                 have H := HA.out
                 clear HA
                 simp only [clevisref28_Check.l5] at H
                 by_cases c32 : x9_5 < x8_4
                 ·
                  rw [if_pos c32] at H
                  have c32b0 : decide (x9_5 < x8_4) = true := decide_eq_true c32
                  clear c32
                  by_cases c33 : 0 ≤ x6_2
                  ·
                   rw [if_pos c33] at H
                   have c33b0 : decide (0 ≤ x6_2) = true := decide_eq_true c33
                   clear c33
                   by_cases c34 : x6_2 < (l0.length : Int)
                   ·
                    rw [if_pos c34] at H
                    have c34b0 : decide (x6_2 < (l0.length : Int)) = true := decide_eq_true c34
                    clear c34
                    by_cases c35 : 0 ≤ x8_4
                    ·
                     rw [if_pos c35] at H
                     have c35b0 : decide (0 ≤ x8_4) = true := decide_eq_true c35
                     clear c35
                     by_cases c36 : x8_4 < (((rd_T28 l0 x6_2).f1).length : Int)
                     ·
                      rw [if_pos c36] at H
                      have c36b0 : decide (x8_4 < (((rd_T28 l0 x6_2).f1).length : Int)) = true := decide_eq_true c36
                      clear c36
                      by_cases c37 : 0 ≤ x9_5
                      ·
                       rw [if_pos c37] at H
                       have c37b0 : decide (0 ≤ x9_5) = true := decide_eq_true c37
                       clear c37
                       by_cases c38 : x9_5 < (((rd_T28 l0 x6_2).f1).length : Int)
                       ·
                        rw [if_pos c38] at H
                        have c38b0 : decide (x9_5 < (((rd_T28 l0 x6_2).f1).length : Int)) = true := decide_eq_true c38
                        clear c38
                        by_cases c39 : ((rd_T41 ((rd_T28 l0 x6_2).f1) x8_4).f0).toList = ((rd_T41 ((rd_T28 l0 x6_2).f1) x9_5).f0).toList
                        ·
                         rw [if_pos c39] at H
                         have c39b0 : (((rd_T41 ((rd_T28 l0 x6_2).f1) x8_4).f0).toList == ((rd_T41 ((rd_T28 l0 x6_2).f1) x9_5).f0).toList) = true := q1_ c39
                         have c39b1 : (((rd_T41 ((rd_T28 l0 x6_2).f1) x8_4).f0).toList != ((rd_T41 ((rd_T28 l0 x6_2).f1) x9_5).f0).toList) = false := q3_ c39
                         clear c39
                         obtain rfl := Option.some.inj H
                         try go_wp2
                         have n0_ := A_ (vd_ HO_304001.out)
                         have n1_ := A_ (bd_ BK303.out)
                         have n2_ := A_ (b1_ HB.out)
                         clear HO_304001
                         clear BK303
                         clear HB
                         have HO_304001 := n0_
                         have BK303 := n1_
                         have HB := n2_
                         clear n0_ n1_ n2_
                         have p487 : 0 ≤ (x6_2 : Int) := od_ (by first | (with_reducible assumption) | assumption)
                         have q487 : x6_2 < (l0.length : Int) := od_ (by first | (with_reducible assumption) | assumption)
                         obtain ⟨ad487, A487_1, c487_1, e487, hx487_0, hx487_1, hl487_1, hi487_1⟩ := at_T28 HR0.out x6_2 p487 q487
                         have hw487_1 := hx487_1
                         have hw487_0 := hx487_0
                         obtain rfl : ad486 = ad487 := (by injection e487)
                         replace hx487_0 := (HB.out.cell (World.block_lt_of_cell? w _ hx487_0)).trans hx487_0
                         replace hx487_1 := (HB.out.cell (World.block_lt_of_cell? w _ hx487_1)).trans hx487_1
                         have HR487_1 := A_ hi487_1
                         have HC487_1 := A_ hl487_1
                         clear hi487_1 hl487_1
                         replace p487 := eq_true p487
                         replace q487 := eq_true q487
                         have p488 : 0 ≤ (x8_4 : Int) := od_ (by first | (with_reducible assumption) | assumption)
                         have q488 : x8_4 < (((rd_T28 l0 x6_2).f1).length : Int) := od_ (by first | (with_reducible assumption) | assumption)
                         obtain ⟨ad488, e488, hx488_0, hx488_1⟩ := at_T41 HR487_1.out x8_4 p488 q488
                         have hw488_1 := hx488_1
                         have hw488_0 := hx488_0
                         cases e488
                         replace hx488_0 := (HB.out.cell (World.block_lt_of_cell? w _ hx488_0)).trans hx488_0
                         replace hx488_1 := (HB.out.cell (World.block_lt_of_cell? w _ hx488_1)).trans hx488_1
                         replace p488 := eq_true p488
                         replace q488 := eq_true q488
                         have p489 : 0 ≤ (x6_2 : Int) := od_ (by first | (with_reducible assumption) | assumption)
                         have q489 : x6_2 < (l0.length : Int) := od_ (by first | (with_reducible assumption) | assumption)
                         obtain ⟨ad489, A489_1, c489_1, e489, hx489_0, hx489_1, hl489_1, hi489_1⟩ := at_T28 HR0.out x6_2 p489 q489
                         have hw489_1 := hx489_1
                         have hw489_0 := hx489_0
                         obtain rfl : ad486 = ad489 := (by injection e489)
                         replace hx489_0 := (HB.out.cell (World.block_lt_of_cell? w _ hx489_0)).trans hx489_0
                         replace hx489_1 := (HB.out.cell (World.block_lt_of_cell? w _ hx489_1)).trans hx489_1
                         have HR489_1 := A_ hi489_1
                         have HC489_1 := A_ hl489_1
                         clear hi489_1 hl489_1
                         replace p489 := eq_true p489
                         replace q489 := eq_true q489
                         have ea_ := Option.some.inj (hx487_1.symm.trans hx489_1)
                         injection ea_ with ea_ en_ ec_
                         subst ea_
                         subst ec_
                         clear en_
                         have p490 : 0 ≤ (x9_5 : Int) := od_ (by first | (with_reducible assumption) | assumption)
                         have q490 : x9_5 < (((rd_T28 l0 x6_2).f1).length : Int) := od_ (by first | (with_reducible assumption) | assumption)
                         obtain ⟨ad490, e490, hx490_0, hx490_1⟩ := at_T41 HR489_1.out x9_5 p490 q490
                         have hw490_1 := hx490_1
                         have hw490_0 := hx490_0
                         cases e490
                         replace hx490_0 := (HB.out.cell (World.block_lt_of_cell? w _ hx490_0)).trans hx490_0
                         replace hx490_1 := (HB.out.cell (World.block_lt_of_cell? w _ hx490_1)).trans hx490_1
                         replace p490 := eq_true p490
                         replace q490 := eq_true q490
                         refine start_ (n := 19) (S := fun w' => w'.cell? (ad486.add ((x6_2).toNat * 2)) = some (.string ((rd_T28 l0 x6_2).f0)) ∧ w'.cell? ⟨(ad486.add ((x6_2).toNat * 2)).block, (ad486.add ((x6_2).toNat * 2)).off + 1, none⟩ = some (.slice (some ad488) ((rd_T28 l0 x6_2).f1).length c487_1) ∧ w'.cell? (ad488.add ((x8_4).toNat * 2)) = some (.string ((rd_T41 ((rd_T28 l0 x6_2).f1) x8_4).f0)) ∧ w'.cell? ⟨(ad488.add ((x8_4).toNat * 2)).block, (ad488.add ((x8_4).toNat * 2)).off + 1, none⟩ = some (.int .i64 ((rd_T41 ((rd_T28 l0 x6_2).f1) x8_4).f1)) ∧ w'.cell? (ad486.add ((x6_2).toNat * 2)) = some (.string ((rd_T28 l0 x6_2).f0)) ∧ w'.cell? ⟨(ad486.add ((x6_2).toNat * 2)).block, (ad486.add ((x6_2).toNat * 2)).off + 1, none⟩ = some (.slice (some ad488) ((rd_T28 l0 x6_2).f1).length c487_1) ∧ w'.cell? (ad488.add ((x9_5).toNat * 2)) = some (.string ((rd_T41 ((rd_T28 l0 x6_2).f1) x9_5).f0)) ∧ w'.cell? ⟨(ad488.add ((x9_5).toNat * 2)).block, (ad488.add ((x9_5).toNat * 2)).off + 1, none⟩ = some (.int .i64 ((rd_T41 ((rd_T28 l0 x6_2).f1) x9_5).f1))) (ds := []) #[false, false, false, false, false, false, false, false, false, false, false, false, false, false, false, false, false, false, false] (by kernel_rfl) rfl rfl ⟨((HB.out.cell (World.block_lt_of_cell? w _ hw487_0)).trans hw487_0), ((HB.out.cell (World.block_lt_of_cell? w _ hw487_1)).trans hw487_1), ((HB.out.cell (World.block_lt_of_cell? w _ hw488_0)).trans hw488_0), ((HB.out.cell (World.block_lt_of_cell? w _ hw488_1)).trans hw488_1), ((HB.out.cell (World.block_lt_of_cell? w _ hw489_0)).trans hw489_0), ((HB.out.cell (World.block_lt_of_cell? w _ hw489_1)).trans hw489_1), ((HB.out.cell (World.block_lt_of_cell? w _ hw490_0)).trans hw490_0), ((HB.out.cell (World.block_lt_of_cell? w _ hw490_1)).trans hw490_1)⟩ (fun hHeld => ?_); refine with_tabW clevisref28_Check.tab25 clevisref28_Check.bits25 (fun HT_ HW_ => ?_)
                         generalize wr.drew = w40 at HO_304001 BK303 HB HR487_1 HR489_1 hx487_0 hx487_1 hx488_0 hx488_1 hx489_0 hx489_1 hx490_0 hx490_1 hHeld ⊢
                         refine pure_ (i := 0) (N := some 83) (v := ?_) (a' := ?_) #[true, false, false, false, false, false, false, false, false, false, false, false, false, false, false, false, false, false, false] rfl rfl (any_of HT_.out (by kernel_rfl)) (fun _ _ _ h => h) (Or.inl ⟨by rfl, ?_⟩) ?_ ?_
                         rotate_left
                         ·
                          intro w'
                          go_simp
                          with_reducible rfl
                         rotate_left
                         ·
                          simp only [Act.put, sA_, sZ_, sS_, i64_w, i32_w]
                          rfl
                         refine pure_ (i := 1) (N := some 84) (v := ?_) (a' := ?_) #[true, true, false, false, false, false, false, false, false, false, false, false, false, false, false, false, false, false, false] rfl rfl (any_of HT_.out (by kernel_rfl)) (fun _ _ _ h => h) (Or.inl ⟨by rfl, ?_⟩) ?_ ?_
                         rotate_left
                         ·
                          intro w'
                          go_simp
                          with_reducible rfl
                         rotate_left
                         ·
                          simp only [Act.put, sA_, sZ_, sS_, i64_w, i32_w]
                          rfl
                         refine pure_ (i := 2) (N := some 85) (v := ?_) (a' := ?_) #[true, true, true, false, false, false, false, false, false, false, false, false, false, false, false, false, false, false, false] rfl rfl (any_of HT_.out (by kernel_rfl)) (fun _ _ _ h => h) (Or.inl ⟨by rfl, ?_⟩) ?_ ?_
                         rotate_left
                         ·
                          intro w'
                          go_simp
                          with_reducible rfl
                         rotate_left
                         ·
                          simp only [Act.put, sA_, sZ_, sS_, i64_w, i32_w]
                          rfl
                         refine pure_ (i := 3) (N := some 86) (v := ?_) (a' := ?_) #[true, true, true, true, false, false, false, false, false, false, false, false, false, false, false, false, false, false, false] rfl rfl (any_of HT_.out (by kernel_rfl)) (fun _ _ _ h => h) (Or.inl ⟨by rfl, ?_⟩) ?_ ?_
                         rotate_left
                         ·
                          intro w'
                          go_simp
                          with_reducible rfl
                         rotate_left
                         ·
                          simp only [Act.put, sA_, sZ_, sS_, i64_w, i32_w]
                          rfl
                         refine pure_ (i := 5) (N := some 88) (v := ?_) (a' := ?_) #[true, true, true, true, false, true, false, false, false, false, false, false, false, false, false, false, false, false, false] rfl rfl (any_of HT_.out (by kernel_rfl)) (fun _ _ _ h => h) (Or.inl ⟨by rfl, ?_⟩) ?_ ?_
                         rotate_left
                         ·
                          intro w'
                          go_simp
                          with_reducible rfl
                         rotate_left
                         ·
                          simp only [Act.put, sA_, sZ_, sS_, i64_w, i32_w]
                          rfl
                         refine pure_ (i := 9) (N := some 92) (v := ?_) (a' := ?_) #[true, true, true, true, false, true, false, false, false, true, false, false, false, false, false, false, false, false, false] rfl rfl (any_of HT_.out (by kernel_rfl)) (fun _ _ _ h => h) (Or.inl ⟨by rfl, ?_⟩) ?_ ?_
                         rotate_left
                         ·
                          intro w'
                          go_simp
                          with_reducible rfl
                         rotate_left
                         ·
                          simp only [Act.put, sA_, sZ_, sS_, i64_w, i32_w]
                          rfl
                         refine pure_ (i := 10) (N := some 93) (v := ?_) (a' := ?_) #[true, true, true, true, false, true, false, false, false, true, true, false, false, false, false, false, false, false, false] rfl rfl (any_of HT_.out (by kernel_rfl)) (fun _ _ _ h => h) (Or.inl ⟨by rfl, ?_⟩) ?_ ?_
                         rotate_left
                         ·
                          intro w'
                          go_simp
                          with_reducible rfl
                         rotate_left
                         ·
                          simp only [Act.put, sA_, sZ_, sS_, i64_w, i32_w]
                          rfl
                         refine pure_ (i := 11) (N := some 94) (v := ?_) (a' := ?_) #[true, true, true, true, false, true, false, false, false, true, true, true, false, false, false, false, false, false, false] rfl rfl (any_of HT_.out (by kernel_rfl)) (fun _ _ _ h => h) (Or.inl ⟨by rfl, ?_⟩) ?_ ?_
                         rotate_left
                         ·
                          intro w'
                          go_simp
                          with_reducible rfl
                         rotate_left
                         ·
                          simp only [Act.put, sA_, sZ_, sS_, i64_w, i32_w]
                          rfl
                         refine pure_ (i := 12) (N := some 95) (v := ?_) (a' := ?_) #[true, true, true, true, false, true, false, false, false, true, true, true, true, false, false, false, false, false, false] rfl rfl (any_of HT_.out (by kernel_rfl)) (fun _ _ _ h => h) (Or.inl ⟨by rfl, ?_⟩) ?_ ?_
                         rotate_left
                         ·
                          intro w'
                          go_simp
                          with_reducible rfl
                         rotate_left
                         ·
                          simp only [Act.put, sA_, sZ_, sS_, i64_w, i32_w]
                          rfl
                         refine pure_ (i := 14) (N := some 97) (v := ?_) (a' := ?_) #[true, true, true, true, false, true, false, false, false, true, true, true, true, false, true, false, false, false, false] rfl rfl (any_of HT_.out (by kernel_rfl)) (fun _ _ _ h => h) (Or.inl ⟨by rfl, ?_⟩) ?_ ?_
                         rotate_left
                         ·
                          intro w'
                          go_simp
                          with_reducible rfl
                         rotate_left
                         ·
                          simp only [Act.put, sA_, sZ_, sS_, i64_w, i32_w]
                          rfl
                         refine take_ (i := 4) (N := some 87) (v := ?_) (a' := ?_) #[true, true, true, true, true, true, false, false, false, true, true, true, true, false, true, false, false, false, false] rfl rfl (take_ofW HT_.out HW_.out (by kernel_rfl)) (fun _ _ _ h => h) (Or.inl ⟨by rfl, ?_⟩) hHeld ?_ ?_
                         rotate_left
                         ·
                          rintro w' ⟨s0, s1, s2, s3, s4, s5, s6, s7⟩
                          go_simp
                          with_reducible rfl
                         rotate_left
                         ·
                          simp only [Act.put, sA_, sZ_, sS_, i64_w, i32_w]
                          rfl
                         refine pure_ (i := 6) (N := some 89) (v := ?_) (a' := ?_) #[true, true, true, true, true, true, true, false, false, true, true, true, true, false, true, false, false, false, false] rfl rfl (any_of HT_.out (by kernel_rfl)) (fun _ _ _ h => h) (Or.inl ⟨by rfl, ?_⟩) ?_ ?_
                         rotate_left
                         ·
                          intro w'
                          go_simp
                          with_reducible rfl
                         rotate_left
                         ·
                          simp only [Act.put, sA_, sZ_, sS_, i64_w, i32_w]
                          rfl
                         refine pure_ (i := 7) (N := some 90) (v := ?_) (a' := ?_) #[true, true, true, true, true, true, true, true, false, true, true, true, true, false, true, false, false, false, false] rfl rfl (any_of HT_.out (by kernel_rfl)) (fun _ _ _ h => h) (Or.inl ⟨by rfl, ?_⟩) ?_ ?_
                         rotate_left
                         ·
                          intro w'
                          go_simp
                          with_reducible rfl
                         rotate_left
                         ·
                          simp only [Act.put, sA_, sZ_, sS_, i64_w, i32_w]
                          rfl
                         refine take_ (i := 8) (N := some 91) (v := ?_) (a' := ?_) #[true, true, true, true, true, true, true, true, true, true, true, true, true, false, true, false, false, false, false] rfl rfl (take_ofW HT_.out HW_.out (by kernel_rfl)) (fun _ _ _ h => h) (Or.inl ⟨by rfl, ?_⟩) hHeld ?_ ?_
                         rotate_left
                         ·
                          rintro w' ⟨s0, s1, s2, s3, s4, s5, s6, s7⟩
                          go_simp
                          with_reducible rfl
                         rotate_left
                         ·
                          simp only [Act.put, sA_, sZ_, sS_, i64_w, i32_w]
                          rfl
                         refine take_ (i := 13) (N := some 96) (v := ?_) (a' := ?_) #[true, true, true, true, true, true, true, true, true, true, true, true, true, true, true, false, false, false, false] rfl rfl (take_ofW HT_.out HW_.out (by kernel_rfl)) (fun _ _ _ h => h) (Or.inl ⟨by rfl, ?_⟩) hHeld ?_ ?_
                         rotate_left
                         ·
                          rintro w' ⟨s0, s1, s2, s3, s4, s5, s6, s7⟩
                          go_simp
                          with_reducible rfl
                         rotate_left
                         ·
                          simp only [Act.put, sA_, sZ_, sS_, i64_w, i32_w]
                          rfl
                         refine pure_ (i := 15) (N := some 98) (v := ?_) (a' := ?_) #[true, true, true, true, true, true, true, true, true, true, true, true, true, true, true, true, false, false, false] rfl rfl (any_of HT_.out (by kernel_rfl)) (fun _ _ _ h => h) (Or.inl ⟨by rfl, ?_⟩) ?_ ?_
                         rotate_left
                         ·
                          intro w'
                          go_simp
                          with_reducible rfl
                         rotate_left
                         ·
                          simp only [Act.put, sA_, sZ_, sS_, i64_w, i32_w]
                          rfl
                         refine pure_ (i := 16) (N := some 99) (v := ?_) (a' := ?_) #[true, true, true, true, true, true, true, true, true, true, true, true, true, true, true, true, true, false, false] rfl rfl (any_of HT_.out (by kernel_rfl)) (fun _ _ _ h => h) (Or.inl ⟨by rfl, ?_⟩) ?_ ?_
                         rotate_left
                         ·
                          intro w'
                          go_simp
                          with_reducible rfl
                         rotate_left
                         ·
                          simp only [Act.put, sA_, sZ_, sS_, i64_w, i32_w]
                          rfl
                         refine take_ (i := 17) (N := some 100) (v := ?_) (a' := ?_) #[true, true, true, true, true, true, true, true, true, true, true, true, true, true, true, true, true, true, false] rfl rfl (take_ofW HT_.out HW_.out (by kernel_rfl)) (fun _ _ _ h => h) (Or.inl ⟨by rfl, ?_⟩) hHeld ?_ ?_
                         rotate_left
                         ·
                          rintro w' ⟨s0, s1, s2, s3, s4, s5, s6, s7⟩
                          go_simp
                          with_reducible rfl
                         rotate_left
                         ·
                          simp only [Act.put, sA_, sZ_, sS_, i64_w, i32_w]
                          rfl
                         refine pure_ (i := 18) (N := some 101) (v := ?_) (a' := ?_) #[true, true, true, true, true, true, true, true, true, true, true, true, true, true, true, true, true, true, true] rfl rfl (any_of HT_.out (by kernel_rfl)) (fun _ _ _ h => h) (Or.inl ⟨by rfl, ?_⟩) ?_ ?_
                         rotate_left
                         ·
                          intro w'
                          go_simp
                          with_reducible rfl
                         rotate_left
                         ·
                          simp only [Act.put, sA_, sZ_, sS_, i64_w, i32_w]
                          rfl
                         refine done_ (done_of HT_.out (by kernel_rfl)) ?_
                         try go_wp2
                         go_ret
                         exact ⟨by first | rfl | (simp [errW_none, errW_some] <;> rfl) | (simp [*, errW_none, errW_some] <;> rfl), bw_⟩
                        ·
                         rw [if_neg c39] at H
                         have c39b0 : (((rd_T41 ((rd_T28 l0 x6_2).f1) x8_4).f0).toList == ((rd_T41 ((rd_T28 l0 x6_2).f1) x9_5).f0).toList) = false := q4_ c39
                         have c39b1 : (((rd_T41 ((rd_T28 l0 x6_2).f1) x8_4).f0).toList != ((rd_T41 ((rd_T28 l0 x6_2).f1) x9_5).f0).toList) = true := q2_ c39
                         have H' := A_ H
                         clear H
                         try go_wp2
                         have n0_ := A_ (vd_ HO_304001.out)
                         have n1_ := A_ (bd_ BK303.out)
                         have n2_ := A_ (b1_ HB.out)
                         clear HO_304001
                         clear BK303
                         clear HB
                         have HO_304001 := n0_
                         have BK303 := n1_
                         have HB := n2_
                         clear n0_ n1_ n2_
                         have p487 : 0 ≤ (x6_2 : Int) := od_ (by first | (with_reducible assumption) | assumption)
                         have q487 : x6_2 < (l0.length : Int) := od_ (by first | (with_reducible assumption) | assumption)
                         obtain ⟨ad487, A487_1, c487_1, e487, hx487_0, hx487_1, hl487_1, hi487_1⟩ := at_T28 HR0.out x6_2 p487 q487
                         have hw487_1 := hx487_1
                         have hw487_0 := hx487_0
                         obtain rfl : ad486 = ad487 := (by injection e487)
                         replace hx487_0 := (HB.out.cell (World.block_lt_of_cell? w _ hx487_0)).trans hx487_0
                         replace hx487_1 := (HB.out.cell (World.block_lt_of_cell? w _ hx487_1)).trans hx487_1
                         have HR487_1 := A_ hi487_1
                         have HC487_1 := A_ hl487_1
                         clear hi487_1 hl487_1
                         replace p487 := eq_true p487
                         replace q487 := eq_true q487
                         have p488 : 0 ≤ (x8_4 : Int) := od_ (by first | (with_reducible assumption) | assumption)
                         have q488 : x8_4 < (((rd_T28 l0 x6_2).f1).length : Int) := od_ (by first | (with_reducible assumption) | assumption)
                         obtain ⟨ad488, e488, hx488_0, hx488_1⟩ := at_T41 HR487_1.out x8_4 p488 q488
                         have hw488_1 := hx488_1
                         have hw488_0 := hx488_0
                         cases e488
                         replace hx488_0 := (HB.out.cell (World.block_lt_of_cell? w _ hx488_0)).trans hx488_0
                         replace hx488_1 := (HB.out.cell (World.block_lt_of_cell? w _ hx488_1)).trans hx488_1
                         replace p488 := eq_true p488
                         replace q488 := eq_true q488
                         have p489 : 0 ≤ (x6_2 : Int) := od_ (by first | (with_reducible assumption) | assumption)
                         have q489 : x6_2 < (l0.length : Int) := od_ (by first | (with_reducible assumption) | assumption)
                         obtain ⟨ad489, A489_1, c489_1, e489, hx489_0, hx489_1, hl489_1, hi489_1⟩ := at_T28 HR0.out x6_2 p489 q489
                         have hw489_1 := hx489_1
                         have hw489_0 := hx489_0
                         obtain rfl : ad486 = ad489 := (by injection e489)
                         replace hx489_0 := (HB.out.cell (World.block_lt_of_cell? w _ hx489_0)).trans hx489_0
                         replace hx489_1 := (HB.out.cell (World.block_lt_of_cell? w _ hx489_1)).trans hx489_1
                         have HR489_1 := A_ hi489_1
                         have HC489_1 := A_ hl489_1
                         clear hi489_1 hl489_1
                         replace p489 := eq_true p489
                         replace q489 := eq_true q489
                         have ea_ := Option.some.inj (hx487_1.symm.trans hx489_1)
                         injection ea_ with ea_ en_ ec_
                         subst ea_
                         subst ec_
                         clear en_
                         have p490 : 0 ≤ (x9_5 : Int) := od_ (by first | (with_reducible assumption) | assumption)
                         have q490 : x9_5 < (((rd_T28 l0 x6_2).f1).length : Int) := od_ (by first | (with_reducible assumption) | assumption)
                         obtain ⟨ad490, e490, hx490_0, hx490_1⟩ := at_T41 HR489_1.out x9_5 p490 q490
                         have hw490_1 := hx490_1
                         have hw490_0 := hx490_0
                         cases e490
                         replace hx490_0 := (HB.out.cell (World.block_lt_of_cell? w _ hx490_0)).trans hx490_0
                         replace hx490_1 := (HB.out.cell (World.block_lt_of_cell? w _ hx490_1)).trans hx490_1
                         replace p490 := eq_true p490
                         replace q490 := eq_true q490
                         refine start_ (n := 19) (S := fun w' => w'.cell? (ad486.add ((x6_2).toNat * 2)) = some (.string ((rd_T28 l0 x6_2).f0)) ∧ w'.cell? ⟨(ad486.add ((x6_2).toNat * 2)).block, (ad486.add ((x6_2).toNat * 2)).off + 1, none⟩ = some (.slice (some ad488) ((rd_T28 l0 x6_2).f1).length c487_1) ∧ w'.cell? (ad488.add ((x8_4).toNat * 2)) = some (.string ((rd_T41 ((rd_T28 l0 x6_2).f1) x8_4).f0)) ∧ w'.cell? ⟨(ad488.add ((x8_4).toNat * 2)).block, (ad488.add ((x8_4).toNat * 2)).off + 1, none⟩ = some (.int .i64 ((rd_T41 ((rd_T28 l0 x6_2).f1) x8_4).f1)) ∧ w'.cell? (ad486.add ((x6_2).toNat * 2)) = some (.string ((rd_T28 l0 x6_2).f0)) ∧ w'.cell? ⟨(ad486.add ((x6_2).toNat * 2)).block, (ad486.add ((x6_2).toNat * 2)).off + 1, none⟩ = some (.slice (some ad488) ((rd_T28 l0 x6_2).f1).length c487_1) ∧ w'.cell? (ad488.add ((x9_5).toNat * 2)) = some (.string ((rd_T41 ((rd_T28 l0 x6_2).f1) x9_5).f0)) ∧ w'.cell? ⟨(ad488.add ((x9_5).toNat * 2)).block, (ad488.add ((x9_5).toNat * 2)).off + 1, none⟩ = some (.int .i64 ((rd_T41 ((rd_T28 l0 x6_2).f1) x9_5).f1))) (ds := []) #[false, false, false, false, false, false, false, false, false, false, false, false, false, false, false, false, false, false, false] (by kernel_rfl) rfl rfl ⟨((HB.out.cell (World.block_lt_of_cell? w _ hw487_0)).trans hw487_0), ((HB.out.cell (World.block_lt_of_cell? w _ hw487_1)).trans hw487_1), ((HB.out.cell (World.block_lt_of_cell? w _ hw488_0)).trans hw488_0), ((HB.out.cell (World.block_lt_of_cell? w _ hw488_1)).trans hw488_1), ((HB.out.cell (World.block_lt_of_cell? w _ hw489_0)).trans hw489_0), ((HB.out.cell (World.block_lt_of_cell? w _ hw489_1)).trans hw489_1), ((HB.out.cell (World.block_lt_of_cell? w _ hw490_0)).trans hw490_0), ((HB.out.cell (World.block_lt_of_cell? w _ hw490_1)).trans hw490_1)⟩ (fun hHeld => ?_); refine with_tabW clevisref28_Check.tab25 clevisref28_Check.bits25 (fun HT_ HW_ => ?_)
                         generalize wr.drew = w41 at HO_304001 BK303 HB HR487_1 HR489_1 hx487_0 hx487_1 hx488_0 hx488_1 hx489_0 hx489_1 hx490_0 hx490_1 hHeld ⊢
                         refine pure_ (i := 0) (N := some 83) (v := ?_) (a' := ?_) #[true, false, false, false, false, false, false, false, false, false, false, false, false, false, false, false, false, false, false] rfl rfl (any_of HT_.out (by kernel_rfl)) (fun _ _ _ h => h) (Or.inl ⟨by rfl, ?_⟩) ?_ ?_
                         rotate_left
                         ·
                          intro w'
                          go_simp
                          with_reducible rfl
                         rotate_left
                         ·
                          simp only [Act.put, sA_, sZ_, sS_, i64_w, i32_w]
                          rfl
                         refine pure_ (i := 1) (N := some 84) (v := ?_) (a' := ?_) #[true, true, false, false, false, false, false, false, false, false, false, false, false, false, false, false, false, false, false] rfl rfl (any_of HT_.out (by kernel_rfl)) (fun _ _ _ h => h) (Or.inl ⟨by rfl, ?_⟩) ?_ ?_
                         rotate_left
                         ·
                          intro w'
                          go_simp
                          with_reducible rfl
                         rotate_left
                         ·
                          simp only [Act.put, sA_, sZ_, sS_, i64_w, i32_w]
                          rfl
                         refine pure_ (i := 2) (N := some 85) (v := ?_) (a' := ?_) #[true, true, true, false, false, false, false, false, false, false, false, false, false, false, false, false, false, false, false] rfl rfl (any_of HT_.out (by kernel_rfl)) (fun _ _ _ h => h) (Or.inl ⟨by rfl, ?_⟩) ?_ ?_
                         rotate_left
                         ·
                          intro w'
                          go_simp
                          with_reducible rfl
                         rotate_left
                         ·
                          simp only [Act.put, sA_, sZ_, sS_, i64_w, i32_w]
                          rfl
                         refine pure_ (i := 3) (N := some 86) (v := ?_) (a' := ?_) #[true, true, true, true, false, false, false, false, false, false, false, false, false, false, false, false, false, false, false] rfl rfl (any_of HT_.out (by kernel_rfl)) (fun _ _ _ h => h) (Or.inl ⟨by rfl, ?_⟩) ?_ ?_
                         rotate_left
                         ·
                          intro w'
                          go_simp
                          with_reducible rfl
                         rotate_left
                         ·
                          simp only [Act.put, sA_, sZ_, sS_, i64_w, i32_w]
                          rfl
                         refine pure_ (i := 5) (N := some 88) (v := ?_) (a' := ?_) #[true, true, true, true, false, true, false, false, false, false, false, false, false, false, false, false, false, false, false] rfl rfl (any_of HT_.out (by kernel_rfl)) (fun _ _ _ h => h) (Or.inl ⟨by rfl, ?_⟩) ?_ ?_
                         rotate_left
                         ·
                          intro w'
                          go_simp
                          with_reducible rfl
                         rotate_left
                         ·
                          simp only [Act.put, sA_, sZ_, sS_, i64_w, i32_w]
                          rfl
                         refine pure_ (i := 9) (N := some 92) (v := ?_) (a' := ?_) #[true, true, true, true, false, true, false, false, false, true, false, false, false, false, false, false, false, false, false] rfl rfl (any_of HT_.out (by kernel_rfl)) (fun _ _ _ h => h) (Or.inl ⟨by rfl, ?_⟩) ?_ ?_
                         rotate_left
                         ·
                          intro w'
                          go_simp
                          with_reducible rfl
                         rotate_left
                         ·
                          simp only [Act.put, sA_, sZ_, sS_, i64_w, i32_w]
                          rfl
                         refine pure_ (i := 10) (N := some 93) (v := ?_) (a' := ?_) #[true, true, true, true, false, true, false, false, false, true, true, false, false, false, false, false, false, false, false] rfl rfl (any_of HT_.out (by kernel_rfl)) (fun _ _ _ h => h) (Or.inl ⟨by rfl, ?_⟩) ?_ ?_
                         rotate_left
                         ·
                          intro w'
                          go_simp
                          with_reducible rfl
                         rotate_left
                         ·
                          simp only [Act.put, sA_, sZ_, sS_, i64_w, i32_w]
                          rfl
                         refine pure_ (i := 11) (N := some 94) (v := ?_) (a' := ?_) #[true, true, true, true, false, true, false, false, false, true, true, true, false, false, false, false, false, false, false] rfl rfl (any_of HT_.out (by kernel_rfl)) (fun _ _ _ h => h) (Or.inl ⟨by rfl, ?_⟩) ?_ ?_
                         rotate_left
                         ·
                          intro w'
                          go_simp
                          with_reducible rfl
                         rotate_left
                         ·
                          simp only [Act.put, sA_, sZ_, sS_, i64_w, i32_w]
                          rfl
                         refine pure_ (i := 12) (N := some 95) (v := ?_) (a' := ?_) #[true, true, true, true, false, true, false, false, false, true, true, true, true, false, false, false, false, false, false] rfl rfl (any_of HT_.out (by kernel_rfl)) (fun _ _ _ h => h) (Or.inl ⟨by rfl, ?_⟩) ?_ ?_
                         rotate_left
                         ·
                          intro w'
                          go_simp
                          with_reducible rfl
                         rotate_left
                         ·
                          simp only [Act.put, sA_, sZ_, sS_, i64_w, i32_w]
                          rfl
                         refine pure_ (i := 14) (N := some 97) (v := ?_) (a' := ?_) #[true, true, true, true, false, true, false, false, false, true, true, true, true, false, true, false, false, false, false] rfl rfl (any_of HT_.out (by kernel_rfl)) (fun _ _ _ h => h) (Or.inl ⟨by rfl, ?_⟩) ?_ ?_
                         rotate_left
                         ·
                          intro w'
                          go_simp
                          with_reducible rfl
                         rotate_left
                         ·
                          simp only [Act.put, sA_, sZ_, sS_, i64_w, i32_w]
                          rfl
                         refine take_ (i := 4) (N := some 87) (v := ?_) (a' := ?_) #[true, true, true, true, true, true, false, false, false, true, true, true, true, false, true, false, false, false, false] rfl rfl (take_ofW HT_.out HW_.out (by kernel_rfl)) (fun _ _ _ h => h) (Or.inl ⟨by rfl, ?_⟩) hHeld ?_ ?_
                         rotate_left
                         ·
                          rintro w' ⟨s0, s1, s2, s3, s4, s5, s6, s7⟩
                          go_simp
                          with_reducible rfl
                         rotate_left
                         ·
                          simp only [Act.put, sA_, sZ_, sS_, i64_w, i32_w]
                          rfl
                         refine pure_ (i := 6) (N := some 89) (v := ?_) (a' := ?_) #[true, true, true, true, true, true, true, false, false, true, true, true, true, false, true, false, false, false, false] rfl rfl (any_of HT_.out (by kernel_rfl)) (fun _ _ _ h => h) (Or.inl ⟨by rfl, ?_⟩) ?_ ?_
                         rotate_left
                         ·
                          intro w'
                          go_simp
                          with_reducible rfl
                         rotate_left
                         ·
                          simp only [Act.put, sA_, sZ_, sS_, i64_w, i32_w]
                          rfl
                         refine pure_ (i := 7) (N := some 90) (v := ?_) (a' := ?_) #[true, true, true, true, true, true, true, true, false, true, true, true, true, false, true, false, false, false, false] rfl rfl (any_of HT_.out (by kernel_rfl)) (fun _ _ _ h => h) (Or.inl ⟨by rfl, ?_⟩) ?_ ?_
                         rotate_left
                         ·
                          intro w'
                          go_simp
                          with_reducible rfl
                         rotate_left
                         ·
                          simp only [Act.put, sA_, sZ_, sS_, i64_w, i32_w]
                          rfl
                         refine take_ (i := 8) (N := some 91) (v := ?_) (a' := ?_) #[true, true, true, true, true, true, true, true, true, true, true, true, true, false, true, false, false, false, false] rfl rfl (take_ofW HT_.out HW_.out (by kernel_rfl)) (fun _ _ _ h => h) (Or.inl ⟨by rfl, ?_⟩) hHeld ?_ ?_
                         rotate_left
                         ·
                          rintro w' ⟨s0, s1, s2, s3, s4, s5, s6, s7⟩
                          go_simp
                          with_reducible rfl
                         rotate_left
                         ·
                          simp only [Act.put, sA_, sZ_, sS_, i64_w, i32_w]
                          rfl
                         refine take_ (i := 13) (N := some 96) (v := ?_) (a' := ?_) #[true, true, true, true, true, true, true, true, true, true, true, true, true, true, true, false, false, false, false] rfl rfl (take_ofW HT_.out HW_.out (by kernel_rfl)) (fun _ _ _ h => h) (Or.inl ⟨by rfl, ?_⟩) hHeld ?_ ?_
                         rotate_left
                         ·
                          rintro w' ⟨s0, s1, s2, s3, s4, s5, s6, s7⟩
                          go_simp
                          with_reducible rfl
                         rotate_left
                         ·
                          simp only [Act.put, sA_, sZ_, sS_, i64_w, i32_w]
                          rfl
                         refine pure_ (i := 15) (N := some 98) (v := ?_) (a' := ?_) #[true, true, true, true, true, true, true, true, true, true, true, true, true, true, true, true, false, false, false] rfl rfl (any_of HT_.out (by kernel_rfl)) (fun _ _ _ h => h) (Or.inl ⟨by rfl, ?_⟩) ?_ ?_
                         rotate_left
                         ·
                          intro w'
                          go_simp
                          with_reducible rfl
                         rotate_left
                         ·
                          simp only [Act.put, sA_, sZ_, sS_, i64_w, i32_w]
                          rfl
                         refine pure_ (i := 16) (N := some 99) (v := ?_) (a' := ?_) #[true, true, true, true, true, true, true, true, true, true, true, true, true, true, true, true, true, false, false] rfl rfl (any_of HT_.out (by kernel_rfl)) (fun _ _ _ h => h) (Or.inl ⟨by rfl, ?_⟩) ?_ ?_
                         rotate_left
                         ·
                          intro w'
                          go_simp
                          with_reducible rfl
                         rotate_left
                         ·
                          simp only [Act.put, sA_, sZ_, sS_, i64_w, i32_w]
                          rfl
                         refine take_ (i := 17) (N := some 100) (v := ?_) (a' := ?_) #[true, true, true, true, true, true, true, true, true, true, true, true, true, true, true, true, true, true, false] rfl rfl (take_ofW HT_.out HW_.out (by kernel_rfl)) (fun _ _ _ h => h) (Or.inl ⟨by rfl, ?_⟩) hHeld ?_ ?_
                         rotate_left
                         ·
                          rintro w' ⟨s0, s1, s2, s3, s4, s5, s6, s7⟩
                          go_simp
                          with_reducible rfl
                         rotate_left
                         ·
                          simp only [Act.put, sA_, sZ_, sS_, i64_w, i32_w]
                          rfl
                         refine pure_ (i := 18) (N := some 101) (v := ?_) (a' := ?_) #[true, true, true, true, true, true, true, true, true, true, true, true, true, true, true, true, true, true, true] rfl rfl (any_of HT_.out (by kernel_rfl)) (fun _ _ _ h => h) (Or.inl ⟨by rfl, ?_⟩) ?_ ?_
                         rotate_left
                         ·
                          intro w'
                          go_simp
                          with_reducible rfl
                         rotate_left
                         ·
                          simp only [Act.put, sA_, sZ_, sS_, i64_w, i32_w]
                          rfl
                         refine done_ (done_of HT_.out (by kernel_rfl)) ?_
                         try go_wp2
                         go_roundg k5
                         case measure => have := HK1.out; have := HK2.out; have := HK3.out; have := HK4.out; have := HK5.out; omega
                         case rel => exact ⟨(wrap64 (x9_5 + 1)), (by first | rfl | (simp; done) | (simp [*]; done)), H', ⟨by have := HK1.out; have := HK2.out; have := HK3.out; have := HK4.out; have := HK5.out; omega⟩, ⟨by (with_reducible repeat (first | apply va_ | apply vn_ | apply vd_)); exact HO_304001.out⟩, ⟨bk_⟩, ⟨bw_⟩⟩
                       ·
                        rw [if_neg c38] at H
                        exact absurd H (by simp)
                      ·
                       rw [if_neg c37] at H
                       exact absurd H (by simp)
                     ·
                      rw [if_neg c36] at H
                      exact absurd H (by simp)
                    ·
                     rw [if_neg c35] at H
                     exact absurd H (by simp)
                   ·
                    rw [if_neg c34] at H
                    exact absurd H (by simp)
                  ·
                   rw [if_neg c33] at H
                   exact absurd H (by simp)
                 ·
                  rw [if_neg c32] at H
                  have c32b0 : decide (x9_5 < x8_4) = false := decide_eq_false c32
                  clear c32
                  have H' := A_ H
                  clear H
                  go_wp2
                  go_roundg k5
                  case measure => have := HK1.out; have := HK2.out; have := HK3.out; have := HK4.out; have := HK5.out; omega
                  case rel => exact ⟨(wrap64 (x8_4 + 1)), (by first | rfl | (simp; done) | (simp [*]; done)), H', ⟨by have := HK1.out; have := HK2.out; have := HK3.out; have := HK4.out; have := HK5.out; omega⟩, ⟨by (with_reducible repeat (first | apply va_ | apply vn_ | apply vd_)); exact HO_304001.out⟩, ⟨bk_⟩, ⟨bw_⟩⟩
              ·
               rw [if_neg c31] at H
               have c31b0 : decide (x8_4 < (((rd_T28 l0 x6_2).f1).length : Int)) = false := decide_eq_false c31
               clear c31
               have H' := A_ H
               clear H
               have p486 : 0 ≤ (x6_2 : Int) := od_ (by first | (with_reducible assumption) | assumption)
               have q486 : x6_2 < (l0.length : Int) := od_ (by first | (with_reducible assumption) | assumption)
               obtain ⟨ad486, A486_1, c486_1, e486, hx486_0, hx486_1, hl486_1, hi486_1⟩ := at_T28 HR0.out x6_2 p486 q486
               cases e486
               replace hx486_0 := (HB.out.cell (World.block_lt_of_cell? w _ hx486_0)).trans hx486_0
               replace hx486_1 := (HB.out.cell (World.block_lt_of_cell? w _ hx486_1)).trans hx486_1
               have HR486_1 := A_ hi486_1
               have HC486_1 := A_ hl486_1
               clear hi486_1 hl486_1
               replace p486 := eq_true p486
               replace q486 := eq_true q486
               go_wp2
               go_roundg k4
               case measure => have := HK1.out; have := HK2.out; have := HK3.out; have := HK4.out; omega
               case rel => exact ⟨(wrap64 (x6_2 + 1)), (by first | rfl | (simp; done) | (simp [*]; done)), H', ⟨by have := HK1.out; have := HK2.out; have := HK3.out; have := HK4.out; omega⟩, ⟨by (with_reducible repeat (first | apply va_ | apply vn_ | apply vd_)); exact HO_304001.out⟩, ⟨bk_⟩, ⟨bw_⟩⟩
             ·
              rw [if_neg c30] at H
              exact absurd H (by simp)
            ·
             rw [if_neg c29] at H
             exact absurd H (by simp)
      ·
       rw [if_neg c20] at H
       have c20b0 : decide (x6_2 < (l0.length : Int)) = false := decide_eq_false c20
       clear c20
       have H' := A_ H
       clear H
       go_wp2
       (try simp only [Act.put, sA_, sZ_, sS_])
       go_loopg [10] k2 (fun kq v10 w' => ∃ (x10_3 : Int), v10 = .int .i64 x10_3 ∧ Aside0 (clevisref28_Check.l6 kq l0 x10_3 x304000_1 x304001_1 = some r) ∧ Aside0 (kq ≤ k2) ∧ Aside0 (Kd.V (Kd.int .i64) 3 w' w.heap.size (fun k_ => k_ ≠ gb303) u304001 x304001_1) ∧ Aside0 (w'.heap[gb303]? = some (.cells #[.bool x304000_1, u304001] 38 (0, 0))) ∧ Aside0 (Below w.heap.size w w'))
       case atStart => exact ⟨(0), (by first | rfl | (simp; done) | (simp [*]; done)), H', ⟨Nat.le_refl _⟩, ⟨by (with_reducible repeat (first | apply va_ | apply vn_ | apply vd_)); exact HO_304001.out⟩, ⟨bk_⟩, ⟨bw_⟩⟩
       case round =>
        clear H'
        try clear c2
        try clear p2
        try clear c3
        try clear c4
        try clear p4
        try clear q4
        try clear hx4
        try clear p6
        try clear c20
        try clear c20b0
        try clear c21
        try clear c21b0
        try clear c22
        try clear c22b0
        try clear c23
        try clear c23b0
        try clear c24
        try clear c24b0
        try clear c25
        try clear c25b0
        try clear c26
        try clear c26b0
        try clear c26b1
        try clear c29
        try clear c29b0
        try clear c30
        try clear c30b0
        try clear c31
        try clear c31b0
        try clear c32
        try clear c32b0
        try clear c33
        try clear c33b0
        try clear c34
        try clear c34b0
        try clear c35
        try clear c35b0
        try clear c36
        try clear c36b0
        try clear c37
        try clear c37b0
        try clear c38
        try clear c38b0
        try clear c39
        try clear c39b0
        try clear c39b1
        try clear hcz3_0
        try clear hcz3_1
        try clear hfz3_0
        try clear hfz3_1
        try clear hx472_0
        try clear hx472_1
        try clear hx473_0
        try clear hx473_1
        try clear hx474_0
        try clear hx474_1
        try clear hx475_0
        try clear hx475_1
        try clear hx484_0
        try clear hx484_1
        try clear hx485_0
        try clear hx485_1
        try clear hx486_0
        try clear hx486_1
        try clear hx487_0
        try clear hx487_1
        try clear hx488_0
        try clear hx488_1
        try clear hx489_0
        try clear hx489_1
        try clear hx490_0
        try clear hx490_1
        try clear p2
        try clear p4
        try clear p472
        try clear p473
        try clear p474
        try clear p475
        try clear p484
        try clear p485
        try clear p486
        try clear p487
        try clear p488
        try clear p489
        try clear p490
        try clear p6
        try clear q4
        try clear q472
        try clear q473
        try clear q474
        try clear q475
        try clear q484
        try clear q485
        try clear q486
        try clear q487
        try clear q488
        try clear q489
        try clear q490
        obtain ⟨x10_3, rfl, HA, HK3, HO_304001, BK303, HB⟩ := hrel
        cases gk with
        | zero => exact absurd HA.out (by simp [clevisref28_Check.l6])
        | succ k3 =>
         have H := HA.out
         clear HA
         simp only [clevisref28_Check.l6] at H
         by_cases c42 : x10_3 < (l0.length : Int)
         ·
          rw [if_pos c42] at H
          have c42b0 : decide (x10_3 < (l0.length : Int)) = true := decide_eq_true c42
          clear c42
          by_cases c43 : (l0.length : Int) > 64
          ·
           rw [if_pos c43] at H
           have c43b0 : decide (64 < (l0.length : Int)) = true := decide_eq_true c43
           have c43b1 : decide (64 < l0.length) = true := decide_eq_true (by omega)
           clear c43
           obtain rfl := Option.some.inj H
           go_wp2
           go_ret
           exact ⟨by first | rfl | (simp [errW_none, errW_some] <;> rfl) | (simp [*, errW_none, errW_some] <;> rfl), bw_⟩
          ·
           rw [if_neg c43] at H
           have c43b0 : decide (64 < (l0.length : Int)) = false := decide_eq_false c43
           have c43b1 : decide (64 < l0.length) = false := decide_eq_false (by omega)
           clear c43
           by_cases c44 : 0 ≤ x10_3
           ·
            rw [if_pos c44] at H
            have c44b0 : decide (0 ≤ x10_3) = true := decide_eq_true c44
            clear c44
            by_cases c45 : (((rd_T28 l0 x10_3).f1).length : Int) > 64
            ·
             rw [if_pos c45] at H
             have c45b0 : decide (64 < (((rd_T28 l0 x10_3).f1).length : Int)) = true := decide_eq_true c45
             have c45b1 : decide (64 < ((rd_T28 l0 x10_3).f1).length) = true := decide_eq_true (by omega)
             clear c45
             obtain rfl := Option.some.inj H
             have p491 : 0 ≤ (x10_3 : Int) := od_ (by first | (with_reducible assumption) | assumption)
             have q491 : x10_3 < (l0.length : Int) := od_ (by first | (with_reducible assumption) | assumption)
             obtain ⟨ad491, A491_1, c491_1, e491, hx491_0, hx491_1, hl491_1, hi491_1⟩ := at_T28 HR0.out x10_3 p491 q491
             cases e491
             replace hx491_0 := (HB.out.cell (World.block_lt_of_cell? w _ hx491_0)).trans hx491_0
             replace hx491_1 := (HB.out.cell (World.block_lt_of_cell? w _ hx491_1)).trans hx491_1
             have HR491_1 := A_ hi491_1
             have HC491_1 := A_ hl491_1
             clear hi491_1 hl491_1
             replace p491 := eq_true p491
             replace q491 := eq_true q491
             go_wp2
             go_ret
             exact ⟨by first | rfl | (simp [errW_none, errW_some] <;> rfl) | (simp [*, errW_none, errW_some] <;> rfl), bw_⟩
            ·
             rw [if_neg c45] at H
             have c45b0 : decide (64 < (((rd_T28 l0 x10_3).f1).length : Int)) = false := decide_eq_false c45
             have c45b1 : decide (64 < ((rd_T28 l0 x10_3).f1).length) = false := decide_eq_false (by omega)
             clear c45
             have H' := A_ H
             clear H
             have p491 : 0 ≤ (x10_3 : Int) := od_ (by first | (with_reducible assumption) | assumption)
             have q491 : x10_3 < (l0.length : Int) := od_ (by first | (with_reducible assumption) | assumption)
             obtain ⟨ad491, A491_1, c491_1, e491, hx491_0, hx491_1, hl491_1, hi491_1⟩ := at_T28 HR0.out x10_3 p491 q491
             cases e491
             replace hx491_0 := (HB.out.cell (World.block_lt_of_cell? w _ hx491_0)).trans hx491_0
             replace hx491_1 := (HB.out.cell (World.block_lt_of_cell? w _ hx491_1)).trans hx491_1
             have HR491_1 := A_ hi491_1
             have HC491_1 := A_ hl491_1
             clear hi491_1 hl491_1
             replace p491 := eq_true p491
             replace q491 := eq_true q491
             go_wp2
             go_roundg k3
             case measure => have := HK1.out; have := HK2.out; have := HK3.out; omega
             case rel => exact ⟨(wrap64 (x10_3 + 1)), (by first | rfl | (simp; done) | (simp [*]; done)), H', ⟨by have := HK1.out; have := HK2.out; have := HK3.out; omega⟩, ⟨by (with_reducible repeat (first | apply va_ | apply vn_ | apply vd_)); exact HO_304001.out⟩, ⟨bk_⟩, ⟨bw_⟩⟩
           ·
            rw [if_neg c44] at H
            exact absurd H (by simp)
         ·
          rw [if_neg c42] at H
          have c42b0 : decide (x10_3 < (l0.length : Int)) = false := decide_eq_false c42
          clear c42
          replace H := os_ H
          obtain ⟨t492, A460, H⟩ := H
          replace H : (if t492 = true then (some 0) else (some 4)) = some r := H
          have A46 := A_ A460
          clear A460
          by_cases c47 : t492 = true
          ·
           subst c47
           have H1 : (some 0) = some r := by rw [if_pos rfl] at H; exact H
           clear H
           have H := H1
           clear H1
           obtain rfl := Option.some.inj H
           have hcz48_0 : wr.cell? ⟨gb303, 0, none⟩ = some (.bool x304000_1) := (bc_ BK303.out 0).trans rfl
           have hcz48_1 : wr.cell? ⟨gb303, 1, none⟩ = some (u304001) := (bc_ BK303.out 1).trans rfl
           have hfz48_0 := bf_ BK303.out 0
           have hfz48_1 := bf_ BK303.out 1
           obtain ⟨Ao49, co49, eo49⟩ := Kd.V_slice HO_304001.out
           subst eo49
           go_wp2_with (first | ((with_reducible refine gate_callee (f := 13) rfl ?_); refine goesL_ (some 121) rfl rfl Try.func13 (by kernel_rfl) rfl #[.agg #[.bool x304000_1, .slice Ao49 x304001_1.length co49], .int .i64 64] rfl (by (try simp only [List.map_toArray, List.map_cons, List.map_nil]); first | done | rfl | (simp only [List.length_drop, List.length_take]; rfl)) ?_; (with_reducible refine (clevisref01_Fits.calls k3 x304000_1 _ _ x304001_1 64 true _ ?side1 ?side2 A46.out).mono ?_); (case side1 => repeat (first | exact (Kd.V_reads' HO_304001.out).2.2 | (with_reducible refine ca_ ?_ _) | (with_reducible refine cn_ ?_ _) | (with_reducible refine cd_ ?_))); (case side2 => exact (Kd.V_reads' HO_304001.out).2.1); rintro e w50 ⟨rfl, hb⟩; refine ⟨_, rfl, ?_⟩; have n0_ := A_ (Kd.V_below (by (with_reducible repeat (first | apply va_ | apply vn_ | apply vd_)); exact HO_304001.out) hb); have n1_ := A_ (kb_ BK303 hb); have n2_ := A_ (bs_ bw_ hb); clear HO_304001; clear BK303; clear HB; have HO_304001 := n0_; have BK303 := n1_; have HB := n2_; clear n0_ n1_ n2_; (try clear hb); (try clear hb2); (try clear hk); (try clear hi)))
           go_ret
           exact ⟨by first | rfl | (simp [errW_none, errW_some] <;> rfl) | (simp [*, errW_none, errW_some] <;> rfl), bw_⟩
          ·
           replace c47 := Bool.eq_false_iff.mpr c47
           subst c47
           have H1 : (some 4) = some r := by rw [if_neg (show ¬ (false = true) by decide)] at H; exact H
           clear H
           have H := H1
           clear H1
           obtain rfl := Option.some.inj H
           have hcz51_0 : wr.cell? ⟨gb303, 0, none⟩ = some (.bool x304000_1) := (bc_ BK303.out 0).trans rfl
           have hcz51_1 : wr.cell? ⟨gb303, 1, none⟩ = some (u304001) := (bc_ BK303.out 1).trans rfl
           have hfz51_0 := bf_ BK303.out 0
           have hfz51_1 := bf_ BK303.out 1
           obtain ⟨Ao52, co52, eo52⟩ := Kd.V_slice HO_304001.out
           subst eo52
           go_wp2_with (first | ((with_reducible refine gate_callee (f := 13) rfl ?_); refine goesL_ (some 121) rfl rfl Try.func13 (by kernel_rfl) rfl #[.agg #[.bool x304000_1, .slice Ao52 x304001_1.length co52], .int .i64 64] rfl (by (try simp only [List.map_toArray, List.map_cons, List.map_nil]); first | done | rfl | (simp only [List.length_drop, List.length_take]; rfl)) ?_; (with_reducible refine (clevisref01_Fits.calls k3 x304000_1 _ _ x304001_1 64 false _ ?side1 ?side2 A46.out).mono ?_); (case side1 => repeat (first | exact (Kd.V_reads' HO_304001.out).2.2 | (with_reducible refine ca_ ?_ _) | (with_reducible refine cn_ ?_ _) | (with_reducible refine cd_ ?_))); (case side2 => exact (Kd.V_reads' HO_304001.out).2.1); rintro e w53 ⟨rfl, hb⟩; refine ⟨_, rfl, ?_⟩; have n0_ := A_ (Kd.V_below (by (with_reducible repeat (first | apply va_ | apply vn_ | apply vd_)); exact HO_304001.out) hb); have n1_ := A_ (kb_ BK303 hb); have n2_ := A_ (bs_ bw_ hb); clear HO_304001; clear BK303; clear HB; have HO_304001 := n0_; have BK303 := n1_; have HB := n2_; clear n0_ n1_ n2_; (try clear hb); (try clear hb2); (try clear hk); (try clear hi)))
           go_ret
           exact ⟨by first | rfl | (simp [errW_none, errW_some] <;> rfl) | (simp [*, errW_none, errW_some] <;> rfl), bw_⟩
end Go.Proofs.Ytfbkgfffalppmaa.Wf
end
