/- Texts of this seat, put together (ZD14). -/
import Derived.Test.YtjbcigiffihjaaaZD3
import Derived.Test.YtjbcigiffihjaaaZD5
import Derived.Test.YtjbcigiffihjaaaZD6
import Derived.Test.YtjbcigiffihjaaaZD8
import Derived.Test.YtjbcigiffihjaaaZD13
section
namespace Go.Proofs.Ytjbcigiffihjaaa.Fx
open Go.RowKit Go.Proofs.YtjbcigiffihjaaaW.PrintWords Go.Proofs.YtjbcigiffihjaaaW.PrintLast Go.Proofs.YtjbcigiffihjaaaW.PrintMore
attribute [local go_sem] max2_int min2_int max_two min_two max_three min_three max_four min_four   -- for this text's walks alone
set_option linter.unusedVariables false
set_option linter.unusedSimpArgs false
attribute [local go_sem] run_add64_any
mutual
def clevisref01_Rounded.j0 : Nat → Int → Bool → Bool → Bool → List Int → Bool → List Int → Bool → List Int → Option (Bool)
 | 0, _, _, _, _, _, _, _, _, _ => none
 | k + 1, x3, x10, x26, x305000, x305001, x306000, x306001, x307000, x307001 => if x26 = true then ((clevisref01_Floor.f k x305000 x305001 x306000 x306001 x307000 x307001).bind fun t281 => (some t281)) else (if x3 = 1 then (clevisref01_Rounded.j1 k true x305000 x305001 x306000 x306001 x307000 x307001) else (if x3 = 2 then (clevisref01_Rounded.j1 k x10 x305000 x305001 x306000 x306001 x307000 x307001) else (clevisref01_Rounded.j1 k false x305000 x305001 x306000 x306001 x307000 x307001)))
def clevisref01_Rounded.j1 : Nat → Bool → Bool → List Int → Bool → List Int → Bool → List Int → Option (Bool)
 | 0, _, _, _, _, _, _, _ => none
 | k + 1, x41, x305000, x305001, x306000, x306001, x307000, x307001 => if x41 = true then ((clevisref01_Small.f k (-1)).bind fun bt282 => ((clevisref01_Add.f k x307000 x307001 bt282.1 bt282.2).bind fun bt286 => ((clevisref01_Floor.f k x305000 x305001 x306000 x306001 bt286.1 bt286.2).bind fun t290 => (some t290)))) else ((clevisref01_Mul.f k x307000 x307001 x306000 x306001).bind fun bt291 => ((clevisref01_Neg.f k bt291.1 bt291.2).bind fun bt295 => ((clevisref01_Add.f k x305000 x305001 bt295.1 bt295.2).bind fun bt299 => ((clevisref01_Add.f k bt299.1 bt299.2 bt299.1 bt299.2).bind fun bt303 => ((clevisref01_size.f k bt303.2 x306001).bind fun t307 => (if t307 < 0 then (some true) else (if t307 = 0 then ((clevisref01_odd.f x307000 x307001).bind fun t308 => (some (!t308))) else (some false))))))))
end
def clevisref01_Rounded.f (k : Nat) (a0_0 : Bool) (l0_1 : List Int) (a1_0 : Bool) (l1_1 : List Int) (a2_0 : Bool) (l2_1 : List Int) (a3 : Int) : Option (Bool) := (clevisref01_Mul.f k a2_0 l2_1 a1_0 l1_1).bind fun bt276 => ((clevisref01_Compare.f k bt276.1 bt276.2 a0_0 l0_1).bind fun t280 => (if t280 = 0 then (some true) else (if a3 = 0 then (clevisref01_Rounded.j0 k a3 (a0_0 != a1_0) true a0_0 l0_1 a1_0 l1_1 a2_0 l2_1) else (if a3 = 2 then (clevisref01_Rounded.j0 k a3 (a0_0 != a1_0) (!(a0_0 != a1_0)) a0_0 l0_1 a1_0 l1_1 a2_0 l2_1) else (clevisref01_Rounded.j0 k a3 (a0_0 != a1_0) false a0_0 l0_1 a1_0 l1_1 a2_0 l2_1)))))
def clevisref01_Rounded.T9 : Bool × List (List Nat × List Nat) := (true, [([], []), ([], []), ([], []), ([1, 2], [1, 2]), ([3, 3], [3]), ([0, 4, 4], [0, 4]), ([], []), ([6, 5, 5, 0, 1, 2, 3, 4, 5, 6], [5, 6])])
def clevisref01_Rounded.B9 : List Nat := [0, 0, 0, 6, 14, 31, 0, 127]
theorem clevisref01_Rounded.tab9 : rtab .any (opsOf Try.f10 9) = clevisref01_Rounded.T9 := by kernel_rfl
theorem clevisref01_Rounded.bits9 : waitsOk clevisref01_Rounded.T9.2 clevisref01_Rounded.B9 = true := by kernel_rfl
def clevisref01_Rounded.T10 : Bool × List (List Nat × List Nat) := (true, [([], []), ([], []), ([0, 1], [0, 1]), ([2], [2]), ([], []), ([4], [4]), ([3, 5, 2], [3, 5]), ([6, 6, 0, 1, 2, 3, 4, 5, 6], [6])])
def clevisref01_Rounded.B10 : List Nat := [0, 0, 3, 7, 0, 16, 63, 127]
theorem clevisref01_Rounded.tab10 : rtab .any (opsOf Try.f10 10) = clevisref01_Rounded.T10 := by kernel_rfl
theorem clevisref01_Rounded.bits10 : waitsOk clevisref01_Rounded.T10.2 clevisref01_Rounded.B10 = true := by kernel_rfl
set_option maxHeartbeats 8000000 in
set_option maxRecDepth 100000 in
theorem clevisref01_Rounded.calls (k : Nat) (a0_0 : Bool) (A0_1 : Option Addr) (c0_1 : Nat) (l0_1 : List Int) (a1_0 : Bool) (A1_1 : Option Addr) (c1_1 : Nat) (l1_1 : List Int) (a2_0 : Bool) (A2_1 : Option Addr) (c2_1 : Nat) (l2_1 : List Int) (a3 : Int) (r : Bool) (w : World) (hr0_1 : Kd.C (Kd.int .i64) w A0_1 l0_1.length l0_1) (hc0_1 : l0_1.length ≤ c0_1) (hr1_1 : Kd.C (Kd.int .i64) w A1_1 l1_1.length l1_1) (hc1_1 : l1_1.length ≤ c1_1) (hr2_1 : Kd.C (Kd.int .i64) w A2_1 l2_1.length l2_1) (hc2_1 : l2_1.length ≤ c2_1) (h : clevisref01_Rounded.f k a0_0 l0_1 a1_0 l1_1 a2_0 l2_1 a3 = some r) :
  Calls Try.prog 10 #[.agg #[.bool a0_0, .slice A0_1 l0_1.length c0_1], .agg #[.bool a1_0, .slice A1_1 l1_1.length c1_1], .agg #[.bool a2_0, .slice A2_1 l2_1.length c2_1], .int .i64 a3] w fun e w' => e = .returned (.bool r) ∧ Below w.heap.size w w' := by
 have hu32 := Try.underlying32
 have hfd32_1 : ∀ (fc0 fc1 : Value) (W : World), (Instr.field 32 (.agg #[fc0, fc1]) 1).run Try.prog W = .ok (fc1) W := fun _ _ _ => rfl
 have HR0_1 := A_ hr0_1
 have HC0_1 := A_ hc0_1
 clear hr0_1 hc0_1
 have HR1_1 := A_ hr1_1
 have HC1_1 := A_ hc1_1
 clear hr1_1 hc1_1
 have HR2_1 := A_ hr2_1
 have HC2_1 := A_ hc2_1
 clear hr2_1 hc2_1
 have HB := A_ (Below.refl w.heap.size w)
 have H : ((clevisref01_Mul.f k a2_0 l2_1 a1_0 l1_1).bind fun bt276 => ((clevisref01_Compare.f k bt276.1 bt276.2 a0_0 l0_1).bind fun t280 => (if t280 = 0 then (some true) else (if a3 = 0 then (clevisref01_Rounded.j0 k a3 (a0_0 != a1_0) true a0_0 l0_1 a1_0 l1_1 a2_0 l2_1) else (if a3 = 2 then (clevisref01_Rounded.j0 k a3 (a0_0 != a1_0) (!(a0_0 != a1_0)) a0_0 l0_1 a1_0 l1_1 a2_0 l2_1) else (clevisref01_Rounded.j0 k a3 (a0_0 != a1_0) false a0_0 l0_1 a1_0 l1_1 a2_0 l2_1)))))) = some r := h
 clear h
 replace H := os_ H
 obtain ⟨⟨t276, t277⟩, A50, H⟩ := H
 replace H : ((clevisref01_Compare.f k t276 t277 a0_0 l0_1).bind fun t280 => (if t280 = 0 then (some true) else (if a3 = 0 then (clevisref01_Rounded.j0 k a3 (a0_0 != a1_0) true a0_0 l0_1 a1_0 l1_1 a2_0 l2_1) else (if a3 = 2 then (clevisref01_Rounded.j0 k a3 (a0_0 != a1_0) (!(a0_0 != a1_0)) a0_0 l0_1 a1_0 l1_1 a2_0 l2_1) else (clevisref01_Rounded.j0 k a3 (a0_0 != a1_0) false a0_0 l0_1 a1_0 l1_1 a2_0 l2_1))))) = some r := H
 have A5 := A_ A50
 clear A50
 replace H := os_ H
 obtain ⟨t280, A60, H⟩ := H
 replace H : (if t280 = 0 then (some true) else (if a3 = 0 then (clevisref01_Rounded.j0 k a3 (a0_0 != a1_0) true a0_0 l0_1 a1_0 l1_1 a2_0 l2_1) else (if a3 = 2 then (clevisref01_Rounded.j0 k a3 (a0_0 != a1_0) (!(a0_0 != a1_0)) a0_0 l0_1 a1_0 l1_1 a2_0 l2_1) else (clevisref01_Rounded.j0 k a3 (a0_0 != a1_0) false a0_0 l0_1 a1_0 l1_1 a2_0 l2_1)))) = some r := H
 have A6 := A_ A60
 clear A60
 by_cases c7 : t280 = 0
 ·
  rw [if_pos c7] at H
  have c7b0 : (t280 == 0) = true := q1_ c7
  have c7b1 : (t280 != 0) = false := q3_ c7
  clear c7
  obtain rfl := Option.some.inj H
  go_enter Try.func10, Try.ntmps10
  try go_wp2_with (first | ((with_reducible refine gate_dst (N := 4) rfl ?_); refine box_event ?hg (N := 4) ?hd (cs := #[.bool a0_0, .slice A0_1 l0_1.length c0_1]) (t := 32) ?hr ?_; (case hd => rfl); (case hg => rfl); (case hr => first | (go_simp; done) | (go_simp; rfl)); intro gb304 hg w8 hbox hb; have n0_ := A_ (bs_ bw_ hb); have n1_ := A_ (hbox); have n2_ := A_ ((by rw [hg]; exact (bz_ bw_) : w.heap.size ≤ gb304)); have n3_ := A_ ((by rw [hg]; exact (bz_ bw_) : w.heap.size ≤ gb304)); clear HB; have HB := n0_; have BK304 := n1_; have GW304 := n2_; have GE304 := n3_; clear n0_ n1_ n2_ n3_; clear hb hbox hg) | ((with_reducible refine gate_dst (N := 5) rfl ?_); refine box_event ?hg (N := 5) ?hd (cs := #[.bool a1_0, .slice A1_1 l1_1.length c1_1]) (t := 32) ?hr ?_; (case hd => rfl); (case hg => rfl); (case hr => first | (go_simp; done) | (go_simp; rfl)); intro gb305 hg w9 hbox hb; have n0_ := A_ (kb_ BK304 hb); have n1_ := A_ (bs_ bw_ hb); have n2_ := A_ (hbox); have n3_ := A_ ((by rw [hg]; exact (bz_ bw_) : w.heap.size ≤ gb305)); have n4_ := A_ ((by rw [hg]; exact (bz_ bw_) : w.heap.size ≤ gb305)); have n5_ := A_ ((by rw [hg]; exact nl_ (lt_ BK304) : gb304 ≠ gb305)); have n6_ := A_ ((by rw [hg]; exact ng_ (lt_ BK304) : gb305 ≠ gb304)); clear BK304; clear HB; have BK304 := n0_; have HB := n1_; have BK305 := n2_; have GW305 := n3_; have GE305 := n4_; have NB304_305 := n5_; have NB305_304 := n6_; clear n0_ n1_ n2_ n3_ n4_ n5_ n6_; clear hb hbox hg) | ((with_reducible refine gate_dst (N := 6) rfl ?_); refine box_event ?hg (N := 6) ?hd (cs := #[.bool a2_0, .slice A2_1 l2_1.length c2_1]) (t := 32) ?hr ?_; (case hd => rfl); (case hg => rfl); (case hr => first | (go_simp; done) | (go_simp; rfl)); intro gb306 hg w10 hbox hb; have n0_ := A_ (kb_ BK304 hb); have n1_ := A_ (kb_ BK305 hb); have n2_ := A_ (bs_ bw_ hb); have n3_ := A_ (hbox); have n4_ := A_ ((by rw [hg]; exact (bz_ bw_) : w.heap.size ≤ gb306)); have n5_ := A_ ((by rw [hg]; exact (bz_ bw_) : w.heap.size ≤ gb306)); have n6_ := A_ ((by rw [hg]; exact nl_ (lt_ BK304) : gb304 ≠ gb306)); have n7_ := A_ ((by rw [hg]; exact ng_ (lt_ BK304) : gb306 ≠ gb304)); have n8_ := A_ ((by rw [hg]; exact nl_ (lt_ BK305) : gb305 ≠ gb306)); have n9_ := A_ ((by rw [hg]; exact ng_ (lt_ BK305) : gb306 ≠ gb305)); clear BK304; clear BK305; clear HB; have BK304 := n0_; have BK305 := n1_; have HB := n2_; have BK306 := n3_; have GW306 := n4_; have GE306 := n5_; have NB304_306 := n6_; have NB306_304 := n7_; have NB305_306 := n8_; have NB306_305 := n9_; clear n0_ n1_ n2_ n3_ n4_ n5_ n6_ n7_ n8_ n9_; clear hb hbox hg))
  have n0_ := A_ (bd_ BK304.out)
  have n1_ := A_ (bd_ BK305.out)
  have n2_ := A_ (bd_ BK306.out)
  have n3_ := A_ (b1_ HB.out)
  clear BK304
  clear BK305
  clear BK306
  clear HB
  have BK304 := n0_
  have BK305 := n1_
  have BK306 := n2_
  have HB := n3_
  clear n0_ n1_ n2_ n3_
  refine start_ (n := 7) (S := fun w' => w'.cell? ⟨gb306, 0, none⟩ = some (.bool a2_0) ∧ w'.cell? ⟨gb306, 1, none⟩ = some (.slice A2_1 l2_1.length c2_1) ∧ w'.cell? ⟨gb305, 0, none⟩ = some (.bool a1_0) ∧ w'.cell? ⟨gb305, 1, none⟩ = some (.slice A1_1 l1_1.length c1_1) ∧ w'.cell? ⟨gb304, 0, none⟩ = some (.bool a0_0) ∧ w'.cell? ⟨gb304, 1, none⟩ = some (.slice A0_1 l0_1.length c0_1)) (ds := []) #[false, false, false, false, false, false, false] (by kernel_rfl) rfl rfl ⟨(bc_ BK306.out 0).trans rfl, (bc_ BK306.out 1).trans rfl, (bc_ BK305.out 0).trans rfl, (bc_ BK305.out 1).trans rfl, (bc_ BK304.out 0).trans rfl, (bc_ BK304.out 1).trans rfl⟩ (fun hHeld => ?_)
  generalize w10.drew = w11 at BK304 BK305 BK306 HB hHeld ⊢
  refine take_ (i := 0) (N := some 13) (v := ?_) (a' := ?_) #[true, false, false, false, false, false, false] rfl rfl (by kernel_rfl) (fun _ _ _ h => h) (Or.inl ⟨by rfl, ?_⟩) hHeld ?_ ?_
  rotate_left
  ·
   rintro w' ⟨s0, s1, s2, s3, s4, s5⟩
   go_simp
   with_reducible rfl
  rotate_left
  ·
   simp only [Act.put, sA_, sZ_, sS_, i64_w, i32_w]
   rfl
  refine take_ (i := 1) (N := some 14) (v := ?_) (a' := ?_) #[true, true, false, false, false, false, false] rfl rfl (by kernel_rfl) (fun _ _ _ h => h) (Or.inl ⟨by rfl, ?_⟩) hHeld ?_ ?_
  rotate_left
  ·
   rintro w' ⟨s0, s1, s2, s3, s4, s5⟩
   go_simp
   with_reducible rfl
  rotate_left
  ·
   simp only [Act.put, sA_, sZ_, sS_, i64_w, i32_w]
   rfl
  refine take_ (i := 3) (N := some 16) (v := ?_) (a' := ?_) #[true, true, false, true, false, false, false] rfl rfl (by kernel_rfl) (fun _ _ _ h => h) (Or.inl ⟨by rfl, ?_⟩) hHeld ?_ ?_
  rotate_left
  ·
   rintro w' ⟨s0, s1, s2, s3, s4, s5⟩
   go_simp
   with_reducible rfl
  rotate_left
  ·
   simp only [Act.put, sA_, sZ_, sS_, i64_w, i32_w]
   rfl
  refine one_ (i := 2) (N := some 15) #[true, true, true, true, false, false, false] rfl rfl (by kernel_rfl) (by decide) (fun K hK => ?_)
  refine goes_ Try.func26 (by kernel_rfl) rfl #[.agg #[.bool a2_0, .slice A2_1 l2_1.length c2_1], .agg #[.bool a1_0, .slice A1_1 l1_1.length c1_1]] (by rfl) rfl rfl (by (try simp only [List.map_toArray, List.map_cons, List.map_nil]); first | done | rfl | (simp only [List.length_drop, List.length_take]; rfl)) ?_
  with_reducible refine (clevisref01_Mul.calls k a2_0 _ _ l2_1 a1_0 _ _ l1_1 t276 t277 _ ?side1 ?side2 ?side3 ?side4 A5.out).mono ?_
  (case side1 => repeat (first | exact (cb_ HR2_1.out HB.out) | (with_reducible refine ca_ ?_ _) | (with_reducible refine cn_ ?_ _) | (with_reducible refine cd_ ?_)))
  (case side2 => exact HC2_1.out)
  (case side3 => repeat (first | exact (cb_ HR1_1.out HB.out) | (with_reducible refine ca_ ?_ _) | (with_reducible refine cn_ ?_ _) | (with_reducible refine cd_ ?_)))
  (case side4 => exact HC1_1.out)
  rintro e w12 ⟨v278, rfl, ho0, hb⟩
  refine ⟨_, rfl, ?_⟩
  have n0_ := A_ (Kd.V_lower (vm_ (ok' := fun k_ => k_ ≠ gb304 ∧ k_ ≠ gb305 ∧ k_ ≠ gb306) ho0 (fun k_ hk_ => ⟨(Kd.freshB (g := gb304) (o := .cells #[.bool a0_0, .slice A0_1 l0_1.length c0_1] 32 (0, 0)) bk_ k_ hk_), (Kd.freshB (g := gb305) (o := .cells #[.bool a1_0, .slice A1_1 l1_1.length c1_1] 32 (0, 0)) bk_ k_ hk_), (Kd.freshB (g := gb306) (o := .cells #[.bool a2_0, .slice A2_1 l2_1.length c2_1] 32 (0, 0)) bk_ k_ hk_)⟩)) (bz_ bw_))
  have n1_ := A_ (kb_ BK304 hb)
  have n2_ := A_ (kb_ BK305 hb)
  have n3_ := A_ (kb_ BK306 hb)
  have n4_ := A_ (bs_ bw_ hb)
  clear BK304
  clear BK305
  clear BK306
  clear HB
  have HO279 := n0_
  have BK304 := n1_
  have BK305 := n2_
  have BK306 := n3_
  have HB := n4_
  clear n0_ n1_ n2_ n3_ n4_
  (try clear hb)
  (try clear hb2)
  (try clear hk)
  (try clear hi)
  (try clear ho0)
  obtain ⟨Ao13, co13, eo13⟩ := Kd.V_slice HO279.out
  (first | subst eo13 | (injection eo13 with f1_ f2_ f3_; have f4_ := f1_.symm; have f5_ := f3_.symm; clear f1_ f2_ f3_; subst f4_; subst f5_))
  refine hK.out _ _ ⟨(bc_ BK306.out 0).trans rfl, (bc_ BK306.out 1).trans rfl, (bc_ BK305.out 0).trans rfl, (bc_ BK305.out 1).trans rfl, (bc_ BK304.out 0).trans rfl, (bc_ BK304.out 1).trans rfl⟩ (fun hHeld => ?_)
  clear hK K
  refine norm_ (a' := ?_) ?_ ?_
  rotate_left
  ·
   show Act.put _ (some 15) _ = _
   simp only [Act.put, sA_, sZ_, sS_, i64_w, i32_w]
   rfl
  refine one_ (i := 4) (N := some 17) #[true, true, true, true, true, false, false] rfl rfl (by kernel_rfl) (by decide) (fun K hK => ?_)
  refine goes_ Try.func16 (by kernel_rfl) rfl #[.agg #[.bool t276, .slice Ao13 t277.length co13], .agg #[.bool a0_0, .slice A0_1 l0_1.length c0_1]] (by rfl) rfl rfl (by (try simp only [List.map_toArray, List.map_cons, List.map_nil]); first | done | rfl | (simp only [List.length_drop, List.length_take]; rfl)) ?_
  with_reducible refine (clevisref01_Compare.calls k t276 _ _ t277 a0_0 _ _ l0_1 t280 _ ?side1 ?side2 ?side3 ?side4 A6.out).mono ?_
  (case side1 => repeat (first | exact (Kd.V_reads' HO279.out).2.2 | (with_reducible refine ca_ ?_ _) | (with_reducible refine cn_ ?_ _) | (with_reducible refine cd_ ?_)))
  (case side2 => exact (Kd.V_reads' HO279.out).2.1)
  (case side3 => repeat (first | exact (cb_ HR0_1.out HB.out) | (with_reducible refine ca_ ?_ _) | (with_reducible refine cn_ ?_ _) | (with_reducible refine cd_ ?_)))
  (case side4 => exact HC0_1.out)
  rintro e w14 ⟨rfl, hb⟩
  refine ⟨_, rfl, ?_⟩
  have n0_ := A_ (Kd.V_below (by (with_reducible repeat (first | apply va_ | apply vn_ | apply vd_)); exact HO279.out) hb)
  have n1_ := A_ (kb_ BK304 hb)
  have n2_ := A_ (kb_ BK305 hb)
  have n3_ := A_ (kb_ BK306 hb)
  have n4_ := A_ (bs_ bw_ hb)
  clear HO279
  clear BK304
  clear BK305
  clear BK306
  clear HB
  have HO279 := n0_
  have BK304 := n1_
  have BK305 := n2_
  have BK306 := n3_
  have HB := n4_
  clear n0_ n1_ n2_ n3_ n4_
  (try clear hb)
  (try clear hb2)
  (try clear hk)
  (try clear hi)
  refine hK.out _ _ ⟨(bc_ BK306.out 0).trans rfl, (bc_ BK306.out 1).trans rfl, (bc_ BK305.out 0).trans rfl, (bc_ BK305.out 1).trans rfl, (bc_ BK304.out 0).trans rfl, (bc_ BK304.out 1).trans rfl⟩ (fun hHeld => ?_)
  clear hK K
  refine norm_ (a' := ?_) ?_ ?_
  rotate_left
  ·
   show Act.put _ (some 17) _ = _
   simp only [Act.put, sA_, sZ_, sS_, i64_w, i32_w]
   rfl
  refine pure_ (i := 5) (N := some 18) (v := ?_) (a' := ?_) #[true, true, true, true, true, true, false] rfl rfl (by kernel_rfl) (fun _ _ _ h => h) (Or.inl ⟨by rfl, ?_⟩) ?_ ?_
  rotate_left
  ·
   intro w'
   go_simp
   with_reducible rfl
  rotate_left
  ·
   simp only [Act.put, sA_, sZ_, sS_, i64_w, i32_w]
   rfl
  refine pure_ (i := 6) (N := some 9) (v := ?_) (a' := ?_) #[true, true, true, true, true, true, true] rfl rfl (by kernel_rfl) (fun _ _ _ h => h) (Or.inl ⟨by rfl, ?_⟩) ?_ ?_
  rotate_left
  ·
   intro w'
   go_simp
   with_reducible rfl
  rotate_left
  ·
   simp only [Act.put, sA_, sZ_, sS_, i64_w, i32_w]
   rfl
  refine done_ (by kernel_rfl) ?_
  have hnb15 := NB304_305.out
  have hnc15 := NB305_304.out
  have hnb16 := NB304_306.out
  have hnc16 := NB306_304.out
  have hcz17_0 : w14.cell? ⟨gb304, 0, none⟩ = some (.bool a0_0) := (bc_ BK304.out 0).trans rfl
  have hcz17_1 : w14.cell? ⟨gb304, 1, none⟩ = some (.slice A0_1 l0_1.length c0_1) := (bc_ BK304.out 1).trans rfl
  have hfz17_0 := bf_ BK304.out 0
  have hfz17_1 := bf_ BK304.out 1
  have hnb18 := NB305_306.out
  have hnc18 := NB306_305.out
  have hcz19_0 : w14.cell? ⟨gb305, 0, none⟩ = some (.bool a1_0) := (bc_ BK305.out 0).trans rfl
  have hcz19_1 : w14.cell? ⟨gb305, 1, none⟩ = some (.slice A1_1 l1_1.length c1_1) := (bc_ BK305.out 1).trans rfl
  have hfz19_0 := bf_ BK305.out 0
  have hfz19_1 := bf_ BK305.out 1
  try go_wp2
  go_ret
  exact ⟨by first | rfl | (simp [errW_none, errW_some] <;> rfl) | (simp [*, errW_none, errW_some] <;> rfl), bw_⟩
 ·
  rw [if_neg c7] at H
  have c7b0 : (t280 == 0) = false := q4_ c7
  have c7b1 : (t280 != 0) = true := q2_ c7
  have HC20 := A_ H
  clear H
  go_enter Try.func10, Try.ntmps10
  try go_wp2_with (first | ((with_reducible refine gate_dst (N := 4) rfl ?_); refine box_event ?hg (N := 4) ?hd (cs := #[.bool a0_0, .slice A0_1 l0_1.length c0_1]) (t := 32) ?hr ?_; (case hd => rfl); (case hg => rfl); (case hr => first | (go_simp; done) | (go_simp; rfl)); intro gb304 hg w21 hbox hb; have n0_ := A_ (bs_ bw_ hb); have n1_ := A_ (hbox); have n2_ := A_ ((by rw [hg]; exact (bz_ bw_) : w.heap.size ≤ gb304)); have n3_ := A_ ((by rw [hg]; exact (bz_ bw_) : w.heap.size ≤ gb304)); clear HB; have HB := n0_; have BK304 := n1_; have GW304 := n2_; have GE304 := n3_; clear n0_ n1_ n2_ n3_; clear hb hbox hg) | ((with_reducible refine gate_dst (N := 5) rfl ?_); refine box_event ?hg (N := 5) ?hd (cs := #[.bool a1_0, .slice A1_1 l1_1.length c1_1]) (t := 32) ?hr ?_; (case hd => rfl); (case hg => rfl); (case hr => first | (go_simp; done) | (go_simp; rfl)); intro gb305 hg w22 hbox hb; have n0_ := A_ (kb_ BK304 hb); have n1_ := A_ (bs_ bw_ hb); have n2_ := A_ (hbox); have n3_ := A_ ((by rw [hg]; exact (bz_ bw_) : w.heap.size ≤ gb305)); have n4_ := A_ ((by rw [hg]; exact (bz_ bw_) : w.heap.size ≤ gb305)); have n5_ := A_ ((by rw [hg]; exact nl_ (lt_ BK304) : gb304 ≠ gb305)); have n6_ := A_ ((by rw [hg]; exact ng_ (lt_ BK304) : gb305 ≠ gb304)); clear BK304; clear HB; have BK304 := n0_; have HB := n1_; have BK305 := n2_; have GW305 := n3_; have GE305 := n4_; have NB304_305 := n5_; have NB305_304 := n6_; clear n0_ n1_ n2_ n3_ n4_ n5_ n6_; clear hb hbox hg) | ((with_reducible refine gate_dst (N := 6) rfl ?_); refine box_event ?hg (N := 6) ?hd (cs := #[.bool a2_0, .slice A2_1 l2_1.length c2_1]) (t := 32) ?hr ?_; (case hd => rfl); (case hg => rfl); (case hr => first | (go_simp; done) | (go_simp; rfl)); intro gb306 hg w23 hbox hb; have n0_ := A_ (kb_ BK304 hb); have n1_ := A_ (kb_ BK305 hb); have n2_ := A_ (bs_ bw_ hb); have n3_ := A_ (hbox); have n4_ := A_ ((by rw [hg]; exact (bz_ bw_) : w.heap.size ≤ gb306)); have n5_ := A_ ((by rw [hg]; exact (bz_ bw_) : w.heap.size ≤ gb306)); have n6_ := A_ ((by rw [hg]; exact nl_ (lt_ BK304) : gb304 ≠ gb306)); have n7_ := A_ ((by rw [hg]; exact ng_ (lt_ BK304) : gb306 ≠ gb304)); have n8_ := A_ ((by rw [hg]; exact nl_ (lt_ BK305) : gb305 ≠ gb306)); have n9_ := A_ ((by rw [hg]; exact ng_ (lt_ BK305) : gb306 ≠ gb305)); clear BK304; clear BK305; clear HB; have BK304 := n0_; have BK305 := n1_; have HB := n2_; have BK306 := n3_; have GW306 := n4_; have GE306 := n5_; have NB304_306 := n6_; have NB306_304 := n7_; have NB305_306 := n8_; have NB306_305 := n9_; clear n0_ n1_ n2_ n3_ n4_ n5_ n6_ n7_ n8_ n9_; clear hb hbox hg))
  have n0_ := A_ (bd_ BK304.out)
  have n1_ := A_ (bd_ BK305.out)
  have n2_ := A_ (bd_ BK306.out)
  have n3_ := A_ (b1_ HB.out)
  clear BK304
  clear BK305
  clear BK306
  clear HB
  have BK304 := n0_
  have BK305 := n1_
  have BK306 := n2_
  have HB := n3_
  clear n0_ n1_ n2_ n3_
  refine start_ (n := 7) (S := fun w' => w'.cell? ⟨gb306, 0, none⟩ = some (.bool a2_0) ∧ w'.cell? ⟨gb306, 1, none⟩ = some (.slice A2_1 l2_1.length c2_1) ∧ w'.cell? ⟨gb305, 0, none⟩ = some (.bool a1_0) ∧ w'.cell? ⟨gb305, 1, none⟩ = some (.slice A1_1 l1_1.length c1_1) ∧ w'.cell? ⟨gb304, 0, none⟩ = some (.bool a0_0) ∧ w'.cell? ⟨gb304, 1, none⟩ = some (.slice A0_1 l0_1.length c0_1)) (ds := []) #[false, false, false, false, false, false, false] (by kernel_rfl) rfl rfl ⟨(bc_ BK306.out 0).trans rfl, (bc_ BK306.out 1).trans rfl, (bc_ BK305.out 0).trans rfl, (bc_ BK305.out 1).trans rfl, (bc_ BK304.out 0).trans rfl, (bc_ BK304.out 1).trans rfl⟩ (fun hHeld => ?_)
  generalize w23.drew = w24 at BK304 BK305 BK306 HB hHeld ⊢
  refine take_ (i := 0) (N := some 13) (v := ?_) (a' := ?_) #[true, false, false, false, false, false, false] rfl rfl (by kernel_rfl) (fun _ _ _ h => h) (Or.inl ⟨by rfl, ?_⟩) hHeld ?_ ?_
  rotate_left
  ·
   rintro w' ⟨s0, s1, s2, s3, s4, s5⟩
   go_simp
   with_reducible rfl
  rotate_left
  ·
   simp only [Act.put, sA_, sZ_, sS_, i64_w, i32_w]
   rfl
  refine take_ (i := 1) (N := some 14) (v := ?_) (a' := ?_) #[true, true, false, false, false, false, false] rfl rfl (by kernel_rfl) (fun _ _ _ h => h) (Or.inl ⟨by rfl, ?_⟩) hHeld ?_ ?_
  rotate_left
  ·
   rintro w' ⟨s0, s1, s2, s3, s4, s5⟩
   go_simp
   with_reducible rfl
  rotate_left
  ·
   simp only [Act.put, sA_, sZ_, sS_, i64_w, i32_w]
   rfl
  refine take_ (i := 3) (N := some 16) (v := ?_) (a' := ?_) #[true, true, false, true, false, false, false] rfl rfl (by kernel_rfl) (fun _ _ _ h => h) (Or.inl ⟨by rfl, ?_⟩) hHeld ?_ ?_
  rotate_left
  ·
   rintro w' ⟨s0, s1, s2, s3, s4, s5⟩
   go_simp
   with_reducible rfl
  rotate_left
  ·
   simp only [Act.put, sA_, sZ_, sS_, i64_w, i32_w]
   rfl
  refine one_ (i := 2) (N := some 15) #[true, true, true, true, false, false, false] rfl rfl (by kernel_rfl) (by decide) (fun K hK => ?_)
  refine goes_ Try.func26 (by kernel_rfl) rfl #[.agg #[.bool a2_0, .slice A2_1 l2_1.length c2_1], .agg #[.bool a1_0, .slice A1_1 l1_1.length c1_1]] (by rfl) rfl rfl (by (try simp only [List.map_toArray, List.map_cons, List.map_nil]); first | done | rfl | (simp only [List.length_drop, List.length_take]; rfl)) ?_
  with_reducible refine (clevisref01_Mul.calls k a2_0 _ _ l2_1 a1_0 _ _ l1_1 t276 t277 _ ?side1 ?side2 ?side3 ?side4 A5.out).mono ?_
  (case side1 => repeat (first | exact (cb_ HR2_1.out HB.out) | (with_reducible refine ca_ ?_ _) | (with_reducible refine cn_ ?_ _) | (with_reducible refine cd_ ?_)))
  (case side2 => exact HC2_1.out)
  (case side3 => repeat (first | exact (cb_ HR1_1.out HB.out) | (with_reducible refine ca_ ?_ _) | (with_reducible refine cn_ ?_ _) | (with_reducible refine cd_ ?_)))
  (case side4 => exact HC1_1.out)
  rintro e w25 ⟨v278, rfl, ho0, hb⟩
  refine ⟨_, rfl, ?_⟩
  have n0_ := A_ (Kd.V_lower (vm_ (ok' := fun k_ => k_ ≠ gb304 ∧ k_ ≠ gb305 ∧ k_ ≠ gb306) ho0 (fun k_ hk_ => ⟨(Kd.freshB (g := gb304) (o := .cells #[.bool a0_0, .slice A0_1 l0_1.length c0_1] 32 (0, 0)) bk_ k_ hk_), (Kd.freshB (g := gb305) (o := .cells #[.bool a1_0, .slice A1_1 l1_1.length c1_1] 32 (0, 0)) bk_ k_ hk_), (Kd.freshB (g := gb306) (o := .cells #[.bool a2_0, .slice A2_1 l2_1.length c2_1] 32 (0, 0)) bk_ k_ hk_)⟩)) (bz_ bw_))
  have n1_ := A_ (kb_ BK304 hb)
  have n2_ := A_ (kb_ BK305 hb)
  have n3_ := A_ (kb_ BK306 hb)
  have n4_ := A_ (bs_ bw_ hb)
  clear BK304
  clear BK305
  clear BK306
  clear HB
  have HO279 := n0_
  have BK304 := n1_
  have BK305 := n2_
  have BK306 := n3_
  have HB := n4_
  clear n0_ n1_ n2_ n3_ n4_
  (try clear hb)
  (try clear hb2)
  (try clear hk)
  (try clear hi)
  (try clear ho0)
  obtain ⟨Ao26, co26, eo26⟩ := Kd.V_slice HO279.out
  (first | subst eo26 | (injection eo26 with f1_ f2_ f3_; have f4_ := f1_.symm; have f5_ := f3_.symm; clear f1_ f2_ f3_; subst f4_; subst f5_))
  refine hK.out _ _ ⟨(bc_ BK306.out 0).trans rfl, (bc_ BK306.out 1).trans rfl, (bc_ BK305.out 0).trans rfl, (bc_ BK305.out 1).trans rfl, (bc_ BK304.out 0).trans rfl, (bc_ BK304.out 1).trans rfl⟩ (fun hHeld => ?_)
  clear hK K
  refine norm_ (a' := ?_) ?_ ?_
  rotate_left
  ·
   show Act.put _ (some 15) _ = _
   simp only [Act.put, sA_, sZ_, sS_, i64_w, i32_w]
   rfl
  refine one_ (i := 4) (N := some 17) #[true, true, true, true, true, false, false] rfl rfl (by kernel_rfl) (by decide) (fun K hK => ?_)
  refine goes_ Try.func16 (by kernel_rfl) rfl #[.agg #[.bool t276, .slice Ao26 t277.length co26], .agg #[.bool a0_0, .slice A0_1 l0_1.length c0_1]] (by rfl) rfl rfl (by (try simp only [List.map_toArray, List.map_cons, List.map_nil]); first | done | rfl | (simp only [List.length_drop, List.length_take]; rfl)) ?_
  with_reducible refine (clevisref01_Compare.calls k t276 _ _ t277 a0_0 _ _ l0_1 t280 _ ?side1 ?side2 ?side3 ?side4 A6.out).mono ?_
  (case side1 => repeat (first | exact (Kd.V_reads' HO279.out).2.2 | (with_reducible refine ca_ ?_ _) | (with_reducible refine cn_ ?_ _) | (with_reducible refine cd_ ?_)))
  (case side2 => exact (Kd.V_reads' HO279.out).2.1)
  (case side3 => repeat (first | exact (cb_ HR0_1.out HB.out) | (with_reducible refine ca_ ?_ _) | (with_reducible refine cn_ ?_ _) | (with_reducible refine cd_ ?_)))
  (case side4 => exact HC0_1.out)
  rintro e w27 ⟨rfl, hb⟩
  refine ⟨_, rfl, ?_⟩
  have n0_ := A_ (Kd.V_below (by (with_reducible repeat (first | apply va_ | apply vn_ | apply vd_)); exact HO279.out) hb)
  have n1_ := A_ (kb_ BK304 hb)
  have n2_ := A_ (kb_ BK305 hb)
  have n3_ := A_ (kb_ BK306 hb)
  have n4_ := A_ (bs_ bw_ hb)
  clear HO279
  clear BK304
  clear BK305
  clear BK306
  clear HB
  have HO279 := n0_
  have BK304 := n1_
  have BK305 := n2_
  have BK306 := n3_
  have HB := n4_
  clear n0_ n1_ n2_ n3_ n4_
  (try clear hb)
  (try clear hb2)
  (try clear hk)
  (try clear hi)
  refine hK.out _ _ ⟨(bc_ BK306.out 0).trans rfl, (bc_ BK306.out 1).trans rfl, (bc_ BK305.out 0).trans rfl, (bc_ BK305.out 1).trans rfl, (bc_ BK304.out 0).trans rfl, (bc_ BK304.out 1).trans rfl⟩ (fun hHeld => ?_)
  clear hK K
  refine norm_ (a' := ?_) ?_ ?_
  rotate_left
  ·
   show Act.put _ (some 17) _ = _
   simp only [Act.put, sA_, sZ_, sS_, i64_w, i32_w]
   rfl
  refine pure_ (i := 5) (N := some 18) (v := ?_) (a' := ?_) #[true, true, true, true, true, true, false] rfl rfl (by kernel_rfl) (fun _ _ _ h => h) (Or.inl ⟨by rfl, ?_⟩) ?_ ?_
  rotate_left
  ·
   intro w'
   go_simp
   with_reducible rfl
  rotate_left
  ·
   simp only [Act.put, sA_, sZ_, sS_, i64_w, i32_w]
   rfl
  refine pure_ (i := 6) (N := some 9) (v := ?_) (a' := ?_) #[true, true, true, true, true, true, true] rfl rfl (by kernel_rfl) (fun _ _ _ h => h) (Or.inl ⟨by rfl, ?_⟩) ?_ ?_
  rotate_left
  ·
   intro w'
   go_simp
   with_reducible rfl
  rotate_left
  ·
   simp only [Act.put, sA_, sZ_, sS_, i64_w, i32_w]
   rfl
  refine done_ (by kernel_rfl) ?_
  have hnb28 := NB304_305.out
  have hnc28 := NB305_304.out
  have hnb29 := NB304_306.out
  have hnc29 := NB306_304.out
  have hcz30_0 : w27.cell? ⟨gb304, 0, none⟩ = some (.bool a0_0) := (bc_ BK304.out 0).trans rfl
  have hcz30_1 : w27.cell? ⟨gb304, 1, none⟩ = some (.slice A0_1 l0_1.length c0_1) := (bc_ BK304.out 1).trans rfl
  have hfz30_0 := bf_ BK304.out 0
  have hfz30_1 := bf_ BK304.out 1
  have hnb31 := NB305_306.out
  have hnc31 := NB306_305.out
  have hcz32_0 : w27.cell? ⟨gb305, 0, none⟩ = some (.bool a1_0) := (bc_ BK305.out 0).trans rfl
  have hcz32_1 : w27.cell? ⟨gb305, 1, none⟩ = some (.slice A1_1 l1_1.length c1_1) := (bc_ BK305.out 1).trans rfl
  have hfz32_0 := bf_ BK305.out 0
  have hfz32_1 := bf_ BK305.out 1
  go_upto_region 5 with (fail)
  go_cut [26] (fun v26 wc => ∃ (kq : Nat) (x26_19 : Bool), v26 = .bool x26_19 ∧ Aside0 (clevisref01_Rounded.j0 kq a3 (a0_0 != a1_0) x26_19 a0_0 l0_1 a1_0 l1_1 a2_0 l2_1 = some r) ∧ Aside0 (kq ≤ k) ∧ Aside0 (wc.heap[gb304]? = some (.cells #[.bool a0_0, (.slice A0_1 l0_1.length c0_1)] 32 (0, 0))) ∧ Aside0 (wc.heap[gb305]? = some (.cells #[.bool a1_0, (.slice A1_1 l1_1.length c1_1)] 32 (0, 0))) ∧ Aside0 (wc.heap[gb306]? = some (.cells #[.bool a2_0, (.slice A2_1 l2_1.length c2_1)] 32 (0, 0))) ∧ Aside0 (Below w.heap.size w wc))
  case first =>
   have H := HC20.out
   clear HC20
   by_cases c33 : a3 = 0
   ·
    rw [if_pos c33] at H
    have c33b0 : (a3 == 0) = true := q1_ c33
    have c33b1 : (a3 != 0) = false := q3_ c33
    clear c33
    (first | rw [c33b0] | (simp only [i64_w, i32_w]; rw [c33b0]) | skip)
    have H' := A_ H
    clear H
    go_wp2
    go_meet
    case rel => exact ⟨_, (true), (by first | rfl | (simp; done) | (simp [*]; done) | (simp [bne]; done)), H', ⟨by first | omega | exact Nat.le_refl _⟩, ⟨bk_⟩, ⟨bk_⟩, ⟨bk_⟩, ⟨bw_⟩⟩
   ·
    rw [if_neg c33] at H
    have c33b0 : (a3 == 0) = false := q4_ c33
    have c33b1 : (a3 != 0) = true := q2_ c33
    (first | rw [c33b0] | (simp only [i64_w, i32_w]; rw [c33b0]) | skip)
    by_cases c34 : a3 = 2
    ·
     rw [if_pos c34] at H
     have c34b0 : (a3 == 2) = true := q1_ c34
     have c34b1 : (a3 != 2) = false := q3_ c34
     clear c34
     have H' := A_ H
     clear H
     go_wp2
     go_meet
     case rel => exact ⟨_, (!(a0_0 != a1_0)), (by first | rfl | (simp; done) | (simp [*]; done) | (simp [bne]; done)), H', ⟨by first | omega | exact Nat.le_refl _⟩, ⟨bk_⟩, ⟨bk_⟩, ⟨bk_⟩, ⟨bw_⟩⟩
    ·
     rw [if_neg c34] at H
     have c34b0 : (a3 == 2) = false := q4_ c34
     have c34b1 : (a3 != 2) = true := q2_ c34
     have H' := A_ H
     clear H
     go_wp2
     go_meet
     case rel => exact ⟨_, (false), (by first | rfl | (simp; done) | (simp [*]; done) | (simp [bne]; done)), H', ⟨by first | omega | exact Nat.le_refl _⟩, ⟨bk_⟩, ⟨bk_⟩, ⟨bk_⟩, ⟨bw_⟩⟩
  case rest =>
   clear HC20
   try clear c1
   try clear c2
   try clear p2
   try clear c3
   try clear c7
   try clear c7b0
   try clear c7b1
   try clear c10
   try clear c15
   try clear c16
   try clear c18
   try clear c26
   try clear c28
   try clear c29
   try clear c31
   try clear c33
   try clear c33b0
   try clear c33b1
   try clear c34
   try clear c34b0
   try clear c34b1
   try clear hcz17_0
   try clear hcz17_1
   try clear hcz19_0
   try clear hcz19_1
   try clear hcz30_0
   try clear hcz30_1
   try clear hcz32_0
   try clear hcz32_1
   try clear hfz17_0
   try clear hfz17_1
   try clear hfz19_0
   try clear hfz19_1
   try clear hfz30_0
   try clear hfz30_1
   try clear hfz32_0
   try clear hfz32_1
   obtain ⟨kq, x26_19, rfl, HA, HJ19, BK304, BK305, BK306, HB⟩ := hcut
   cases kq with
   | zero => exact absurd HA.out (by simp [clevisref01_Rounded.j0])
   | succ kj19 =>
    have H := HA.out
    clear HA
    simp only [clevisref01_Rounded.j0] at H
    by_cases c35 : x26_19 = true
    ·
     subst c35
     have H1 : ((clevisref01_Floor.f kj19 a0_0 l0_1 a1_0 l1_1 a2_0 l2_1).bind fun t281 => (some t281)) = some r := by rw [if_pos rfl] at H; exact H
     clear H
     have H := H1
     clear H1
     replace H := os_ H
     obtain ⟨t281, A360, H⟩ := H
     replace H : (some t281) = some r := H
     have A36 := A_ A360
     clear A360
     obtain rfl := Option.some.inj H
     have hnb37 := NB304_305.out
     have hnc37 := NB305_304.out
     have hnb38 := NB304_306.out
     have hnc38 := NB306_304.out
     have hcz39_0 : wc.cell? ⟨gb304, 0, none⟩ = some (.bool a0_0) := (bc_ BK304.out 0).trans rfl
     have hcz39_1 : wc.cell? ⟨gb304, 1, none⟩ = some (.slice A0_1 l0_1.length c0_1) := (bc_ BK304.out 1).trans rfl
     have hfz39_0 := bf_ BK304.out 0
     have hfz39_1 := bf_ BK304.out 1
     have hnb40 := NB305_306.out
     have hnc40 := NB306_305.out
     have hcz41_0 : wc.cell? ⟨gb305, 0, none⟩ = some (.bool a1_0) := (bc_ BK305.out 0).trans rfl
     have hcz41_1 : wc.cell? ⟨gb305, 1, none⟩ = some (.slice A1_1 l1_1.length c1_1) := (bc_ BK305.out 1).trans rfl
     have hfz41_0 := bf_ BK305.out 0
     have hfz41_1 := bf_ BK305.out 1
     have hcz42_0 : wc.cell? ⟨gb306, 0, none⟩ = some (.bool a2_0) := (bc_ BK306.out 0).trans rfl
     have hcz42_1 : wc.cell? ⟨gb306, 1, none⟩ = some (.slice A2_1 l2_1.length c2_1) := (bc_ BK306.out 1).trans rfl
     have hfz42_0 := bf_ BK306.out 0
     have hfz42_1 := bf_ BK306.out 1
     go_wp2_with (((with_reducible refine gate_callee (f := 40) rfl ?_); refine goesL_ (some 40) rfl rfl Try.func40 (by kernel_rfl) rfl #[.agg #[.bool a0_0, .slice A0_1 l0_1.length c0_1], .agg #[.bool a1_0, .slice A1_1 l1_1.length c1_1], .agg #[.bool a2_0, .slice A2_1 l2_1.length c2_1]] rfl (by (try simp only [List.map_toArray, List.map_cons, List.map_nil]); first | done | rfl | (simp only [List.length_drop, List.length_take]; rfl)) ?_; (with_reducible refine (clevisref01_Floor.calls kj19 a0_0 _ _ l0_1 a1_0 _ _ l1_1 a2_0 _ _ l2_1 t281 _ ?side1 ?side2 ?side3 ?side4 ?side5 ?side6 A36.out).mono ?_); (case side1 => repeat (first | exact (cb_ HR0_1.out HB.out) | (with_reducible refine ca_ ?_ _) | (with_reducible refine cn_ ?_ _) | (with_reducible refine cd_ ?_))); (case side2 => exact HC0_1.out); (case side3 => repeat (first | exact (cb_ HR1_1.out HB.out) | (with_reducible refine ca_ ?_ _) | (with_reducible refine cn_ ?_ _) | (with_reducible refine cd_ ?_))); (case side4 => exact HC1_1.out); (case side5 => repeat (first | exact (cb_ HR2_1.out HB.out) | (with_reducible refine ca_ ?_ _) | (with_reducible refine cn_ ?_ _) | (with_reducible refine cd_ ?_))); (case side6 => exact HC2_1.out); rintro e w43 ⟨rfl, hb⟩; refine ⟨_, rfl, ?_⟩; have n0_ := A_ (kb_ BK304 hb); have n1_ := A_ (kb_ BK305 hb); have n2_ := A_ (kb_ BK306 hb); have n3_ := A_ (bs_ bw_ hb); clear BK304; clear BK305; clear BK306; clear HB; have BK304 := n0_; have BK305 := n1_; have BK306 := n2_; have HB := n3_; clear n0_ n1_ n2_ n3_; (try clear hb); (try clear hb2); (try clear hk); (try clear hi)))
     go_ret
     exact ⟨by first | rfl | (simp [errW_none, errW_some] <;> rfl) | (simp [*, errW_none, errW_some] <;> rfl), bw_⟩
    ·
     replace c35 := Bool.eq_false_iff.mpr c35
     subst c35
     have H1 : (if a3 = 1 then (clevisref01_Rounded.j1 kj19 true a0_0 l0_1 a1_0 l1_1 a2_0 l2_1) else (if a3 = 2 then (clevisref01_Rounded.j1 kj19 (a0_0 != a1_0) a0_0 l0_1 a1_0 l1_1 a2_0 l2_1) else (clevisref01_Rounded.j1 kj19 false a0_0 l0_1 a1_0 l1_1 a2_0 l2_1))) = some r := by rw [if_neg (show ¬ (false = true) by decide)] at H; exact H
     clear H
     have H := H1
     clear H1
     have HC44 := A_ H
     clear H
     go_upto_region 7 with (fail)
     go_cut [41] (fun v41 wc => ∃ (kq : Nat) (x41_43 : Bool), v41 = .bool x41_43 ∧ Aside0 (clevisref01_Rounded.j1 kq x41_43 a0_0 l0_1 a1_0 l1_1 a2_0 l2_1 = some r) ∧ Aside0 (kq ≤ kj19) ∧ Aside0 (wc.heap[gb304]? = some (.cells #[.bool a0_0, (.slice A0_1 l0_1.length c0_1)] 32 (0, 0))) ∧ Aside0 (wc.heap[gb305]? = some (.cells #[.bool a1_0, (.slice A1_1 l1_1.length c1_1)] 32 (0, 0))) ∧ Aside0 (wc.heap[gb306]? = some (.cells #[.bool a2_0, (.slice A2_1 l2_1.length c2_1)] 32 (0, 0))) ∧ Aside0 (Below w.heap.size w wc))
     case first =>
      have H := HC44.out
      clear HC44
      by_cases c45 : a3 = 1
      ·
       rw [if_pos c45] at H
       have c45b0 : (a3 == 1) = true := q1_ c45
       have c45b1 : (a3 != 1) = false := q3_ c45
       clear c45
       (first | rw [c45b0] | (simp only [i64_w, i32_w]; rw [c45b0]) | skip)
       have H' := A_ H
       clear H
       go_wp2
       go_meet
       case rel => exact ⟨_, (true), (by first | rfl | (simp; done) | (simp [*]; done) | (simp [bne]; done)), H', ⟨by have := HJ19.out; first | omega | exact Nat.le_refl _⟩, ⟨bk_⟩, ⟨bk_⟩, ⟨bk_⟩, ⟨bw_⟩⟩
      ·
       rw [if_neg c45] at H
       have c45b0 : (a3 == 1) = false := q4_ c45
       have c45b1 : (a3 != 1) = true := q2_ c45
       (first | rw [c45b0] | (simp only [i64_w, i32_w]; rw [c45b0]) | skip)
       by_cases c46 : a3 = 2
       ·
        rw [if_pos c46] at H
        have c46b0 : (a3 == 2) = true := q1_ c46
        have c46b1 : (a3 != 2) = false := q3_ c46
        clear c46
        have H' := A_ H
        clear H
        go_wp2
        go_meet
        case rel => exact ⟨_, ((a0_0 != a1_0)), (by first | rfl | (simp; done) | (simp [*]; done) | (simp [bne]; done)), H', ⟨by have := HJ19.out; first | omega | exact Nat.le_refl _⟩, ⟨bk_⟩, ⟨bk_⟩, ⟨bk_⟩, ⟨bw_⟩⟩
       ·
        rw [if_neg c46] at H
        have c46b0 : (a3 == 2) = false := q4_ c46
        have c46b1 : (a3 != 2) = true := q2_ c46
        have H' := A_ H
        clear H
        go_wp2
        go_meet
        case rel => exact ⟨_, (false), (by first | rfl | (simp; done) | (simp [*]; done) | (simp [bne]; done)), H', ⟨by have := HJ19.out; first | omega | exact Nat.le_refl _⟩, ⟨bk_⟩, ⟨bk_⟩, ⟨bk_⟩, ⟨bw_⟩⟩
     case rest =>
      clear HC44
      try clear c1
      try clear c2
      try clear p2
      try clear c3
      try clear c4
      try clear c7
      try clear c7b0
      try clear c7b1
      try clear c10
      try clear c15
      try clear c16
      try clear c18
      try clear c26
      try clear c28
      try clear c29
      try clear c31
      try clear c33
      try clear c33b0
      try clear c33b1
      try clear c34
      try clear c34b0
      try clear c34b1
      try clear c35
      try clear c37
      try clear c38
      try clear c40
      try clear c45
      try clear c45b0
      try clear c45b1
      try clear c46
      try clear c46b0
      try clear c46b1
      try clear hcz17_0
      try clear hcz17_1
      try clear hcz19_0
      try clear hcz19_1
      try clear hcz30_0
      try clear hcz30_1
      try clear hcz32_0
      try clear hcz32_1
      try clear hcz39_0
      try clear hcz39_1
      try clear hcz41_0
      try clear hcz41_1
      try clear hcz42_0
      try clear hcz42_1
      try clear hfz17_0
      try clear hfz17_1
      try clear hfz19_0
      try clear hfz19_1
      try clear hfz30_0
      try clear hfz30_1
      try clear hfz32_0
      try clear hfz32_1
      try clear hfz39_0
      try clear hfz39_1
      try clear hfz41_0
      try clear hfz41_1
      try clear hfz42_0
      try clear hfz42_1
      try clear p2
      obtain ⟨kq, x41_43, rfl, HA, HJ43, BK304, BK305, BK306, HB⟩ := hcut
      cases kq with
      | zero => exact absurd HA.out (by simp [clevisref01_Rounded.j1])
      | succ kj43 =>
       have H := HA.out
       clear HA
       simp only [clevisref01_Rounded.j1] at H
       by_cases c47 : x41_43 = true
       ·
        subst c47
        have H1 : ((clevisref01_Small.f kj43 (-1)).bind fun bt282 => ((clevisref01_Add.f kj43 a2_0 l2_1 bt282.1 bt282.2).bind fun bt286 => ((clevisref01_Floor.f kj43 a0_0 l0_1 a1_0 l1_1 bt286.1 bt286.2).bind fun t290 => (some t290)))) = some r := by rw [if_pos rfl] at H; exact H
        clear H
        have H := H1
        clear H1
        replace H := os_ H
        obtain ⟨⟨t282, t283⟩, A480, H⟩ := H
        replace H : ((clevisref01_Add.f kj43 a2_0 l2_1 t282 t283).bind fun bt286 => ((clevisref01_Floor.f kj43 a0_0 l0_1 a1_0 l1_1 bt286.1 bt286.2).bind fun t290 => (some t290))) = some r := H
        have A48 := A_ A480
        clear A480
        replace H := os_ H
        obtain ⟨⟨t286, t287⟩, A490, H⟩ := H
        replace H : ((clevisref01_Floor.f kj43 a0_0 l0_1 a1_0 l1_1 t286 t287).bind fun t290 => (some t290)) = some r := H
        have A49 := A_ A490
        clear A490
        replace H := os_ H
        obtain ⟨t290, A500, H⟩ := H
        replace H : (some t290) = some r := H
        have A50 := A_ A500
        clear A500
        obtain rfl := Option.some.inj H
        try go_wp2
        have n0_ := A_ (bd_ BK304.out)
        have n1_ := A_ (bd_ BK305.out)
        have n2_ := A_ (bd_ BK306.out)
        have n3_ := A_ (b1_ HB.out)
        clear BK304
        clear BK305
        clear BK306
        clear HB
        have BK304 := n0_
        have BK305 := n1_
        have BK306 := n2_
        have HB := n3_
        clear n0_ n1_ n2_ n3_
        refine start_ (n := 7) (S := fun w' => w'.cell? ⟨gb304, 0, none⟩ = some (.bool a0_0) ∧ w'.cell? ⟨gb304, 1, none⟩ = some (.slice A0_1 l0_1.length c0_1) ∧ w'.cell? ⟨gb305, 0, none⟩ = some (.bool a1_0) ∧ w'.cell? ⟨gb305, 1, none⟩ = some (.slice A1_1 l1_1.length c1_1) ∧ w'.cell? ⟨gb306, 0, none⟩ = some (.bool a2_0) ∧ w'.cell? ⟨gb306, 1, none⟩ = some (.slice A2_1 l2_1.length c2_1)) (ds := []) #[false, false, false, false, false, false, false] (by kernel_rfl) rfl rfl ⟨(bc_ BK304.out 0).trans rfl, (bc_ BK304.out 1).trans rfl, (bc_ BK305.out 0).trans rfl, (bc_ BK305.out 1).trans rfl, (bc_ BK306.out 0).trans rfl, (bc_ BK306.out 1).trans rfl⟩ (fun hHeld => ?_)
        generalize wc.drew = w51 at BK304 BK305 BK306 HB hHeld ⊢
        refine take_ (i := 0) (N := some 51) (v := ?_) (a' := ?_) #[true, false, false, false, false, false, false] rfl rfl (by kernel_rfl) (fun _ _ _ h => h) (Or.inl ⟨by rfl, ?_⟩) hHeld ?_ ?_
        rotate_left
        ·
         rintro w' ⟨s0, s1, s2, s3, s4, s5⟩
         go_simp
         with_reducible rfl
        rotate_left
        ·
         simp only [Act.put, sA_, sZ_, sS_, i64_w, i32_w]
         rfl
        refine take_ (i := 1) (N := some 52) (v := ?_) (a' := ?_) #[true, true, false, false, false, false, false] rfl rfl (by kernel_rfl) (fun _ _ _ h => h) (Or.inl ⟨by rfl, ?_⟩) hHeld ?_ ?_
        rotate_left
        ·
         rintro w' ⟨s0, s1, s2, s3, s4, s5⟩
         go_simp
         with_reducible rfl
        rotate_left
        ·
         simp only [Act.put, sA_, sZ_, sS_, i64_w, i32_w]
         rfl
        refine take_ (i := 2) (N := some 53) (v := ?_) (a' := ?_) #[true, true, true, false, false, false, false] rfl rfl (by kernel_rfl) (fun _ _ _ h => h) (Or.inl ⟨by rfl, ?_⟩) hHeld ?_ ?_
        rotate_left
        ·
         rintro w' ⟨s0, s1, s2, s3, s4, s5⟩
         go_simp
         with_reducible rfl
        rotate_left
        ·
         simp only [Act.put, sA_, sZ_, sS_, i64_w, i32_w]
         rfl
        refine one_ (i := 3) (N := some 54) #[true, true, true, true, false, false, false] rfl rfl (by kernel_rfl) (by decide) (fun K hK => ?_)
        refine goes_ Try.func41 (by kernel_rfl) rfl #[.int .i64 (-1)] (by rfl) rfl rfl (by (try simp only [List.map_toArray, List.map_cons, List.map_nil]); first | done | rfl | (simp only [List.length_drop, List.length_take]; rfl)) ?_
        with_reducible refine (clevisref01_Small.calls kj43 (-1) t282 t283 _ A48.out).mono ?_
        rintro e w52 ⟨v284, rfl, ho0, hb⟩
        refine ⟨_, rfl, ?_⟩
        have n0_ := A_ (Kd.V_lower (vm_ (ok' := fun k_ => k_ ≠ gb304 ∧ k_ ≠ gb305 ∧ k_ ≠ gb306) ho0 (fun k_ hk_ => ⟨(Kd.freshB (g := gb304) (o := .cells #[.bool a0_0, .slice A0_1 l0_1.length c0_1] 32 (0, 0)) bk_ k_ hk_), (Kd.freshB (g := gb305) (o := .cells #[.bool a1_0, .slice A1_1 l1_1.length c1_1] 32 (0, 0)) bk_ k_ hk_), (Kd.freshB (g := gb306) (o := .cells #[.bool a2_0, .slice A2_1 l2_1.length c2_1] 32 (0, 0)) bk_ k_ hk_)⟩)) (bz_ bw_))
        have n1_ := A_ (kb_ BK304 hb)
        have n2_ := A_ (kb_ BK305 hb)
        have n3_ := A_ (kb_ BK306 hb)
        have n4_ := A_ (bs_ bw_ hb)
        clear BK304
        clear BK305
        clear BK306
        clear HB
        have HO285 := n0_
        have BK304 := n1_
        have BK305 := n2_
        have BK306 := n3_
        have HB := n4_
        clear n0_ n1_ n2_ n3_ n4_
        (try clear hb)
        (try clear hb2)
        (try clear hk)
        (try clear hi)
        (try clear ho0)
        obtain ⟨Ao53, co53, eo53⟩ := Kd.V_slice HO285.out
        (first | subst eo53 | (injection eo53 with f1_ f2_ f3_; have f4_ := f1_.symm; have f5_ := f3_.symm; clear f1_ f2_ f3_; subst f4_; subst f5_))
        refine hK.out _ _ ⟨(bc_ BK304.out 0).trans rfl, (bc_ BK304.out 1).trans rfl, (bc_ BK305.out 0).trans rfl, (bc_ BK305.out 1).trans rfl, (bc_ BK306.out 0).trans rfl, (bc_ BK306.out 1).trans rfl⟩ (fun hHeld => ?_)
        clear hK K
        refine norm_ (a' := ?_) ?_ ?_
        rotate_left
        ·
         show Act.put _ (some 54) _ = _
         simp only [Act.put, sA_, sZ_, sS_, i64_w, i32_w]
         rfl
        refine one_ (i := 4) (N := some 55) #[true, true, true, true, true, false, false] rfl rfl (by kernel_rfl) (by decide) (fun K hK => ?_)
        refine goes_ Try.func21 (by kernel_rfl) rfl #[.agg #[.bool a2_0, .slice A2_1 l2_1.length c2_1], .agg #[.bool t282, .slice Ao53 t283.length co53]] (by rfl) rfl rfl (by (try simp only [List.map_toArray, List.map_cons, List.map_nil]); first | done | rfl | (simp only [List.length_drop, List.length_take]; rfl)) ?_
        with_reducible refine (clevisref01_Add.calls kj43 a2_0 _ _ l2_1 t282 _ _ t283 t286 t287 _ ?side1 ?side2 ?side3 ?side4 A49.out).mono ?_
        (case side1 => repeat (first | exact (cb_ HR2_1.out HB.out) | (with_reducible refine ca_ ?_ _) | (with_reducible refine cn_ ?_ _) | (with_reducible refine cd_ ?_)))
        (case side2 => exact HC2_1.out)
        (case side3 => repeat (first | exact (Kd.V_reads' HO285.out).2.2 | (with_reducible refine ca_ ?_ _) | (with_reducible refine cn_ ?_ _) | (with_reducible refine cd_ ?_)))
        (case side4 => exact (Kd.V_reads' HO285.out).2.1)
        rintro e w54 ⟨v288, rfl, ho0, hb⟩
        refine ⟨_, rfl, ?_⟩
        have n0_ := A_ (Kd.V_below (by (with_reducible repeat (first | apply va_ | apply vn_ | apply vd_)); exact HO285.out) hb)
        have n1_ := A_ (Kd.V_lower (vm_ (ok' := fun k_ => k_ ≠ gb304 ∧ k_ ≠ gb305 ∧ k_ ≠ gb306) ho0 (fun k_ hk_ => ⟨(Kd.freshB (g := gb304) (o := .cells #[.bool a0_0, .slice A0_1 l0_1.length c0_1] 32 (0, 0)) bk_ k_ hk_), (Kd.freshB (g := gb305) (o := .cells #[.bool a1_0, .slice A1_1 l1_1.length c1_1] 32 (0, 0)) bk_ k_ hk_), (Kd.freshB (g := gb306) (o := .cells #[.bool a2_0, .slice A2_1 l2_1.length c2_1] 32 (0, 0)) bk_ k_ hk_)⟩)) (bz_ bw_))
        have n2_ := A_ (kb_ BK304 hb)
        have n3_ := A_ (kb_ BK305 hb)
        have n4_ := A_ (kb_ BK306 hb)
        have n5_ := A_ (bs_ bw_ hb)
        clear HO285
        clear BK304
        clear BK305
        clear BK306
        clear HB
        have HO285 := n0_
        have HO289 := n1_
        have BK304 := n2_
        have BK305 := n3_
        have BK306 := n4_
        have HB := n5_
        clear n0_ n1_ n2_ n3_ n4_ n5_
        (try clear hb)
        (try clear hb2)
        (try clear hk)
        (try clear hi)
        (try clear ho0)
        obtain ⟨Ao55, co55, eo55⟩ := Kd.V_slice HO289.out
        (first | subst eo55 | (injection eo55 with f1_ f2_ f3_; have f4_ := f1_.symm; have f5_ := f3_.symm; clear f1_ f2_ f3_; subst f4_; subst f5_))
        refine hK.out _ _ ⟨(bc_ BK304.out 0).trans rfl, (bc_ BK304.out 1).trans rfl, (bc_ BK305.out 0).trans rfl, (bc_ BK305.out 1).trans rfl, (bc_ BK306.out 0).trans rfl, (bc_ BK306.out 1).trans rfl⟩ (fun hHeld => ?_)
        clear hK K
        refine norm_ (a' := ?_) ?_ ?_
        rotate_left
        ·
         show Act.put _ (some 55) _ = _
         simp only [Act.put, sA_, sZ_, sS_, i64_w, i32_w]
         rfl
        refine one_ (i := 5) (N := some 56) #[true, true, true, true, true, true, false] rfl rfl (by kernel_rfl) (by decide) (fun K hK => ?_)
        refine goes_ Try.func40 (by kernel_rfl) rfl #[.agg #[.bool a0_0, .slice A0_1 l0_1.length c0_1], .agg #[.bool a1_0, .slice A1_1 l1_1.length c1_1], .agg #[.bool t286, .slice Ao55 t287.length co55]] (by rfl) rfl rfl (by (try simp only [List.map_toArray, List.map_cons, List.map_nil]); first | done | rfl | (simp only [List.length_drop, List.length_take]; rfl)) ?_
        with_reducible refine (clevisref01_Floor.calls kj43 a0_0 _ _ l0_1 a1_0 _ _ l1_1 t286 _ _ t287 t290 _ ?side1 ?side2 ?side3 ?side4 ?side5 ?side6 A50.out).mono ?_
        (case side1 => repeat (first | exact (cb_ HR0_1.out HB.out) | (with_reducible refine ca_ ?_ _) | (with_reducible refine cn_ ?_ _) | (with_reducible refine cd_ ?_)))
        (case side2 => exact HC0_1.out)
        (case side3 => repeat (first | exact (cb_ HR1_1.out HB.out) | (with_reducible refine ca_ ?_ _) | (with_reducible refine cn_ ?_ _) | (with_reducible refine cd_ ?_)))
        (case side4 => exact HC1_1.out)
        (case side5 => repeat (first | exact (Kd.V_reads' HO289.out).2.2 | (with_reducible refine ca_ ?_ _) | (with_reducible refine cn_ ?_ _) | (with_reducible refine cd_ ?_)))
        (case side6 => exact (Kd.V_reads' HO289.out).2.1)
        rintro e w56 ⟨rfl, hb⟩
        refine ⟨_, rfl, ?_⟩
        have n0_ := A_ (Kd.V_below (by (with_reducible repeat (first | apply va_ | apply vn_ | apply vd_)); exact HO285.out) hb)
        have n1_ := A_ (Kd.V_below (by (with_reducible repeat (first | apply va_ | apply vn_ | apply vd_)); exact HO289.out) hb)
        have n2_ := A_ (kb_ BK304 hb)
        have n3_ := A_ (kb_ BK305 hb)
        have n4_ := A_ (kb_ BK306 hb)
        have n5_ := A_ (bs_ bw_ hb)
        clear HO285
        clear HO289
        clear BK304
        clear BK305
        clear BK306
        clear HB
        have HO285 := n0_
        have HO289 := n1_
        have BK304 := n2_
        have BK305 := n3_
        have BK306 := n4_
        have HB := n5_
        clear n0_ n1_ n2_ n3_ n4_ n5_
        (try clear hb)
        (try clear hb2)
        (try clear hk)
        (try clear hi)
        refine hK.out _ _ ⟨(bc_ BK304.out 0).trans rfl, (bc_ BK304.out 1).trans rfl, (bc_ BK305.out 0).trans rfl, (bc_ BK305.out 1).trans rfl, (bc_ BK306.out 0).trans rfl, (bc_ BK306.out 1).trans rfl⟩ (fun hHeld => ?_)
        clear hK K
        refine norm_ (a' := ?_) ?_ ?_
        rotate_left
        ·
         show Act.put _ (some 56) _ = _
         simp only [Act.put, sA_, sZ_, sS_, i64_w, i32_w]
         rfl
        refine pure_ (i := 6) (N := some 8) (v := ?_) (a' := ?_) #[true, true, true, true, true, true, true] rfl rfl (by kernel_rfl) (fun _ _ _ h => h) (Or.inl ⟨by rfl, ?_⟩) ?_ ?_
        rotate_left
        ·
         intro w'
         go_simp
         with_reducible rfl
        rotate_left
        ·
         simp only [Act.put, sA_, sZ_, sS_, i64_w, i32_w]
         rfl
        refine done_ (by kernel_rfl) ?_
        try go_wp2
        go_ret
        exact ⟨by first | rfl | (simp [errW_none, errW_some] <;> rfl) | (simp [*, errW_none, errW_some] <;> rfl), bw_⟩
       ·
        replace c47 := Bool.eq_false_iff.mpr c47
        subst c47
        have H1 : ((clevisref01_Mul.f kj43 a2_0 l2_1 a1_0 l1_1).bind fun bt291 => ((clevisref01_Neg.f kj43 bt291.1 bt291.2).bind fun bt295 => ((clevisref01_Add.f kj43 a0_0 l0_1 bt295.1 bt295.2).bind fun bt299 => ((clevisref01_Add.f kj43 bt299.1 bt299.2 bt299.1 bt299.2).bind fun bt303 => ((clevisref01_size.f kj43 bt303.2 l1_1).bind fun t307 => (if t307 < 0 then (some true) else (if t307 = 0 then ((clevisref01_odd.f a2_0 l2_1).bind fun t308 => (some (!t308))) else (some false)))))))) = some r := by rw [if_neg (show ¬ (false = true) by decide)] at H; exact H
        clear H
        have H := H1
        clear H1
        replace H := os_ H
        obtain ⟨⟨t291, t292⟩, A570, H⟩ := H
        replace H : ((clevisref01_Neg.f kj43 t291 t292).bind fun bt295 => ((clevisref01_Add.f kj43 a0_0 l0_1 bt295.1 bt295.2).bind fun bt299 => ((clevisref01_Add.f kj43 bt299.1 bt299.2 bt299.1 bt299.2).bind fun bt303 => ((clevisref01_size.f kj43 bt303.2 l1_1).bind fun t307 => (if t307 < 0 then (some true) else (if t307 = 0 then ((clevisref01_odd.f a2_0 l2_1).bind fun t308 => (some (!t308))) else (some false))))))) = some r := H
        have A57 := A_ A570
        clear A570
        replace H := os_ H
        obtain ⟨⟨t295, t296⟩, A580, H⟩ := H
        replace H : ((clevisref01_Add.f kj43 a0_0 l0_1 t295 t296).bind fun bt299 => ((clevisref01_Add.f kj43 bt299.1 bt299.2 bt299.1 bt299.2).bind fun bt303 => ((clevisref01_size.f kj43 bt303.2 l1_1).bind fun t307 => (if t307 < 0 then (some true) else (if t307 = 0 then ((clevisref01_odd.f a2_0 l2_1).bind fun t308 => (some (!t308))) else (some false)))))) = some r := H
        have A58 := A_ A580
        clear A580
        replace H := os_ H
        obtain ⟨⟨t299, t300⟩, A590, H⟩ := H
        replace H : ((clevisref01_Add.f kj43 t299 t300 t299 t300).bind fun bt303 => ((clevisref01_size.f kj43 bt303.2 l1_1).bind fun t307 => (if t307 < 0 then (some true) else (if t307 = 0 then ((clevisref01_odd.f a2_0 l2_1).bind fun t308 => (some (!t308))) else (some false))))) = some r := H
        have A59 := A_ A590
        clear A590
        replace H := os_ H
        obtain ⟨⟨t303, t304⟩, A600, H⟩ := H
        replace H : ((clevisref01_size.f kj43 t304 l1_1).bind fun t307 => (if t307 < 0 then (some true) else (if t307 = 0 then ((clevisref01_odd.f a2_0 l2_1).bind fun t308 => (some (!t308))) else (some false)))) = some r := H
        have A60 := A_ A600
        clear A600
        replace H := os_ H
        obtain ⟨t307, A610, H⟩ := H
        replace H : (if t307 < 0 then (some true) else (if t307 = 0 then ((clevisref01_odd.f a2_0 l2_1).bind fun t308 => (some (!t308))) else (some false))) = some r := H
        have A61 := A_ A610
        clear A610
        by_cases c62 : t307 < 0
        ·
         rw [if_pos c62] at H
         have c62b0 : decide (t307 < 0) = true := decide_eq_true c62
         clear c62
         obtain rfl := Option.some.inj H
         try go_wp2
         have n0_ := A_ (bd_ BK304.out)
         have n1_ := A_ (bd_ BK305.out)
         have n2_ := A_ (bd_ BK306.out)
         have n3_ := A_ (b1_ HB.out)
         clear BK304
         clear BK305
         clear BK306
         clear HB
         have BK304 := n0_
         have BK305 := n1_
         have BK306 := n2_
         have HB := n3_
         clear n0_ n1_ n2_ n3_
         refine start_ (n := 8) (S := fun w' => w'.cell? ⟨gb304, 0, none⟩ = some (.bool a0_0) ∧ w'.cell? ⟨gb304, 1, none⟩ = some (.slice A0_1 l0_1.length c0_1) ∧ w'.cell? ⟨gb306, 0, none⟩ = some (.bool a2_0) ∧ w'.cell? ⟨gb306, 1, none⟩ = some (.slice A2_1 l2_1.length c2_1) ∧ w'.cell? ⟨gb305, 0, none⟩ = some (.bool a1_0) ∧ w'.cell? ⟨gb305, 1, none⟩ = some (.slice A1_1 l1_1.length c1_1)) (ds := []) #[false, false, false, false, false, false, false, false] (by kernel_rfl) rfl rfl ⟨(bc_ BK304.out 0).trans rfl, (bc_ BK304.out 1).trans rfl, (bc_ BK306.out 0).trans rfl, (bc_ BK306.out 1).trans rfl, (bc_ BK305.out 0).trans rfl, (bc_ BK305.out 1).trans rfl⟩ (fun hHeld => ?_); refine with_tabW clevisref01_Rounded.tab9 clevisref01_Rounded.bits9 (fun HT_ HW_ => ?_)
         generalize wc.drew = w63 at BK304 BK305 BK306 HB hHeld ⊢
         refine take_ (i := 0) (N := some 57) (v := ?_) (a' := ?_) #[true, false, false, false, false, false, false, false] rfl rfl (take_ofW HT_.out HW_.out (by kernel_rfl)) (fun _ _ _ h => h) (Or.inl ⟨by rfl, ?_⟩) hHeld ?_ ?_
         rotate_left
         ·
          rintro w' ⟨s0, s1, s2, s3, s4, s5⟩
          go_simp
          with_reducible rfl
         rotate_left
         ·
          simp only [Act.put, sA_, sZ_, sS_, i64_w, i32_w]
          rfl
         refine take_ (i := 1) (N := some 58) (v := ?_) (a' := ?_) #[true, true, false, false, false, false, false, false] rfl rfl (take_ofW HT_.out HW_.out (by kernel_rfl)) (fun _ _ _ h => h) (Or.inl ⟨by rfl, ?_⟩) hHeld ?_ ?_
         rotate_left
         ·
          rintro w' ⟨s0, s1, s2, s3, s4, s5⟩
          go_simp
          with_reducible rfl
         rotate_left
         ·
          simp only [Act.put, sA_, sZ_, sS_, i64_w, i32_w]
          rfl
         refine take_ (i := 2) (N := some 59) (v := ?_) (a' := ?_) #[true, true, true, false, false, false, false, false] rfl rfl (take_ofW HT_.out HW_.out (by kernel_rfl)) (fun _ _ _ h => h) (Or.inl ⟨by rfl, ?_⟩) hHeld ?_ ?_
         rotate_left
         ·
          rintro w' ⟨s0, s1, s2, s3, s4, s5⟩
          go_simp
          with_reducible rfl
         rotate_left
         ·
          simp only [Act.put, sA_, sZ_, sS_, i64_w, i32_w]
          rfl
         refine join_ (σ := Value × Value × Value × Nat) 1 #[true, true, true, true, true, true, true, false] (fun s_ => [(60, .agg #[.bool t291, s_.1]), (61, .agg #[.bool t295, s_.2.1]), (62, .agg #[.bool t299, s_.2.2.1]), (11, .pointer (some ⟨s_.2.2.2, 0, none⟩))]) (fun s_ w' => (w'.cell? ⟨gb304, 0, none⟩ = some (.bool a0_0) ∧ w'.cell? ⟨gb304, 1, none⟩ = some (.slice A0_1 l0_1.length c0_1) ∧ w'.cell? ⟨gb306, 0, none⟩ = some (.bool a2_0) ∧ w'.cell? ⟨gb306, 1, none⟩ = some (.slice A2_1 l2_1.length c2_1) ∧ w'.cell? ⟨gb305, 0, none⟩ = some (.bool a1_0) ∧ w'.cell? ⟨gb305, 1, none⟩ = some (.slice A1_1 l1_1.length c1_1)) ∧ (Kd.V (Kd.int .i64) 3 w' w.heap.size (fun k_ => k_ ≠ gb304 ∧ k_ ≠ gb305 ∧ k_ ≠ gb306 ∧ k_ ≠ s_.2.2.2) s_.1 t292) ∧ (Kd.V (Kd.int .i64) 3 w' w.heap.size (fun k_ => k_ ≠ gb304 ∧ k_ ≠ gb305 ∧ k_ ≠ gb306 ∧ k_ ≠ s_.2.2.2) s_.2.1 t296) ∧ (Kd.V (Kd.int .i64) 3 w' w.heap.size (fun k_ => k_ ≠ gb304 ∧ k_ ≠ gb305 ∧ k_ ≠ gb306 ∧ k_ ≠ s_.2.2.2) s_.2.2.1 t300) ∧ (w'.heap[gb304]? = some (.cells #[.bool a0_0, .slice A0_1 l0_1.length c0_1] 32 (0, 0))) ∧ (w'.heap[gb305]? = some (.cells #[.bool a1_0, .slice A1_1 l1_1.length c1_1] 32 (0, 0))) ∧ (w'.heap[gb306]? = some (.cells #[.bool a2_0, .slice A2_1 l2_1.length c2_1] 32 (0, 0))) ∧ (w'.heap[s_.2.2.2]? = some (.cells #[.bool false, .slice none 0 0] 32 (0, 0))) ∧ (w.heap.size ≤ s_.2.2.2) ∧ (w.heap.size ≤ s_.2.2.2) ∧ (gb304 ≠ s_.2.2.2) ∧ (s_.2.2.2 ≠ gb304) ∧ (gb305 ≠ s_.2.2.2) ∧ (s_.2.2.2 ≠ gb305) ∧ (gb306 ≠ s_.2.2.2) ∧ (s_.2.2.2 ≠ gb306) ∧ (Below w.heap.size w w')) ?_ ?_
         rotate_left
         ·
          intro hCont
          refine two_ (i := 3) (j := 6) (Ni := some 60) (Nj := some 11) #[true, true, true, true, false, false, false, false] #[true, true, true, false, false, false, true, false] rfl rfl rfl rfl (two_of HT_.out (by kernel_rfl)) (by decide) (by decide) (fun K hK => ?_) (fun K hK => ?_)
          ·
           skip
           refine goes_ Try.func26 (by kernel_rfl) rfl #[.agg #[.bool a2_0, .slice A2_1 l2_1.length c2_1], .agg #[.bool a1_0, .slice A1_1 l1_1.length c1_1]] (by rfl) rfl rfl (by (try simp only [List.map_toArray, List.map_cons, List.map_nil]); first | done | rfl | (simp only [List.length_drop, List.length_take]; rfl)) ?_
           with_reducible refine (clevisref01_Mul.calls kj43 a2_0 _ _ l2_1 a1_0 _ _ l1_1 t291 t292 _ ?side1 ?side2 ?side3 ?side4 A57.out).mono ?_
           (case side1 => repeat (first | exact (cb_ HR2_1.out HB.out) | (with_reducible refine ca_ ?_ _) | (with_reducible refine cn_ ?_ _) | (with_reducible refine cd_ ?_)))
           (case side2 => exact HC2_1.out)
           (case side3 => repeat (first | exact (cb_ HR1_1.out HB.out) | (with_reducible refine ca_ ?_ _) | (with_reducible refine cn_ ?_ _) | (with_reducible refine cd_ ?_)))
           (case side4 => exact HC1_1.out)
           rintro e w64 ⟨v293, rfl, ho0, hb⟩
           refine ⟨_, rfl, ?_⟩
           have n0_ := A_ (Kd.V_lower (vm_ (ok' := fun k_ => k_ ≠ gb304 ∧ k_ ≠ gb305 ∧ k_ ≠ gb306) ho0 (fun k_ hk_ => ⟨(Kd.freshB (g := gb304) (o := .cells #[.bool a0_0, .slice A0_1 l0_1.length c0_1] 32 (0, 0)) bk_ k_ hk_), (Kd.freshB (g := gb305) (o := .cells #[.bool a1_0, .slice A1_1 l1_1.length c1_1] 32 (0, 0)) bk_ k_ hk_), (Kd.freshB (g := gb306) (o := .cells #[.bool a2_0, .slice A2_1 l2_1.length c2_1] 32 (0, 0)) bk_ k_ hk_)⟩)) (bz_ bw_))
           have n1_ := A_ (kb_ BK304 hb)
           have n2_ := A_ (kb_ BK305 hb)
           have n3_ := A_ (kb_ BK306 hb)
           have n4_ := A_ (bs_ bw_ hb)
           clear BK304
           clear BK305
           clear BK306
           clear HB
           have HO294 := n0_
           have BK304 := n1_
           have BK305 := n2_
           have BK306 := n3_
           have HB := n4_
           clear n0_ n1_ n2_ n3_ n4_
           (try clear hb)
           (try clear hb2)
           (try clear hk)
           (try clear hi)
           (try clear ho0)
           obtain ⟨Ao65, co65, eo65⟩ := Kd.V_slice HO294.out
           (first | subst eo65 | (injection eo65 with f1_ f2_ f3_; have f4_ := f1_.symm; have f5_ := f3_.symm; clear f1_ f2_ f3_; subst f4_; subst f5_))
           refine hK.out _ _ ⟨(bc_ BK304.out 0).trans rfl, (bc_ BK304.out 1).trans rfl, (bc_ BK306.out 0).trans rfl, (bc_ BK306.out 1).trans rfl, (bc_ BK305.out 0).trans rfl, (bc_ BK305.out 1).trans rfl⟩ (fun hHeld => ?_)
           clear hK K
           refine norm_ (a' := ?_) ?_ ?_
           rotate_left
           ·
            show Act.put _ (some 60) _ = _
            simp only [Act.put, sA_, sZ_, sS_, i64_w, i32_w]
            rfl
           refine two_ (i := 4) (j := 6) (Ni := some 61) (Nj := some 11) #[true, true, true, true, true, false, false, false] #[true, true, true, true, false, false, true, false] rfl rfl rfl rfl (two_of HT_.out (by kernel_rfl)) (by decide) (by decide) (fun K hK => ?_) (fun K hK => ?_)
           ·
            skip
            refine goes_ Try.func22 (by kernel_rfl) rfl #[.agg #[.bool t291, .slice Ao65 t292.length co65]] (by rfl) rfl rfl (by (try simp only [List.map_toArray, List.map_cons, List.map_nil]); first | done | rfl | (simp only [List.length_drop, List.length_take]; rfl)) ?_
            with_reducible refine (clevisref01_Neg.calls kj43 t291 (fun k_ => (k_ ≠ gb304 ∧ (k_ ≠ gb305 ∧ k_ ≠ gb306))) _ _ t292 t295 t296 _ ?side1 A58.out).mono ?_
            (case side1 => exact HO294.out)
            rintro e w66 ⟨v297, rfl, ho0, hb⟩
            refine ⟨_, rfl, ?_⟩
            have n0_ := A_ (Kd.V_below (by (with_reducible repeat (first | apply va_ | apply vn_ | apply vd_)); exact HO294.out) hb)
            have n1_ := A_ (Kd.V_lower (vm_ (ok' := fun k_ => k_ ≠ gb304 ∧ k_ ≠ gb305 ∧ k_ ≠ gb306) ho0 (fun k_ hk_ => ⟨Or.elim hk_ (fun hs_ => hs_.1) (fun hn_ => (Kd.freshB (g := gb304) (o := .cells #[.bool a0_0, .slice A0_1 l0_1.length c0_1] 32 (0, 0)) bk_ k_ hn_)), Or.elim hk_ (fun hs_ => hs_.2.1) (fun hn_ => (Kd.freshB (g := gb305) (o := .cells #[.bool a1_0, .slice A1_1 l1_1.length c1_1] 32 (0, 0)) bk_ k_ hn_)), Or.elim hk_ (fun hs_ => hs_.2.2) (fun hn_ => (Kd.freshB (g := gb306) (o := .cells #[.bool a2_0, .slice A2_1 l2_1.length c2_1] 32 (0, 0)) bk_ k_ hn_))⟩)) (bz_ bw_))
            have n2_ := A_ (kb_ BK304 hb)
            have n3_ := A_ (kb_ BK305 hb)
            have n4_ := A_ (kb_ BK306 hb)
            have n5_ := A_ (bs_ bw_ hb)
            clear HO294
            clear BK304
            clear BK305
            clear BK306
            clear HB
            have HO294 := n0_
            have HO298 := n1_
            have BK304 := n2_
            have BK305 := n3_
            have BK306 := n4_
            have HB := n5_
            clear n0_ n1_ n2_ n3_ n4_ n5_
            (try clear hb)
            (try clear hb2)
            (try clear hk)
            (try clear hi)
            (try clear ho0)
            obtain ⟨Ao67, co67, eo67⟩ := Kd.V_slice HO298.out
            (first | subst eo67 | (injection eo67 with f1_ f2_ f3_; have f4_ := f1_.symm; have f5_ := f3_.symm; clear f1_ f2_ f3_; subst f4_; subst f5_))
            refine hK.out _ _ ⟨(bc_ BK304.out 0).trans rfl, (bc_ BK304.out 1).trans rfl, (bc_ BK306.out 0).trans rfl, (bc_ BK306.out 1).trans rfl, (bc_ BK305.out 0).trans rfl, (bc_ BK305.out 1).trans rfl⟩ (fun hHeld => ?_)
            clear hK K
            refine norm_ (a' := ?_) ?_ ?_
            rotate_left
            ·
             show Act.put _ (some 61) _ = _
             simp only [Act.put, sA_, sZ_, sS_, i64_w, i32_w]
             rfl
            refine two_ (i := 5) (j := 6) (Ni := some 62) (Nj := some 11) #[true, true, true, true, true, true, false, false] #[true, true, true, true, true, false, true, false] rfl rfl rfl rfl (two_of HT_.out (by kernel_rfl)) (by decide) (by decide) (fun K hK => ?_) (fun K hK => ?_)
            ·
             skip
             refine goes_ Try.func21 (by kernel_rfl) rfl #[.agg #[.bool a0_0, .slice A0_1 l0_1.length c0_1], .agg #[.bool t295, .slice Ao67 t296.length co67]] (by rfl) rfl rfl (by (try simp only [List.map_toArray, List.map_cons, List.map_nil]); first | done | rfl | (simp only [List.length_drop, List.length_take]; rfl)) ?_
             with_reducible refine (clevisref01_Add.calls kj43 a0_0 _ _ l0_1 t295 _ _ t296 t299 t300 _ ?side1 ?side2 ?side3 ?side4 A59.out).mono ?_
             (case side1 => repeat (first | exact (cb_ HR0_1.out HB.out) | (with_reducible refine ca_ ?_ _) | (with_reducible refine cn_ ?_ _) | (with_reducible refine cd_ ?_)))
             (case side2 => exact HC0_1.out)
             (case side3 => repeat (first | exact (Kd.V_reads' HO298.out).2.2 | (with_reducible refine ca_ ?_ _) | (with_reducible refine cn_ ?_ _) | (with_reducible refine cd_ ?_)))
             (case side4 => exact (Kd.V_reads' HO298.out).2.1)
             rintro e w68 ⟨v301, rfl, ho0, hb⟩
             refine ⟨_, rfl, ?_⟩
             have n0_ := A_ (Kd.V_below (by (with_reducible repeat (first | apply va_ | apply vn_ | apply vd_)); exact HO294.out) hb)
             have n1_ := A_ (Kd.V_below (by (with_reducible repeat (first | apply va_ | apply vn_ | apply vd_)); exact HO298.out) hb)
             have n2_ := A_ (Kd.V_lower (vm_ (ok' := fun k_ => k_ ≠ gb304 ∧ k_ ≠ gb305 ∧ k_ ≠ gb306) ho0 (fun k_ hk_ => ⟨(Kd.freshB (g := gb304) (o := .cells #[.bool a0_0, .slice A0_1 l0_1.length c0_1] 32 (0, 0)) bk_ k_ hk_), (Kd.freshB (g := gb305) (o := .cells #[.bool a1_0, .slice A1_1 l1_1.length c1_1] 32 (0, 0)) bk_ k_ hk_), (Kd.freshB (g := gb306) (o := .cells #[.bool a2_0, .slice A2_1 l2_1.length c2_1] 32 (0, 0)) bk_ k_ hk_)⟩)) (bz_ bw_))
             have n3_ := A_ (kb_ BK304 hb)
             have n4_ := A_ (kb_ BK305 hb)
             have n5_ := A_ (kb_ BK306 hb)
             have n6_ := A_ (bs_ bw_ hb)
             clear HO294
             clear HO298
             clear BK304
             clear BK305
             clear BK306
             clear HB
             have HO294 := n0_
             have HO298 := n1_
             have HO302 := n2_
             have BK304 := n3_
             have BK305 := n4_
             have BK306 := n5_
             have HB := n6_
             clear n0_ n1_ n2_ n3_ n4_ n5_ n6_
             (try clear hb)
             (try clear hb2)
             (try clear hk)
             (try clear hi)
             (try clear ho0)
             refine hK.out _ _ ⟨(bc_ BK304.out 0).trans rfl, (bc_ BK304.out 1).trans rfl, (bc_ BK306.out 0).trans rfl, (bc_ BK306.out 1).trans rfl, (bc_ BK305.out 0).trans rfl, (bc_ BK305.out 1).trans rfl⟩ (fun hHeld => ?_)
             clear hK K
             refine norm_ (a' := ?_) ?_ ?_
             rotate_left
             ·
              show Act.put _ (some 62) _ = _
              simp only [Act.put, sA_, sZ_, sS_, i64_w, i32_w]
              rfl
             refine one_ (i := 6) (N := some 11) #[true, true, true, true, true, true, true, false] rfl rfl (one_of HT_.out (by kernel_rfl)) (by decide) (fun K hK => ?_)
             refine box_step ?hg (N := 11) ?hd (cs := #[.bool false, .slice none 0 0]) (t := 32) ?hr ?_; (case hd => rfl); (case hg => rfl); (case hr => first | (go_simp; done) | (go_simp; rfl))
             intro gb311 hg w69 hbox hb
             have n0_ := A_ (Kd.V_below (Kd.V_elderB (by (with_reducible repeat (first | apply va_ | apply vn_ | apply vd_)); exact HO294.out) gb311 (Nat.le_of_eq hg.symm)) hb)
             have n1_ := A_ (Kd.V_below (Kd.V_elderB (by (with_reducible repeat (first | apply va_ | apply vn_ | apply vd_)); exact HO298.out) gb311 (Nat.le_of_eq hg.symm)) hb)
             have n2_ := A_ (Kd.V_below (Kd.V_elderB (by (with_reducible repeat (first | apply va_ | apply vn_ | apply vd_)); exact HO302.out) gb311 (Nat.le_of_eq hg.symm)) hb)
             have n3_ := A_ (kb_ BK304 hb)
             have n4_ := A_ (kb_ BK305 hb)
             have n5_ := A_ (kb_ BK306 hb)
             have n6_ := A_ (bs_ bw_ hb)
             have n7_ := A_ (hbox)
             have n8_ := A_ ((by rw [hg]; exact (bz_ bw_) : w.heap.size ≤ gb311))
             have n9_ := A_ ((by rw [hg]; exact (bz_ bw_) : w.heap.size ≤ gb311))
             have n10_ := A_ ((by rw [hg]; exact nl_ (lt_ BK304) : gb304 ≠ gb311))
             have n11_ := A_ ((by rw [hg]; exact ng_ (lt_ BK304) : gb311 ≠ gb304))
             have n12_ := A_ ((by rw [hg]; exact nl_ (lt_ BK305) : gb305 ≠ gb311))
             have n13_ := A_ ((by rw [hg]; exact ng_ (lt_ BK305) : gb311 ≠ gb305))
             have n14_ := A_ ((by rw [hg]; exact nl_ (lt_ BK306) : gb306 ≠ gb311))
             have n15_ := A_ ((by rw [hg]; exact ng_ (lt_ BK306) : gb311 ≠ gb306))
             clear HO294
             clear HO298
             clear HO302
             clear BK304
             clear BK305
             clear BK306
             clear HB
             have HO294 := n0_
             have HO298 := n1_
             have HO302 := n2_
             have BK304 := n3_
             have BK305 := n4_
             have BK306 := n5_
             have HB := n6_
             have BK311 := n7_
             have GW311 := n8_
             have GE311 := n9_
             have NB304_311 := n10_
             have NB311_304 := n11_
             have NB305_311 := n12_
             have NB311_305 := n13_
             have NB306_311 := n14_
             have NB311_306 := n15_
             clear n0_ n1_ n2_ n3_ n4_ n5_ n6_ n7_ n8_ n9_ n10_ n11_ n12_ n13_ n14_ n15_
             clear hb hbox hg
             refine hK.out _ _ ⟨(bc_ BK304.out 0).trans rfl, (bc_ BK304.out 1).trans rfl, (bc_ BK306.out 0).trans rfl, (bc_ BK306.out 1).trans rfl, (bc_ BK305.out 0).trans rfl, (bc_ BK305.out 1).trans rfl⟩ (fun hHeld => ?_)
             clear hK K
             refine norm_ (a' := ?_) ?_ ?_
             rotate_left
             ·
              show Act.put _ (some 11) _ = _
              simp only [Act.put, sA_, sZ_, sS_, i64_w, i32_w]
              rfl
             exact norm_ (by simp only [putAll, Act.put, sA_, sZ_, sS_]) (hCont (.slice Ao65 t292.length co65, .slice Ao67 t296.length co67, v301, gb311) _ ⟨hHeld, (by (with_reducible repeat (first | apply va_ | apply vn_ | apply vd_)); exact vm_ HO294.out (fun _ hk => ⟨hk.1.1, ⟨hk.1.2.1, ⟨hk.1.2.2, hk.2⟩⟩⟩)), (by (with_reducible repeat (first | apply va_ | apply vn_ | apply vd_)); exact vm_ HO298.out (fun _ hk => ⟨hk.1.1, ⟨hk.1.2.1, ⟨hk.1.2.2, hk.2⟩⟩⟩)), (by (with_reducible repeat (first | apply va_ | apply vn_ | apply vd_)); exact vm_ HO302.out (fun _ hk => ⟨hk.1.1, ⟨hk.1.2.1, ⟨hk.1.2.2, hk.2⟩⟩⟩)), bk_, bk_, bk_, bk_, GW311.out, GE311.out, NB304_311.out, NB311_304.out, NB305_311.out, NB311_305.out, NB306_311.out, NB311_306.out, bw_⟩)
            ·
             skip
             refine box_step ?hg (N := 11) ?hd (cs := #[.bool false, .slice none 0 0]) (t := 32) ?hr ?_; (case hd => rfl); (case hg => rfl); (case hr => first | (go_simp; done) | (go_simp; rfl))
             intro gb311 hg w67 hbox hb
             have n0_ := A_ (Kd.V_below (Kd.V_elderB (by (with_reducible repeat (first | apply va_ | apply vn_ | apply vd_)); exact HO294.out) gb311 (Nat.le_of_eq hg.symm)) hb)
             have n1_ := A_ (Kd.V_below (Kd.V_elderB (by (with_reducible repeat (first | apply va_ | apply vn_ | apply vd_)); exact HO298.out) gb311 (Nat.le_of_eq hg.symm)) hb)
             have n2_ := A_ (kb_ BK304 hb)
             have n3_ := A_ (kb_ BK305 hb)
             have n4_ := A_ (kb_ BK306 hb)
             have n5_ := A_ (bs_ bw_ hb)
             have n6_ := A_ (hbox)
             have n7_ := A_ ((by rw [hg]; exact (bz_ bw_) : w.heap.size ≤ gb311))
             have n8_ := A_ ((by rw [hg]; exact (bz_ bw_) : w.heap.size ≤ gb311))
             have n9_ := A_ ((by rw [hg]; exact nl_ (lt_ BK304) : gb304 ≠ gb311))
             have n10_ := A_ ((by rw [hg]; exact ng_ (lt_ BK304) : gb311 ≠ gb304))
             have n11_ := A_ ((by rw [hg]; exact nl_ (lt_ BK305) : gb305 ≠ gb311))
             have n12_ := A_ ((by rw [hg]; exact ng_ (lt_ BK305) : gb311 ≠ gb305))
             have n13_ := A_ ((by rw [hg]; exact nl_ (lt_ BK306) : gb306 ≠ gb311))
             have n14_ := A_ ((by rw [hg]; exact ng_ (lt_ BK306) : gb311 ≠ gb306))
             clear HO294
             clear HO298
             clear BK304
             clear BK305
             clear BK306
             clear HB
             have HO294 := n0_
             have HO298 := n1_
             have BK304 := n2_
             have BK305 := n3_
             have BK306 := n4_
             have HB := n5_
             have BK311 := n6_
             have GW311 := n7_
             have GE311 := n8_
             have NB304_311 := n9_
             have NB311_304 := n10_
             have NB305_311 := n11_
             have NB311_305 := n12_
             have NB306_311 := n13_
             have NB311_306 := n14_
             clear n0_ n1_ n2_ n3_ n4_ n5_ n6_ n7_ n8_ n9_ n10_ n11_ n12_ n13_ n14_
             clear hb hbox hg
             obtain ⟨Ao68, co68, eo68⟩ := Kd.V_slice HO298.out
             (first | subst eo68 | (injection eo68 with f1_ f2_ f3_; have f4_ := f1_.symm; have f5_ := f3_.symm; clear f1_ f2_ f3_; subst f4_; subst f5_))
             refine hK.out _ _ ⟨(bc_ BK304.out 0).trans rfl, (bc_ BK304.out 1).trans rfl, (bc_ BK306.out 0).trans rfl, (bc_ BK306.out 1).trans rfl, (bc_ BK305.out 0).trans rfl, (bc_ BK305.out 1).trans rfl⟩ (fun hHeld => ?_)
             clear hK K
             refine norm_ (a' := ?_) ?_ ?_
             rotate_left
             ·
              show Act.put _ (some 11) _ = _
              simp only [Act.put, sA_, sZ_, sS_, i64_w, i32_w]
              rfl
             refine one_ (i := 5) (N := some 62) #[true, true, true, true, true, true, true, false] rfl rfl (one_of HT_.out (by kernel_rfl)) (by decide) (fun K hK => ?_)
             refine goes_ Try.func21 (by kernel_rfl) rfl #[.agg #[.bool a0_0, .slice A0_1 l0_1.length c0_1], .agg #[.bool t295, .slice Ao68 t296.length co68]] (by rfl) rfl rfl (by (try simp only [List.map_toArray, List.map_cons, List.map_nil]); first | done | rfl | (simp only [List.length_drop, List.length_take]; rfl)) ?_
             with_reducible refine (clevisref01_Add.calls kj43 a0_0 _ _ l0_1 t295 _ _ t296 t299 t300 _ ?side1 ?side2 ?side3 ?side4 A59.out).mono ?_
             (case side1 => repeat (first | exact (cb_ HR0_1.out HB.out) | (with_reducible refine ca_ ?_ _) | (with_reducible refine cn_ ?_ _) | (with_reducible refine cd_ ?_)))
             (case side2 => exact HC0_1.out)
             (case side3 => repeat (first | exact (Kd.V_reads' HO298.out).2.2 | (with_reducible refine ca_ ?_ _) | (with_reducible refine cn_ ?_ _) | (with_reducible refine cd_ ?_)))
             (case side4 => exact (Kd.V_reads' HO298.out).2.1)
             rintro e w69 ⟨v301, rfl, ho0, hb⟩
             refine ⟨_, rfl, ?_⟩
             have n0_ := A_ (Kd.V_below (by (with_reducible repeat (first | apply va_ | apply vn_ | apply vd_)); exact HO294.out) hb)
             have n1_ := A_ (Kd.V_below (by (with_reducible repeat (first | apply va_ | apply vn_ | apply vd_)); exact HO298.out) hb)
             have n2_ := A_ (Kd.V_lower (vm_ (ok' := fun k_ => k_ ≠ gb304 ∧ k_ ≠ gb305 ∧ k_ ≠ gb306 ∧ k_ ≠ gb311) ho0 (fun k_ hk_ => ⟨(Kd.freshB (g := gb304) (o := .cells #[.bool a0_0, .slice A0_1 l0_1.length c0_1] 32 (0, 0)) bk_ k_ hk_), (Kd.freshB (g := gb305) (o := .cells #[.bool a1_0, .slice A1_1 l1_1.length c1_1] 32 (0, 0)) bk_ k_ hk_), (Kd.freshB (g := gb306) (o := .cells #[.bool a2_0, .slice A2_1 l2_1.length c2_1] 32 (0, 0)) bk_ k_ hk_), (Kd.freshB (g := gb311) (o := .cells #[.bool false, .slice none 0 0] 32 (0, 0)) bk_ k_ hk_)⟩)) (bz_ bw_))
             have n3_ := A_ (kb_ BK304 hb)
             have n4_ := A_ (kb_ BK305 hb)
             have n5_ := A_ (kb_ BK306 hb)
             have n6_ := A_ (kb_ BK311 hb)
             have n7_ := A_ (bs_ bw_ hb)
             clear HO294
             clear HO298
             clear BK304
             clear BK305
             clear BK306
             clear BK311
             clear HB
             have HO294 := n0_
             have HO298 := n1_
             have HO302 := n2_
             have BK304 := n3_
             have BK305 := n4_
             have BK306 := n5_
             have BK311 := n6_
             have HB := n7_
             clear n0_ n1_ n2_ n3_ n4_ n5_ n6_ n7_
             (try clear hb)
             (try clear hb2)
             (try clear hk)
             (try clear hi)
             (try clear ho0)
             refine hK.out _ _ ⟨(bc_ BK304.out 0).trans rfl, (bc_ BK304.out 1).trans rfl, (bc_ BK306.out 0).trans rfl, (bc_ BK306.out 1).trans rfl, (bc_ BK305.out 0).trans rfl, (bc_ BK305.out 1).trans rfl⟩ (fun hHeld => ?_)
             clear hK K
             refine norm_ (a' := ?_) ?_ ?_
             rotate_left
             ·
              show Act.put _ (some 62) _ = _
              simp only [Act.put, sA_, sZ_, sS_, i64_w, i32_w]
              rfl
             exact norm_ (by simp only [putAll, Act.put, sA_, sZ_, sS_]) (hCont (.slice Ao65 t292.length co65, .slice Ao68 t296.length co68, v301, gb311) _ ⟨hHeld, (by (with_reducible repeat (first | apply va_ | apply vn_ | apply vd_)); exact vm_ HO294.out (fun _ hk => ⟨hk.1.1, ⟨hk.1.2.1, ⟨hk.1.2.2, hk.2⟩⟩⟩)), (by (with_reducible repeat (first | apply va_ | apply vn_ | apply vd_)); exact vm_ HO298.out (fun _ hk => ⟨hk.1.1, ⟨hk.1.2.1, ⟨hk.1.2.2, hk.2⟩⟩⟩)), (by (with_reducible repeat (first | apply va_ | apply vn_ | apply vd_)); exact HO302.out), bk_, bk_, bk_, bk_, GW311.out, GE311.out, NB304_311.out, NB311_304.out, NB305_311.out, NB311_305.out, NB306_311.out, NB311_306.out, bw_⟩)
           ·
            skip
            refine box_step ?hg (N := 11) ?hd (cs := #[.bool false, .slice none 0 0]) (t := 32) ?hr ?_; (case hd => rfl); (case hg => rfl); (case hr => first | (go_simp; done) | (go_simp; rfl))
            intro gb311 hg w65 hbox hb
            have n0_ := A_ (Kd.V_below (Kd.V_elderB (by (with_reducible repeat (first | apply va_ | apply vn_ | apply vd_)); exact HO294.out) gb311 (Nat.le_of_eq hg.symm)) hb)
            have n1_ := A_ (kb_ BK304 hb)
            have n2_ := A_ (kb_ BK305 hb)
            have n3_ := A_ (kb_ BK306 hb)
            have n4_ := A_ (bs_ bw_ hb)
            have n5_ := A_ (hbox)
            have n6_ := A_ ((by rw [hg]; exact (bz_ bw_) : w.heap.size ≤ gb311))
            have n7_ := A_ ((by rw [hg]; exact (bz_ bw_) : w.heap.size ≤ gb311))
            have n8_ := A_ ((by rw [hg]; exact nl_ (lt_ BK304) : gb304 ≠ gb311))
            have n9_ := A_ ((by rw [hg]; exact ng_ (lt_ BK304) : gb311 ≠ gb304))
            have n10_ := A_ ((by rw [hg]; exact nl_ (lt_ BK305) : gb305 ≠ gb311))
            have n11_ := A_ ((by rw [hg]; exact ng_ (lt_ BK305) : gb311 ≠ gb305))
            have n12_ := A_ ((by rw [hg]; exact nl_ (lt_ BK306) : gb306 ≠ gb311))
            have n13_ := A_ ((by rw [hg]; exact ng_ (lt_ BK306) : gb311 ≠ gb306))
            clear HO294
            clear BK304
            clear BK305
            clear BK306
            clear HB
            have HO294 := n0_
            have BK304 := n1_
            have BK305 := n2_
            have BK306 := n3_
            have HB := n4_
            have BK311 := n5_
            have GW311 := n6_
            have GE311 := n7_
            have NB304_311 := n8_
            have NB311_304 := n9_
            have NB305_311 := n10_
            have NB311_305 := n11_
            have NB306_311 := n12_
            have NB311_306 := n13_
            clear n0_ n1_ n2_ n3_ n4_ n5_ n6_ n7_ n8_ n9_ n10_ n11_ n12_ n13_
            clear hb hbox hg
            obtain ⟨Ao66, co66, eo66⟩ := Kd.V_slice HO294.out
            (first | subst eo66 | (injection eo66 with f1_ f2_ f3_; have f4_ := f1_.symm; have f5_ := f3_.symm; clear f1_ f2_ f3_; subst f4_; subst f5_))
            refine hK.out _ _ ⟨(bc_ BK304.out 0).trans rfl, (bc_ BK304.out 1).trans rfl, (bc_ BK306.out 0).trans rfl, (bc_ BK306.out 1).trans rfl, (bc_ BK305.out 0).trans rfl, (bc_ BK305.out 1).trans rfl⟩ (fun hHeld => ?_)
            clear hK K
            refine norm_ (a' := ?_) ?_ ?_
            rotate_left
            ·
             show Act.put _ (some 11) _ = _
             simp only [Act.put, sA_, sZ_, sS_, i64_w, i32_w]
             rfl
            refine one_ (i := 4) (N := some 61) #[true, true, true, true, true, false, true, false] rfl rfl (one_of HT_.out (by kernel_rfl)) (by decide) (fun K hK => ?_)
            refine goes_ Try.func22 (by kernel_rfl) rfl #[.agg #[.bool t291, .slice Ao66 t292.length co66]] (by rfl) rfl rfl (by (try simp only [List.map_toArray, List.map_cons, List.map_nil]); first | done | rfl | (simp only [List.length_drop, List.length_take]; rfl)) ?_
            with_reducible refine (clevisref01_Neg.calls kj43 t291 (fun k_ => ((k_ ≠ gb304 ∧ (k_ ≠ gb305 ∧ k_ ≠ gb306)) ∧ k_ ≠ gb311)) _ _ t292 t295 t296 _ ?side1 A58.out).mono ?_
            (case side1 => exact HO294.out)
            rintro e w67 ⟨v297, rfl, ho0, hb⟩
            refine ⟨_, rfl, ?_⟩
            have n0_ := A_ (Kd.V_below (by (with_reducible repeat (first | apply va_ | apply vn_ | apply vd_)); exact HO294.out) hb)
            have n1_ := A_ (Kd.V_lower (vm_ (ok' := fun k_ => k_ ≠ gb304 ∧ k_ ≠ gb305 ∧ k_ ≠ gb306 ∧ k_ ≠ gb311) ho0 (fun k_ hk_ => ⟨Or.elim hk_ (fun hs_ => hs_.1.1) (fun hn_ => (Kd.freshB (g := gb304) (o := .cells #[.bool a0_0, .slice A0_1 l0_1.length c0_1] 32 (0, 0)) bk_ k_ hn_)), Or.elim hk_ (fun hs_ => hs_.1.2.1) (fun hn_ => (Kd.freshB (g := gb305) (o := .cells #[.bool a1_0, .slice A1_1 l1_1.length c1_1] 32 (0, 0)) bk_ k_ hn_)), Or.elim hk_ (fun hs_ => hs_.1.2.2) (fun hn_ => (Kd.freshB (g := gb306) (o := .cells #[.bool a2_0, .slice A2_1 l2_1.length c2_1] 32 (0, 0)) bk_ k_ hn_)), Or.elim hk_ (fun hs_ => hs_.2) (fun hn_ => (Kd.freshB (g := gb311) (o := .cells #[.bool false, .slice none 0 0] 32 (0, 0)) bk_ k_ hn_))⟩)) (bz_ bw_))
            have n2_ := A_ (kb_ BK304 hb)
            have n3_ := A_ (kb_ BK305 hb)
            have n4_ := A_ (kb_ BK306 hb)
            have n5_ := A_ (kb_ BK311 hb)
            have n6_ := A_ (bs_ bw_ hb)
            clear HO294
            clear BK304
            clear BK305
            clear BK306
            clear BK311
            clear HB
            have HO294 := n0_
            have HO298 := n1_
            have BK304 := n2_
            have BK305 := n3_
            have BK306 := n4_
            have BK311 := n5_
            have HB := n6_
            clear n0_ n1_ n2_ n3_ n4_ n5_ n6_
            (try clear hb)
            (try clear hb2)
            (try clear hk)
            (try clear hi)
            (try clear ho0)
            obtain ⟨Ao68, co68, eo68⟩ := Kd.V_slice HO298.out
            (first | subst eo68 | (injection eo68 with f1_ f2_ f3_; have f4_ := f1_.symm; have f5_ := f3_.symm; clear f1_ f2_ f3_; subst f4_; subst f5_))
            refine hK.out _ _ ⟨(bc_ BK304.out 0).trans rfl, (bc_ BK304.out 1).trans rfl, (bc_ BK306.out 0).trans rfl, (bc_ BK306.out 1).trans rfl, (bc_ BK305.out 0).trans rfl, (bc_ BK305.out 1).trans rfl⟩ (fun hHeld => ?_)
            clear hK K
            refine norm_ (a' := ?_) ?_ ?_
            rotate_left
            ·
             show Act.put _ (some 61) _ = _
             simp only [Act.put, sA_, sZ_, sS_, i64_w, i32_w]
             rfl
            refine one_ (i := 5) (N := some 62) #[true, true, true, true, true, true, true, false] rfl rfl (one_of HT_.out (by kernel_rfl)) (by decide) (fun K hK => ?_)
            refine goes_ Try.func21 (by kernel_rfl) rfl #[.agg #[.bool a0_0, .slice A0_1 l0_1.length c0_1], .agg #[.bool t295, .slice Ao68 t296.length co68]] (by rfl) rfl rfl (by (try simp only [List.map_toArray, List.map_cons, List.map_nil]); first | done | rfl | (simp only [List.length_drop, List.length_take]; rfl)) ?_
            with_reducible refine (clevisref01_Add.calls kj43 a0_0 _ _ l0_1 t295 _ _ t296 t299 t300 _ ?side1 ?side2 ?side3 ?side4 A59.out).mono ?_
            (case side1 => repeat (first | exact (cb_ HR0_1.out HB.out) | (with_reducible refine ca_ ?_ _) | (with_reducible refine cn_ ?_ _) | (with_reducible refine cd_ ?_)))
            (case side2 => exact HC0_1.out)
            (case side3 => repeat (first | exact (Kd.V_reads' HO298.out).2.2 | (with_reducible refine ca_ ?_ _) | (with_reducible refine cn_ ?_ _) | (with_reducible refine cd_ ?_)))
            (case side4 => exact (Kd.V_reads' HO298.out).2.1)
            rintro e w69 ⟨v301, rfl, ho0, hb⟩
            refine ⟨_, rfl, ?_⟩
            have n0_ := A_ (Kd.V_below (by (with_reducible repeat (first | apply va_ | apply vn_ | apply vd_)); exact HO294.out) hb)
            have n1_ := A_ (Kd.V_below (by (with_reducible repeat (first | apply va_ | apply vn_ | apply vd_)); exact HO298.out) hb)
            have n2_ := A_ (Kd.V_lower (vm_ (ok' := fun k_ => k_ ≠ gb304 ∧ k_ ≠ gb305 ∧ k_ ≠ gb306 ∧ k_ ≠ gb311) ho0 (fun k_ hk_ => ⟨(Kd.freshB (g := gb304) (o := .cells #[.bool a0_0, .slice A0_1 l0_1.length c0_1] 32 (0, 0)) bk_ k_ hk_), (Kd.freshB (g := gb305) (o := .cells #[.bool a1_0, .slice A1_1 l1_1.length c1_1] 32 (0, 0)) bk_ k_ hk_), (Kd.freshB (g := gb306) (o := .cells #[.bool a2_0, .slice A2_1 l2_1.length c2_1] 32 (0, 0)) bk_ k_ hk_), (Kd.freshB (g := gb311) (o := .cells #[.bool false, .slice none 0 0] 32 (0, 0)) bk_ k_ hk_)⟩)) (bz_ bw_))
            have n3_ := A_ (kb_ BK304 hb)
            have n4_ := A_ (kb_ BK305 hb)
            have n5_ := A_ (kb_ BK306 hb)
            have n6_ := A_ (kb_ BK311 hb)
            have n7_ := A_ (bs_ bw_ hb)
            clear HO294
            clear HO298
            clear BK304
            clear BK305
            clear BK306
            clear BK311
            clear HB
            have HO294 := n0_
            have HO298 := n1_
            have HO302 := n2_
            have BK304 := n3_
            have BK305 := n4_
            have BK306 := n5_
            have BK311 := n6_
            have HB := n7_
            clear n0_ n1_ n2_ n3_ n4_ n5_ n6_ n7_
            (try clear hb)
            (try clear hb2)
            (try clear hk)
            (try clear hi)
            (try clear ho0)
            refine hK.out _ _ ⟨(bc_ BK304.out 0).trans rfl, (bc_ BK304.out 1).trans rfl, (bc_ BK306.out 0).trans rfl, (bc_ BK306.out 1).trans rfl, (bc_ BK305.out 0).trans rfl, (bc_ BK305.out 1).trans rfl⟩ (fun hHeld => ?_)
            clear hK K
            refine norm_ (a' := ?_) ?_ ?_
            rotate_left
            ·
             show Act.put _ (some 62) _ = _
             simp only [Act.put, sA_, sZ_, sS_, i64_w, i32_w]
             rfl
            exact norm_ (by simp only [putAll, Act.put, sA_, sZ_, sS_]) (hCont (.slice Ao66 t292.length co66, .slice Ao68 t296.length co68, v301, gb311) _ ⟨hHeld, (by (with_reducible repeat (first | apply va_ | apply vn_ | apply vd_)); exact vm_ HO294.out (fun _ hk => ⟨hk.1.1, ⟨hk.1.2.1, ⟨hk.1.2.2, hk.2⟩⟩⟩)), (by (with_reducible repeat (first | apply va_ | apply vn_ | apply vd_)); exact HO298.out), (by (with_reducible repeat (first | apply va_ | apply vn_ | apply vd_)); exact HO302.out), bk_, bk_, bk_, bk_, GW311.out, GE311.out, NB304_311.out, NB311_304.out, NB305_311.out, NB311_305.out, NB306_311.out, NB311_306.out, bw_⟩)
          ·
           skip
           refine box_step ?hg (N := 11) ?hd (cs := #[.bool false, .slice none 0 0]) (t := 32) ?hr ?_; (case hd => rfl); (case hg => rfl); (case hr => first | (go_simp; done) | (go_simp; rfl))
           intro gb311 hg w64 hbox hb
           have n0_ := A_ (kb_ BK304 hb)
           have n1_ := A_ (kb_ BK305 hb)
           have n2_ := A_ (kb_ BK306 hb)
           have n3_ := A_ (bs_ bw_ hb)
           have n4_ := A_ (hbox)
           have n5_ := A_ ((by rw [hg]; exact (bz_ bw_) : w.heap.size ≤ gb311))
           have n6_ := A_ ((by rw [hg]; exact (bz_ bw_) : w.heap.size ≤ gb311))
           have n7_ := A_ ((by rw [hg]; exact nl_ (lt_ BK304) : gb304 ≠ gb311))
           have n8_ := A_ ((by rw [hg]; exact ng_ (lt_ BK304) : gb311 ≠ gb304))
           have n9_ := A_ ((by rw [hg]; exact nl_ (lt_ BK305) : gb305 ≠ gb311))
           have n10_ := A_ ((by rw [hg]; exact ng_ (lt_ BK305) : gb311 ≠ gb305))
           have n11_ := A_ ((by rw [hg]; exact nl_ (lt_ BK306) : gb306 ≠ gb311))
           have n12_ := A_ ((by rw [hg]; exact ng_ (lt_ BK306) : gb311 ≠ gb306))
           clear BK304
           clear BK305
           clear BK306
           clear HB
           have BK304 := n0_
           have BK305 := n1_
           have BK306 := n2_
           have HB := n3_
           have BK311 := n4_
           have GW311 := n5_
           have GE311 := n6_
           have NB304_311 := n7_
           have NB311_304 := n8_
           have NB305_311 := n9_
           have NB311_305 := n10_
           have NB306_311 := n11_
           have NB311_306 := n12_
           clear n0_ n1_ n2_ n3_ n4_ n5_ n6_ n7_ n8_ n9_ n10_ n11_ n12_
           clear hb hbox hg
           refine hK.out _ _ ⟨(bc_ BK304.out 0).trans rfl, (bc_ BK304.out 1).trans rfl, (bc_ BK306.out 0).trans rfl, (bc_ BK306.out 1).trans rfl, (bc_ BK305.out 0).trans rfl, (bc_ BK305.out 1).trans rfl⟩ (fun hHeld => ?_)
           clear hK K
           refine norm_ (a' := ?_) ?_ ?_
           rotate_left
           ·
            show Act.put _ (some 11) _ = _
            simp only [Act.put, sA_, sZ_, sS_, i64_w, i32_w]
            rfl
           refine one_ (i := 3) (N := some 60) #[true, true, true, true, false, false, true, false] rfl rfl (one_of HT_.out (by kernel_rfl)) (by decide) (fun K hK => ?_)
           refine goes_ Try.func26 (by kernel_rfl) rfl #[.agg #[.bool a2_0, .slice A2_1 l2_1.length c2_1], .agg #[.bool a1_0, .slice A1_1 l1_1.length c1_1]] (by rfl) rfl rfl (by (try simp only [List.map_toArray, List.map_cons, List.map_nil]); first | done | rfl | (simp only [List.length_drop, List.length_take]; rfl)) ?_
           with_reducible refine (clevisref01_Mul.calls kj43 a2_0 _ _ l2_1 a1_0 _ _ l1_1 t291 t292 _ ?side1 ?side2 ?side3 ?side4 A57.out).mono ?_
           (case side1 => repeat (first | exact (cb_ HR2_1.out HB.out) | (with_reducible refine ca_ ?_ _) | (with_reducible refine cn_ ?_ _) | (with_reducible refine cd_ ?_)))
           (case side2 => exact HC2_1.out)
           (case side3 => repeat (first | exact (cb_ HR1_1.out HB.out) | (with_reducible refine ca_ ?_ _) | (with_reducible refine cn_ ?_ _) | (with_reducible refine cd_ ?_)))
           (case side4 => exact HC1_1.out)
           rintro e w65 ⟨v293, rfl, ho0, hb⟩
           refine ⟨_, rfl, ?_⟩
           have n0_ := A_ (Kd.V_lower (vm_ (ok' := fun k_ => k_ ≠ gb304 ∧ k_ ≠ gb305 ∧ k_ ≠ gb306 ∧ k_ ≠ gb311) ho0 (fun k_ hk_ => ⟨(Kd.freshB (g := gb304) (o := .cells #[.bool a0_0, .slice A0_1 l0_1.length c0_1] 32 (0, 0)) bk_ k_ hk_), (Kd.freshB (g := gb305) (o := .cells #[.bool a1_0, .slice A1_1 l1_1.length c1_1] 32 (0, 0)) bk_ k_ hk_), (Kd.freshB (g := gb306) (o := .cells #[.bool a2_0, .slice A2_1 l2_1.length c2_1] 32 (0, 0)) bk_ k_ hk_), (Kd.freshB (g := gb311) (o := .cells #[.bool false, .slice none 0 0] 32 (0, 0)) bk_ k_ hk_)⟩)) (bz_ bw_))
           have n1_ := A_ (kb_ BK304 hb)
           have n2_ := A_ (kb_ BK305 hb)
           have n3_ := A_ (kb_ BK306 hb)
           have n4_ := A_ (kb_ BK311 hb)
           have n5_ := A_ (bs_ bw_ hb)
           clear BK304
           clear BK305
           clear BK306
           clear BK311
           clear HB
           have HO294 := n0_
           have BK304 := n1_
           have BK305 := n2_
           have BK306 := n3_
           have BK311 := n4_
           have HB := n5_
           clear n0_ n1_ n2_ n3_ n4_ n5_
           (try clear hb)
           (try clear hb2)
           (try clear hk)
           (try clear hi)
           (try clear ho0)
           obtain ⟨Ao66, co66, eo66⟩ := Kd.V_slice HO294.out
           (first | subst eo66 | (injection eo66 with f1_ f2_ f3_; have f4_ := f1_.symm; have f5_ := f3_.symm; clear f1_ f2_ f3_; subst f4_; subst f5_))
           refine hK.out _ _ ⟨(bc_ BK304.out 0).trans rfl, (bc_ BK304.out 1).trans rfl, (bc_ BK306.out 0).trans rfl, (bc_ BK306.out 1).trans rfl, (bc_ BK305.out 0).trans rfl, (bc_ BK305.out 1).trans rfl⟩ (fun hHeld => ?_)
           clear hK K
           refine norm_ (a' := ?_) ?_ ?_
           rotate_left
           ·
            show Act.put _ (some 60) _ = _
            simp only [Act.put, sA_, sZ_, sS_, i64_w, i32_w]
            rfl
           refine one_ (i := 4) (N := some 61) #[true, true, true, true, true, false, true, false] rfl rfl (one_of HT_.out (by kernel_rfl)) (by decide) (fun K hK => ?_)
           refine goes_ Try.func22 (by kernel_rfl) rfl #[.agg #[.bool t291, .slice Ao66 t292.length co66]] (by rfl) rfl rfl (by (try simp only [List.map_toArray, List.map_cons, List.map_nil]); first | done | rfl | (simp only [List.length_drop, List.length_take]; rfl)) ?_
           with_reducible refine (clevisref01_Neg.calls kj43 t291 (fun k_ => (k_ ≠ gb304 ∧ (k_ ≠ gb305 ∧ (k_ ≠ gb306 ∧ k_ ≠ gb311)))) _ _ t292 t295 t296 _ ?side1 A58.out).mono ?_
           (case side1 => exact HO294.out)
           rintro e w67 ⟨v297, rfl, ho0, hb⟩
           refine ⟨_, rfl, ?_⟩
           have n0_ := A_ (Kd.V_below (by (with_reducible repeat (first | apply va_ | apply vn_ | apply vd_)); exact HO294.out) hb)
           have n1_ := A_ (Kd.V_lower (vm_ (ok' := fun k_ => k_ ≠ gb304 ∧ k_ ≠ gb305 ∧ k_ ≠ gb306 ∧ k_ ≠ gb311) ho0 (fun k_ hk_ => ⟨Or.elim hk_ (fun hs_ => hs_.1) (fun hn_ => (Kd.freshB (g := gb304) (o := .cells #[.bool a0_0, .slice A0_1 l0_1.length c0_1] 32 (0, 0)) bk_ k_ hn_)), Or.elim hk_ (fun hs_ => hs_.2.1) (fun hn_ => (Kd.freshB (g := gb305) (o := .cells #[.bool a1_0, .slice A1_1 l1_1.length c1_1] 32 (0, 0)) bk_ k_ hn_)), Or.elim hk_ (fun hs_ => hs_.2.2.1) (fun hn_ => (Kd.freshB (g := gb306) (o := .cells #[.bool a2_0, .slice A2_1 l2_1.length c2_1] 32 (0, 0)) bk_ k_ hn_)), Or.elim hk_ (fun hs_ => hs_.2.2.2) (fun hn_ => (Kd.freshB (g := gb311) (o := .cells #[.bool false, .slice none 0 0] 32 (0, 0)) bk_ k_ hn_))⟩)) (bz_ bw_))
           have n2_ := A_ (kb_ BK304 hb)
           have n3_ := A_ (kb_ BK305 hb)
           have n4_ := A_ (kb_ BK306 hb)
           have n5_ := A_ (kb_ BK311 hb)
           have n6_ := A_ (bs_ bw_ hb)
           clear HO294
           clear BK304
           clear BK305
           clear BK306
           clear BK311
           clear HB
           have HO294 := n0_
           have HO298 := n1_
           have BK304 := n2_
           have BK305 := n3_
           have BK306 := n4_
           have BK311 := n5_
           have HB := n6_
           clear n0_ n1_ n2_ n3_ n4_ n5_ n6_
           (try clear hb)
           (try clear hb2)
           (try clear hk)
           (try clear hi)
           (try clear ho0)
           obtain ⟨Ao68, co68, eo68⟩ := Kd.V_slice HO298.out
           (first | subst eo68 | (injection eo68 with f1_ f2_ f3_; have f4_ := f1_.symm; have f5_ := f3_.symm; clear f1_ f2_ f3_; subst f4_; subst f5_))
           refine hK.out _ _ ⟨(bc_ BK304.out 0).trans rfl, (bc_ BK304.out 1).trans rfl, (bc_ BK306.out 0).trans rfl, (bc_ BK306.out 1).trans rfl, (bc_ BK305.out 0).trans rfl, (bc_ BK305.out 1).trans rfl⟩ (fun hHeld => ?_)
           clear hK K
           refine norm_ (a' := ?_) ?_ ?_
           rotate_left
           ·
            show Act.put _ (some 61) _ = _
            simp only [Act.put, sA_, sZ_, sS_, i64_w, i32_w]
            rfl
           refine one_ (i := 5) (N := some 62) #[true, true, true, true, true, true, true, false] rfl rfl (one_of HT_.out (by kernel_rfl)) (by decide) (fun K hK => ?_)
           refine goes_ Try.func21 (by kernel_rfl) rfl #[.agg #[.bool a0_0, .slice A0_1 l0_1.length c0_1], .agg #[.bool t295, .slice Ao68 t296.length co68]] (by rfl) rfl rfl (by (try simp only [List.map_toArray, List.map_cons, List.map_nil]); first | done | rfl | (simp only [List.length_drop, List.length_take]; rfl)) ?_
           with_reducible refine (clevisref01_Add.calls kj43 a0_0 _ _ l0_1 t295 _ _ t296 t299 t300 _ ?side1 ?side2 ?side3 ?side4 A59.out).mono ?_
           (case side1 => repeat (first | exact (cb_ HR0_1.out HB.out) | (with_reducible refine ca_ ?_ _) | (with_reducible refine cn_ ?_ _) | (with_reducible refine cd_ ?_)))
           (case side2 => exact HC0_1.out)
           (case side3 => repeat (first | exact (Kd.V_reads' HO298.out).2.2 | (with_reducible refine ca_ ?_ _) | (with_reducible refine cn_ ?_ _) | (with_reducible refine cd_ ?_)))
           (case side4 => exact (Kd.V_reads' HO298.out).2.1)
           rintro e w69 ⟨v301, rfl, ho0, hb⟩
           refine ⟨_, rfl, ?_⟩
           have n0_ := A_ (Kd.V_below (by (with_reducible repeat (first | apply va_ | apply vn_ | apply vd_)); exact HO294.out) hb)
           have n1_ := A_ (Kd.V_below (by (with_reducible repeat (first | apply va_ | apply vn_ | apply vd_)); exact HO298.out) hb)
           have n2_ := A_ (Kd.V_lower (vm_ (ok' := fun k_ => k_ ≠ gb304 ∧ k_ ≠ gb305 ∧ k_ ≠ gb306 ∧ k_ ≠ gb311) ho0 (fun k_ hk_ => ⟨(Kd.freshB (g := gb304) (o := .cells #[.bool a0_0, .slice A0_1 l0_1.length c0_1] 32 (0, 0)) bk_ k_ hk_), (Kd.freshB (g := gb305) (o := .cells #[.bool a1_0, .slice A1_1 l1_1.length c1_1] 32 (0, 0)) bk_ k_ hk_), (Kd.freshB (g := gb306) (o := .cells #[.bool a2_0, .slice A2_1 l2_1.length c2_1] 32 (0, 0)) bk_ k_ hk_), (Kd.freshB (g := gb311) (o := .cells #[.bool false, .slice none 0 0] 32 (0, 0)) bk_ k_ hk_)⟩)) (bz_ bw_))
           have n3_ := A_ (kb_ BK304 hb)
           have n4_ := A_ (kb_ BK305 hb)
           have n5_ := A_ (kb_ BK306 hb)
           have n6_ := A_ (kb_ BK311 hb)
           have n7_ := A_ (bs_ bw_ hb)
           clear HO294
           clear HO298
           clear BK304
           clear BK305
           clear BK306
           clear BK311
           clear HB
           have HO294 := n0_
           have HO298 := n1_
           have HO302 := n2_
           have BK304 := n3_
           have BK305 := n4_
           have BK306 := n5_
           have BK311 := n6_
           have HB := n7_
           clear n0_ n1_ n2_ n3_ n4_ n5_ n6_ n7_
           (try clear hb)
           (try clear hb2)
           (try clear hk)
           (try clear hi)
           (try clear ho0)
           refine hK.out _ _ ⟨(bc_ BK304.out 0).trans rfl, (bc_ BK304.out 1).trans rfl, (bc_ BK306.out 0).trans rfl, (bc_ BK306.out 1).trans rfl, (bc_ BK305.out 0).trans rfl, (bc_ BK305.out 1).trans rfl⟩ (fun hHeld => ?_)
           clear hK K
           refine norm_ (a' := ?_) ?_ ?_
           rotate_left
           ·
            show Act.put _ (some 62) _ = _
            simp only [Act.put, sA_, sZ_, sS_, i64_w, i32_w]
            rfl
           exact norm_ (by simp only [putAll, Act.put, sA_, sZ_, sS_]) (hCont (.slice Ao66 t292.length co66, .slice Ao68 t296.length co68, v301, gb311) _ ⟨hHeld, (by (with_reducible repeat (first | apply va_ | apply vn_ | apply vd_)); exact HO294.out), (by (with_reducible repeat (first | apply va_ | apply vn_ | apply vd_)); exact HO298.out), (by (with_reducible repeat (first | apply va_ | apply vn_ | apply vd_)); exact HO302.out), bk_, bk_, bk_, bk_, GW311.out, GE311.out, NB304_311.out, NB311_304.out, NB305_311.out, NB311_305.out, NB306_311.out, NB311_306.out, bw_⟩)
         rintro ⟨v293, v297, v301, gb311⟩ w70 ⟨hS_, h0_, h1_, h2_, h3_, h4_, h5_, h6_, h7_, h8_, h9_, h10_, h11_, h12_, h13_, h14_, h15_⟩
         have n0_ : Aside0 (Kd.V (Kd.int .i64) 3 w70 w.heap.size (fun k_ => k_ ≠ gb304 ∧ k_ ≠ gb305 ∧ k_ ≠ gb306 ∧ k_ ≠ gb311) v293 t292) := ⟨h0_⟩
         have n1_ : Aside0 (Kd.V (Kd.int .i64) 3 w70 w.heap.size (fun k_ => k_ ≠ gb304 ∧ k_ ≠ gb305 ∧ k_ ≠ gb306 ∧ k_ ≠ gb311) v297 t296) := ⟨h1_⟩
         have n2_ : Aside0 (Kd.V (Kd.int .i64) 3 w70 w.heap.size (fun k_ => k_ ≠ gb304 ∧ k_ ≠ gb305 ∧ k_ ≠ gb306 ∧ k_ ≠ gb311) v301 t300) := ⟨h2_⟩
         have n3_ : Aside0 (w70.heap[gb304]? = some (.cells #[.bool a0_0, .slice A0_1 l0_1.length c0_1] 32 (0, 0))) := ⟨h3_⟩
         have n4_ : Aside0 (w70.heap[gb305]? = some (.cells #[.bool a1_0, .slice A1_1 l1_1.length c1_1] 32 (0, 0))) := ⟨h4_⟩
         have n5_ : Aside0 (w70.heap[gb306]? = some (.cells #[.bool a2_0, .slice A2_1 l2_1.length c2_1] 32 (0, 0))) := ⟨h5_⟩
         have n6_ : Aside0 (w70.heap[gb311]? = some (.cells #[.bool false, .slice none 0 0] 32 (0, 0))) := ⟨h6_⟩
         have n7_ : Aside0 (w.heap.size ≤ gb311) := ⟨h7_⟩
         have n8_ : Aside0 (w.heap.size ≤ gb311) := ⟨h8_⟩
         have n9_ : Aside0 (gb304 ≠ gb311) := ⟨h9_⟩
         have n10_ : Aside0 (gb311 ≠ gb304) := ⟨h10_⟩
         have n11_ : Aside0 (gb305 ≠ gb311) := ⟨h11_⟩
         have n12_ : Aside0 (gb311 ≠ gb305) := ⟨h12_⟩
         have n13_ : Aside0 (gb306 ≠ gb311) := ⟨h13_⟩
         have n14_ : Aside0 (gb311 ≠ gb306) := ⟨h14_⟩
         have n15_ : Aside0 (Below w.heap.size w w70) := ⟨h15_⟩
         clear BK304
         clear BK305
         clear BK306
         clear HB
         clear h0_ h1_ h2_ h3_ h4_ h5_ h6_ h7_ h8_ h9_ h10_ h11_ h12_ h13_ h14_ h15_
         have HO294 := n0_
         have HO298 := n1_
         have HO302 := n2_
         have BK304 := n3_
         have BK305 := n4_
         have BK306 := n5_
         have BK311 := n6_
         have GW311 := n7_
         have GE311 := n8_
         have NB304_311 := n9_
         have NB311_304 := n10_
         have NB305_311 := n11_
         have NB311_305 := n12_
         have NB306_311 := n13_
         have NB311_306 := n14_
         have HB := n15_
         clear n0_ n1_ n2_ n3_ n4_ n5_ n6_ n7_ n8_ n9_ n10_ n11_ n12_ n13_ n14_ n15_
         have hHeld : w70.cell? ⟨gb304, 0, none⟩ = some (.bool a0_0) ∧ w70.cell? ⟨gb304, 1, none⟩ = some (.slice A0_1 l0_1.length c0_1) ∧ w70.cell? ⟨gb306, 0, none⟩ = some (.bool a2_0) ∧ w70.cell? ⟨gb306, 1, none⟩ = some (.slice A2_1 l2_1.length c2_1) ∧ w70.cell? ⟨gb305, 0, none⟩ = some (.bool a1_0) ∧ w70.cell? ⟨gb305, 1, none⟩ = some (.slice A1_1 l1_1.length c1_1) := hS_
         obtain ⟨Ao72, co72, eo72⟩ := Kd.V_slice HO302.out
         (first | subst eo72 | (injection eo72 with f1_ f2_ f3_; have f4_ := f1_.symm; have f5_ := f3_.symm; clear f1_ f2_ f3_; subst f4_; subst f5_))
         refine norm_ (a' := ?_) ?_ ?_
         rotate_left
         ·
          simp only [putAll, Act.put, sA_, sZ_, sS_]
          rfl
         refine one_ (i := 7) (N := none) #[true, true, true, true, true, true, true, true] rfl rfl (one_of HT_.out (by kernel_rfl)) (by decide) (fun K hK => ?_)
         have hs71 : w70.cell? ⟨gb311, 0, none⟩ = some (.bool false) := (bc_ BK311.out 0).trans rfl
         have hfs71 := bf_ BK311.out 0
         have hns71_0 := NB304_311.out
         have hns71_1 := NB305_311.out
         have hns71_2 := NB306_311.out
         have hms71_0 := NB311_304.out
         have hms71_1 := NB311_305.out
         have hms71_2 := NB311_306.out
         have hs73 : w70.cell? ⟨gb311, 1, none⟩ = some (.slice none 0 0) := (bc_ BK311.out 1).trans rfl
         have hfs73 := bf_ BK311.out 1
         have hns73_0 := NB304_311.out
         have hns73_1 := NB305_311.out
         have hns73_2 := NB306_311.out
         have hms73_0 := NB311_304.out
         have hms73_1 := NB311_305.out
         have hms73_2 := NB311_306.out
         refine skip_ (w1 := ?_) (by rfl) rfl ?_ ?_
         rotate_left
         ·
          go_simp
          rfl
         refine hK.out _ _ ⟨((cell_far (p := ⟨gb311, _, none⟩) NB304_311.out _).trans (((cell_far (p := ⟨gb311, _, none⟩) NB304_311.out _).trans (hHeld.1)))), ((cell_far (p := ⟨gb311, _, none⟩) NB304_311.out _).trans (((cell_far (p := ⟨gb311, _, none⟩) NB304_311.out _).trans (hHeld.2.1)))), ((cell_far (p := ⟨gb311, _, none⟩) NB306_311.out _).trans (((cell_far (p := ⟨gb311, _, none⟩) NB306_311.out _).trans (hHeld.2.2.1)))), ((cell_far (p := ⟨gb311, _, none⟩) NB306_311.out _).trans (((cell_far (p := ⟨gb311, _, none⟩) NB306_311.out _).trans (hHeld.2.2.2.1)))), ((cell_far (p := ⟨gb311, _, none⟩) NB305_311.out _).trans (((cell_far (p := ⟨gb311, _, none⟩) NB305_311.out _).trans (hHeld.2.2.2.2.1)))), ((cell_far (p := ⟨gb311, _, none⟩) NB305_311.out _).trans (((cell_far (p := ⟨gb311, _, none⟩) NB305_311.out _).trans (hHeld.2.2.2.2.2))))⟩ (fun hHeld => ?_)
         clear hK K
         refine done_ (done_of HT_.out (by kernel_rfl)) ?_
         try go_wp2
         have n0_ : Aside0 (Kd.V (Kd.int .i64) 3 ((w70.setCell ⟨gb311, 0, none⟩ (.bool t299)).setCell ⟨gb311, 1, none⟩ (.slice Ao72 t300.length co72)) w.heap.size (fun k_ => k_ ≠ gb304 ∧ k_ ≠ gb305 ∧ k_ ≠ gb306 ∧ k_ ≠ gb311) v293 t292) := ⟨by (with_reducible repeat (first | apply va_ | apply vn_ | apply vd_)); exact vm_ (Kd.V_far (p := ⟨gb311, 1, none⟩) (Kd.V_far (p := ⟨gb311, 0, none⟩) (vm_ HO294.out (fun k_ hk => (⟨hk, hk.2.2.2⟩ : _ ∧ k_ ≠ gb311))) (fun _ hk => hk.2) (.bool t299)) (fun _ hk => hk.2) (.slice Ao72 t300.length co72)) (fun _ hk => ⟨hk.1.1, ⟨hk.1.2.1, ⟨hk.1.2.2.1, hk.1.2.2.2⟩⟩⟩)⟩
         have n1_ : Aside0 (Kd.V (Kd.int .i64) 3 ((w70.setCell ⟨gb311, 0, none⟩ (.bool t299)).setCell ⟨gb311, 1, none⟩ (.slice Ao72 t300.length co72)) w.heap.size (fun k_ => k_ ≠ gb304 ∧ k_ ≠ gb305 ∧ k_ ≠ gb306 ∧ k_ ≠ gb311) v297 t296) := ⟨by (with_reducible repeat (first | apply va_ | apply vn_ | apply vd_)); exact vm_ (Kd.V_far (p := ⟨gb311, 1, none⟩) (Kd.V_far (p := ⟨gb311, 0, none⟩) (vm_ HO298.out (fun k_ hk => (⟨hk, hk.2.2.2⟩ : _ ∧ k_ ≠ gb311))) (fun _ hk => hk.2) (.bool t299)) (fun _ hk => hk.2) (.slice Ao72 t300.length co72)) (fun _ hk => ⟨hk.1.1, ⟨hk.1.2.1, ⟨hk.1.2.2.1, hk.1.2.2.2⟩⟩⟩)⟩
         have n2_ : Aside0 (Kd.V (Kd.int .i64) 3 ((w70.setCell ⟨gb311, 0, none⟩ (.bool t299)).setCell ⟨gb311, 1, none⟩ (.slice Ao72 t300.length co72)) w.heap.size (fun k_ => k_ ≠ gb304 ∧ k_ ≠ gb305 ∧ k_ ≠ gb306 ∧ k_ ≠ gb311) (.slice Ao72 t300.length co72) t300) := ⟨by (with_reducible repeat (first | apply va_ | apply vn_ | apply vd_)); exact vm_ (Kd.V_far (p := ⟨gb311, 1, none⟩) (Kd.V_far (p := ⟨gb311, 0, none⟩) (vm_ HO302.out (fun k_ hk => (⟨hk, hk.2.2.2⟩ : _ ∧ k_ ≠ gb311))) (fun _ hk => hk.2) (.bool t299)) (fun _ hk => hk.2) (.slice Ao72 t300.length co72)) (fun _ hk => ⟨hk.1.1, ⟨hk.1.2.1, ⟨hk.1.2.2.1, hk.1.2.2.2⟩⟩⟩)⟩
         have n3_ : Aside0 (((w70.setCell ⟨gb311, 0, none⟩ (.bool t299)).setCell ⟨gb311, 1, none⟩ (.slice Ao72 t300.length co72)).heap[gb304]? = some (.cells #[.bool a0_0, .slice A0_1 l0_1.length c0_1] 32 (0, 0))) := ⟨bk_⟩
         have n4_ : Aside0 (((w70.setCell ⟨gb311, 0, none⟩ (.bool t299)).setCell ⟨gb311, 1, none⟩ (.slice Ao72 t300.length co72)).heap[gb305]? = some (.cells #[.bool a1_0, .slice A1_1 l1_1.length c1_1] 32 (0, 0))) := ⟨bk_⟩
         have n5_ : Aside0 (((w70.setCell ⟨gb311, 0, none⟩ (.bool t299)).setCell ⟨gb311, 1, none⟩ (.slice Ao72 t300.length co72)).heap[gb306]? = some (.cells #[.bool a2_0, .slice A2_1 l2_1.length c2_1] 32 (0, 0))) := ⟨bk_⟩
         have n6_ : Aside0 (((w70.setCell ⟨gb311, 0, none⟩ (.bool t299)).setCell ⟨gb311, 1, none⟩ (.slice Ao72 t300.length co72)).heap[gb311]? = some (.cells #[.bool t299, .slice Ao72 t300.length co72] 32 (0, 0))) := ⟨by (with_reducible repeat (first | refine bn_ ?_ _ | refine bd_ ?_ | refine ba_ ?_ _)); refine bp_ (cs := #[.bool t299, .slice none 0 0]) ?_ 1 _ rfl; (with_reducible repeat (first | refine bn_ ?_ _ | refine bd_ ?_ | refine ba_ ?_ _)); refine bp_ (cs := #[.bool false, .slice none 0 0]) ?_ 0 _ rfl; (with_reducible repeat (first | refine bn_ ?_ _ | refine bd_ ?_ | refine ba_ ?_ _)); exact BK311.out⟩
         have n7_ : Aside0 (Below w.heap.size w ((w70.setCell ⟨gb311, 0, none⟩ (.bool t299)).setCell ⟨gb311, 1, none⟩ (.slice Ao72 t300.length co72))) := ⟨bw_⟩
         (try clear HO294)
         (try clear HO298)
         (try clear HO302)
         (try clear BK304)
         (try clear BK305)
         (try clear BK306)
         (try clear BK311)
         (try clear HB)
         generalize ((w70.setCell ⟨gb311, 0, none⟩ (.bool t299)).setCell ⟨gb311, 1, none⟩ (.slice Ao72 t300.length co72)) = w74 at n0_ n1_ n2_ n3_ n4_ n5_ n6_ n7_ ⊢
         have HO294 := n0_
         have HO298 := n1_
         have HO302 := n2_
         have BK304 := n3_
         have BK305 := n4_
         have BK306 := n5_
         have BK311 := n6_
         have HB := n7_
         clear n0_ n1_ n2_ n3_ n4_ n5_ n6_ n7_
         have n0_ := A_ (vd_ HO294.out)
         have n1_ := A_ (vd_ HO298.out)
         have n2_ := A_ (vd_ HO302.out)
         have n3_ := A_ (bd_ BK304.out)
         have n4_ := A_ (bd_ BK305.out)
         have n5_ := A_ (bd_ BK306.out)
         have n6_ := A_ (bd_ BK311.out)
         have n7_ := A_ (b1_ HB.out)
         clear HO294
         clear HO298
         clear HO302
         clear BK304
         clear BK305
         clear BK306
         clear BK311
         clear HB
         have HO294 := n0_
         have HO298 := n1_
         have HO302 := n2_
         have BK304 := n3_
         have BK305 := n4_
         have BK306 := n5_
         have BK311 := n6_
         have HB := n7_
         clear n0_ n1_ n2_ n3_ n4_ n5_ n6_ n7_
         refine start_ (n := 8) (S := fun w' => w'.cell? ⟨gb311, 0, none⟩ = some (.bool t299) ∧ w'.cell? ⟨gb311, 1, none⟩ = some (.slice Ao72 t300.length co72) ∧ w'.cell? ⟨gb305, 0, none⟩ = some (.bool a1_0) ∧ w'.cell? ⟨gb305, 1, none⟩ = some (.slice A1_1 l1_1.length c1_1)) (ds := []) #[false, false, false, false, false, false, false, false] (by kernel_rfl) rfl rfl ⟨(bc_ BK311.out 0).trans rfl, (bc_ BK311.out 1).trans rfl, (bc_ BK305.out 0).trans rfl, (bc_ BK305.out 1).trans rfl⟩ (fun hHeld => ?_); refine with_tabW clevisref01_Rounded.tab10 clevisref01_Rounded.bits10 (fun HT_ HW_ => ?_)
         generalize w74.drew = w75 at HO294 HO298 HO302 BK304 BK305 BK306 BK311 HB hHeld ⊢
         refine pure_ (i := 4) (N := some 67) (v := ?_) (a' := ?_) #[false, false, false, false, true, false, false, false] rfl rfl (any_of HT_.out (by kernel_rfl)) (fun _ _ _ h => h) (Or.inl ⟨by rfl, ?_⟩) ?_ ?_
         rotate_left
         ·
          intro w'
          go_simp
          with_reducible rfl
         rotate_left
         ·
          simp only [Act.put, sA_, sZ_, sS_, i64_w, i32_w]
          rfl
         refine take_ (i := 0) (N := some 63) (v := ?_) (a' := ?_) #[true, false, false, false, true, false, false, false] rfl rfl (take_ofW HT_.out HW_.out (by kernel_rfl)) (fun _ _ _ h => h) (Or.inl ⟨by rfl, ?_⟩) hHeld ?_ ?_
         rotate_left
         ·
          rintro w' ⟨s0, s1, s2, s3⟩
          go_simp
          with_reducible rfl
         rotate_left
         ·
          simp only [Act.put, sA_, sZ_, sS_, i64_w, i32_w]
          rfl
         refine take_ (i := 1) (N := some 64) (v := ?_) (a' := ?_) #[true, true, false, false, true, false, false, false] rfl rfl (take_ofW HT_.out HW_.out (by kernel_rfl)) (fun _ _ _ h => h) (Or.inl ⟨by rfl, ?_⟩) hHeld ?_ ?_
         rotate_left
         ·
          rintro w' ⟨s0, s1, s2, s3⟩
          go_simp
          with_reducible rfl
         rotate_left
         ·
          simp only [Act.put, sA_, sZ_, sS_, i64_w, i32_w]
          rfl
         refine take_ (i := 5) (N := some 68) (v := ?_) (a' := ?_) #[true, true, false, false, true, true, false, false] rfl rfl (take_ofW HT_.out HW_.out (by kernel_rfl)) (fun _ _ _ h => h) (Or.inl ⟨by rfl, ?_⟩) hHeld ?_ ?_
         rotate_left
         ·
          rintro w' ⟨s0, s1, s2, s3⟩
          go_simp
          with_reducible rfl
         rotate_left
         ·
          simp only [Act.put, sA_, sZ_, sS_, i64_w, i32_w]
          rfl
         refine one_ (i := 2) (N := some 65) #[true, true, true, false, true, true, false, false] rfl rfl (one_of HT_.out (by kernel_rfl)) (by decide) (fun K hK => ?_)
         refine goes_ Try.func21 (by kernel_rfl) rfl #[.agg #[.bool t299, .slice Ao72 t300.length co72], .agg #[.bool t299, .slice Ao72 t300.length co72]] (by rfl) rfl rfl (by (try simp only [List.map_toArray, List.map_cons, List.map_nil]); first | done | rfl | (simp only [List.length_drop, List.length_take]; rfl)) ?_
         with_reducible refine (clevisref01_Add.calls kj43 t299 _ _ t300 t299 _ _ t300 t303 t304 _ ?side1 ?side2 ?side3 ?side4 A60.out).mono ?_
         (case side1 => repeat (first | exact (Kd.V_reads' HO302.out).2.2 | (with_reducible refine ca_ ?_ _) | (with_reducible refine cn_ ?_ _) | (with_reducible refine cd_ ?_)))
         (case side2 => exact (Kd.V_reads' HO302.out).2.1)
         (case side3 => repeat (first | exact (Kd.V_reads' HO302.out).2.2 | (with_reducible refine ca_ ?_ _) | (with_reducible refine cn_ ?_ _) | (with_reducible refine cd_ ?_)))
         (case side4 => exact (Kd.V_reads' HO302.out).2.1)
         rintro e w76 ⟨v305, rfl, ho0, hb⟩
         refine ⟨_, rfl, ?_⟩
         have n0_ := A_ (Kd.V_below (by (with_reducible repeat (first | apply va_ | apply vn_ | apply vd_)); exact HO294.out) hb)
         have n1_ := A_ (Kd.V_below (by (with_reducible repeat (first | apply va_ | apply vn_ | apply vd_)); exact HO298.out) hb)
         have n2_ := A_ (Kd.V_below (by (with_reducible repeat (first | apply va_ | apply vn_ | apply vd_)); exact HO302.out) hb)
         have n3_ := A_ (Kd.V_lower (vm_ (ok' := fun k_ => k_ ≠ gb304 ∧ k_ ≠ gb305 ∧ k_ ≠ gb306 ∧ k_ ≠ gb311) ho0 (fun k_ hk_ => ⟨(Kd.freshB (g := gb304) (o := .cells #[.bool a0_0, .slice A0_1 l0_1.length c0_1] 32 (0, 0)) bk_ k_ hk_), (Kd.freshB (g := gb305) (o := .cells #[.bool a1_0, .slice A1_1 l1_1.length c1_1] 32 (0, 0)) bk_ k_ hk_), (Kd.freshB (g := gb306) (o := .cells #[.bool a2_0, .slice A2_1 l2_1.length c2_1] 32 (0, 0)) bk_ k_ hk_), (Kd.freshB (g := gb311) (o := .cells #[.bool t299, .slice Ao72 t300.length co72] 32 (0, 0)) bk_ k_ hk_)⟩)) (bz_ bw_))
         have n4_ := A_ (kb_ BK304 hb)
         have n5_ := A_ (kb_ BK305 hb)
         have n6_ := A_ (kb_ BK306 hb)
         have n7_ := A_ (kb_ BK311 hb)
         have n8_ := A_ (bs_ bw_ hb)
         clear HO294
         clear HO298
         clear HO302
         clear BK304
         clear BK305
         clear BK306
         clear BK311
         clear HB
         have HO294 := n0_
         have HO298 := n1_
         have HO302 := n2_
         have HO306 := n3_
         have BK304 := n4_
         have BK305 := n5_
         have BK306 := n6_
         have BK311 := n7_
         have HB := n8_
         clear n0_ n1_ n2_ n3_ n4_ n5_ n6_ n7_ n8_
         (try clear hb)
         (try clear hb2)
         (try clear hk)
         (try clear hi)
         (try clear ho0)
         obtain ⟨Ao77, co77, eo77⟩ := Kd.V_slice HO306.out
         (first | subst eo77 | (injection eo77 with f1_ f2_ f3_; have f4_ := f1_.symm; have f5_ := f3_.symm; clear f1_ f2_ f3_; subst f4_; subst f5_))
         refine hK.out _ _ ⟨(bc_ BK311.out 0).trans rfl, (bc_ BK311.out 1).trans rfl, (bc_ BK305.out 0).trans rfl, (bc_ BK305.out 1).trans rfl⟩ (fun hHeld => ?_)
         clear hK K
         refine norm_ (a' := ?_) ?_ ?_
         rotate_left
         ·
          show Act.put _ (some 65) _ = _
          simp only [Act.put, sA_, sZ_, sS_, i64_w, i32_w]
          rfl
         refine pure_ (i := 3) (N := some 66) (v := ?_) (a' := ?_) #[true, true, true, true, true, true, false, false] rfl rfl (any_of HT_.out (by kernel_rfl)) (fun _ _ _ h => h) (Or.inl ⟨by rfl, ?_⟩) ?_ ?_
         rotate_left
         ·
          intro w'
          go_simp
          with_reducible rfl
         rotate_left
         ·
          simp only [Act.put, sA_, sZ_, sS_, i64_w, i32_w]
          rfl
         refine one_ (i := 6) (N := some 69) #[true, true, true, true, true, true, true, false] rfl rfl (one_of HT_.out (by kernel_rfl)) (by decide) (fun K hK => ?_)
         refine goes_ Try.func42 (by kernel_rfl) rfl #[.slice Ao77 t304.length co77, .slice A1_1 l1_1.length c1_1] (by rfl) rfl rfl (by (try simp only [List.map_toArray, List.map_cons, List.map_nil]); first | done | rfl | (simp only [List.length_drop, List.length_take]; rfl)) ?_
         with_reducible refine (clevisref01_size.calls kj43 _ _ t304 _ _ l1_1 t307 _ ?side1 ?side2 ?side3 ?side4 A61.out).mono ?_
         (case side1 => repeat (first | exact (Kd.V_reads' HO306.out).2.2 | (with_reducible refine ca_ ?_ _) | (with_reducible refine cn_ ?_ _) | (with_reducible refine cd_ ?_)))
         (case side2 => exact (Kd.V_reads' HO306.out).2.1)
         (case side3 => repeat (first | exact (cb_ HR1_1.out HB.out) | (with_reducible refine ca_ ?_ _) | (with_reducible refine cn_ ?_ _) | (with_reducible refine cd_ ?_)))
         (case side4 => exact HC1_1.out)
         rintro e w' ⟨rfl, ⟨nd, rfl⟩⟩
         refine ⟨_, rfl, ?_⟩
         refine hK.out _ _ ⟨(bc_ BK311.out 0).trans rfl, (bc_ BK311.out 1).trans rfl, (bc_ BK305.out 0).trans rfl, (bc_ BK305.out 1).trans rfl⟩ (fun hHeld => ?_)
         clear hK K
         refine norm_ (a' := ?_) ?_ ?_
         rotate_left
         ·
          show Act.put _ (some 69) _ = _
          simp only [Act.put, sA_, sZ_, sS_, i64_w, i32_w]
          rfl
         refine pure_ (i := 7) (N := some 12) (v := ?_) (a' := ?_) #[true, true, true, true, true, true, true, true] rfl rfl (any_of HT_.out (by kernel_rfl)) (fun _ _ _ h => h) (Or.inl ⟨by rfl, ?_⟩) ?_ ?_
         rotate_left
         ·
          intro w'
          go_simp
          with_reducible rfl
         rotate_left
         ·
          simp only [Act.put, sA_, sZ_, sS_, i64_w, i32_w]
          rfl
         refine done_ (done_of HT_.out (by kernel_rfl)) ?_
         try go_wp2
         go_ret
         exact ⟨by first | rfl | (simp [errW_none, errW_some] <;> rfl) | (simp [*, errW_none, errW_some] <;> rfl), bw_⟩
        ·
         rw [if_neg c62] at H
         have c62b0 : decide (t307 < 0) = false := decide_eq_false c62
         clear c62
         by_cases c78 : t307 = 0
         ·
          rw [if_pos c78] at H
          have c78b0 : (t307 == 0) = true := q1_ c78
          have c78b1 : (t307 != 0) = false := q3_ c78
          clear c78
          replace H := os_ H
          obtain ⟨t308, A790, H⟩ := H
          replace H : (some (!t308)) = some r := H
          have A79 := A_ A790
          clear A790
          obtain rfl := Option.some.inj H
          try go_wp2
          have n0_ := A_ (bd_ BK304.out)
          have n1_ := A_ (bd_ BK305.out)
          have n2_ := A_ (bd_ BK306.out)
          have n3_ := A_ (b1_ HB.out)
          clear BK304
          clear BK305
          clear BK306
          clear HB
          have BK304 := n0_
          have BK305 := n1_
          have BK306 := n2_
          have HB := n3_
          clear n0_ n1_ n2_ n3_
          refine start_ (n := 8) (S := fun w' => w'.cell? ⟨gb304, 0, none⟩ = some (.bool a0_0) ∧ w'.cell? ⟨gb304, 1, none⟩ = some (.slice A0_1 l0_1.length c0_1) ∧ w'.cell? ⟨gb306, 0, none⟩ = some (.bool a2_0) ∧ w'.cell? ⟨gb306, 1, none⟩ = some (.slice A2_1 l2_1.length c2_1) ∧ w'.cell? ⟨gb305, 0, none⟩ = some (.bool a1_0) ∧ w'.cell? ⟨gb305, 1, none⟩ = some (.slice A1_1 l1_1.length c1_1)) (ds := []) #[false, false, false, false, false, false, false, false] (by kernel_rfl) rfl rfl ⟨(bc_ BK304.out 0).trans rfl, (bc_ BK304.out 1).trans rfl, (bc_ BK306.out 0).trans rfl, (bc_ BK306.out 1).trans rfl, (bc_ BK305.out 0).trans rfl, (bc_ BK305.out 1).trans rfl⟩ (fun hHeld => ?_); refine with_tabW clevisref01_Rounded.tab9 clevisref01_Rounded.bits9 (fun HT_ HW_ => ?_)
          generalize wc.drew = w80 at BK304 BK305 BK306 HB hHeld ⊢
          refine take_ (i := 0) (N := some 57) (v := ?_) (a' := ?_) #[true, false, false, false, false, false, false, false] rfl rfl (take_ofW HT_.out HW_.out (by kernel_rfl)) (fun _ _ _ h => h) (Or.inl ⟨by rfl, ?_⟩) hHeld ?_ ?_
          rotate_left
          ·
           rintro w' ⟨s0, s1, s2, s3, s4, s5⟩
           go_simp
           with_reducible rfl
          rotate_left
          ·
           simp only [Act.put, sA_, sZ_, sS_, i64_w, i32_w]
           rfl
          refine take_ (i := 1) (N := some 58) (v := ?_) (a' := ?_) #[true, true, false, false, false, false, false, false] rfl rfl (take_ofW HT_.out HW_.out (by kernel_rfl)) (fun _ _ _ h => h) (Or.inl ⟨by rfl, ?_⟩) hHeld ?_ ?_
          rotate_left
          ·
           rintro w' ⟨s0, s1, s2, s3, s4, s5⟩
           go_simp
           with_reducible rfl
          rotate_left
          ·
           simp only [Act.put, sA_, sZ_, sS_, i64_w, i32_w]
           rfl
          refine take_ (i := 2) (N := some 59) (v := ?_) (a' := ?_) #[true, true, true, false, false, false, false, false] rfl rfl (take_ofW HT_.out HW_.out (by kernel_rfl)) (fun _ _ _ h => h) (Or.inl ⟨by rfl, ?_⟩) hHeld ?_ ?_
          rotate_left
          ·
           rintro w' ⟨s0, s1, s2, s3, s4, s5⟩
           go_simp
           with_reducible rfl
          rotate_left
          ·
           simp only [Act.put, sA_, sZ_, sS_, i64_w, i32_w]
           rfl
          refine join_ (σ := Value × Value × Value × Nat) 1 #[true, true, true, true, true, true, true, false] (fun s_ => [(60, .agg #[.bool t291, s_.1]), (61, .agg #[.bool t295, s_.2.1]), (62, .agg #[.bool t299, s_.2.2.1]), (11, .pointer (some ⟨s_.2.2.2, 0, none⟩))]) (fun s_ w' => (w'.cell? ⟨gb304, 0, none⟩ = some (.bool a0_0) ∧ w'.cell? ⟨gb304, 1, none⟩ = some (.slice A0_1 l0_1.length c0_1) ∧ w'.cell? ⟨gb306, 0, none⟩ = some (.bool a2_0) ∧ w'.cell? ⟨gb306, 1, none⟩ = some (.slice A2_1 l2_1.length c2_1) ∧ w'.cell? ⟨gb305, 0, none⟩ = some (.bool a1_0) ∧ w'.cell? ⟨gb305, 1, none⟩ = some (.slice A1_1 l1_1.length c1_1)) ∧ (Kd.V (Kd.int .i64) 3 w' w.heap.size (fun k_ => k_ ≠ gb304 ∧ k_ ≠ gb305 ∧ k_ ≠ gb306 ∧ k_ ≠ s_.2.2.2) s_.1 t292) ∧ (Kd.V (Kd.int .i64) 3 w' w.heap.size (fun k_ => k_ ≠ gb304 ∧ k_ ≠ gb305 ∧ k_ ≠ gb306 ∧ k_ ≠ s_.2.2.2) s_.2.1 t296) ∧ (Kd.V (Kd.int .i64) 3 w' w.heap.size (fun k_ => k_ ≠ gb304 ∧ k_ ≠ gb305 ∧ k_ ≠ gb306 ∧ k_ ≠ s_.2.2.2) s_.2.2.1 t300) ∧ (w'.heap[gb304]? = some (.cells #[.bool a0_0, .slice A0_1 l0_1.length c0_1] 32 (0, 0))) ∧ (w'.heap[gb305]? = some (.cells #[.bool a1_0, .slice A1_1 l1_1.length c1_1] 32 (0, 0))) ∧ (w'.heap[gb306]? = some (.cells #[.bool a2_0, .slice A2_1 l2_1.length c2_1] 32 (0, 0))) ∧ (w'.heap[s_.2.2.2]? = some (.cells #[.bool false, .slice none 0 0] 32 (0, 0))) ∧ (w.heap.size ≤ s_.2.2.2) ∧ (w.heap.size ≤ s_.2.2.2) ∧ (gb304 ≠ s_.2.2.2) ∧ (s_.2.2.2 ≠ gb304) ∧ (gb305 ≠ s_.2.2.2) ∧ (s_.2.2.2 ≠ gb305) ∧ (gb306 ≠ s_.2.2.2) ∧ (s_.2.2.2 ≠ gb306) ∧ (Below w.heap.size w w')) ?_ ?_
          rotate_left
          ·
           intro hCont
           refine two_ (i := 3) (j := 6) (Ni := some 60) (Nj := some 11) #[true, true, true, true, false, false, false, false] #[true, true, true, false, false, false, true, false] rfl rfl rfl rfl (two_of HT_.out (by kernel_rfl)) (by decide) (by decide) (fun K hK => ?_) (fun K hK => ?_)
           ·
            skip
            refine goes_ Try.func26 (by kernel_rfl) rfl #[.agg #[.bool a2_0, .slice A2_1 l2_1.length c2_1], .agg #[.bool a1_0, .slice A1_1 l1_1.length c1_1]] (by rfl) rfl rfl (by (try simp only [List.map_toArray, List.map_cons, List.map_nil]); first | done | rfl | (simp only [List.length_drop, List.length_take]; rfl)) ?_
            with_reducible refine (clevisref01_Mul.calls kj43 a2_0 _ _ l2_1 a1_0 _ _ l1_1 t291 t292 _ ?side1 ?side2 ?side3 ?side4 A57.out).mono ?_
            (case side1 => repeat (first | exact (cb_ HR2_1.out HB.out) | (with_reducible refine ca_ ?_ _) | (with_reducible refine cn_ ?_ _) | (with_reducible refine cd_ ?_)))
            (case side2 => exact HC2_1.out)
            (case side3 => repeat (first | exact (cb_ HR1_1.out HB.out) | (with_reducible refine ca_ ?_ _) | (with_reducible refine cn_ ?_ _) | (with_reducible refine cd_ ?_)))
            (case side4 => exact HC1_1.out)
            rintro e w81 ⟨v293, rfl, ho0, hb⟩
            refine ⟨_, rfl, ?_⟩
            have n0_ := A_ (Kd.V_lower (vm_ (ok' := fun k_ => k_ ≠ gb304 ∧ k_ ≠ gb305 ∧ k_ ≠ gb306) ho0 (fun k_ hk_ => ⟨(Kd.freshB (g := gb304) (o := .cells #[.bool a0_0, .slice A0_1 l0_1.length c0_1] 32 (0, 0)) bk_ k_ hk_), (Kd.freshB (g := gb305) (o := .cells #[.bool a1_0, .slice A1_1 l1_1.length c1_1] 32 (0, 0)) bk_ k_ hk_), (Kd.freshB (g := gb306) (o := .cells #[.bool a2_0, .slice A2_1 l2_1.length c2_1] 32 (0, 0)) bk_ k_ hk_)⟩)) (bz_ bw_))
            have n1_ := A_ (kb_ BK304 hb)
            have n2_ := A_ (kb_ BK305 hb)
            have n3_ := A_ (kb_ BK306 hb)
            have n4_ := A_ (bs_ bw_ hb)
            clear BK304
            clear BK305
            clear BK306
            clear HB
            have HO294 := n0_
            have BK304 := n1_
            have BK305 := n2_
            have BK306 := n3_
            have HB := n4_
            clear n0_ n1_ n2_ n3_ n4_
            (try clear hb)
            (try clear hb2)
            (try clear hk)
            (try clear hi)
            (try clear ho0)
            obtain ⟨Ao82, co82, eo82⟩ := Kd.V_slice HO294.out
            (first | subst eo82 | (injection eo82 with f1_ f2_ f3_; have f4_ := f1_.symm; have f5_ := f3_.symm; clear f1_ f2_ f3_; subst f4_; subst f5_))
            refine hK.out _ _ ⟨(bc_ BK304.out 0).trans rfl, (bc_ BK304.out 1).trans rfl, (bc_ BK306.out 0).trans rfl, (bc_ BK306.out 1).trans rfl, (bc_ BK305.out 0).trans rfl, (bc_ BK305.out 1).trans rfl⟩ (fun hHeld => ?_)
            clear hK K
            refine norm_ (a' := ?_) ?_ ?_
            rotate_left
            ·
             show Act.put _ (some 60) _ = _
             simp only [Act.put, sA_, sZ_, sS_, i64_w, i32_w]
             rfl
            refine two_ (i := 4) (j := 6) (Ni := some 61) (Nj := some 11) #[true, true, true, true, true, false, false, false] #[true, true, true, true, false, false, true, false] rfl rfl rfl rfl (two_of HT_.out (by kernel_rfl)) (by decide) (by decide) (fun K hK => ?_) (fun K hK => ?_)
            ·
             skip
             refine goes_ Try.func22 (by kernel_rfl) rfl #[.agg #[.bool t291, .slice Ao82 t292.length co82]] (by rfl) rfl rfl (by (try simp only [List.map_toArray, List.map_cons, List.map_nil]); first | done | rfl | (simp only [List.length_drop, List.length_take]; rfl)) ?_
             with_reducible refine (clevisref01_Neg.calls kj43 t291 (fun k_ => (k_ ≠ gb304 ∧ (k_ ≠ gb305 ∧ k_ ≠ gb306))) _ _ t292 t295 t296 _ ?side1 A58.out).mono ?_
             (case side1 => exact HO294.out)
             rintro e w83 ⟨v297, rfl, ho0, hb⟩
             refine ⟨_, rfl, ?_⟩
             have n0_ := A_ (Kd.V_below (by (with_reducible repeat (first | apply va_ | apply vn_ | apply vd_)); exact HO294.out) hb)
             have n1_ := A_ (Kd.V_lower (vm_ (ok' := fun k_ => k_ ≠ gb304 ∧ k_ ≠ gb305 ∧ k_ ≠ gb306) ho0 (fun k_ hk_ => ⟨Or.elim hk_ (fun hs_ => hs_.1) (fun hn_ => (Kd.freshB (g := gb304) (o := .cells #[.bool a0_0, .slice A0_1 l0_1.length c0_1] 32 (0, 0)) bk_ k_ hn_)), Or.elim hk_ (fun hs_ => hs_.2.1) (fun hn_ => (Kd.freshB (g := gb305) (o := .cells #[.bool a1_0, .slice A1_1 l1_1.length c1_1] 32 (0, 0)) bk_ k_ hn_)), Or.elim hk_ (fun hs_ => hs_.2.2) (fun hn_ => (Kd.freshB (g := gb306) (o := .cells #[.bool a2_0, .slice A2_1 l2_1.length c2_1] 32 (0, 0)) bk_ k_ hn_))⟩)) (bz_ bw_))
             have n2_ := A_ (kb_ BK304 hb)
             have n3_ := A_ (kb_ BK305 hb)
             have n4_ := A_ (kb_ BK306 hb)
             have n5_ := A_ (bs_ bw_ hb)
             clear HO294
             clear BK304
             clear BK305
             clear BK306
             clear HB
             have HO294 := n0_
             have HO298 := n1_
             have BK304 := n2_
             have BK305 := n3_
             have BK306 := n4_
             have HB := n5_
             clear n0_ n1_ n2_ n3_ n4_ n5_
             (try clear hb)
             (try clear hb2)
             (try clear hk)
             (try clear hi)
             (try clear ho0)
             obtain ⟨Ao84, co84, eo84⟩ := Kd.V_slice HO298.out
             (first | subst eo84 | (injection eo84 with f1_ f2_ f3_; have f4_ := f1_.symm; have f5_ := f3_.symm; clear f1_ f2_ f3_; subst f4_; subst f5_))
             refine hK.out _ _ ⟨(bc_ BK304.out 0).trans rfl, (bc_ BK304.out 1).trans rfl, (bc_ BK306.out 0).trans rfl, (bc_ BK306.out 1).trans rfl, (bc_ BK305.out 0).trans rfl, (bc_ BK305.out 1).trans rfl⟩ (fun hHeld => ?_)
             clear hK K
             refine norm_ (a' := ?_) ?_ ?_
             rotate_left
             ·
              show Act.put _ (some 61) _ = _
              simp only [Act.put, sA_, sZ_, sS_, i64_w, i32_w]
              rfl
             refine two_ (i := 5) (j := 6) (Ni := some 62) (Nj := some 11) #[true, true, true, true, true, true, false, false] #[true, true, true, true, true, false, true, false] rfl rfl rfl rfl (two_of HT_.out (by kernel_rfl)) (by decide) (by decide) (fun K hK => ?_) (fun K hK => ?_)
             ·
              skip
              refine goes_ Try.func21 (by kernel_rfl) rfl #[.agg #[.bool a0_0, .slice A0_1 l0_1.length c0_1], .agg #[.bool t295, .slice Ao84 t296.length co84]] (by rfl) rfl rfl (by (try simp only [List.map_toArray, List.map_cons, List.map_nil]); first | done | rfl | (simp only [List.length_drop, List.length_take]; rfl)) ?_
              with_reducible refine (clevisref01_Add.calls kj43 a0_0 _ _ l0_1 t295 _ _ t296 t299 t300 _ ?side1 ?side2 ?side3 ?side4 A59.out).mono ?_
              (case side1 => repeat (first | exact (cb_ HR0_1.out HB.out) | (with_reducible refine ca_ ?_ _) | (with_reducible refine cn_ ?_ _) | (with_reducible refine cd_ ?_)))
              (case side2 => exact HC0_1.out)
              (case side3 => repeat (first | exact (Kd.V_reads' HO298.out).2.2 | (with_reducible refine ca_ ?_ _) | (with_reducible refine cn_ ?_ _) | (with_reducible refine cd_ ?_)))
              (case side4 => exact (Kd.V_reads' HO298.out).2.1)
              rintro e w85 ⟨v301, rfl, ho0, hb⟩
              refine ⟨_, rfl, ?_⟩
              have n0_ := A_ (Kd.V_below (by (with_reducible repeat (first | apply va_ | apply vn_ | apply vd_)); exact HO294.out) hb)
              have n1_ := A_ (Kd.V_below (by (with_reducible repeat (first | apply va_ | apply vn_ | apply vd_)); exact HO298.out) hb)
              have n2_ := A_ (Kd.V_lower (vm_ (ok' := fun k_ => k_ ≠ gb304 ∧ k_ ≠ gb305 ∧ k_ ≠ gb306) ho0 (fun k_ hk_ => ⟨(Kd.freshB (g := gb304) (o := .cells #[.bool a0_0, .slice A0_1 l0_1.length c0_1] 32 (0, 0)) bk_ k_ hk_), (Kd.freshB (g := gb305) (o := .cells #[.bool a1_0, .slice A1_1 l1_1.length c1_1] 32 (0, 0)) bk_ k_ hk_), (Kd.freshB (g := gb306) (o := .cells #[.bool a2_0, .slice A2_1 l2_1.length c2_1] 32 (0, 0)) bk_ k_ hk_)⟩)) (bz_ bw_))
              have n3_ := A_ (kb_ BK304 hb)
              have n4_ := A_ (kb_ BK305 hb)
              have n5_ := A_ (kb_ BK306 hb)
              have n6_ := A_ (bs_ bw_ hb)
              clear HO294
              clear HO298
              clear BK304
              clear BK305
              clear BK306
              clear HB
              have HO294 := n0_
              have HO298 := n1_
              have HO302 := n2_
              have BK304 := n3_
              have BK305 := n4_
              have BK306 := n5_
              have HB := n6_
              clear n0_ n1_ n2_ n3_ n4_ n5_ n6_
              (try clear hb)
              (try clear hb2)
              (try clear hk)
              (try clear hi)
              (try clear ho0)
              refine hK.out _ _ ⟨(bc_ BK304.out 0).trans rfl, (bc_ BK304.out 1).trans rfl, (bc_ BK306.out 0).trans rfl, (bc_ BK306.out 1).trans rfl, (bc_ BK305.out 0).trans rfl, (bc_ BK305.out 1).trans rfl⟩ (fun hHeld => ?_)
              clear hK K
              refine norm_ (a' := ?_) ?_ ?_
              rotate_left
              ·
               show Act.put _ (some 62) _ = _
               simp only [Act.put, sA_, sZ_, sS_, i64_w, i32_w]
               rfl
              refine one_ (i := 6) (N := some 11) #[true, true, true, true, true, true, true, false] rfl rfl (one_of HT_.out (by kernel_rfl)) (by decide) (fun K hK => ?_)
              refine box_step ?hg (N := 11) ?hd (cs := #[.bool false, .slice none 0 0]) (t := 32) ?hr ?_; (case hd => rfl); (case hg => rfl); (case hr => first | (go_simp; done) | (go_simp; rfl))
              intro gb311 hg w86 hbox hb
              have n0_ := A_ (Kd.V_below (Kd.V_elderB (by (with_reducible repeat (first | apply va_ | apply vn_ | apply vd_)); exact HO294.out) gb311 (Nat.le_of_eq hg.symm)) hb)
              have n1_ := A_ (Kd.V_below (Kd.V_elderB (by (with_reducible repeat (first | apply va_ | apply vn_ | apply vd_)); exact HO298.out) gb311 (Nat.le_of_eq hg.symm)) hb)
              have n2_ := A_ (Kd.V_below (Kd.V_elderB (by (with_reducible repeat (first | apply va_ | apply vn_ | apply vd_)); exact HO302.out) gb311 (Nat.le_of_eq hg.symm)) hb)
              have n3_ := A_ (kb_ BK304 hb)
              have n4_ := A_ (kb_ BK305 hb)
              have n5_ := A_ (kb_ BK306 hb)
              have n6_ := A_ (bs_ bw_ hb)
              have n7_ := A_ (hbox)
              have n8_ := A_ ((by rw [hg]; exact (bz_ bw_) : w.heap.size ≤ gb311))
              have n9_ := A_ ((by rw [hg]; exact (bz_ bw_) : w.heap.size ≤ gb311))
              have n10_ := A_ ((by rw [hg]; exact nl_ (lt_ BK304) : gb304 ≠ gb311))
              have n11_ := A_ ((by rw [hg]; exact ng_ (lt_ BK304) : gb311 ≠ gb304))
              have n12_ := A_ ((by rw [hg]; exact nl_ (lt_ BK305) : gb305 ≠ gb311))
              have n13_ := A_ ((by rw [hg]; exact ng_ (lt_ BK305) : gb311 ≠ gb305))
              have n14_ := A_ ((by rw [hg]; exact nl_ (lt_ BK306) : gb306 ≠ gb311))
              have n15_ := A_ ((by rw [hg]; exact ng_ (lt_ BK306) : gb311 ≠ gb306))
              clear HO294
              clear HO298
              clear HO302
              clear BK304
              clear BK305
              clear BK306
              clear HB
              have HO294 := n0_
              have HO298 := n1_
              have HO302 := n2_
              have BK304 := n3_
              have BK305 := n4_
              have BK306 := n5_
              have HB := n6_
              have BK311 := n7_
              have GW311 := n8_
              have GE311 := n9_
              have NB304_311 := n10_
              have NB311_304 := n11_
              have NB305_311 := n12_
              have NB311_305 := n13_
              have NB306_311 := n14_
              have NB311_306 := n15_
              clear n0_ n1_ n2_ n3_ n4_ n5_ n6_ n7_ n8_ n9_ n10_ n11_ n12_ n13_ n14_ n15_
              clear hb hbox hg
              refine hK.out _ _ ⟨(bc_ BK304.out 0).trans rfl, (bc_ BK304.out 1).trans rfl, (bc_ BK306.out 0).trans rfl, (bc_ BK306.out 1).trans rfl, (bc_ BK305.out 0).trans rfl, (bc_ BK305.out 1).trans rfl⟩ (fun hHeld => ?_)
              clear hK K
              refine norm_ (a' := ?_) ?_ ?_
              rotate_left
              ·
               show Act.put _ (some 11) _ = _
               simp only [Act.put, sA_, sZ_, sS_, i64_w, i32_w]
               rfl
              exact norm_ (by simp only [putAll, Act.put, sA_, sZ_, sS_]) (hCont (.slice Ao82 t292.length co82, .slice Ao84 t296.length co84, v301, gb311) _ ⟨hHeld, (by (with_reducible repeat (first | apply va_ | apply vn_ | apply vd_)); exact vm_ HO294.out (fun _ hk => ⟨hk.1.1, ⟨hk.1.2.1, ⟨hk.1.2.2, hk.2⟩⟩⟩)), (by (with_reducible repeat (first | apply va_ | apply vn_ | apply vd_)); exact vm_ HO298.out (fun _ hk => ⟨hk.1.1, ⟨hk.1.2.1, ⟨hk.1.2.2, hk.2⟩⟩⟩)), (by (with_reducible repeat (first | apply va_ | apply vn_ | apply vd_)); exact vm_ HO302.out (fun _ hk => ⟨hk.1.1, ⟨hk.1.2.1, ⟨hk.1.2.2, hk.2⟩⟩⟩)), bk_, bk_, bk_, bk_, GW311.out, GE311.out, NB304_311.out, NB311_304.out, NB305_311.out, NB311_305.out, NB306_311.out, NB311_306.out, bw_⟩)
             ·
              skip
              refine box_step ?hg (N := 11) ?hd (cs := #[.bool false, .slice none 0 0]) (t := 32) ?hr ?_; (case hd => rfl); (case hg => rfl); (case hr => first | (go_simp; done) | (go_simp; rfl))
              intro gb311 hg w84 hbox hb
              have n0_ := A_ (Kd.V_below (Kd.V_elderB (by (with_reducible repeat (first | apply va_ | apply vn_ | apply vd_)); exact HO294.out) gb311 (Nat.le_of_eq hg.symm)) hb)
              have n1_ := A_ (Kd.V_below (Kd.V_elderB (by (with_reducible repeat (first | apply va_ | apply vn_ | apply vd_)); exact HO298.out) gb311 (Nat.le_of_eq hg.symm)) hb)
              have n2_ := A_ (kb_ BK304 hb)
              have n3_ := A_ (kb_ BK305 hb)
              have n4_ := A_ (kb_ BK306 hb)
              have n5_ := A_ (bs_ bw_ hb)
              have n6_ := A_ (hbox)
              have n7_ := A_ ((by rw [hg]; exact (bz_ bw_) : w.heap.size ≤ gb311))
              have n8_ := A_ ((by rw [hg]; exact (bz_ bw_) : w.heap.size ≤ gb311))
              have n9_ := A_ ((by rw [hg]; exact nl_ (lt_ BK304) : gb304 ≠ gb311))
              have n10_ := A_ ((by rw [hg]; exact ng_ (lt_ BK304) : gb311 ≠ gb304))
              have n11_ := A_ ((by rw [hg]; exact nl_ (lt_ BK305) : gb305 ≠ gb311))
              have n12_ := A_ ((by rw [hg]; exact ng_ (lt_ BK305) : gb311 ≠ gb305))
              have n13_ := A_ ((by rw [hg]; exact nl_ (lt_ BK306) : gb306 ≠ gb311))
              have n14_ := A_ ((by rw [hg]; exact ng_ (lt_ BK306) : gb311 ≠ gb306))
              clear HO294
              clear HO298
              clear BK304
              clear BK305
              clear BK306
              clear HB
              have HO294 := n0_
              have HO298 := n1_
              have BK304 := n2_
              have BK305 := n3_
              have BK306 := n4_
              have HB := n5_
              have BK311 := n6_
              have GW311 := n7_
              have GE311 := n8_
              have NB304_311 := n9_
              have NB311_304 := n10_
              have NB305_311 := n11_
              have NB311_305 := n12_
              have NB306_311 := n13_
              have NB311_306 := n14_
              clear n0_ n1_ n2_ n3_ n4_ n5_ n6_ n7_ n8_ n9_ n10_ n11_ n12_ n13_ n14_
              clear hb hbox hg
              obtain ⟨Ao85, co85, eo85⟩ := Kd.V_slice HO298.out
              (first | subst eo85 | (injection eo85 with f1_ f2_ f3_; have f4_ := f1_.symm; have f5_ := f3_.symm; clear f1_ f2_ f3_; subst f4_; subst f5_))
              refine hK.out _ _ ⟨(bc_ BK304.out 0).trans rfl, (bc_ BK304.out 1).trans rfl, (bc_ BK306.out 0).trans rfl, (bc_ BK306.out 1).trans rfl, (bc_ BK305.out 0).trans rfl, (bc_ BK305.out 1).trans rfl⟩ (fun hHeld => ?_)
              clear hK K
              refine norm_ (a' := ?_) ?_ ?_
              rotate_left
              ·
               show Act.put _ (some 11) _ = _
               simp only [Act.put, sA_, sZ_, sS_, i64_w, i32_w]
               rfl
              refine one_ (i := 5) (N := some 62) #[true, true, true, true, true, true, true, false] rfl rfl (one_of HT_.out (by kernel_rfl)) (by decide) (fun K hK => ?_)
              refine goes_ Try.func21 (by kernel_rfl) rfl #[.agg #[.bool a0_0, .slice A0_1 l0_1.length c0_1], .agg #[.bool t295, .slice Ao85 t296.length co85]] (by rfl) rfl rfl (by (try simp only [List.map_toArray, List.map_cons, List.map_nil]); first | done | rfl | (simp only [List.length_drop, List.length_take]; rfl)) ?_
              with_reducible refine (clevisref01_Add.calls kj43 a0_0 _ _ l0_1 t295 _ _ t296 t299 t300 _ ?side1 ?side2 ?side3 ?side4 A59.out).mono ?_
              (case side1 => repeat (first | exact (cb_ HR0_1.out HB.out) | (with_reducible refine ca_ ?_ _) | (with_reducible refine cn_ ?_ _) | (with_reducible refine cd_ ?_)))
              (case side2 => exact HC0_1.out)
              (case side3 => repeat (first | exact (Kd.V_reads' HO298.out).2.2 | (with_reducible refine ca_ ?_ _) | (with_reducible refine cn_ ?_ _) | (with_reducible refine cd_ ?_)))
              (case side4 => exact (Kd.V_reads' HO298.out).2.1)
              rintro e w86 ⟨v301, rfl, ho0, hb⟩
              refine ⟨_, rfl, ?_⟩
              have n0_ := A_ (Kd.V_below (by (with_reducible repeat (first | apply va_ | apply vn_ | apply vd_)); exact HO294.out) hb)
              have n1_ := A_ (Kd.V_below (by (with_reducible repeat (first | apply va_ | apply vn_ | apply vd_)); exact HO298.out) hb)
              have n2_ := A_ (Kd.V_lower (vm_ (ok' := fun k_ => k_ ≠ gb304 ∧ k_ ≠ gb305 ∧ k_ ≠ gb306 ∧ k_ ≠ gb311) ho0 (fun k_ hk_ => ⟨(Kd.freshB (g := gb304) (o := .cells #[.bool a0_0, .slice A0_1 l0_1.length c0_1] 32 (0, 0)) bk_ k_ hk_), (Kd.freshB (g := gb305) (o := .cells #[.bool a1_0, .slice A1_1 l1_1.length c1_1] 32 (0, 0)) bk_ k_ hk_), (Kd.freshB (g := gb306) (o := .cells #[.bool a2_0, .slice A2_1 l2_1.length c2_1] 32 (0, 0)) bk_ k_ hk_), (Kd.freshB (g := gb311) (o := .cells #[.bool false, .slice none 0 0] 32 (0, 0)) bk_ k_ hk_)⟩)) (bz_ bw_))
              have n3_ := A_ (kb_ BK304 hb)
              have n4_ := A_ (kb_ BK305 hb)
              have n5_ := A_ (kb_ BK306 hb)
              have n6_ := A_ (kb_ BK311 hb)
              have n7_ := A_ (bs_ bw_ hb)
              clear HO294
              clear HO298
              clear BK304
              clear BK305
              clear BK306
              clear BK311
              clear HB
              have HO294 := n0_
              have HO298 := n1_
              have HO302 := n2_
              have BK304 := n3_
              have BK305 := n4_
              have BK306 := n5_
              have BK311 := n6_
              have HB := n7_
              clear n0_ n1_ n2_ n3_ n4_ n5_ n6_ n7_
              (try clear hb)
              (try clear hb2)
              (try clear hk)
              (try clear hi)
              (try clear ho0)
              refine hK.out _ _ ⟨(bc_ BK304.out 0).trans rfl, (bc_ BK304.out 1).trans rfl, (bc_ BK306.out 0).trans rfl, (bc_ BK306.out 1).trans rfl, (bc_ BK305.out 0).trans rfl, (bc_ BK305.out 1).trans rfl⟩ (fun hHeld => ?_)
              clear hK K
              refine norm_ (a' := ?_) ?_ ?_
              rotate_left
              ·
               show Act.put _ (some 62) _ = _
               simp only [Act.put, sA_, sZ_, sS_, i64_w, i32_w]
               rfl
              exact norm_ (by simp only [putAll, Act.put, sA_, sZ_, sS_]) (hCont (.slice Ao82 t292.length co82, .slice Ao85 t296.length co85, v301, gb311) _ ⟨hHeld, (by (with_reducible repeat (first | apply va_ | apply vn_ | apply vd_)); exact vm_ HO294.out (fun _ hk => ⟨hk.1.1, ⟨hk.1.2.1, ⟨hk.1.2.2, hk.2⟩⟩⟩)), (by (with_reducible repeat (first | apply va_ | apply vn_ | apply vd_)); exact vm_ HO298.out (fun _ hk => ⟨hk.1.1, ⟨hk.1.2.1, ⟨hk.1.2.2, hk.2⟩⟩⟩)), (by (with_reducible repeat (first | apply va_ | apply vn_ | apply vd_)); exact HO302.out), bk_, bk_, bk_, bk_, GW311.out, GE311.out, NB304_311.out, NB311_304.out, NB305_311.out, NB311_305.out, NB306_311.out, NB311_306.out, bw_⟩)
            ·
             skip
             refine box_step ?hg (N := 11) ?hd (cs := #[.bool false, .slice none 0 0]) (t := 32) ?hr ?_; (case hd => rfl); (case hg => rfl); (case hr => first | (go_simp; done) | (go_simp; rfl))
             intro gb311 hg w82 hbox hb
             have n0_ := A_ (Kd.V_below (Kd.V_elderB (by (with_reducible repeat (first | apply va_ | apply vn_ | apply vd_)); exact HO294.out) gb311 (Nat.le_of_eq hg.symm)) hb)
             have n1_ := A_ (kb_ BK304 hb)
             have n2_ := A_ (kb_ BK305 hb)
             have n3_ := A_ (kb_ BK306 hb)
             have n4_ := A_ (bs_ bw_ hb)
             have n5_ := A_ (hbox)
             have n6_ := A_ ((by rw [hg]; exact (bz_ bw_) : w.heap.size ≤ gb311))
             have n7_ := A_ ((by rw [hg]; exact (bz_ bw_) : w.heap.size ≤ gb311))
             have n8_ := A_ ((by rw [hg]; exact nl_ (lt_ BK304) : gb304 ≠ gb311))
             have n9_ := A_ ((by rw [hg]; exact ng_ (lt_ BK304) : gb311 ≠ gb304))
             have n10_ := A_ ((by rw [hg]; exact nl_ (lt_ BK305) : gb305 ≠ gb311))
             have n11_ := A_ ((by rw [hg]; exact ng_ (lt_ BK305) : gb311 ≠ gb305))
             have n12_ := A_ ((by rw [hg]; exact nl_ (lt_ BK306) : gb306 ≠ gb311))
             have n13_ := A_ ((by rw [hg]; exact ng_ (lt_ BK306) : gb311 ≠ gb306))
             clear HO294
             clear BK304
             clear BK305
             clear BK306
             clear HB
             have HO294 := n0_
             have BK304 := n1_
             have BK305 := n2_
             have BK306 := n3_
             have HB := n4_
             have BK311 := n5_
             have GW311 := n6_
             have GE311 := n7_
             have NB304_311 := n8_
             have NB311_304 := n9_
             have NB305_311 := n10_
             have NB311_305 := n11_
             have NB306_311 := n12_
             have NB311_306 := n13_
             clear n0_ n1_ n2_ n3_ n4_ n5_ n6_ n7_ n8_ n9_ n10_ n11_ n12_ n13_
             clear hb hbox hg
             obtain ⟨Ao83, co83, eo83⟩ := Kd.V_slice HO294.out
             (first | subst eo83 | (injection eo83 with f1_ f2_ f3_; have f4_ := f1_.symm; have f5_ := f3_.symm; clear f1_ f2_ f3_; subst f4_; subst f5_))
             refine hK.out _ _ ⟨(bc_ BK304.out 0).trans rfl, (bc_ BK304.out 1).trans rfl, (bc_ BK306.out 0).trans rfl, (bc_ BK306.out 1).trans rfl, (bc_ BK305.out 0).trans rfl, (bc_ BK305.out 1).trans rfl⟩ (fun hHeld => ?_)
             clear hK K
             refine norm_ (a' := ?_) ?_ ?_
             rotate_left
             ·
              show Act.put _ (some 11) _ = _
              simp only [Act.put, sA_, sZ_, sS_, i64_w, i32_w]
              rfl
             refine one_ (i := 4) (N := some 61) #[true, true, true, true, true, false, true, false] rfl rfl (one_of HT_.out (by kernel_rfl)) (by decide) (fun K hK => ?_)
             refine goes_ Try.func22 (by kernel_rfl) rfl #[.agg #[.bool t291, .slice Ao83 t292.length co83]] (by rfl) rfl rfl (by (try simp only [List.map_toArray, List.map_cons, List.map_nil]); first | done | rfl | (simp only [List.length_drop, List.length_take]; rfl)) ?_
             with_reducible refine (clevisref01_Neg.calls kj43 t291 (fun k_ => ((k_ ≠ gb304 ∧ (k_ ≠ gb305 ∧ k_ ≠ gb306)) ∧ k_ ≠ gb311)) _ _ t292 t295 t296 _ ?side1 A58.out).mono ?_
             (case side1 => exact HO294.out)
             rintro e w84 ⟨v297, rfl, ho0, hb⟩
             refine ⟨_, rfl, ?_⟩
             have n0_ := A_ (Kd.V_below (by (with_reducible repeat (first | apply va_ | apply vn_ | apply vd_)); exact HO294.out) hb)
             have n1_ := A_ (Kd.V_lower (vm_ (ok' := fun k_ => k_ ≠ gb304 ∧ k_ ≠ gb305 ∧ k_ ≠ gb306 ∧ k_ ≠ gb311) ho0 (fun k_ hk_ => ⟨Or.elim hk_ (fun hs_ => hs_.1.1) (fun hn_ => (Kd.freshB (g := gb304) (o := .cells #[.bool a0_0, .slice A0_1 l0_1.length c0_1] 32 (0, 0)) bk_ k_ hn_)), Or.elim hk_ (fun hs_ => hs_.1.2.1) (fun hn_ => (Kd.freshB (g := gb305) (o := .cells #[.bool a1_0, .slice A1_1 l1_1.length c1_1] 32 (0, 0)) bk_ k_ hn_)), Or.elim hk_ (fun hs_ => hs_.1.2.2) (fun hn_ => (Kd.freshB (g := gb306) (o := .cells #[.bool a2_0, .slice A2_1 l2_1.length c2_1] 32 (0, 0)) bk_ k_ hn_)), Or.elim hk_ (fun hs_ => hs_.2) (fun hn_ => (Kd.freshB (g := gb311) (o := .cells #[.bool false, .slice none 0 0] 32 (0, 0)) bk_ k_ hn_))⟩)) (bz_ bw_))
             have n2_ := A_ (kb_ BK304 hb)
             have n3_ := A_ (kb_ BK305 hb)
             have n4_ := A_ (kb_ BK306 hb)
             have n5_ := A_ (kb_ BK311 hb)
             have n6_ := A_ (bs_ bw_ hb)
             clear HO294
             clear BK304
             clear BK305
             clear BK306
             clear BK311
             clear HB
             have HO294 := n0_
             have HO298 := n1_
             have BK304 := n2_
             have BK305 := n3_
             have BK306 := n4_
             have BK311 := n5_
             have HB := n6_
             clear n0_ n1_ n2_ n3_ n4_ n5_ n6_
             (try clear hb)
             (try clear hb2)
             (try clear hk)
             (try clear hi)
             (try clear ho0)
             obtain ⟨Ao85, co85, eo85⟩ := Kd.V_slice HO298.out
             (first | subst eo85 | (injection eo85 with f1_ f2_ f3_; have f4_ := f1_.symm; have f5_ := f3_.symm; clear f1_ f2_ f3_; subst f4_; subst f5_))
             refine hK.out _ _ ⟨(bc_ BK304.out 0).trans rfl, (bc_ BK304.out 1).trans rfl, (bc_ BK306.out 0).trans rfl, (bc_ BK306.out 1).trans rfl, (bc_ BK305.out 0).trans rfl, (bc_ BK305.out 1).trans rfl⟩ (fun hHeld => ?_)
             clear hK K
             refine norm_ (a' := ?_) ?_ ?_
             rotate_left
             ·
              show Act.put _ (some 61) _ = _
              simp only [Act.put, sA_, sZ_, sS_, i64_w, i32_w]
              rfl
             refine one_ (i := 5) (N := some 62) #[true, true, true, true, true, true, true, false] rfl rfl (one_of HT_.out (by kernel_rfl)) (by decide) (fun K hK => ?_)
             refine goes_ Try.func21 (by kernel_rfl) rfl #[.agg #[.bool a0_0, .slice A0_1 l0_1.length c0_1], .agg #[.bool t295, .slice Ao85 t296.length co85]] (by rfl) rfl rfl (by (try simp only [List.map_toArray, List.map_cons, List.map_nil]); first | done | rfl | (simp only [List.length_drop, List.length_take]; rfl)) ?_
             with_reducible refine (clevisref01_Add.calls kj43 a0_0 _ _ l0_1 t295 _ _ t296 t299 t300 _ ?side1 ?side2 ?side3 ?side4 A59.out).mono ?_
             (case side1 => repeat (first | exact (cb_ HR0_1.out HB.out) | (with_reducible refine ca_ ?_ _) | (with_reducible refine cn_ ?_ _) | (with_reducible refine cd_ ?_)))
             (case side2 => exact HC0_1.out)
             (case side3 => repeat (first | exact (Kd.V_reads' HO298.out).2.2 | (with_reducible refine ca_ ?_ _) | (with_reducible refine cn_ ?_ _) | (with_reducible refine cd_ ?_)))
             (case side4 => exact (Kd.V_reads' HO298.out).2.1)
             rintro e w86 ⟨v301, rfl, ho0, hb⟩
             refine ⟨_, rfl, ?_⟩
             have n0_ := A_ (Kd.V_below (by (with_reducible repeat (first | apply va_ | apply vn_ | apply vd_)); exact HO294.out) hb)
             have n1_ := A_ (Kd.V_below (by (with_reducible repeat (first | apply va_ | apply vn_ | apply vd_)); exact HO298.out) hb)
             have n2_ := A_ (Kd.V_lower (vm_ (ok' := fun k_ => k_ ≠ gb304 ∧ k_ ≠ gb305 ∧ k_ ≠ gb306 ∧ k_ ≠ gb311) ho0 (fun k_ hk_ => ⟨(Kd.freshB (g := gb304) (o := .cells #[.bool a0_0, .slice A0_1 l0_1.length c0_1] 32 (0, 0)) bk_ k_ hk_), (Kd.freshB (g := gb305) (o := .cells #[.bool a1_0, .slice A1_1 l1_1.length c1_1] 32 (0, 0)) bk_ k_ hk_), (Kd.freshB (g := gb306) (o := .cells #[.bool a2_0, .slice A2_1 l2_1.length c2_1] 32 (0, 0)) bk_ k_ hk_), (Kd.freshB (g := gb311) (o := .cells #[.bool false, .slice none 0 0] 32 (0, 0)) bk_ k_ hk_)⟩)) (bz_ bw_))
             have n3_ := A_ (kb_ BK304 hb)
             have n4_ := A_ (kb_ BK305 hb)
             have n5_ := A_ (kb_ BK306 hb)
             have n6_ := A_ (kb_ BK311 hb)
             have n7_ := A_ (bs_ bw_ hb)
             clear HO294
             clear HO298
             clear BK304
             clear BK305
             clear BK306
             clear BK311
             clear HB
             have HO294 := n0_
             have HO298 := n1_
             have HO302 := n2_
             have BK304 := n3_
             have BK305 := n4_
             have BK306 := n5_
             have BK311 := n6_
             have HB := n7_
             clear n0_ n1_ n2_ n3_ n4_ n5_ n6_ n7_
             (try clear hb)
             (try clear hb2)
             (try clear hk)
             (try clear hi)
             (try clear ho0)
             refine hK.out _ _ ⟨(bc_ BK304.out 0).trans rfl, (bc_ BK304.out 1).trans rfl, (bc_ BK306.out 0).trans rfl, (bc_ BK306.out 1).trans rfl, (bc_ BK305.out 0).trans rfl, (bc_ BK305.out 1).trans rfl⟩ (fun hHeld => ?_)
             clear hK K
             refine norm_ (a' := ?_) ?_ ?_
             rotate_left
             ·
              show Act.put _ (some 62) _ = _
              simp only [Act.put, sA_, sZ_, sS_, i64_w, i32_w]
              rfl
             exact norm_ (by simp only [putAll, Act.put, sA_, sZ_, sS_]) (hCont (.slice Ao83 t292.length co83, .slice Ao85 t296.length co85, v301, gb311) _ ⟨hHeld, (by (with_reducible repeat (first | apply va_ | apply vn_ | apply vd_)); exact vm_ HO294.out (fun _ hk => ⟨hk.1.1, ⟨hk.1.2.1, ⟨hk.1.2.2, hk.2⟩⟩⟩)), (by (with_reducible repeat (first | apply va_ | apply vn_ | apply vd_)); exact HO298.out), (by (with_reducible repeat (first | apply va_ | apply vn_ | apply vd_)); exact HO302.out), bk_, bk_, bk_, bk_, GW311.out, GE311.out, NB304_311.out, NB311_304.out, NB305_311.out, NB311_305.out, NB306_311.out, NB311_306.out, bw_⟩)
           ·
            skip
            refine box_step ?hg (N := 11) ?hd (cs := #[.bool false, .slice none 0 0]) (t := 32) ?hr ?_; (case hd => rfl); (case hg => rfl); (case hr => first | (go_simp; done) | (go_simp; rfl))
            intro gb311 hg w81 hbox hb
            have n0_ := A_ (kb_ BK304 hb)
            have n1_ := A_ (kb_ BK305 hb)
            have n2_ := A_ (kb_ BK306 hb)
            have n3_ := A_ (bs_ bw_ hb)
            have n4_ := A_ (hbox)
            have n5_ := A_ ((by rw [hg]; exact (bz_ bw_) : w.heap.size ≤ gb311))
            have n6_ := A_ ((by rw [hg]; exact (bz_ bw_) : w.heap.size ≤ gb311))
            have n7_ := A_ ((by rw [hg]; exact nl_ (lt_ BK304) : gb304 ≠ gb311))
            have n8_ := A_ ((by rw [hg]; exact ng_ (lt_ BK304) : gb311 ≠ gb304))
            have n9_ := A_ ((by rw [hg]; exact nl_ (lt_ BK305) : gb305 ≠ gb311))
            have n10_ := A_ ((by rw [hg]; exact ng_ (lt_ BK305) : gb311 ≠ gb305))
            have n11_ := A_ ((by rw [hg]; exact nl_ (lt_ BK306) : gb306 ≠ gb311))
            have n12_ := A_ ((by rw [hg]; exact ng_ (lt_ BK306) : gb311 ≠ gb306))
            clear BK304
            clear BK305
            clear BK306
            clear HB
            have BK304 := n0_
            have BK305 := n1_
            have BK306 := n2_
            have HB := n3_
            have BK311 := n4_
            have GW311 := n5_
            have GE311 := n6_
            have NB304_311 := n7_
            have NB311_304 := n8_
            have NB305_311 := n9_
            have NB311_305 := n10_
            have NB306_311 := n11_
            have NB311_306 := n12_
            clear n0_ n1_ n2_ n3_ n4_ n5_ n6_ n7_ n8_ n9_ n10_ n11_ n12_
            clear hb hbox hg
            refine hK.out _ _ ⟨(bc_ BK304.out 0).trans rfl, (bc_ BK304.out 1).trans rfl, (bc_ BK306.out 0).trans rfl, (bc_ BK306.out 1).trans rfl, (bc_ BK305.out 0).trans rfl, (bc_ BK305.out 1).trans rfl⟩ (fun hHeld => ?_)
            clear hK K
            refine norm_ (a' := ?_) ?_ ?_
            rotate_left
            ·
             show Act.put _ (some 11) _ = _
             simp only [Act.put, sA_, sZ_, sS_, i64_w, i32_w]
             rfl
            refine one_ (i := 3) (N := some 60) #[true, true, true, true, false, false, true, false] rfl rfl (one_of HT_.out (by kernel_rfl)) (by decide) (fun K hK => ?_)
            refine goes_ Try.func26 (by kernel_rfl) rfl #[.agg #[.bool a2_0, .slice A2_1 l2_1.length c2_1], .agg #[.bool a1_0, .slice A1_1 l1_1.length c1_1]] (by rfl) rfl rfl (by (try simp only [List.map_toArray, List.map_cons, List.map_nil]); first | done | rfl | (simp only [List.length_drop, List.length_take]; rfl)) ?_
            with_reducible refine (clevisref01_Mul.calls kj43 a2_0 _ _ l2_1 a1_0 _ _ l1_1 t291 t292 _ ?side1 ?side2 ?side3 ?side4 A57.out).mono ?_
            (case side1 => repeat (first | exact (cb_ HR2_1.out HB.out) | (with_reducible refine ca_ ?_ _) | (with_reducible refine cn_ ?_ _) | (with_reducible refine cd_ ?_)))
            (case side2 => exact HC2_1.out)
            (case side3 => repeat (first | exact (cb_ HR1_1.out HB.out) | (with_reducible refine ca_ ?_ _) | (with_reducible refine cn_ ?_ _) | (with_reducible refine cd_ ?_)))
            (case side4 => exact HC1_1.out)
            rintro e w82 ⟨v293, rfl, ho0, hb⟩
            refine ⟨_, rfl, ?_⟩
            have n0_ := A_ (Kd.V_lower (vm_ (ok' := fun k_ => k_ ≠ gb304 ∧ k_ ≠ gb305 ∧ k_ ≠ gb306 ∧ k_ ≠ gb311) ho0 (fun k_ hk_ => ⟨(Kd.freshB (g := gb304) (o := .cells #[.bool a0_0, .slice A0_1 l0_1.length c0_1] 32 (0, 0)) bk_ k_ hk_), (Kd.freshB (g := gb305) (o := .cells #[.bool a1_0, .slice A1_1 l1_1.length c1_1] 32 (0, 0)) bk_ k_ hk_), (Kd.freshB (g := gb306) (o := .cells #[.bool a2_0, .slice A2_1 l2_1.length c2_1] 32 (0, 0)) bk_ k_ hk_), (Kd.freshB (g := gb311) (o := .cells #[.bool false, .slice none 0 0] 32 (0, 0)) bk_ k_ hk_)⟩)) (bz_ bw_))
            have n1_ := A_ (kb_ BK304 hb)
            have n2_ := A_ (kb_ BK305 hb)
            have n3_ := A_ (kb_ BK306 hb)
            have n4_ := A_ (kb_ BK311 hb)
            have n5_ := A_ (bs_ bw_ hb)
            clear BK304
            clear BK305
            clear BK306
            clear BK311
            clear HB
            have HO294 := n0_
            have BK304 := n1_
            have BK305 := n2_
            have BK306 := n3_
            have BK311 := n4_
            have HB := n5_
            clear n0_ n1_ n2_ n3_ n4_ n5_
            (try clear hb)
            (try clear hb2)
            (try clear hk)
            (try clear hi)
            (try clear ho0)
            obtain ⟨Ao83, co83, eo83⟩ := Kd.V_slice HO294.out
            (first | subst eo83 | (injection eo83 with f1_ f2_ f3_; have f4_ := f1_.symm; have f5_ := f3_.symm; clear f1_ f2_ f3_; subst f4_; subst f5_))
            refine hK.out _ _ ⟨(bc_ BK304.out 0).trans rfl, (bc_ BK304.out 1).trans rfl, (bc_ BK306.out 0).trans rfl, (bc_ BK306.out 1).trans rfl, (bc_ BK305.out 0).trans rfl, (bc_ BK305.out 1).trans rfl⟩ (fun hHeld => ?_)
            clear hK K
            refine norm_ (a' := ?_) ?_ ?_
            rotate_left
            ·
             show Act.put _ (some 60) _ = _
             simp only [Act.put, sA_, sZ_, sS_, i64_w, i32_w]
             rfl
            refine one_ (i := 4) (N := some 61) #[true, true, true, true, true, false, true, false] rfl rfl (one_of HT_.out (by kernel_rfl)) (by decide) (fun K hK => ?_)
            refine goes_ Try.func22 (by kernel_rfl) rfl #[.agg #[.bool t291, .slice Ao83 t292.length co83]] (by rfl) rfl rfl (by (try simp only [List.map_toArray, List.map_cons, List.map_nil]); first | done | rfl | (simp only [List.length_drop, List.length_take]; rfl)) ?_
            with_reducible refine (clevisref01_Neg.calls kj43 t291 (fun k_ => (k_ ≠ gb304 ∧ (k_ ≠ gb305 ∧ (k_ ≠ gb306 ∧ k_ ≠ gb311)))) _ _ t292 t295 t296 _ ?side1 A58.out).mono ?_
            (case side1 => exact HO294.out)
            rintro e w84 ⟨v297, rfl, ho0, hb⟩
            refine ⟨_, rfl, ?_⟩
            have n0_ := A_ (Kd.V_below (by (with_reducible repeat (first | apply va_ | apply vn_ | apply vd_)); exact HO294.out) hb)
            have n1_ := A_ (Kd.V_lower (vm_ (ok' := fun k_ => k_ ≠ gb304 ∧ k_ ≠ gb305 ∧ k_ ≠ gb306 ∧ k_ ≠ gb311) ho0 (fun k_ hk_ => ⟨Or.elim hk_ (fun hs_ => hs_.1) (fun hn_ => (Kd.freshB (g := gb304) (o := .cells #[.bool a0_0, .slice A0_1 l0_1.length c0_1] 32 (0, 0)) bk_ k_ hn_)), Or.elim hk_ (fun hs_ => hs_.2.1) (fun hn_ => (Kd.freshB (g := gb305) (o := .cells #[.bool a1_0, .slice A1_1 l1_1.length c1_1] 32 (0, 0)) bk_ k_ hn_)), Or.elim hk_ (fun hs_ => hs_.2.2.1) (fun hn_ => (Kd.freshB (g := gb306) (o := .cells #[.bool a2_0, .slice A2_1 l2_1.length c2_1] 32 (0, 0)) bk_ k_ hn_)), Or.elim hk_ (fun hs_ => hs_.2.2.2) (fun hn_ => (Kd.freshB (g := gb311) (o := .cells #[.bool false, .slice none 0 0] 32 (0, 0)) bk_ k_ hn_))⟩)) (bz_ bw_))
            have n2_ := A_ (kb_ BK304 hb)
            have n3_ := A_ (kb_ BK305 hb)
            have n4_ := A_ (kb_ BK306 hb)
            have n5_ := A_ (kb_ BK311 hb)
            have n6_ := A_ (bs_ bw_ hb)
            clear HO294
            clear BK304
            clear BK305
            clear BK306
            clear BK311
            clear HB
            have HO294 := n0_
            have HO298 := n1_
            have BK304 := n2_
            have BK305 := n3_
            have BK306 := n4_
            have BK311 := n5_
            have HB := n6_
            clear n0_ n1_ n2_ n3_ n4_ n5_ n6_
            (try clear hb)
            (try clear hb2)
            (try clear hk)
            (try clear hi)
            (try clear ho0)
            obtain ⟨Ao85, co85, eo85⟩ := Kd.V_slice HO298.out
            (first | subst eo85 | (injection eo85 with f1_ f2_ f3_; have f4_ := f1_.symm; have f5_ := f3_.symm; clear f1_ f2_ f3_; subst f4_; subst f5_))
            refine hK.out _ _ ⟨(bc_ BK304.out 0).trans rfl, (bc_ BK304.out 1).trans rfl, (bc_ BK306.out 0).trans rfl, (bc_ BK306.out 1).trans rfl, (bc_ BK305.out 0).trans rfl, (bc_ BK305.out 1).trans rfl⟩ (fun hHeld => ?_)
            clear hK K
            refine norm_ (a' := ?_) ?_ ?_
            rotate_left
            ·
             show Act.put _ (some 61) _ = _
             simp only [Act.put, sA_, sZ_, sS_, i64_w, i32_w]
             rfl
            refine one_ (i := 5) (N := some 62) #[true, true, true, true, true, true, true, false] rfl rfl (one_of HT_.out (by kernel_rfl)) (by decide) (fun K hK => ?_)
            refine goes_ Try.func21 (by kernel_rfl) rfl #[.agg #[.bool a0_0, .slice A0_1 l0_1.length c0_1], .agg #[.bool t295, .slice Ao85 t296.length co85]] (by rfl) rfl rfl (by (try simp only [List.map_toArray, List.map_cons, List.map_nil]); first | done | rfl | (simp only [List.length_drop, List.length_take]; rfl)) ?_
            with_reducible refine (clevisref01_Add.calls kj43 a0_0 _ _ l0_1 t295 _ _ t296 t299 t300 _ ?side1 ?side2 ?side3 ?side4 A59.out).mono ?_
            (case side1 => repeat (first | exact (cb_ HR0_1.out HB.out) | (with_reducible refine ca_ ?_ _) | (with_reducible refine cn_ ?_ _) | (with_reducible refine cd_ ?_)))
            (case side2 => exact HC0_1.out)
            (case side3 => repeat (first | exact (Kd.V_reads' HO298.out).2.2 | (with_reducible refine ca_ ?_ _) | (with_reducible refine cn_ ?_ _) | (with_reducible refine cd_ ?_)))
            (case side4 => exact (Kd.V_reads' HO298.out).2.1)
            rintro e w86 ⟨v301, rfl, ho0, hb⟩
            refine ⟨_, rfl, ?_⟩
            have n0_ := A_ (Kd.V_below (by (with_reducible repeat (first | apply va_ | apply vn_ | apply vd_)); exact HO294.out) hb)
            have n1_ := A_ (Kd.V_below (by (with_reducible repeat (first | apply va_ | apply vn_ | apply vd_)); exact HO298.out) hb)
            have n2_ := A_ (Kd.V_lower (vm_ (ok' := fun k_ => k_ ≠ gb304 ∧ k_ ≠ gb305 ∧ k_ ≠ gb306 ∧ k_ ≠ gb311) ho0 (fun k_ hk_ => ⟨(Kd.freshB (g := gb304) (o := .cells #[.bool a0_0, .slice A0_1 l0_1.length c0_1] 32 (0, 0)) bk_ k_ hk_), (Kd.freshB (g := gb305) (o := .cells #[.bool a1_0, .slice A1_1 l1_1.length c1_1] 32 (0, 0)) bk_ k_ hk_), (Kd.freshB (g := gb306) (o := .cells #[.bool a2_0, .slice A2_1 l2_1.length c2_1] 32 (0, 0)) bk_ k_ hk_), (Kd.freshB (g := gb311) (o := .cells #[.bool false, .slice none 0 0] 32 (0, 0)) bk_ k_ hk_)⟩)) (bz_ bw_))
            have n3_ := A_ (kb_ BK304 hb)
            have n4_ := A_ (kb_ BK305 hb)
            have n5_ := A_ (kb_ BK306 hb)
            have n6_ := A_ (kb_ BK311 hb)
            have n7_ := A_ (bs_ bw_ hb)
            clear HO294
            clear HO298
            clear BK304
            clear BK305
            clear BK306
            clear BK311
            clear HB
            have HO294 := n0_
            have HO298 := n1_
            have HO302 := n2_
            have BK304 := n3_
            have BK305 := n4_
            have BK306 := n5_
            have BK311 := n6_
            have HB := n7_
            clear n0_ n1_ n2_ n3_ n4_ n5_ n6_ n7_
            (try clear hb)
            (try clear hb2)
            (try clear hk)
            (try clear hi)
            (try clear ho0)
            refine hK.out _ _ ⟨(bc_ BK304.out 0).trans rfl, (bc_ BK304.out 1).trans rfl, (bc_ BK306.out 0).trans rfl, (bc_ BK306.out 1).trans rfl, (bc_ BK305.out 0).trans rfl, (bc_ BK305.out 1).trans rfl⟩ (fun hHeld => ?_)
            clear hK K
            refine norm_ (a' := ?_) ?_ ?_
            rotate_left
            ·
             show Act.put _ (some 62) _ = _
             simp only [Act.put, sA_, sZ_, sS_, i64_w, i32_w]
             rfl
            exact norm_ (by simp only [putAll, Act.put, sA_, sZ_, sS_]) (hCont (.slice Ao83 t292.length co83, .slice Ao85 t296.length co85, v301, gb311) _ ⟨hHeld, (by (with_reducible repeat (first | apply va_ | apply vn_ | apply vd_)); exact HO294.out), (by (with_reducible repeat (first | apply va_ | apply vn_ | apply vd_)); exact HO298.out), (by (with_reducible repeat (first | apply va_ | apply vn_ | apply vd_)); exact HO302.out), bk_, bk_, bk_, bk_, GW311.out, GE311.out, NB304_311.out, NB311_304.out, NB305_311.out, NB311_305.out, NB306_311.out, NB311_306.out, bw_⟩)
          rintro ⟨v293, v297, v301, gb311⟩ w87 ⟨hS_, h0_, h1_, h2_, h3_, h4_, h5_, h6_, h7_, h8_, h9_, h10_, h11_, h12_, h13_, h14_, h15_⟩
          have n0_ : Aside0 (Kd.V (Kd.int .i64) 3 w87 w.heap.size (fun k_ => k_ ≠ gb304 ∧ k_ ≠ gb305 ∧ k_ ≠ gb306 ∧ k_ ≠ gb311) v293 t292) := ⟨h0_⟩
          have n1_ : Aside0 (Kd.V (Kd.int .i64) 3 w87 w.heap.size (fun k_ => k_ ≠ gb304 ∧ k_ ≠ gb305 ∧ k_ ≠ gb306 ∧ k_ ≠ gb311) v297 t296) := ⟨h1_⟩
          have n2_ : Aside0 (Kd.V (Kd.int .i64) 3 w87 w.heap.size (fun k_ => k_ ≠ gb304 ∧ k_ ≠ gb305 ∧ k_ ≠ gb306 ∧ k_ ≠ gb311) v301 t300) := ⟨h2_⟩
          have n3_ : Aside0 (w87.heap[gb304]? = some (.cells #[.bool a0_0, .slice A0_1 l0_1.length c0_1] 32 (0, 0))) := ⟨h3_⟩
          have n4_ : Aside0 (w87.heap[gb305]? = some (.cells #[.bool a1_0, .slice A1_1 l1_1.length c1_1] 32 (0, 0))) := ⟨h4_⟩
          have n5_ : Aside0 (w87.heap[gb306]? = some (.cells #[.bool a2_0, .slice A2_1 l2_1.length c2_1] 32 (0, 0))) := ⟨h5_⟩
          have n6_ : Aside0 (w87.heap[gb311]? = some (.cells #[.bool false, .slice none 0 0] 32 (0, 0))) := ⟨h6_⟩
          have n7_ : Aside0 (w.heap.size ≤ gb311) := ⟨h7_⟩
          have n8_ : Aside0 (w.heap.size ≤ gb311) := ⟨h8_⟩
          have n9_ : Aside0 (gb304 ≠ gb311) := ⟨h9_⟩
          have n10_ : Aside0 (gb311 ≠ gb304) := ⟨h10_⟩
          have n11_ : Aside0 (gb305 ≠ gb311) := ⟨h11_⟩
          have n12_ : Aside0 (gb311 ≠ gb305) := ⟨h12_⟩
          have n13_ : Aside0 (gb306 ≠ gb311) := ⟨h13_⟩
          have n14_ : Aside0 (gb311 ≠ gb306) := ⟨h14_⟩
          have n15_ : Aside0 (Below w.heap.size w w87) := ⟨h15_⟩
          clear BK304
          clear BK305
          clear BK306
          clear HB
          clear h0_ h1_ h2_ h3_ h4_ h5_ h6_ h7_ h8_ h9_ h10_ h11_ h12_ h13_ h14_ h15_
          have HO294 := n0_
          have HO298 := n1_
          have HO302 := n2_
          have BK304 := n3_
          have BK305 := n4_
          have BK306 := n5_
          have BK311 := n6_
          have GW311 := n7_
          have GE311 := n8_
          have NB304_311 := n9_
          have NB311_304 := n10_
          have NB305_311 := n11_
          have NB311_305 := n12_
          have NB306_311 := n13_
          have NB311_306 := n14_
          have HB := n15_
          clear n0_ n1_ n2_ n3_ n4_ n5_ n6_ n7_ n8_ n9_ n10_ n11_ n12_ n13_ n14_ n15_
          have hHeld : w87.cell? ⟨gb304, 0, none⟩ = some (.bool a0_0) ∧ w87.cell? ⟨gb304, 1, none⟩ = some (.slice A0_1 l0_1.length c0_1) ∧ w87.cell? ⟨gb306, 0, none⟩ = some (.bool a2_0) ∧ w87.cell? ⟨gb306, 1, none⟩ = some (.slice A2_1 l2_1.length c2_1) ∧ w87.cell? ⟨gb305, 0, none⟩ = some (.bool a1_0) ∧ w87.cell? ⟨gb305, 1, none⟩ = some (.slice A1_1 l1_1.length c1_1) := hS_
          obtain ⟨Ao89, co89, eo89⟩ := Kd.V_slice HO302.out
          (first | subst eo89 | (injection eo89 with f1_ f2_ f3_; have f4_ := f1_.symm; have f5_ := f3_.symm; clear f1_ f2_ f3_; subst f4_; subst f5_))
          refine norm_ (a' := ?_) ?_ ?_
          rotate_left
          ·
           simp only [putAll, Act.put, sA_, sZ_, sS_]
           rfl
          refine one_ (i := 7) (N := none) #[true, true, true, true, true, true, true, true] rfl rfl (one_of HT_.out (by kernel_rfl)) (by decide) (fun K hK => ?_)
          have hs88 : w87.cell? ⟨gb311, 0, none⟩ = some (.bool false) := (bc_ BK311.out 0).trans rfl
          have hfs88 := bf_ BK311.out 0
          have hns88_0 := NB304_311.out
          have hns88_1 := NB305_311.out
          have hns88_2 := NB306_311.out
          have hms88_0 := NB311_304.out
          have hms88_1 := NB311_305.out
          have hms88_2 := NB311_306.out
          have hs90 : w87.cell? ⟨gb311, 1, none⟩ = some (.slice none 0 0) := (bc_ BK311.out 1).trans rfl
          have hfs90 := bf_ BK311.out 1
          have hns90_0 := NB304_311.out
          have hns90_1 := NB305_311.out
          have hns90_2 := NB306_311.out
          have hms90_0 := NB311_304.out
          have hms90_1 := NB311_305.out
          have hms90_2 := NB311_306.out
          refine skip_ (w1 := ?_) (by rfl) rfl ?_ ?_
          rotate_left
          ·
           go_simp
           rfl
          refine hK.out _ _ ⟨((cell_far (p := ⟨gb311, _, none⟩) NB304_311.out _).trans (((cell_far (p := ⟨gb311, _, none⟩) NB304_311.out _).trans (hHeld.1)))), ((cell_far (p := ⟨gb311, _, none⟩) NB304_311.out _).trans (((cell_far (p := ⟨gb311, _, none⟩) NB304_311.out _).trans (hHeld.2.1)))), ((cell_far (p := ⟨gb311, _, none⟩) NB306_311.out _).trans (((cell_far (p := ⟨gb311, _, none⟩) NB306_311.out _).trans (hHeld.2.2.1)))), ((cell_far (p := ⟨gb311, _, none⟩) NB306_311.out _).trans (((cell_far (p := ⟨gb311, _, none⟩) NB306_311.out _).trans (hHeld.2.2.2.1)))), ((cell_far (p := ⟨gb311, _, none⟩) NB305_311.out _).trans (((cell_far (p := ⟨gb311, _, none⟩) NB305_311.out _).trans (hHeld.2.2.2.2.1)))), ((cell_far (p := ⟨gb311, _, none⟩) NB305_311.out _).trans (((cell_far (p := ⟨gb311, _, none⟩) NB305_311.out _).trans (hHeld.2.2.2.2.2))))⟩ (fun hHeld => ?_)
          clear hK K
          refine done_ (done_of HT_.out (by kernel_rfl)) ?_
          try go_wp2
          have n0_ : Aside0 (Kd.V (Kd.int .i64) 3 ((w87.setCell ⟨gb311, 0, none⟩ (.bool t299)).setCell ⟨gb311, 1, none⟩ (.slice Ao89 t300.length co89)) w.heap.size (fun k_ => k_ ≠ gb304 ∧ k_ ≠ gb305 ∧ k_ ≠ gb306 ∧ k_ ≠ gb311) v293 t292) := ⟨by (with_reducible repeat (first | apply va_ | apply vn_ | apply vd_)); exact vm_ (Kd.V_far (p := ⟨gb311, 1, none⟩) (Kd.V_far (p := ⟨gb311, 0, none⟩) (vm_ HO294.out (fun k_ hk => (⟨hk, hk.2.2.2⟩ : _ ∧ k_ ≠ gb311))) (fun _ hk => hk.2) (.bool t299)) (fun _ hk => hk.2) (.slice Ao89 t300.length co89)) (fun _ hk => ⟨hk.1.1, ⟨hk.1.2.1, ⟨hk.1.2.2.1, hk.1.2.2.2⟩⟩⟩)⟩
          have n1_ : Aside0 (Kd.V (Kd.int .i64) 3 ((w87.setCell ⟨gb311, 0, none⟩ (.bool t299)).setCell ⟨gb311, 1, none⟩ (.slice Ao89 t300.length co89)) w.heap.size (fun k_ => k_ ≠ gb304 ∧ k_ ≠ gb305 ∧ k_ ≠ gb306 ∧ k_ ≠ gb311) v297 t296) := ⟨by (with_reducible repeat (first | apply va_ | apply vn_ | apply vd_)); exact vm_ (Kd.V_far (p := ⟨gb311, 1, none⟩) (Kd.V_far (p := ⟨gb311, 0, none⟩) (vm_ HO298.out (fun k_ hk => (⟨hk, hk.2.2.2⟩ : _ ∧ k_ ≠ gb311))) (fun _ hk => hk.2) (.bool t299)) (fun _ hk => hk.2) (.slice Ao89 t300.length co89)) (fun _ hk => ⟨hk.1.1, ⟨hk.1.2.1, ⟨hk.1.2.2.1, hk.1.2.2.2⟩⟩⟩)⟩
          have n2_ : Aside0 (Kd.V (Kd.int .i64) 3 ((w87.setCell ⟨gb311, 0, none⟩ (.bool t299)).setCell ⟨gb311, 1, none⟩ (.slice Ao89 t300.length co89)) w.heap.size (fun k_ => k_ ≠ gb304 ∧ k_ ≠ gb305 ∧ k_ ≠ gb306 ∧ k_ ≠ gb311) (.slice Ao89 t300.length co89) t300) := ⟨by (with_reducible repeat (first | apply va_ | apply vn_ | apply vd_)); exact vm_ (Kd.V_far (p := ⟨gb311, 1, none⟩) (Kd.V_far (p := ⟨gb311, 0, none⟩) (vm_ HO302.out (fun k_ hk => (⟨hk, hk.2.2.2⟩ : _ ∧ k_ ≠ gb311))) (fun _ hk => hk.2) (.bool t299)) (fun _ hk => hk.2) (.slice Ao89 t300.length co89)) (fun _ hk => ⟨hk.1.1, ⟨hk.1.2.1, ⟨hk.1.2.2.1, hk.1.2.2.2⟩⟩⟩)⟩
          have n3_ : Aside0 (((w87.setCell ⟨gb311, 0, none⟩ (.bool t299)).setCell ⟨gb311, 1, none⟩ (.slice Ao89 t300.length co89)).heap[gb304]? = some (.cells #[.bool a0_0, .slice A0_1 l0_1.length c0_1] 32 (0, 0))) := ⟨bk_⟩
          have n4_ : Aside0 (((w87.setCell ⟨gb311, 0, none⟩ (.bool t299)).setCell ⟨gb311, 1, none⟩ (.slice Ao89 t300.length co89)).heap[gb305]? = some (.cells #[.bool a1_0, .slice A1_1 l1_1.length c1_1] 32 (0, 0))) := ⟨bk_⟩
          have n5_ : Aside0 (((w87.setCell ⟨gb311, 0, none⟩ (.bool t299)).setCell ⟨gb311, 1, none⟩ (.slice Ao89 t300.length co89)).heap[gb306]? = some (.cells #[.bool a2_0, .slice A2_1 l2_1.length c2_1] 32 (0, 0))) := ⟨bk_⟩
          have n6_ : Aside0 (((w87.setCell ⟨gb311, 0, none⟩ (.bool t299)).setCell ⟨gb311, 1, none⟩ (.slice Ao89 t300.length co89)).heap[gb311]? = some (.cells #[.bool t299, .slice Ao89 t300.length co89] 32 (0, 0))) := ⟨by (with_reducible repeat (first | refine bn_ ?_ _ | refine bd_ ?_ | refine ba_ ?_ _)); refine bp_ (cs := #[.bool t299, .slice none 0 0]) ?_ 1 _ rfl; (with_reducible repeat (first | refine bn_ ?_ _ | refine bd_ ?_ | refine ba_ ?_ _)); refine bp_ (cs := #[.bool false, .slice none 0 0]) ?_ 0 _ rfl; (with_reducible repeat (first | refine bn_ ?_ _ | refine bd_ ?_ | refine ba_ ?_ _)); exact BK311.out⟩
          have n7_ : Aside0 (Below w.heap.size w ((w87.setCell ⟨gb311, 0, none⟩ (.bool t299)).setCell ⟨gb311, 1, none⟩ (.slice Ao89 t300.length co89))) := ⟨bw_⟩
          (try clear HO294)
          (try clear HO298)
          (try clear HO302)
          (try clear BK304)
          (try clear BK305)
          (try clear BK306)
          (try clear BK311)
          (try clear HB)
          generalize ((w87.setCell ⟨gb311, 0, none⟩ (.bool t299)).setCell ⟨gb311, 1, none⟩ (.slice Ao89 t300.length co89)) = w91 at n0_ n1_ n2_ n3_ n4_ n5_ n6_ n7_ ⊢
          have HO294 := n0_
          have HO298 := n1_
          have HO302 := n2_
          have BK304 := n3_
          have BK305 := n4_
          have BK306 := n5_
          have BK311 := n6_
          have HB := n7_
          clear n0_ n1_ n2_ n3_ n4_ n5_ n6_ n7_
          have n0_ := A_ (vd_ HO294.out)
          have n1_ := A_ (vd_ HO298.out)
          have n2_ := A_ (vd_ HO302.out)
          have n3_ := A_ (bd_ BK304.out)
          have n4_ := A_ (bd_ BK305.out)
          have n5_ := A_ (bd_ BK306.out)
          have n6_ := A_ (bd_ BK311.out)
          have n7_ := A_ (b1_ HB.out)
          clear HO294
          clear HO298
          clear HO302
          clear BK304
          clear BK305
          clear BK306
          clear BK311
          clear HB
          have HO294 := n0_
          have HO298 := n1_
          have HO302 := n2_
          have BK304 := n3_
          have BK305 := n4_
          have BK306 := n5_
          have BK311 := n6_
          have HB := n7_
          clear n0_ n1_ n2_ n3_ n4_ n5_ n6_ n7_
          refine start_ (n := 8) (S := fun w' => w'.cell? ⟨gb311, 0, none⟩ = some (.bool t299) ∧ w'.cell? ⟨gb311, 1, none⟩ = some (.slice Ao89 t300.length co89) ∧ w'.cell? ⟨gb305, 0, none⟩ = some (.bool a1_0) ∧ w'.cell? ⟨gb305, 1, none⟩ = some (.slice A1_1 l1_1.length c1_1)) (ds := []) #[false, false, false, false, false, false, false, false] (by kernel_rfl) rfl rfl ⟨(bc_ BK311.out 0).trans rfl, (bc_ BK311.out 1).trans rfl, (bc_ BK305.out 0).trans rfl, (bc_ BK305.out 1).trans rfl⟩ (fun hHeld => ?_); refine with_tabW clevisref01_Rounded.tab10 clevisref01_Rounded.bits10 (fun HT_ HW_ => ?_)
          generalize w91.drew = w92 at HO294 HO298 HO302 BK304 BK305 BK306 BK311 HB hHeld ⊢
          refine pure_ (i := 4) (N := some 67) (v := ?_) (a' := ?_) #[false, false, false, false, true, false, false, false] rfl rfl (any_of HT_.out (by kernel_rfl)) (fun _ _ _ h => h) (Or.inl ⟨by rfl, ?_⟩) ?_ ?_
          rotate_left
          ·
           intro w'
           go_simp
           with_reducible rfl
          rotate_left
          ·
           simp only [Act.put, sA_, sZ_, sS_, i64_w, i32_w]
           rfl
          refine take_ (i := 0) (N := some 63) (v := ?_) (a' := ?_) #[true, false, false, false, true, false, false, false] rfl rfl (take_ofW HT_.out HW_.out (by kernel_rfl)) (fun _ _ _ h => h) (Or.inl ⟨by rfl, ?_⟩) hHeld ?_ ?_
          rotate_left
          ·
           rintro w' ⟨s0, s1, s2, s3⟩
           go_simp
           with_reducible rfl
          rotate_left
          ·
           simp only [Act.put, sA_, sZ_, sS_, i64_w, i32_w]
           rfl
          refine take_ (i := 1) (N := some 64) (v := ?_) (a' := ?_) #[true, true, false, false, true, false, false, false] rfl rfl (take_ofW HT_.out HW_.out (by kernel_rfl)) (fun _ _ _ h => h) (Or.inl ⟨by rfl, ?_⟩) hHeld ?_ ?_
          rotate_left
          ·
           rintro w' ⟨s0, s1, s2, s3⟩
           go_simp
           with_reducible rfl
          rotate_left
          ·
           simp only [Act.put, sA_, sZ_, sS_, i64_w, i32_w]
           rfl
          refine take_ (i := 5) (N := some 68) (v := ?_) (a' := ?_) #[true, true, false, false, true, true, false, false] rfl rfl (take_ofW HT_.out HW_.out (by kernel_rfl)) (fun _ _ _ h => h) (Or.inl ⟨by rfl, ?_⟩) hHeld ?_ ?_
          rotate_left
          ·
           rintro w' ⟨s0, s1, s2, s3⟩
           go_simp
           with_reducible rfl
          rotate_left
          ·
           simp only [Act.put, sA_, sZ_, sS_, i64_w, i32_w]
           rfl
          refine one_ (i := 2) (N := some 65) #[true, true, true, false, true, true, false, false] rfl rfl (one_of HT_.out (by kernel_rfl)) (by decide) (fun K hK => ?_)
          refine goes_ Try.func21 (by kernel_rfl) rfl #[.agg #[.bool t299, .slice Ao89 t300.length co89], .agg #[.bool t299, .slice Ao89 t300.length co89]] (by rfl) rfl rfl (by (try simp only [List.map_toArray, List.map_cons, List.map_nil]); first | done | rfl | (simp only [List.length_drop, List.length_take]; rfl)) ?_
          with_reducible refine (clevisref01_Add.calls kj43 t299 _ _ t300 t299 _ _ t300 t303 t304 _ ?side1 ?side2 ?side3 ?side4 A60.out).mono ?_
          (case side1 => repeat (first | exact (Kd.V_reads' HO302.out).2.2 | (with_reducible refine ca_ ?_ _) | (with_reducible refine cn_ ?_ _) | (with_reducible refine cd_ ?_)))
          (case side2 => exact (Kd.V_reads' HO302.out).2.1)
          (case side3 => repeat (first | exact (Kd.V_reads' HO302.out).2.2 | (with_reducible refine ca_ ?_ _) | (with_reducible refine cn_ ?_ _) | (with_reducible refine cd_ ?_)))
          (case side4 => exact (Kd.V_reads' HO302.out).2.1)
          rintro e w93 ⟨v305, rfl, ho0, hb⟩
          refine ⟨_, rfl, ?_⟩
          have n0_ := A_ (Kd.V_below (by (with_reducible repeat (first | apply va_ | apply vn_ | apply vd_)); exact HO294.out) hb)
          have n1_ := A_ (Kd.V_below (by (with_reducible repeat (first | apply va_ | apply vn_ | apply vd_)); exact HO298.out) hb)
          have n2_ := A_ (Kd.V_below (by (with_reducible repeat (first | apply va_ | apply vn_ | apply vd_)); exact HO302.out) hb)
          have n3_ := A_ (Kd.V_lower (vm_ (ok' := fun k_ => k_ ≠ gb304 ∧ k_ ≠ gb305 ∧ k_ ≠ gb306 ∧ k_ ≠ gb311) ho0 (fun k_ hk_ => ⟨(Kd.freshB (g := gb304) (o := .cells #[.bool a0_0, .slice A0_1 l0_1.length c0_1] 32 (0, 0)) bk_ k_ hk_), (Kd.freshB (g := gb305) (o := .cells #[.bool a1_0, .slice A1_1 l1_1.length c1_1] 32 (0, 0)) bk_ k_ hk_), (Kd.freshB (g := gb306) (o := .cells #[.bool a2_0, .slice A2_1 l2_1.length c2_1] 32 (0, 0)) bk_ k_ hk_), (Kd.freshB (g := gb311) (o := .cells #[.bool t299, .slice Ao89 t300.length co89] 32 (0, 0)) bk_ k_ hk_)⟩)) (bz_ bw_))
          have n4_ := A_ (kb_ BK304 hb)
          have n5_ := A_ (kb_ BK305 hb)
          have n6_ := A_ (kb_ BK306 hb)
          have n7_ := A_ (kb_ BK311 hb)
          have n8_ := A_ (bs_ bw_ hb)
          clear HO294
          clear HO298
          clear HO302
          clear BK304
          clear BK305
          clear BK306
          clear BK311
          clear HB
          have HO294 := n0_
          have HO298 := n1_
          have HO302 := n2_
          have HO306 := n3_
          have BK304 := n4_
          have BK305 := n5_
          have BK306 := n6_
          have BK311 := n7_
          have HB := n8_
          clear n0_ n1_ n2_ n3_ n4_ n5_ n6_ n7_ n8_
          (try clear hb)
          (try clear hb2)
          (try clear hk)
          (try clear hi)
          (try clear ho0)
          obtain ⟨Ao94, co94, eo94⟩ := Kd.V_slice HO306.out
          (first | subst eo94 | (injection eo94 with f1_ f2_ f3_; have f4_ := f1_.symm; have f5_ := f3_.symm; clear f1_ f2_ f3_; subst f4_; subst f5_))
          refine hK.out _ _ ⟨(bc_ BK311.out 0).trans rfl, (bc_ BK311.out 1).trans rfl, (bc_ BK305.out 0).trans rfl, (bc_ BK305.out 1).trans rfl⟩ (fun hHeld => ?_)
          clear hK K
          refine norm_ (a' := ?_) ?_ ?_
          rotate_left
          ·
           show Act.put _ (some 65) _ = _
           simp only [Act.put, sA_, sZ_, sS_, i64_w, i32_w]
           rfl
          refine pure_ (i := 3) (N := some 66) (v := ?_) (a' := ?_) #[true, true, true, true, true, true, false, false] rfl rfl (any_of HT_.out (by kernel_rfl)) (fun _ _ _ h => h) (Or.inl ⟨by rfl, ?_⟩) ?_ ?_
          rotate_left
          ·
           intro w'
           go_simp
           with_reducible rfl
          rotate_left
          ·
           simp only [Act.put, sA_, sZ_, sS_, i64_w, i32_w]
           rfl
          refine one_ (i := 6) (N := some 69) #[true, true, true, true, true, true, true, false] rfl rfl (one_of HT_.out (by kernel_rfl)) (by decide) (fun K hK => ?_)
          refine goes_ Try.func42 (by kernel_rfl) rfl #[.slice Ao94 t304.length co94, .slice A1_1 l1_1.length c1_1] (by rfl) rfl rfl (by (try simp only [List.map_toArray, List.map_cons, List.map_nil]); first | done | rfl | (simp only [List.length_drop, List.length_take]; rfl)) ?_
          with_reducible refine (clevisref01_size.calls kj43 _ _ t304 _ _ l1_1 t307 _ ?side1 ?side2 ?side3 ?side4 A61.out).mono ?_
          (case side1 => repeat (first | exact (Kd.V_reads' HO306.out).2.2 | (with_reducible refine ca_ ?_ _) | (with_reducible refine cn_ ?_ _) | (with_reducible refine cd_ ?_)))
          (case side2 => exact (Kd.V_reads' HO306.out).2.1)
          (case side3 => repeat (first | exact (cb_ HR1_1.out HB.out) | (with_reducible refine ca_ ?_ _) | (with_reducible refine cn_ ?_ _) | (with_reducible refine cd_ ?_)))
          (case side4 => exact HC1_1.out)
          rintro e w' ⟨rfl, ⟨nd, rfl⟩⟩
          refine ⟨_, rfl, ?_⟩
          refine hK.out _ _ ⟨(bc_ BK311.out 0).trans rfl, (bc_ BK311.out 1).trans rfl, (bc_ BK305.out 0).trans rfl, (bc_ BK305.out 1).trans rfl⟩ (fun hHeld => ?_)
          clear hK K
          refine norm_ (a' := ?_) ?_ ?_
          rotate_left
          ·
           show Act.put _ (some 69) _ = _
           simp only [Act.put, sA_, sZ_, sS_, i64_w, i32_w]
           rfl
          refine pure_ (i := 7) (N := some 12) (v := ?_) (a' := ?_) #[true, true, true, true, true, true, true, true] rfl rfl (any_of HT_.out (by kernel_rfl)) (fun _ _ _ h => h) (Or.inl ⟨by rfl, ?_⟩) ?_ ?_
          rotate_left
          ·
           intro w'
           go_simp
           with_reducible rfl
          rotate_left
          ·
           simp only [Act.put, sA_, sZ_, sS_, i64_w, i32_w]
           rfl
          refine done_ (done_of HT_.out (by kernel_rfl)) ?_
          have hnb95 := NB306_304.out
          have hnc95 := NB304_306.out
          have hnb96 := NB306_305.out
          have hnc96 := NB305_306.out
          have hnb97 := NB306_311.out
          have hnc97 := NB311_306.out
          have hcz98_0 : w93.cell? ⟨gb306, 0, none⟩ = some (.bool a2_0) := (bc_ BK306.out 0).trans rfl
          have hcz98_1 : w93.cell? ⟨gb306, 1, none⟩ = some (.slice A2_1 l2_1.length c2_1) := (bc_ BK306.out 1).trans rfl
          have hfz98_0 := bf_ BK306.out 0
          have hfz98_1 := bf_ BK306.out 1
          try go_wp2_with ((go_at_call 43; (with_reducible refine (clevisref01_odd.calls a2_0 _ _ l2_1 t308 _ ?side1 ?side2 A79.out).mono ?_); (case side1 => repeat (first | exact (cb_ HR2_1.out bw_) | (with_reducible refine ca_ ?_ _) | (with_reducible refine cn_ ?_ _) | (with_reducible refine cd_ ?_))); (case side2 => exact HC2_1.out); rintro e w99 ⟨rfl, hb⟩; have n0_ := A_ (Kd.V_below (by (with_reducible repeat (first | apply va_ | apply vn_ | apply vd_)); exact HO294.out) hb); have n1_ := A_ (Kd.V_below (by (with_reducible repeat (first | apply va_ | apply vn_ | apply vd_)); exact HO298.out) hb); have n2_ := A_ (Kd.V_below (by (with_reducible repeat (first | apply va_ | apply vn_ | apply vd_)); exact HO302.out) hb); have n3_ := A_ (Kd.V_below (by (with_reducible repeat (first | apply va_ | apply vn_ | apply vd_)); exact HO306.out) hb); have n4_ := A_ (kb_ BK304 hb); have n5_ := A_ (kb_ BK305 hb); have n6_ := A_ (kb_ BK306 hb); have n7_ := A_ (kb_ BK311 hb); have n8_ := A_ (bs_ bw_ hb); clear HO294; clear HO298; clear HO302; clear HO306; clear BK304; clear BK305; clear BK306; clear BK311; clear HB; have HO294 := n0_; have HO298 := n1_; have HO302 := n2_; have HO306 := n3_; have BK304 := n4_; have BK305 := n5_; have BK306 := n6_; have BK311 := n7_; have HB := n8_; clear n0_ n1_ n2_ n3_ n4_ n5_ n6_ n7_ n8_; (try clear hb); (try clear hb2); (try clear hk); (try clear hi)))
          go_ret
          exact ⟨by first | rfl | (simp [errW_none, errW_some] <;> rfl) | (simp [*, errW_none, errW_some] <;> rfl), bw_⟩
         ·
          rw [if_neg c78] at H
          have c78b0 : (t307 == 0) = false := q4_ c78
          have c78b1 : (t307 != 0) = true := q2_ c78
          obtain rfl := Option.some.inj H
          try go_wp2
          have n0_ := A_ (bd_ BK304.out)
          have n1_ := A_ (bd_ BK305.out)
          have n2_ := A_ (bd_ BK306.out)
          have n3_ := A_ (b1_ HB.out)
          clear BK304
          clear BK305
          clear BK306
          clear HB
          have BK304 := n0_
          have BK305 := n1_
          have BK306 := n2_
          have HB := n3_
          clear n0_ n1_ n2_ n3_
          refine start_ (n := 8) (S := fun w' => w'.cell? ⟨gb304, 0, none⟩ = some (.bool a0_0) ∧ w'.cell? ⟨gb304, 1, none⟩ = some (.slice A0_1 l0_1.length c0_1) ∧ w'.cell? ⟨gb306, 0, none⟩ = some (.bool a2_0) ∧ w'.cell? ⟨gb306, 1, none⟩ = some (.slice A2_1 l2_1.length c2_1) ∧ w'.cell? ⟨gb305, 0, none⟩ = some (.bool a1_0) ∧ w'.cell? ⟨gb305, 1, none⟩ = some (.slice A1_1 l1_1.length c1_1)) (ds := []) #[false, false, false, false, false, false, false, false] (by kernel_rfl) rfl rfl ⟨(bc_ BK304.out 0).trans rfl, (bc_ BK304.out 1).trans rfl, (bc_ BK306.out 0).trans rfl, (bc_ BK306.out 1).trans rfl, (bc_ BK305.out 0).trans rfl, (bc_ BK305.out 1).trans rfl⟩ (fun hHeld => ?_); refine with_tabW clevisref01_Rounded.tab9 clevisref01_Rounded.bits9 (fun HT_ HW_ => ?_)
          generalize wc.drew = w100 at BK304 BK305 BK306 HB hHeld ⊢
          refine take_ (i := 0) (N := some 57) (v := ?_) (a' := ?_) #[true, false, false, false, false, false, false, false] rfl rfl (take_ofW HT_.out HW_.out (by kernel_rfl)) (fun _ _ _ h => h) (Or.inl ⟨by rfl, ?_⟩) hHeld ?_ ?_
          rotate_left
          ·
           rintro w' ⟨s0, s1, s2, s3, s4, s5⟩
           go_simp
           with_reducible rfl
          rotate_left
          ·
           simp only [Act.put, sA_, sZ_, sS_, i64_w, i32_w]
           rfl
          refine take_ (i := 1) (N := some 58) (v := ?_) (a' := ?_) #[true, true, false, false, false, false, false, false] rfl rfl (take_ofW HT_.out HW_.out (by kernel_rfl)) (fun _ _ _ h => h) (Or.inl ⟨by rfl, ?_⟩) hHeld ?_ ?_
          rotate_left
          ·
           rintro w' ⟨s0, s1, s2, s3, s4, s5⟩
           go_simp
           with_reducible rfl
          rotate_left
          ·
           simp only [Act.put, sA_, sZ_, sS_, i64_w, i32_w]
           rfl
          refine take_ (i := 2) (N := some 59) (v := ?_) (a' := ?_) #[true, true, true, false, false, false, false, false] rfl rfl (take_ofW HT_.out HW_.out (by kernel_rfl)) (fun _ _ _ h => h) (Or.inl ⟨by rfl, ?_⟩) hHeld ?_ ?_
          rotate_left
          ·
           rintro w' ⟨s0, s1, s2, s3, s4, s5⟩
           go_simp
           with_reducible rfl
          rotate_left
          ·
           simp only [Act.put, sA_, sZ_, sS_, i64_w, i32_w]
           rfl
          refine join_ (σ := Value × Value × Value × Nat) 1 #[true, true, true, true, true, true, true, false] (fun s_ => [(60, .agg #[.bool t291, s_.1]), (61, .agg #[.bool t295, s_.2.1]), (62, .agg #[.bool t299, s_.2.2.1]), (11, .pointer (some ⟨s_.2.2.2, 0, none⟩))]) (fun s_ w' => (w'.cell? ⟨gb304, 0, none⟩ = some (.bool a0_0) ∧ w'.cell? ⟨gb304, 1, none⟩ = some (.slice A0_1 l0_1.length c0_1) ∧ w'.cell? ⟨gb306, 0, none⟩ = some (.bool a2_0) ∧ w'.cell? ⟨gb306, 1, none⟩ = some (.slice A2_1 l2_1.length c2_1) ∧ w'.cell? ⟨gb305, 0, none⟩ = some (.bool a1_0) ∧ w'.cell? ⟨gb305, 1, none⟩ = some (.slice A1_1 l1_1.length c1_1)) ∧ (Kd.V (Kd.int .i64) 3 w' w.heap.size (fun k_ => k_ ≠ gb304 ∧ k_ ≠ gb305 ∧ k_ ≠ gb306 ∧ k_ ≠ s_.2.2.2) s_.1 t292) ∧ (Kd.V (Kd.int .i64) 3 w' w.heap.size (fun k_ => k_ ≠ gb304 ∧ k_ ≠ gb305 ∧ k_ ≠ gb306 ∧ k_ ≠ s_.2.2.2) s_.2.1 t296) ∧ (Kd.V (Kd.int .i64) 3 w' w.heap.size (fun k_ => k_ ≠ gb304 ∧ k_ ≠ gb305 ∧ k_ ≠ gb306 ∧ k_ ≠ s_.2.2.2) s_.2.2.1 t300) ∧ (w'.heap[gb304]? = some (.cells #[.bool a0_0, .slice A0_1 l0_1.length c0_1] 32 (0, 0))) ∧ (w'.heap[gb305]? = some (.cells #[.bool a1_0, .slice A1_1 l1_1.length c1_1] 32 (0, 0))) ∧ (w'.heap[gb306]? = some (.cells #[.bool a2_0, .slice A2_1 l2_1.length c2_1] 32 (0, 0))) ∧ (w'.heap[s_.2.2.2]? = some (.cells #[.bool false, .slice none 0 0] 32 (0, 0))) ∧ (w.heap.size ≤ s_.2.2.2) ∧ (w.heap.size ≤ s_.2.2.2) ∧ (gb304 ≠ s_.2.2.2) ∧ (s_.2.2.2 ≠ gb304) ∧ (gb305 ≠ s_.2.2.2) ∧ (s_.2.2.2 ≠ gb305) ∧ (gb306 ≠ s_.2.2.2) ∧ (s_.2.2.2 ≠ gb306) ∧ (Below w.heap.size w w')) ?_ ?_
          rotate_left
          ·
           intro hCont
           refine two_ (i := 3) (j := 6) (Ni := some 60) (Nj := some 11) #[true, true, true, true, false, false, false, false] #[true, true, true, false, false, false, true, false] rfl rfl rfl rfl (two_of HT_.out (by kernel_rfl)) (by decide) (by decide) (fun K hK => ?_) (fun K hK => ?_)
           ·
            skip
            refine goes_ Try.func26 (by kernel_rfl) rfl #[.agg #[.bool a2_0, .slice A2_1 l2_1.length c2_1], .agg #[.bool a1_0, .slice A1_1 l1_1.length c1_1]] (by rfl) rfl rfl (by (try simp only [List.map_toArray, List.map_cons, List.map_nil]); first | done | rfl | (simp only [List.length_drop, List.length_take]; rfl)) ?_
            with_reducible refine (clevisref01_Mul.calls kj43 a2_0 _ _ l2_1 a1_0 _ _ l1_1 t291 t292 _ ?side1 ?side2 ?side3 ?side4 A57.out).mono ?_
            (case side1 => repeat (first | exact (cb_ HR2_1.out HB.out) | (with_reducible refine ca_ ?_ _) | (with_reducible refine cn_ ?_ _) | (with_reducible refine cd_ ?_)))
            (case side2 => exact HC2_1.out)
            (case side3 => repeat (first | exact (cb_ HR1_1.out HB.out) | (with_reducible refine ca_ ?_ _) | (with_reducible refine cn_ ?_ _) | (with_reducible refine cd_ ?_)))
            (case side4 => exact HC1_1.out)
            rintro e w101 ⟨v293, rfl, ho0, hb⟩
            refine ⟨_, rfl, ?_⟩
            have n0_ := A_ (Kd.V_lower (vm_ (ok' := fun k_ => k_ ≠ gb304 ∧ k_ ≠ gb305 ∧ k_ ≠ gb306) ho0 (fun k_ hk_ => ⟨(Kd.freshB (g := gb304) (o := .cells #[.bool a0_0, .slice A0_1 l0_1.length c0_1] 32 (0, 0)) bk_ k_ hk_), (Kd.freshB (g := gb305) (o := .cells #[.bool a1_0, .slice A1_1 l1_1.length c1_1] 32 (0, 0)) bk_ k_ hk_), (Kd.freshB (g := gb306) (o := .cells #[.bool a2_0, .slice A2_1 l2_1.length c2_1] 32 (0, 0)) bk_ k_ hk_)⟩)) (bz_ bw_))
            have n1_ := A_ (kb_ BK304 hb)
            have n2_ := A_ (kb_ BK305 hb)
            have n3_ := A_ (kb_ BK306 hb)
            have n4_ := A_ (bs_ bw_ hb)
            clear BK304
            clear BK305
            clear BK306
            clear HB
            have HO294 := n0_
            have BK304 := n1_
            have BK305 := n2_
            have BK306 := n3_
            have HB := n4_
            clear n0_ n1_ n2_ n3_ n4_
            (try clear hb)
            (try clear hb2)
            (try clear hk)
            (try clear hi)
            (try clear ho0)
            obtain ⟨Ao102, co102, eo102⟩ := Kd.V_slice HO294.out
            (first | subst eo102 | (injection eo102 with f1_ f2_ f3_; have f4_ := f1_.symm; have f5_ := f3_.symm; clear f1_ f2_ f3_; subst f4_; subst f5_))
            refine hK.out _ _ ⟨(bc_ BK304.out 0).trans rfl, (bc_ BK304.out 1).trans rfl, (bc_ BK306.out 0).trans rfl, (bc_ BK306.out 1).trans rfl, (bc_ BK305.out 0).trans rfl, (bc_ BK305.out 1).trans rfl⟩ (fun hHeld => ?_)
            clear hK K
            refine norm_ (a' := ?_) ?_ ?_
            rotate_left
            ·
             show Act.put _ (some 60) _ = _
             simp only [Act.put, sA_, sZ_, sS_, i64_w, i32_w]
             rfl
            refine two_ (i := 4) (j := 6) (Ni := some 61) (Nj := some 11) #[true, true, true, true, true, false, false, false] #[true, true, true, true, false, false, true, false] rfl rfl rfl rfl (two_of HT_.out (by kernel_rfl)) (by decide) (by decide) (fun K hK => ?_) (fun K hK => ?_)
            ·
             skip
             refine goes_ Try.func22 (by kernel_rfl) rfl #[.agg #[.bool t291, .slice Ao102 t292.length co102]] (by rfl) rfl rfl (by (try simp only [List.map_toArray, List.map_cons, List.map_nil]); first | done | rfl | (simp only [List.length_drop, List.length_take]; rfl)) ?_
             with_reducible refine (clevisref01_Neg.calls kj43 t291 (fun k_ => (k_ ≠ gb304 ∧ (k_ ≠ gb305 ∧ k_ ≠ gb306))) _ _ t292 t295 t296 _ ?side1 A58.out).mono ?_
             (case side1 => exact HO294.out)
             rintro e w103 ⟨v297, rfl, ho0, hb⟩
             refine ⟨_, rfl, ?_⟩
             have n0_ := A_ (Kd.V_below (by (with_reducible repeat (first | apply va_ | apply vn_ | apply vd_)); exact HO294.out) hb)
             have n1_ := A_ (Kd.V_lower (vm_ (ok' := fun k_ => k_ ≠ gb304 ∧ k_ ≠ gb305 ∧ k_ ≠ gb306) ho0 (fun k_ hk_ => ⟨Or.elim hk_ (fun hs_ => hs_.1) (fun hn_ => (Kd.freshB (g := gb304) (o := .cells #[.bool a0_0, .slice A0_1 l0_1.length c0_1] 32 (0, 0)) bk_ k_ hn_)), Or.elim hk_ (fun hs_ => hs_.2.1) (fun hn_ => (Kd.freshB (g := gb305) (o := .cells #[.bool a1_0, .slice A1_1 l1_1.length c1_1] 32 (0, 0)) bk_ k_ hn_)), Or.elim hk_ (fun hs_ => hs_.2.2) (fun hn_ => (Kd.freshB (g := gb306) (o := .cells #[.bool a2_0, .slice A2_1 l2_1.length c2_1] 32 (0, 0)) bk_ k_ hn_))⟩)) (bz_ bw_))
             have n2_ := A_ (kb_ BK304 hb)
             have n3_ := A_ (kb_ BK305 hb)
             have n4_ := A_ (kb_ BK306 hb)
             have n5_ := A_ (bs_ bw_ hb)
             clear HO294
             clear BK304
             clear BK305
             clear BK306
             clear HB
             have HO294 := n0_
             have HO298 := n1_
             have BK304 := n2_
             have BK305 := n3_
             have BK306 := n4_
             have HB := n5_
             clear n0_ n1_ n2_ n3_ n4_ n5_
             (try clear hb)
             (try clear hb2)
             (try clear hk)
             (try clear hi)
             (try clear ho0)
             obtain ⟨Ao104, co104, eo104⟩ := Kd.V_slice HO298.out
             (first | subst eo104 | (injection eo104 with f1_ f2_ f3_; have f4_ := f1_.symm; have f5_ := f3_.symm; clear f1_ f2_ f3_; subst f4_; subst f5_))
             refine hK.out _ _ ⟨(bc_ BK304.out 0).trans rfl, (bc_ BK304.out 1).trans rfl, (bc_ BK306.out 0).trans rfl, (bc_ BK306.out 1).trans rfl, (bc_ BK305.out 0).trans rfl, (bc_ BK305.out 1).trans rfl⟩ (fun hHeld => ?_)
             clear hK K
             refine norm_ (a' := ?_) ?_ ?_
             rotate_left
             ·
              show Act.put _ (some 61) _ = _
              simp only [Act.put, sA_, sZ_, sS_, i64_w, i32_w]
              rfl
             refine two_ (i := 5) (j := 6) (Ni := some 62) (Nj := some 11) #[true, true, true, true, true, true, false, false] #[true, true, true, true, true, false, true, false] rfl rfl rfl rfl (two_of HT_.out (by kernel_rfl)) (by decide) (by decide) (fun K hK => ?_) (fun K hK => ?_)
             ·
              skip
              refine goes_ Try.func21 (by kernel_rfl) rfl #[.agg #[.bool a0_0, .slice A0_1 l0_1.length c0_1], .agg #[.bool t295, .slice Ao104 t296.length co104]] (by rfl) rfl rfl (by (try simp only [List.map_toArray, List.map_cons, List.map_nil]); first | done | rfl | (simp only [List.length_drop, List.length_take]; rfl)) ?_
              with_reducible refine (clevisref01_Add.calls kj43 a0_0 _ _ l0_1 t295 _ _ t296 t299 t300 _ ?side1 ?side2 ?side3 ?side4 A59.out).mono ?_
              (case side1 => repeat (first | exact (cb_ HR0_1.out HB.out) | (with_reducible refine ca_ ?_ _) | (with_reducible refine cn_ ?_ _) | (with_reducible refine cd_ ?_)))
              (case side2 => exact HC0_1.out)
              (case side3 => repeat (first | exact (Kd.V_reads' HO298.out).2.2 | (with_reducible refine ca_ ?_ _) | (with_reducible refine cn_ ?_ _) | (with_reducible refine cd_ ?_)))
              (case side4 => exact (Kd.V_reads' HO298.out).2.1)
              rintro e w105 ⟨v301, rfl, ho0, hb⟩
              refine ⟨_, rfl, ?_⟩
              have n0_ := A_ (Kd.V_below (by (with_reducible repeat (first | apply va_ | apply vn_ | apply vd_)); exact HO294.out) hb)
              have n1_ := A_ (Kd.V_below (by (with_reducible repeat (first | apply va_ | apply vn_ | apply vd_)); exact HO298.out) hb)
              have n2_ := A_ (Kd.V_lower (vm_ (ok' := fun k_ => k_ ≠ gb304 ∧ k_ ≠ gb305 ∧ k_ ≠ gb306) ho0 (fun k_ hk_ => ⟨(Kd.freshB (g := gb304) (o := .cells #[.bool a0_0, .slice A0_1 l0_1.length c0_1] 32 (0, 0)) bk_ k_ hk_), (Kd.freshB (g := gb305) (o := .cells #[.bool a1_0, .slice A1_1 l1_1.length c1_1] 32 (0, 0)) bk_ k_ hk_), (Kd.freshB (g := gb306) (o := .cells #[.bool a2_0, .slice A2_1 l2_1.length c2_1] 32 (0, 0)) bk_ k_ hk_)⟩)) (bz_ bw_))
              have n3_ := A_ (kb_ BK304 hb)
              have n4_ := A_ (kb_ BK305 hb)
              have n5_ := A_ (kb_ BK306 hb)
              have n6_ := A_ (bs_ bw_ hb)
              clear HO294
              clear HO298
              clear BK304
              clear BK305
              clear BK306
              clear HB
              have HO294 := n0_
              have HO298 := n1_
              have HO302 := n2_
              have BK304 := n3_
              have BK305 := n4_
              have BK306 := n5_
              have HB := n6_
              clear n0_ n1_ n2_ n3_ n4_ n5_ n6_
              (try clear hb)
              (try clear hb2)
              (try clear hk)
              (try clear hi)
              (try clear ho0)
              refine hK.out _ _ ⟨(bc_ BK304.out 0).trans rfl, (bc_ BK304.out 1).trans rfl, (bc_ BK306.out 0).trans rfl, (bc_ BK306.out 1).trans rfl, (bc_ BK305.out 0).trans rfl, (bc_ BK305.out 1).trans rfl⟩ (fun hHeld => ?_)
              clear hK K
              refine norm_ (a' := ?_) ?_ ?_
              rotate_left
              ·
               show Act.put _ (some 62) _ = _
               simp only [Act.put, sA_, sZ_, sS_, i64_w, i32_w]
               rfl
              refine one_ (i := 6) (N := some 11) #[true, true, true, true, true, true, true, false] rfl rfl (one_of HT_.out (by kernel_rfl)) (by decide) (fun K hK => ?_)
              refine box_step ?hg (N := 11) ?hd (cs := #[.bool false, .slice none 0 0]) (t := 32) ?hr ?_; (case hd => rfl); (case hg => rfl); (case hr => first | (go_simp; done) | (go_simp; rfl))
              intro gb311 hg w106 hbox hb
              have n0_ := A_ (Kd.V_below (Kd.V_elderB (by (with_reducible repeat (first | apply va_ | apply vn_ | apply vd_)); exact HO294.out) gb311 (Nat.le_of_eq hg.symm)) hb)
              have n1_ := A_ (Kd.V_below (Kd.V_elderB (by (with_reducible repeat (first | apply va_ | apply vn_ | apply vd_)); exact HO298.out) gb311 (Nat.le_of_eq hg.symm)) hb)
              have n2_ := A_ (Kd.V_below (Kd.V_elderB (by (with_reducible repeat (first | apply va_ | apply vn_ | apply vd_)); exact HO302.out) gb311 (Nat.le_of_eq hg.symm)) hb)
              have n3_ := A_ (kb_ BK304 hb)
              have n4_ := A_ (kb_ BK305 hb)
              have n5_ := A_ (kb_ BK306 hb)
              have n6_ := A_ (bs_ bw_ hb)
              have n7_ := A_ (hbox)
              have n8_ := A_ ((by rw [hg]; exact (bz_ bw_) : w.heap.size ≤ gb311))
              have n9_ := A_ ((by rw [hg]; exact (bz_ bw_) : w.heap.size ≤ gb311))
              have n10_ := A_ ((by rw [hg]; exact nl_ (lt_ BK304) : gb304 ≠ gb311))
              have n11_ := A_ ((by rw [hg]; exact ng_ (lt_ BK304) : gb311 ≠ gb304))
              have n12_ := A_ ((by rw [hg]; exact nl_ (lt_ BK305) : gb305 ≠ gb311))
              have n13_ := A_ ((by rw [hg]; exact ng_ (lt_ BK305) : gb311 ≠ gb305))
              have n14_ := A_ ((by rw [hg]; exact nl_ (lt_ BK306) : gb306 ≠ gb311))
              have n15_ := A_ ((by rw [hg]; exact ng_ (lt_ BK306) : gb311 ≠ gb306))
              clear HO294
              clear HO298
              clear HO302
              clear BK304
              clear BK305
              clear BK306
              clear HB
              have HO294 := n0_
              have HO298 := n1_
              have HO302 := n2_
              have BK304 := n3_
              have BK305 := n4_
              have BK306 := n5_
              have HB := n6_
              have BK311 := n7_
              have GW311 := n8_
              have GE311 := n9_
              have NB304_311 := n10_
              have NB311_304 := n11_
              have NB305_311 := n12_
              have NB311_305 := n13_
              have NB306_311 := n14_
              have NB311_306 := n15_
              clear n0_ n1_ n2_ n3_ n4_ n5_ n6_ n7_ n8_ n9_ n10_ n11_ n12_ n13_ n14_ n15_
              clear hb hbox hg
              refine hK.out _ _ ⟨(bc_ BK304.out 0).trans rfl, (bc_ BK304.out 1).trans rfl, (bc_ BK306.out 0).trans rfl, (bc_ BK306.out 1).trans rfl, (bc_ BK305.out 0).trans rfl, (bc_ BK305.out 1).trans rfl⟩ (fun hHeld => ?_)
              clear hK K
              refine norm_ (a' := ?_) ?_ ?_
              rotate_left
              ·
               show Act.put _ (some 11) _ = _
               simp only [Act.put, sA_, sZ_, sS_, i64_w, i32_w]
               rfl
              exact norm_ (by simp only [putAll, Act.put, sA_, sZ_, sS_]) (hCont (.slice Ao102 t292.length co102, .slice Ao104 t296.length co104, v301, gb311) _ ⟨hHeld, (by (with_reducible repeat (first | apply va_ | apply vn_ | apply vd_)); exact vm_ HO294.out (fun _ hk => ⟨hk.1.1, ⟨hk.1.2.1, ⟨hk.1.2.2, hk.2⟩⟩⟩)), (by (with_reducible repeat (first | apply va_ | apply vn_ | apply vd_)); exact vm_ HO298.out (fun _ hk => ⟨hk.1.1, ⟨hk.1.2.1, ⟨hk.1.2.2, hk.2⟩⟩⟩)), (by (with_reducible repeat (first | apply va_ | apply vn_ | apply vd_)); exact vm_ HO302.out (fun _ hk => ⟨hk.1.1, ⟨hk.1.2.1, ⟨hk.1.2.2, hk.2⟩⟩⟩)), bk_, bk_, bk_, bk_, GW311.out, GE311.out, NB304_311.out, NB311_304.out, NB305_311.out, NB311_305.out, NB306_311.out, NB311_306.out, bw_⟩)
             ·
              skip
              refine box_step ?hg (N := 11) ?hd (cs := #[.bool false, .slice none 0 0]) (t := 32) ?hr ?_; (case hd => rfl); (case hg => rfl); (case hr => first | (go_simp; done) | (go_simp; rfl))
              intro gb311 hg w104 hbox hb
              have n0_ := A_ (Kd.V_below (Kd.V_elderB (by (with_reducible repeat (first | apply va_ | apply vn_ | apply vd_)); exact HO294.out) gb311 (Nat.le_of_eq hg.symm)) hb)
              have n1_ := A_ (Kd.V_below (Kd.V_elderB (by (with_reducible repeat (first | apply va_ | apply vn_ | apply vd_)); exact HO298.out) gb311 (Nat.le_of_eq hg.symm)) hb)
              have n2_ := A_ (kb_ BK304 hb)
              have n3_ := A_ (kb_ BK305 hb)
              have n4_ := A_ (kb_ BK306 hb)
              have n5_ := A_ (bs_ bw_ hb)
              have n6_ := A_ (hbox)
              have n7_ := A_ ((by rw [hg]; exact (bz_ bw_) : w.heap.size ≤ gb311))
              have n8_ := A_ ((by rw [hg]; exact (bz_ bw_) : w.heap.size ≤ gb311))
              have n9_ := A_ ((by rw [hg]; exact nl_ (lt_ BK304) : gb304 ≠ gb311))
              have n10_ := A_ ((by rw [hg]; exact ng_ (lt_ BK304) : gb311 ≠ gb304))
              have n11_ := A_ ((by rw [hg]; exact nl_ (lt_ BK305) : gb305 ≠ gb311))
              have n12_ := A_ ((by rw [hg]; exact ng_ (lt_ BK305) : gb311 ≠ gb305))
              have n13_ := A_ ((by rw [hg]; exact nl_ (lt_ BK306) : gb306 ≠ gb311))
              have n14_ := A_ ((by rw [hg]; exact ng_ (lt_ BK306) : gb311 ≠ gb306))
              clear HO294
              clear HO298
              clear BK304
              clear BK305
              clear BK306
              clear HB
              have HO294 := n0_
              have HO298 := n1_
              have BK304 := n2_
              have BK305 := n3_
              have BK306 := n4_
              have HB := n5_
              have BK311 := n6_
              have GW311 := n7_
              have GE311 := n8_
              have NB304_311 := n9_
              have NB311_304 := n10_
              have NB305_311 := n11_
              have NB311_305 := n12_
              have NB306_311 := n13_
              have NB311_306 := n14_
              clear n0_ n1_ n2_ n3_ n4_ n5_ n6_ n7_ n8_ n9_ n10_ n11_ n12_ n13_ n14_
              clear hb hbox hg
              obtain ⟨Ao105, co105, eo105⟩ := Kd.V_slice HO298.out
              (first | subst eo105 | (injection eo105 with f1_ f2_ f3_; have f4_ := f1_.symm; have f5_ := f3_.symm; clear f1_ f2_ f3_; subst f4_; subst f5_))
              refine hK.out _ _ ⟨(bc_ BK304.out 0).trans rfl, (bc_ BK304.out 1).trans rfl, (bc_ BK306.out 0).trans rfl, (bc_ BK306.out 1).trans rfl, (bc_ BK305.out 0).trans rfl, (bc_ BK305.out 1).trans rfl⟩ (fun hHeld => ?_)
              clear hK K
              refine norm_ (a' := ?_) ?_ ?_
              rotate_left
              ·
               show Act.put _ (some 11) _ = _
               simp only [Act.put, sA_, sZ_, sS_, i64_w, i32_w]
               rfl
              refine one_ (i := 5) (N := some 62) #[true, true, true, true, true, true, true, false] rfl rfl (one_of HT_.out (by kernel_rfl)) (by decide) (fun K hK => ?_)
              refine goes_ Try.func21 (by kernel_rfl) rfl #[.agg #[.bool a0_0, .slice A0_1 l0_1.length c0_1], .agg #[.bool t295, .slice Ao105 t296.length co105]] (by rfl) rfl rfl (by (try simp only [List.map_toArray, List.map_cons, List.map_nil]); first | done | rfl | (simp only [List.length_drop, List.length_take]; rfl)) ?_
              with_reducible refine (clevisref01_Add.calls kj43 a0_0 _ _ l0_1 t295 _ _ t296 t299 t300 _ ?side1 ?side2 ?side3 ?side4 A59.out).mono ?_
              (case side1 => repeat (first | exact (cb_ HR0_1.out HB.out) | (with_reducible refine ca_ ?_ _) | (with_reducible refine cn_ ?_ _) | (with_reducible refine cd_ ?_)))
              (case side2 => exact HC0_1.out)
              (case side3 => repeat (first | exact (Kd.V_reads' HO298.out).2.2 | (with_reducible refine ca_ ?_ _) | (with_reducible refine cn_ ?_ _) | (with_reducible refine cd_ ?_)))
              (case side4 => exact (Kd.V_reads' HO298.out).2.1)
              rintro e w106 ⟨v301, rfl, ho0, hb⟩
              refine ⟨_, rfl, ?_⟩
              have n0_ := A_ (Kd.V_below (by (with_reducible repeat (first | apply va_ | apply vn_ | apply vd_)); exact HO294.out) hb)
              have n1_ := A_ (Kd.V_below (by (with_reducible repeat (first | apply va_ | apply vn_ | apply vd_)); exact HO298.out) hb)
              have n2_ := A_ (Kd.V_lower (vm_ (ok' := fun k_ => k_ ≠ gb304 ∧ k_ ≠ gb305 ∧ k_ ≠ gb306 ∧ k_ ≠ gb311) ho0 (fun k_ hk_ => ⟨(Kd.freshB (g := gb304) (o := .cells #[.bool a0_0, .slice A0_1 l0_1.length c0_1] 32 (0, 0)) bk_ k_ hk_), (Kd.freshB (g := gb305) (o := .cells #[.bool a1_0, .slice A1_1 l1_1.length c1_1] 32 (0, 0)) bk_ k_ hk_), (Kd.freshB (g := gb306) (o := .cells #[.bool a2_0, .slice A2_1 l2_1.length c2_1] 32 (0, 0)) bk_ k_ hk_), (Kd.freshB (g := gb311) (o := .cells #[.bool false, .slice none 0 0] 32 (0, 0)) bk_ k_ hk_)⟩)) (bz_ bw_))
              have n3_ := A_ (kb_ BK304 hb)
              have n4_ := A_ (kb_ BK305 hb)
              have n5_ := A_ (kb_ BK306 hb)
              have n6_ := A_ (kb_ BK311 hb)
              have n7_ := A_ (bs_ bw_ hb)
              clear HO294
              clear HO298
              clear BK304
              clear BK305
              clear BK306
              clear BK311
              clear HB
              have HO294 := n0_
              have HO298 := n1_
              have HO302 := n2_
              have BK304 := n3_
              have BK305 := n4_
              have BK306 := n5_
              have BK311 := n6_
              have HB := n7_
              clear n0_ n1_ n2_ n3_ n4_ n5_ n6_ n7_
              (try clear hb)
              (try clear hb2)
              (try clear hk)
              (try clear hi)
              (try clear ho0)
              refine hK.out _ _ ⟨(bc_ BK304.out 0).trans rfl, (bc_ BK304.out 1).trans rfl, (bc_ BK306.out 0).trans rfl, (bc_ BK306.out 1).trans rfl, (bc_ BK305.out 0).trans rfl, (bc_ BK305.out 1).trans rfl⟩ (fun hHeld => ?_)
              clear hK K
              refine norm_ (a' := ?_) ?_ ?_
              rotate_left
              ·
               show Act.put _ (some 62) _ = _
               simp only [Act.put, sA_, sZ_, sS_, i64_w, i32_w]
               rfl
              exact norm_ (by simp only [putAll, Act.put, sA_, sZ_, sS_]) (hCont (.slice Ao102 t292.length co102, .slice Ao105 t296.length co105, v301, gb311) _ ⟨hHeld, (by (with_reducible repeat (first | apply va_ | apply vn_ | apply vd_)); exact vm_ HO294.out (fun _ hk => ⟨hk.1.1, ⟨hk.1.2.1, ⟨hk.1.2.2, hk.2⟩⟩⟩)), (by (with_reducible repeat (first | apply va_ | apply vn_ | apply vd_)); exact vm_ HO298.out (fun _ hk => ⟨hk.1.1, ⟨hk.1.2.1, ⟨hk.1.2.2, hk.2⟩⟩⟩)), (by (with_reducible repeat (first | apply va_ | apply vn_ | apply vd_)); exact HO302.out), bk_, bk_, bk_, bk_, GW311.out, GE311.out, NB304_311.out, NB311_304.out, NB305_311.out, NB311_305.out, NB306_311.out, NB311_306.out, bw_⟩)
            ·
             skip
             refine box_step ?hg (N := 11) ?hd (cs := #[.bool false, .slice none 0 0]) (t := 32) ?hr ?_; (case hd => rfl); (case hg => rfl); (case hr => first | (go_simp; done) | (go_simp; rfl))
             intro gb311 hg w102 hbox hb
             have n0_ := A_ (Kd.V_below (Kd.V_elderB (by (with_reducible repeat (first | apply va_ | apply vn_ | apply vd_)); exact HO294.out) gb311 (Nat.le_of_eq hg.symm)) hb)
             have n1_ := A_ (kb_ BK304 hb)
             have n2_ := A_ (kb_ BK305 hb)
             have n3_ := A_ (kb_ BK306 hb)
             have n4_ := A_ (bs_ bw_ hb)
             have n5_ := A_ (hbox)
             have n6_ := A_ ((by rw [hg]; exact (bz_ bw_) : w.heap.size ≤ gb311))
             have n7_ := A_ ((by rw [hg]; exact (bz_ bw_) : w.heap.size ≤ gb311))
             have n8_ := A_ ((by rw [hg]; exact nl_ (lt_ BK304) : gb304 ≠ gb311))
             have n9_ := A_ ((by rw [hg]; exact ng_ (lt_ BK304) : gb311 ≠ gb304))
             have n10_ := A_ ((by rw [hg]; exact nl_ (lt_ BK305) : gb305 ≠ gb311))
             have n11_ := A_ ((by rw [hg]; exact ng_ (lt_ BK305) : gb311 ≠ gb305))
             have n12_ := A_ ((by rw [hg]; exact nl_ (lt_ BK306) : gb306 ≠ gb311))
             have n13_ := A_ ((by rw [hg]; exact ng_ (lt_ BK306) : gb311 ≠ gb306))
             clear HO294
             clear BK304
             clear BK305
             clear BK306
             clear HB
             have HO294 := n0_
             have BK304 := n1_
             have BK305 := n2_
             have BK306 := n3_
             have HB := n4_
             have BK311 := n5_
             have GW311 := n6_
             have GE311 := n7_
             have NB304_311 := n8_
             have NB311_304 := n9_
             have NB305_311 := n10_
             have NB311_305 := n11_
             have NB306_311 := n12_
             have NB311_306 := n13_
             clear n0_ n1_ n2_ n3_ n4_ n5_ n6_ n7_ n8_ n9_ n10_ n11_ n12_ n13_
             clear hb hbox hg
             obtain ⟨Ao103, co103, eo103⟩ := Kd.V_slice HO294.out
             (first | subst eo103 | (injection eo103 with f1_ f2_ f3_; have f4_ := f1_.symm; have f5_ := f3_.symm; clear f1_ f2_ f3_; subst f4_; subst f5_))
             refine hK.out _ _ ⟨(bc_ BK304.out 0).trans rfl, (bc_ BK304.out 1).trans rfl, (bc_ BK306.out 0).trans rfl, (bc_ BK306.out 1).trans rfl, (bc_ BK305.out 0).trans rfl, (bc_ BK305.out 1).trans rfl⟩ (fun hHeld => ?_)
             clear hK K
             refine norm_ (a' := ?_) ?_ ?_
             rotate_left
             ·
              show Act.put _ (some 11) _ = _
              simp only [Act.put, sA_, sZ_, sS_, i64_w, i32_w]
              rfl
             refine one_ (i := 4) (N := some 61) #[true, true, true, true, true, false, true, false] rfl rfl (one_of HT_.out (by kernel_rfl)) (by decide) (fun K hK => ?_)
             refine goes_ Try.func22 (by kernel_rfl) rfl #[.agg #[.bool t291, .slice Ao103 t292.length co103]] (by rfl) rfl rfl (by (try simp only [List.map_toArray, List.map_cons, List.map_nil]); first | done | rfl | (simp only [List.length_drop, List.length_take]; rfl)) ?_
             with_reducible refine (clevisref01_Neg.calls kj43 t291 (fun k_ => ((k_ ≠ gb304 ∧ (k_ ≠ gb305 ∧ k_ ≠ gb306)) ∧ k_ ≠ gb311)) _ _ t292 t295 t296 _ ?side1 A58.out).mono ?_
             (case side1 => exact HO294.out)
             rintro e w104 ⟨v297, rfl, ho0, hb⟩
             refine ⟨_, rfl, ?_⟩
             have n0_ := A_ (Kd.V_below (by (with_reducible repeat (first | apply va_ | apply vn_ | apply vd_)); exact HO294.out) hb)
             have n1_ := A_ (Kd.V_lower (vm_ (ok' := fun k_ => k_ ≠ gb304 ∧ k_ ≠ gb305 ∧ k_ ≠ gb306 ∧ k_ ≠ gb311) ho0 (fun k_ hk_ => ⟨Or.elim hk_ (fun hs_ => hs_.1.1) (fun hn_ => (Kd.freshB (g := gb304) (o := .cells #[.bool a0_0, .slice A0_1 l0_1.length c0_1] 32 (0, 0)) bk_ k_ hn_)), Or.elim hk_ (fun hs_ => hs_.1.2.1) (fun hn_ => (Kd.freshB (g := gb305) (o := .cells #[.bool a1_0, .slice A1_1 l1_1.length c1_1] 32 (0, 0)) bk_ k_ hn_)), Or.elim hk_ (fun hs_ => hs_.1.2.2) (fun hn_ => (Kd.freshB (g := gb306) (o := .cells #[.bool a2_0, .slice A2_1 l2_1.length c2_1] 32 (0, 0)) bk_ k_ hn_)), Or.elim hk_ (fun hs_ => hs_.2) (fun hn_ => (Kd.freshB (g := gb311) (o := .cells #[.bool false, .slice none 0 0] 32 (0, 0)) bk_ k_ hn_))⟩)) (bz_ bw_))
             have n2_ := A_ (kb_ BK304 hb)
             have n3_ := A_ (kb_ BK305 hb)
             have n4_ := A_ (kb_ BK306 hb)
             have n5_ := A_ (kb_ BK311 hb)
             have n6_ := A_ (bs_ bw_ hb)
             clear HO294
             clear BK304
             clear BK305
             clear BK306
             clear BK311
             clear HB
             have HO294 := n0_
             have HO298 := n1_
             have BK304 := n2_
             have BK305 := n3_
             have BK306 := n4_
             have BK311 := n5_
             have HB := n6_
             clear n0_ n1_ n2_ n3_ n4_ n5_ n6_
             (try clear hb)
             (try clear hb2)
             (try clear hk)
             (try clear hi)
             (try clear ho0)
             obtain ⟨Ao105, co105, eo105⟩ := Kd.V_slice HO298.out
             (first | subst eo105 | (injection eo105 with f1_ f2_ f3_; have f4_ := f1_.symm; have f5_ := f3_.symm; clear f1_ f2_ f3_; subst f4_; subst f5_))
             refine hK.out _ _ ⟨(bc_ BK304.out 0).trans rfl, (bc_ BK304.out 1).trans rfl, (bc_ BK306.out 0).trans rfl, (bc_ BK306.out 1).trans rfl, (bc_ BK305.out 0).trans rfl, (bc_ BK305.out 1).trans rfl⟩ (fun hHeld => ?_)
             clear hK K
             refine norm_ (a' := ?_) ?_ ?_
             rotate_left
             ·
              show Act.put _ (some 61) _ = _
              simp only [Act.put, sA_, sZ_, sS_, i64_w, i32_w]
              rfl
             refine one_ (i := 5) (N := some 62) #[true, true, true, true, true, true, true, false] rfl rfl (one_of HT_.out (by kernel_rfl)) (by decide) (fun K hK => ?_)
             refine goes_ Try.func21 (by kernel_rfl) rfl #[.agg #[.bool a0_0, .slice A0_1 l0_1.length c0_1], .agg #[.bool t295, .slice Ao105 t296.length co105]] (by rfl) rfl rfl (by (try simp only [List.map_toArray, List.map_cons, List.map_nil]); first | done | rfl | (simp only [List.length_drop, List.length_take]; rfl)) ?_
             with_reducible refine (clevisref01_Add.calls kj43 a0_0 _ _ l0_1 t295 _ _ t296 t299 t300 _ ?side1 ?side2 ?side3 ?side4 A59.out).mono ?_
             (case side1 => repeat (first | exact (cb_ HR0_1.out HB.out) | (with_reducible refine ca_ ?_ _) | (with_reducible refine cn_ ?_ _) | (with_reducible refine cd_ ?_)))
             (case side2 => exact HC0_1.out)
             (case side3 => repeat (first | exact (Kd.V_reads' HO298.out).2.2 | (with_reducible refine ca_ ?_ _) | (with_reducible refine cn_ ?_ _) | (with_reducible refine cd_ ?_)))
             (case side4 => exact (Kd.V_reads' HO298.out).2.1)
             rintro e w106 ⟨v301, rfl, ho0, hb⟩
             refine ⟨_, rfl, ?_⟩
             have n0_ := A_ (Kd.V_below (by (with_reducible repeat (first | apply va_ | apply vn_ | apply vd_)); exact HO294.out) hb)
             have n1_ := A_ (Kd.V_below (by (with_reducible repeat (first | apply va_ | apply vn_ | apply vd_)); exact HO298.out) hb)
             have n2_ := A_ (Kd.V_lower (vm_ (ok' := fun k_ => k_ ≠ gb304 ∧ k_ ≠ gb305 ∧ k_ ≠ gb306 ∧ k_ ≠ gb311) ho0 (fun k_ hk_ => ⟨(Kd.freshB (g := gb304) (o := .cells #[.bool a0_0, .slice A0_1 l0_1.length c0_1] 32 (0, 0)) bk_ k_ hk_), (Kd.freshB (g := gb305) (o := .cells #[.bool a1_0, .slice A1_1 l1_1.length c1_1] 32 (0, 0)) bk_ k_ hk_), (Kd.freshB (g := gb306) (o := .cells #[.bool a2_0, .slice A2_1 l2_1.length c2_1] 32 (0, 0)) bk_ k_ hk_), (Kd.freshB (g := gb311) (o := .cells #[.bool false, .slice none 0 0] 32 (0, 0)) bk_ k_ hk_)⟩)) (bz_ bw_))
             have n3_ := A_ (kb_ BK304 hb)
             have n4_ := A_ (kb_ BK305 hb)
             have n5_ := A_ (kb_ BK306 hb)
             have n6_ := A_ (kb_ BK311 hb)
             have n7_ := A_ (bs_ bw_ hb)
             clear HO294
             clear HO298
             clear BK304
             clear BK305
             clear BK306
             clear BK311
             clear HB
             have HO294 := n0_
             have HO298 := n1_
             have HO302 := n2_
             have BK304 := n3_
             have BK305 := n4_
             have BK306 := n5_
             have BK311 := n6_
             have HB := n7_
             clear n0_ n1_ n2_ n3_ n4_ n5_ n6_ n7_
             (try clear hb)
             (try clear hb2)
             (try clear hk)
             (try clear hi)
             (try clear ho0)
             refine hK.out _ _ ⟨(bc_ BK304.out 0).trans rfl, (bc_ BK304.out 1).trans rfl, (bc_ BK306.out 0).trans rfl, (bc_ BK306.out 1).trans rfl, (bc_ BK305.out 0).trans rfl, (bc_ BK305.out 1).trans rfl⟩ (fun hHeld => ?_)
             clear hK K
             refine norm_ (a' := ?_) ?_ ?_
             rotate_left
             ·
              show Act.put _ (some 62) _ = _
              simp only [Act.put, sA_, sZ_, sS_, i64_w, i32_w]
              rfl
             exact norm_ (by simp only [putAll, Act.put, sA_, sZ_, sS_]) (hCont (.slice Ao103 t292.length co103, .slice Ao105 t296.length co105, v301, gb311) _ ⟨hHeld, (by (with_reducible repeat (first | apply va_ | apply vn_ | apply vd_)); exact vm_ HO294.out (fun _ hk => ⟨hk.1.1, ⟨hk.1.2.1, ⟨hk.1.2.2, hk.2⟩⟩⟩)), (by (with_reducible repeat (first | apply va_ | apply vn_ | apply vd_)); exact HO298.out), (by (with_reducible repeat (first | apply va_ | apply vn_ | apply vd_)); exact HO302.out), bk_, bk_, bk_, bk_, GW311.out, GE311.out, NB304_311.out, NB311_304.out, NB305_311.out, NB311_305.out, NB306_311.out, NB311_306.out, bw_⟩)
           ·
            skip
            refine box_step ?hg (N := 11) ?hd (cs := #[.bool false, .slice none 0 0]) (t := 32) ?hr ?_; (case hd => rfl); (case hg => rfl); (case hr => first | (go_simp; done) | (go_simp; rfl))
            intro gb311 hg w101 hbox hb
            have n0_ := A_ (kb_ BK304 hb)
            have n1_ := A_ (kb_ BK305 hb)
            have n2_ := A_ (kb_ BK306 hb)
            have n3_ := A_ (bs_ bw_ hb)
            have n4_ := A_ (hbox)
            have n5_ := A_ ((by rw [hg]; exact (bz_ bw_) : w.heap.size ≤ gb311))
            have n6_ := A_ ((by rw [hg]; exact (bz_ bw_) : w.heap.size ≤ gb311))
            have n7_ := A_ ((by rw [hg]; exact nl_ (lt_ BK304) : gb304 ≠ gb311))
            have n8_ := A_ ((by rw [hg]; exact ng_ (lt_ BK304) : gb311 ≠ gb304))
            have n9_ := A_ ((by rw [hg]; exact nl_ (lt_ BK305) : gb305 ≠ gb311))
            have n10_ := A_ ((by rw [hg]; exact ng_ (lt_ BK305) : gb311 ≠ gb305))
            have n11_ := A_ ((by rw [hg]; exact nl_ (lt_ BK306) : gb306 ≠ gb311))
            have n12_ := A_ ((by rw [hg]; exact ng_ (lt_ BK306) : gb311 ≠ gb306))
            clear BK304
            clear BK305
            clear BK306
            clear HB
            have BK304 := n0_
            have BK305 := n1_
            have BK306 := n2_
            have HB := n3_
            have BK311 := n4_
            have GW311 := n5_
            have GE311 := n6_
            have NB304_311 := n7_
            have NB311_304 := n8_
            have NB305_311 := n9_
            have NB311_305 := n10_
            have NB306_311 := n11_
            have NB311_306 := n12_
            clear n0_ n1_ n2_ n3_ n4_ n5_ n6_ n7_ n8_ n9_ n10_ n11_ n12_
            clear hb hbox hg
            refine hK.out _ _ ⟨(bc_ BK304.out 0).trans rfl, (bc_ BK304.out 1).trans rfl, (bc_ BK306.out 0).trans rfl, (bc_ BK306.out 1).trans rfl, (bc_ BK305.out 0).trans rfl, (bc_ BK305.out 1).trans rfl⟩ (fun hHeld => ?_)
            clear hK K
            refine norm_ (a' := ?_) ?_ ?_
            rotate_left
            ·
             show Act.put _ (some 11) _ = _
             simp only [Act.put, sA_, sZ_, sS_, i64_w, i32_w]
             rfl
            refine one_ (i := 3) (N := some 60) #[true, true, true, true, false, false, true, false] rfl rfl (one_of HT_.out (by kernel_rfl)) (by decide) (fun K hK => ?_)
            refine goes_ Try.func26 (by kernel_rfl) rfl #[.agg #[.bool a2_0, .slice A2_1 l2_1.length c2_1], .agg #[.bool a1_0, .slice A1_1 l1_1.length c1_1]] (by rfl) rfl rfl (by (try simp only [List.map_toArray, List.map_cons, List.map_nil]); first | done | rfl | (simp only [List.length_drop, List.length_take]; rfl)) ?_
            with_reducible refine (clevisref01_Mul.calls kj43 a2_0 _ _ l2_1 a1_0 _ _ l1_1 t291 t292 _ ?side1 ?side2 ?side3 ?side4 A57.out).mono ?_
            (case side1 => repeat (first | exact (cb_ HR2_1.out HB.out) | (with_reducible refine ca_ ?_ _) | (with_reducible refine cn_ ?_ _) | (with_reducible refine cd_ ?_)))
            (case side2 => exact HC2_1.out)
            (case side3 => repeat (first | exact (cb_ HR1_1.out HB.out) | (with_reducible refine ca_ ?_ _) | (with_reducible refine cn_ ?_ _) | (with_reducible refine cd_ ?_)))
            (case side4 => exact HC1_1.out)
            rintro e w102 ⟨v293, rfl, ho0, hb⟩
            refine ⟨_, rfl, ?_⟩
            have n0_ := A_ (Kd.V_lower (vm_ (ok' := fun k_ => k_ ≠ gb304 ∧ k_ ≠ gb305 ∧ k_ ≠ gb306 ∧ k_ ≠ gb311) ho0 (fun k_ hk_ => ⟨(Kd.freshB (g := gb304) (o := .cells #[.bool a0_0, .slice A0_1 l0_1.length c0_1] 32 (0, 0)) bk_ k_ hk_), (Kd.freshB (g := gb305) (o := .cells #[.bool a1_0, .slice A1_1 l1_1.length c1_1] 32 (0, 0)) bk_ k_ hk_), (Kd.freshB (g := gb306) (o := .cells #[.bool a2_0, .slice A2_1 l2_1.length c2_1] 32 (0, 0)) bk_ k_ hk_), (Kd.freshB (g := gb311) (o := .cells #[.bool false, .slice none 0 0] 32 (0, 0)) bk_ k_ hk_)⟩)) (bz_ bw_))
            have n1_ := A_ (kb_ BK304 hb)
            have n2_ := A_ (kb_ BK305 hb)
            have n3_ := A_ (kb_ BK306 hb)
            have n4_ := A_ (kb_ BK311 hb)
            have n5_ := A_ (bs_ bw_ hb)
            clear BK304
            clear BK305
            clear BK306
            clear BK311
            clear HB
            have HO294 := n0_
            have BK304 := n1_
            have BK305 := n2_
            have BK306 := n3_
            have BK311 := n4_
            have HB := n5_
            clear n0_ n1_ n2_ n3_ n4_ n5_
            (try clear hb)
            (try clear hb2)
            (try clear hk)
            (try clear hi)
            (try clear ho0)
            obtain ⟨Ao103, co103, eo103⟩ := Kd.V_slice HO294.out
            (first | subst eo103 | (injection eo103 with f1_ f2_ f3_; have f4_ := f1_.symm; have f5_ := f3_.symm; clear f1_ f2_ f3_; subst f4_; subst f5_))
            refine hK.out _ _ ⟨(bc_ BK304.out 0).trans rfl, (bc_ BK304.out 1).trans rfl, (bc_ BK306.out 0).trans rfl, (bc_ BK306.out 1).trans rfl, (bc_ BK305.out 0).trans rfl, (bc_ BK305.out 1).trans rfl⟩ (fun hHeld => ?_)
            clear hK K
            refine norm_ (a' := ?_) ?_ ?_
            rotate_left
            ·
             show Act.put _ (some 60) _ = _
             simp only [Act.put, sA_, sZ_, sS_, i64_w, i32_w]
             rfl
            refine one_ (i := 4) (N := some 61) #[true, true, true, true, true, false, true, false] rfl rfl (one_of HT_.out (by kernel_rfl)) (by decide) (fun K hK => ?_)
            refine goes_ Try.func22 (by kernel_rfl) rfl #[.agg #[.bool t291, .slice Ao103 t292.length co103]] (by rfl) rfl rfl (by (try simp only [List.map_toArray, List.map_cons, List.map_nil]); first | done | rfl | (simp only [List.length_drop, List.length_take]; rfl)) ?_
            with_reducible refine (clevisref01_Neg.calls kj43 t291 (fun k_ => (k_ ≠ gb304 ∧ (k_ ≠ gb305 ∧ (k_ ≠ gb306 ∧ k_ ≠ gb311)))) _ _ t292 t295 t296 _ ?side1 A58.out).mono ?_
            (case side1 => exact HO294.out)
            rintro e w104 ⟨v297, rfl, ho0, hb⟩
            refine ⟨_, rfl, ?_⟩
            have n0_ := A_ (Kd.V_below (by (with_reducible repeat (first | apply va_ | apply vn_ | apply vd_)); exact HO294.out) hb)
            have n1_ := A_ (Kd.V_lower (vm_ (ok' := fun k_ => k_ ≠ gb304 ∧ k_ ≠ gb305 ∧ k_ ≠ gb306 ∧ k_ ≠ gb311) ho0 (fun k_ hk_ => ⟨Or.elim hk_ (fun hs_ => hs_.1) (fun hn_ => (Kd.freshB (g := gb304) (o := .cells #[.bool a0_0, .slice A0_1 l0_1.length c0_1] 32 (0, 0)) bk_ k_ hn_)), Or.elim hk_ (fun hs_ => hs_.2.1) (fun hn_ => (Kd.freshB (g := gb305) (o := .cells #[.bool a1_0, .slice A1_1 l1_1.length c1_1] 32 (0, 0)) bk_ k_ hn_)), Or.elim hk_ (fun hs_ => hs_.2.2.1) (fun hn_ => (Kd.freshB (g := gb306) (o := .cells #[.bool a2_0, .slice A2_1 l2_1.length c2_1] 32 (0, 0)) bk_ k_ hn_)), Or.elim hk_ (fun hs_ => hs_.2.2.2) (fun hn_ => (Kd.freshB (g := gb311) (o := .cells #[.bool false, .slice none 0 0] 32 (0, 0)) bk_ k_ hn_))⟩)) (bz_ bw_))
            have n2_ := A_ (kb_ BK304 hb)
            have n3_ := A_ (kb_ BK305 hb)
            have n4_ := A_ (kb_ BK306 hb)
            have n5_ := A_ (kb_ BK311 hb)
            have n6_ := A_ (bs_ bw_ hb)
            clear HO294
            clear BK304
            clear BK305
            clear BK306
            clear BK311
            clear HB
            have HO294 := n0_
            have HO298 := n1_
            have BK304 := n2_
            have BK305 := n3_
            have BK306 := n4_
            have BK311 := n5_
            have HB := n6_
            clear n0_ n1_ n2_ n3_ n4_ n5_ n6_
            (try clear hb)
            (try clear hb2)
            (try clear hk)
            (try clear hi)
            (try clear ho0)
            obtain ⟨Ao105, co105, eo105⟩ := Kd.V_slice HO298.out
            (first | subst eo105 | (injection eo105 with f1_ f2_ f3_; have f4_ := f1_.symm; have f5_ := f3_.symm; clear f1_ f2_ f3_; subst f4_; subst f5_))
            refine hK.out _ _ ⟨(bc_ BK304.out 0).trans rfl, (bc_ BK304.out 1).trans rfl, (bc_ BK306.out 0).trans rfl, (bc_ BK306.out 1).trans rfl, (bc_ BK305.out 0).trans rfl, (bc_ BK305.out 1).trans rfl⟩ (fun hHeld => ?_)
            clear hK K
            refine norm_ (a' := ?_) ?_ ?_
            rotate_left
            ·
             show Act.put _ (some 61) _ = _
             simp only [Act.put, sA_, sZ_, sS_, i64_w, i32_w]
             rfl
            refine one_ (i := 5) (N := some 62) #[true, true, true, true, true, true, true, false] rfl rfl (one_of HT_.out (by kernel_rfl)) (by decide) (fun K hK => ?_)
            refine goes_ Try.func21 (by kernel_rfl) rfl #[.agg #[.bool a0_0, .slice A0_1 l0_1.length c0_1], .agg #[.bool t295, .slice Ao105 t296.length co105]] (by rfl) rfl rfl (by (try simp only [List.map_toArray, List.map_cons, List.map_nil]); first | done | rfl | (simp only [List.length_drop, List.length_take]; rfl)) ?_
            with_reducible refine (clevisref01_Add.calls kj43 a0_0 _ _ l0_1 t295 _ _ t296 t299 t300 _ ?side1 ?side2 ?side3 ?side4 A59.out).mono ?_
            (case side1 => repeat (first | exact (cb_ HR0_1.out HB.out) | (with_reducible refine ca_ ?_ _) | (with_reducible refine cn_ ?_ _) | (with_reducible refine cd_ ?_)))
            (case side2 => exact HC0_1.out)
            (case side3 => repeat (first | exact (Kd.V_reads' HO298.out).2.2 | (with_reducible refine ca_ ?_ _) | (with_reducible refine cn_ ?_ _) | (with_reducible refine cd_ ?_)))
            (case side4 => exact (Kd.V_reads' HO298.out).2.1)
            rintro e w106 ⟨v301, rfl, ho0, hb⟩
            refine ⟨_, rfl, ?_⟩
            have n0_ := A_ (Kd.V_below (by (with_reducible repeat (first | apply va_ | apply vn_ | apply vd_)); exact HO294.out) hb)
            have n1_ := A_ (Kd.V_below (by (with_reducible repeat (first | apply va_ | apply vn_ | apply vd_)); exact HO298.out) hb)
            have n2_ := A_ (Kd.V_lower (vm_ (ok' := fun k_ => k_ ≠ gb304 ∧ k_ ≠ gb305 ∧ k_ ≠ gb306 ∧ k_ ≠ gb311) ho0 (fun k_ hk_ => ⟨(Kd.freshB (g := gb304) (o := .cells #[.bool a0_0, .slice A0_1 l0_1.length c0_1] 32 (0, 0)) bk_ k_ hk_), (Kd.freshB (g := gb305) (o := .cells #[.bool a1_0, .slice A1_1 l1_1.length c1_1] 32 (0, 0)) bk_ k_ hk_), (Kd.freshB (g := gb306) (o := .cells #[.bool a2_0, .slice A2_1 l2_1.length c2_1] 32 (0, 0)) bk_ k_ hk_), (Kd.freshB (g := gb311) (o := .cells #[.bool false, .slice none 0 0] 32 (0, 0)) bk_ k_ hk_)⟩)) (bz_ bw_))
            have n3_ := A_ (kb_ BK304 hb)
            have n4_ := A_ (kb_ BK305 hb)
            have n5_ := A_ (kb_ BK306 hb)
            have n6_ := A_ (kb_ BK311 hb)
            have n7_ := A_ (bs_ bw_ hb)
            clear HO294
            clear HO298
            clear BK304
            clear BK305
            clear BK306
            clear BK311
            clear HB
            have HO294 := n0_
            have HO298 := n1_
            have HO302 := n2_
            have BK304 := n3_
            have BK305 := n4_
            have BK306 := n5_
            have BK311 := n6_
            have HB := n7_
            clear n0_ n1_ n2_ n3_ n4_ n5_ n6_ n7_
            (try clear hb)
            (try clear hb2)
            (try clear hk)
            (try clear hi)
            (try clear ho0)
            refine hK.out _ _ ⟨(bc_ BK304.out 0).trans rfl, (bc_ BK304.out 1).trans rfl, (bc_ BK306.out 0).trans rfl, (bc_ BK306.out 1).trans rfl, (bc_ BK305.out 0).trans rfl, (bc_ BK305.out 1).trans rfl⟩ (fun hHeld => ?_)
            clear hK K
            refine norm_ (a' := ?_) ?_ ?_
            rotate_left
            ·
             show Act.put _ (some 62) _ = _
             simp only [Act.put, sA_, sZ_, sS_, i64_w, i32_w]
             rfl
            exact norm_ (by simp only [putAll, Act.put, sA_, sZ_, sS_]) (hCont (.slice Ao103 t292.length co103, .slice Ao105 t296.length co105, v301, gb311) _ ⟨hHeld, (by (with_reducible repeat (first | apply va_ | apply vn_ | apply vd_)); exact HO294.out), (by (with_reducible repeat (first | apply va_ | apply vn_ | apply vd_)); exact HO298.out), (by (with_reducible repeat (first | apply va_ | apply vn_ | apply vd_)); exact HO302.out), bk_, bk_, bk_, bk_, GW311.out, GE311.out, NB304_311.out, NB311_304.out, NB305_311.out, NB311_305.out, NB306_311.out, NB311_306.out, bw_⟩)
          rintro ⟨v293, v297, v301, gb311⟩ w107 ⟨hS_, h0_, h1_, h2_, h3_, h4_, h5_, h6_, h7_, h8_, h9_, h10_, h11_, h12_, h13_, h14_, h15_⟩
          have n0_ : Aside0 (Kd.V (Kd.int .i64) 3 w107 w.heap.size (fun k_ => k_ ≠ gb304 ∧ k_ ≠ gb305 ∧ k_ ≠ gb306 ∧ k_ ≠ gb311) v293 t292) := ⟨h0_⟩
          have n1_ : Aside0 (Kd.V (Kd.int .i64) 3 w107 w.heap.size (fun k_ => k_ ≠ gb304 ∧ k_ ≠ gb305 ∧ k_ ≠ gb306 ∧ k_ ≠ gb311) v297 t296) := ⟨h1_⟩
          have n2_ : Aside0 (Kd.V (Kd.int .i64) 3 w107 w.heap.size (fun k_ => k_ ≠ gb304 ∧ k_ ≠ gb305 ∧ k_ ≠ gb306 ∧ k_ ≠ gb311) v301 t300) := ⟨h2_⟩
          have n3_ : Aside0 (w107.heap[gb304]? = some (.cells #[.bool a0_0, .slice A0_1 l0_1.length c0_1] 32 (0, 0))) := ⟨h3_⟩
          have n4_ : Aside0 (w107.heap[gb305]? = some (.cells #[.bool a1_0, .slice A1_1 l1_1.length c1_1] 32 (0, 0))) := ⟨h4_⟩
          have n5_ : Aside0 (w107.heap[gb306]? = some (.cells #[.bool a2_0, .slice A2_1 l2_1.length c2_1] 32 (0, 0))) := ⟨h5_⟩
          have n6_ : Aside0 (w107.heap[gb311]? = some (.cells #[.bool false, .slice none 0 0] 32 (0, 0))) := ⟨h6_⟩
          have n7_ : Aside0 (w.heap.size ≤ gb311) := ⟨h7_⟩
          have n8_ : Aside0 (w.heap.size ≤ gb311) := ⟨h8_⟩
          have n9_ : Aside0 (gb304 ≠ gb311) := ⟨h9_⟩
          have n10_ : Aside0 (gb311 ≠ gb304) := ⟨h10_⟩
          have n11_ : Aside0 (gb305 ≠ gb311) := ⟨h11_⟩
          have n12_ : Aside0 (gb311 ≠ gb305) := ⟨h12_⟩
          have n13_ : Aside0 (gb306 ≠ gb311) := ⟨h13_⟩
          have n14_ : Aside0 (gb311 ≠ gb306) := ⟨h14_⟩
          have n15_ : Aside0 (Below w.heap.size w w107) := ⟨h15_⟩
          clear BK304
          clear BK305
          clear BK306
          clear HB
          clear h0_ h1_ h2_ h3_ h4_ h5_ h6_ h7_ h8_ h9_ h10_ h11_ h12_ h13_ h14_ h15_
          have HO294 := n0_
          have HO298 := n1_
          have HO302 := n2_
          have BK304 := n3_
          have BK305 := n4_
          have BK306 := n5_
          have BK311 := n6_
          have GW311 := n7_
          have GE311 := n8_
          have NB304_311 := n9_
          have NB311_304 := n10_
          have NB305_311 := n11_
          have NB311_305 := n12_
          have NB306_311 := n13_
          have NB311_306 := n14_
          have HB := n15_
          clear n0_ n1_ n2_ n3_ n4_ n5_ n6_ n7_ n8_ n9_ n10_ n11_ n12_ n13_ n14_ n15_
          have hHeld : w107.cell? ⟨gb304, 0, none⟩ = some (.bool a0_0) ∧ w107.cell? ⟨gb304, 1, none⟩ = some (.slice A0_1 l0_1.length c0_1) ∧ w107.cell? ⟨gb306, 0, none⟩ = some (.bool a2_0) ∧ w107.cell? ⟨gb306, 1, none⟩ = some (.slice A2_1 l2_1.length c2_1) ∧ w107.cell? ⟨gb305, 0, none⟩ = some (.bool a1_0) ∧ w107.cell? ⟨gb305, 1, none⟩ = some (.slice A1_1 l1_1.length c1_1) := hS_
          obtain ⟨Ao109, co109, eo109⟩ := Kd.V_slice HO302.out
          (first | subst eo109 | (injection eo109 with f1_ f2_ f3_; have f4_ := f1_.symm; have f5_ := f3_.symm; clear f1_ f2_ f3_; subst f4_; subst f5_))
          refine norm_ (a' := ?_) ?_ ?_
          rotate_left
          ·
           simp only [putAll, Act.put, sA_, sZ_, sS_]
           rfl
          refine one_ (i := 7) (N := none) #[true, true, true, true, true, true, true, true] rfl rfl (one_of HT_.out (by kernel_rfl)) (by decide) (fun K hK => ?_)
          have hs108 : w107.cell? ⟨gb311, 0, none⟩ = some (.bool false) := (bc_ BK311.out 0).trans rfl
          have hfs108 := bf_ BK311.out 0
          have hns108_0 := NB304_311.out
          have hns108_1 := NB305_311.out
          have hns108_2 := NB306_311.out
          have hms108_0 := NB311_304.out
          have hms108_1 := NB311_305.out
          have hms108_2 := NB311_306.out
          have hs110 : w107.cell? ⟨gb311, 1, none⟩ = some (.slice none 0 0) := (bc_ BK311.out 1).trans rfl
          have hfs110 := bf_ BK311.out 1
          have hns110_0 := NB304_311.out
          have hns110_1 := NB305_311.out
          have hns110_2 := NB306_311.out
          have hms110_0 := NB311_304.out
          have hms110_1 := NB311_305.out
          have hms110_2 := NB311_306.out
          refine skip_ (w1 := ?_) (by rfl) rfl ?_ ?_
          rotate_left
          ·
           go_simp
           rfl
          refine hK.out _ _ ⟨((cell_far (p := ⟨gb311, _, none⟩) NB304_311.out _).trans (((cell_far (p := ⟨gb311, _, none⟩) NB304_311.out _).trans (hHeld.1)))), ((cell_far (p := ⟨gb311, _, none⟩) NB304_311.out _).trans (((cell_far (p := ⟨gb311, _, none⟩) NB304_311.out _).trans (hHeld.2.1)))), ((cell_far (p := ⟨gb311, _, none⟩) NB306_311.out _).trans (((cell_far (p := ⟨gb311, _, none⟩) NB306_311.out _).trans (hHeld.2.2.1)))), ((cell_far (p := ⟨gb311, _, none⟩) NB306_311.out _).trans (((cell_far (p := ⟨gb311, _, none⟩) NB306_311.out _).trans (hHeld.2.2.2.1)))), ((cell_far (p := ⟨gb311, _, none⟩) NB305_311.out _).trans (((cell_far (p := ⟨gb311, _, none⟩) NB305_311.out _).trans (hHeld.2.2.2.2.1)))), ((cell_far (p := ⟨gb311, _, none⟩) NB305_311.out _).trans (((cell_far (p := ⟨gb311, _, none⟩) NB305_311.out _).trans (hHeld.2.2.2.2.2))))⟩ (fun hHeld => ?_)
          clear hK K
          refine done_ (done_of HT_.out (by kernel_rfl)) ?_
          try go_wp2
          have n0_ : Aside0 (Kd.V (Kd.int .i64) 3 ((w107.setCell ⟨gb311, 0, none⟩ (.bool t299)).setCell ⟨gb311, 1, none⟩ (.slice Ao109 t300.length co109)) w.heap.size (fun k_ => k_ ≠ gb304 ∧ k_ ≠ gb305 ∧ k_ ≠ gb306 ∧ k_ ≠ gb311) v293 t292) := ⟨by (with_reducible repeat (first | apply va_ | apply vn_ | apply vd_)); exact vm_ (Kd.V_far (p := ⟨gb311, 1, none⟩) (Kd.V_far (p := ⟨gb311, 0, none⟩) (vm_ HO294.out (fun k_ hk => (⟨hk, hk.2.2.2⟩ : _ ∧ k_ ≠ gb311))) (fun _ hk => hk.2) (.bool t299)) (fun _ hk => hk.2) (.slice Ao109 t300.length co109)) (fun _ hk => ⟨hk.1.1, ⟨hk.1.2.1, ⟨hk.1.2.2.1, hk.1.2.2.2⟩⟩⟩)⟩
          have n1_ : Aside0 (Kd.V (Kd.int .i64) 3 ((w107.setCell ⟨gb311, 0, none⟩ (.bool t299)).setCell ⟨gb311, 1, none⟩ (.slice Ao109 t300.length co109)) w.heap.size (fun k_ => k_ ≠ gb304 ∧ k_ ≠ gb305 ∧ k_ ≠ gb306 ∧ k_ ≠ gb311) v297 t296) := ⟨by (with_reducible repeat (first | apply va_ | apply vn_ | apply vd_)); exact vm_ (Kd.V_far (p := ⟨gb311, 1, none⟩) (Kd.V_far (p := ⟨gb311, 0, none⟩) (vm_ HO298.out (fun k_ hk => (⟨hk, hk.2.2.2⟩ : _ ∧ k_ ≠ gb311))) (fun _ hk => hk.2) (.bool t299)) (fun _ hk => hk.2) (.slice Ao109 t300.length co109)) (fun _ hk => ⟨hk.1.1, ⟨hk.1.2.1, ⟨hk.1.2.2.1, hk.1.2.2.2⟩⟩⟩)⟩
          have n2_ : Aside0 (Kd.V (Kd.int .i64) 3 ((w107.setCell ⟨gb311, 0, none⟩ (.bool t299)).setCell ⟨gb311, 1, none⟩ (.slice Ao109 t300.length co109)) w.heap.size (fun k_ => k_ ≠ gb304 ∧ k_ ≠ gb305 ∧ k_ ≠ gb306 ∧ k_ ≠ gb311) (.slice Ao109 t300.length co109) t300) := ⟨by (with_reducible repeat (first | apply va_ | apply vn_ | apply vd_)); exact vm_ (Kd.V_far (p := ⟨gb311, 1, none⟩) (Kd.V_far (p := ⟨gb311, 0, none⟩) (vm_ HO302.out (fun k_ hk => (⟨hk, hk.2.2.2⟩ : _ ∧ k_ ≠ gb311))) (fun _ hk => hk.2) (.bool t299)) (fun _ hk => hk.2) (.slice Ao109 t300.length co109)) (fun _ hk => ⟨hk.1.1, ⟨hk.1.2.1, ⟨hk.1.2.2.1, hk.1.2.2.2⟩⟩⟩)⟩
          have n3_ : Aside0 (((w107.setCell ⟨gb311, 0, none⟩ (.bool t299)).setCell ⟨gb311, 1, none⟩ (.slice Ao109 t300.length co109)).heap[gb304]? = some (.cells #[.bool a0_0, .slice A0_1 l0_1.length c0_1] 32 (0, 0))) := ⟨bk_⟩
          have n4_ : Aside0 (((w107.setCell ⟨gb311, 0, none⟩ (.bool t299)).setCell ⟨gb311, 1, none⟩ (.slice Ao109 t300.length co109)).heap[gb305]? = some (.cells #[.bool a1_0, .slice A1_1 l1_1.length c1_1] 32 (0, 0))) := ⟨bk_⟩
          have n5_ : Aside0 (((w107.setCell ⟨gb311, 0, none⟩ (.bool t299)).setCell ⟨gb311, 1, none⟩ (.slice Ao109 t300.length co109)).heap[gb306]? = some (.cells #[.bool a2_0, .slice A2_1 l2_1.length c2_1] 32 (0, 0))) := ⟨bk_⟩
          have n6_ : Aside0 (((w107.setCell ⟨gb311, 0, none⟩ (.bool t299)).setCell ⟨gb311, 1, none⟩ (.slice Ao109 t300.length co109)).heap[gb311]? = some (.cells #[.bool t299, .slice Ao109 t300.length co109] 32 (0, 0))) := ⟨by (with_reducible repeat (first | refine bn_ ?_ _ | refine bd_ ?_ | refine ba_ ?_ _)); refine bp_ (cs := #[.bool t299, .slice none 0 0]) ?_ 1 _ rfl; (with_reducible repeat (first | refine bn_ ?_ _ | refine bd_ ?_ | refine ba_ ?_ _)); refine bp_ (cs := #[.bool false, .slice none 0 0]) ?_ 0 _ rfl; (with_reducible repeat (first | refine bn_ ?_ _ | refine bd_ ?_ | refine ba_ ?_ _)); exact BK311.out⟩
          have n7_ : Aside0 (Below w.heap.size w ((w107.setCell ⟨gb311, 0, none⟩ (.bool t299)).setCell ⟨gb311, 1, none⟩ (.slice Ao109 t300.length co109))) := ⟨bw_⟩
          (try clear HO294)
          (try clear HO298)
          (try clear HO302)
          (try clear BK304)
          (try clear BK305)
          (try clear BK306)
          (try clear BK311)
          (try clear HB)
          generalize ((w107.setCell ⟨gb311, 0, none⟩ (.bool t299)).setCell ⟨gb311, 1, none⟩ (.slice Ao109 t300.length co109)) = w111 at n0_ n1_ n2_ n3_ n4_ n5_ n6_ n7_ ⊢
          have HO294 := n0_
          have HO298 := n1_
          have HO302 := n2_
          have BK304 := n3_
          have BK305 := n4_
          have BK306 := n5_
          have BK311 := n6_
          have HB := n7_
          clear n0_ n1_ n2_ n3_ n4_ n5_ n6_ n7_
          have n0_ := A_ (vd_ HO294.out)
          have n1_ := A_ (vd_ HO298.out)
          have n2_ := A_ (vd_ HO302.out)
          have n3_ := A_ (bd_ BK304.out)
          have n4_ := A_ (bd_ BK305.out)
          have n5_ := A_ (bd_ BK306.out)
          have n6_ := A_ (bd_ BK311.out)
          have n7_ := A_ (b1_ HB.out)
          clear HO294
          clear HO298
          clear HO302
          clear BK304
          clear BK305
          clear BK306
          clear BK311
          clear HB
          have HO294 := n0_
          have HO298 := n1_
          have HO302 := n2_
          have BK304 := n3_
          have BK305 := n4_
          have BK306 := n5_
          have BK311 := n6_
          have HB := n7_
          clear n0_ n1_ n2_ n3_ n4_ n5_ n6_ n7_
          refine start_ (n := 8) (S := fun w' => w'.cell? ⟨gb311, 0, none⟩ = some (.bool t299) ∧ w'.cell? ⟨gb311, 1, none⟩ = some (.slice Ao109 t300.length co109) ∧ w'.cell? ⟨gb305, 0, none⟩ = some (.bool a1_0) ∧ w'.cell? ⟨gb305, 1, none⟩ = some (.slice A1_1 l1_1.length c1_1)) (ds := []) #[false, false, false, false, false, false, false, false] (by kernel_rfl) rfl rfl ⟨(bc_ BK311.out 0).trans rfl, (bc_ BK311.out 1).trans rfl, (bc_ BK305.out 0).trans rfl, (bc_ BK305.out 1).trans rfl⟩ (fun hHeld => ?_); refine with_tabW clevisref01_Rounded.tab10 clevisref01_Rounded.bits10 (fun HT_ HW_ => ?_)
          generalize w111.drew = w112 at HO294 HO298 HO302 BK304 BK305 BK306 BK311 HB hHeld ⊢
          refine pure_ (i := 4) (N := some 67) (v := ?_) (a' := ?_) #[false, false, false, false, true, false, false, false] rfl rfl (any_of HT_.out (by kernel_rfl)) (fun _ _ _ h => h) (Or.inl ⟨by rfl, ?_⟩) ?_ ?_
          rotate_left
          ·
           intro w'
           go_simp
           with_reducible rfl
          rotate_left
          ·
           simp only [Act.put, sA_, sZ_, sS_, i64_w, i32_w]
           rfl
          refine take_ (i := 0) (N := some 63) (v := ?_) (a' := ?_) #[true, false, false, false, true, false, false, false] rfl rfl (take_ofW HT_.out HW_.out (by kernel_rfl)) (fun _ _ _ h => h) (Or.inl ⟨by rfl, ?_⟩) hHeld ?_ ?_
          rotate_left
          ·
           rintro w' ⟨s0, s1, s2, s3⟩
           go_simp
           with_reducible rfl
          rotate_left
          ·
           simp only [Act.put, sA_, sZ_, sS_, i64_w, i32_w]
           rfl
          refine take_ (i := 1) (N := some 64) (v := ?_) (a' := ?_) #[true, true, false, false, true, false, false, false] rfl rfl (take_ofW HT_.out HW_.out (by kernel_rfl)) (fun _ _ _ h => h) (Or.inl ⟨by rfl, ?_⟩) hHeld ?_ ?_
          rotate_left
          ·
           rintro w' ⟨s0, s1, s2, s3⟩
           go_simp
           with_reducible rfl
          rotate_left
          ·
           simp only [Act.put, sA_, sZ_, sS_, i64_w, i32_w]
           rfl
          refine take_ (i := 5) (N := some 68) (v := ?_) (a' := ?_) #[true, true, false, false, true, true, false, false] rfl rfl (take_ofW HT_.out HW_.out (by kernel_rfl)) (fun _ _ _ h => h) (Or.inl ⟨by rfl, ?_⟩) hHeld ?_ ?_
          rotate_left
          ·
           rintro w' ⟨s0, s1, s2, s3⟩
           go_simp
           with_reducible rfl
          rotate_left
          ·
           simp only [Act.put, sA_, sZ_, sS_, i64_w, i32_w]
           rfl
          refine one_ (i := 2) (N := some 65) #[true, true, true, false, true, true, false, false] rfl rfl (one_of HT_.out (by kernel_rfl)) (by decide) (fun K hK => ?_)
          refine goes_ Try.func21 (by kernel_rfl) rfl #[.agg #[.bool t299, .slice Ao109 t300.length co109], .agg #[.bool t299, .slice Ao109 t300.length co109]] (by rfl) rfl rfl (by (try simp only [List.map_toArray, List.map_cons, List.map_nil]); first | done | rfl | (simp only [List.length_drop, List.length_take]; rfl)) ?_
          with_reducible refine (clevisref01_Add.calls kj43 t299 _ _ t300 t299 _ _ t300 t303 t304 _ ?side1 ?side2 ?side3 ?side4 A60.out).mono ?_
          (case side1 => repeat (first | exact (Kd.V_reads' HO302.out).2.2 | (with_reducible refine ca_ ?_ _) | (with_reducible refine cn_ ?_ _) | (with_reducible refine cd_ ?_)))
          (case side2 => exact (Kd.V_reads' HO302.out).2.1)
          (case side3 => repeat (first | exact (Kd.V_reads' HO302.out).2.2 | (with_reducible refine ca_ ?_ _) | (with_reducible refine cn_ ?_ _) | (with_reducible refine cd_ ?_)))
          (case side4 => exact (Kd.V_reads' HO302.out).2.1)
          rintro e w113 ⟨v305, rfl, ho0, hb⟩
          refine ⟨_, rfl, ?_⟩
          have n0_ := A_ (Kd.V_below (by (with_reducible repeat (first | apply va_ | apply vn_ | apply vd_)); exact HO294.out) hb)
          have n1_ := A_ (Kd.V_below (by (with_reducible repeat (first | apply va_ | apply vn_ | apply vd_)); exact HO298.out) hb)
          have n2_ := A_ (Kd.V_below (by (with_reducible repeat (first | apply va_ | apply vn_ | apply vd_)); exact HO302.out) hb)
          have n3_ := A_ (Kd.V_lower (vm_ (ok' := fun k_ => k_ ≠ gb304 ∧ k_ ≠ gb305 ∧ k_ ≠ gb306 ∧ k_ ≠ gb311) ho0 (fun k_ hk_ => ⟨(Kd.freshB (g := gb304) (o := .cells #[.bool a0_0, .slice A0_1 l0_1.length c0_1] 32 (0, 0)) bk_ k_ hk_), (Kd.freshB (g := gb305) (o := .cells #[.bool a1_0, .slice A1_1 l1_1.length c1_1] 32 (0, 0)) bk_ k_ hk_), (Kd.freshB (g := gb306) (o := .cells #[.bool a2_0, .slice A2_1 l2_1.length c2_1] 32 (0, 0)) bk_ k_ hk_), (Kd.freshB (g := gb311) (o := .cells #[.bool t299, .slice Ao109 t300.length co109] 32 (0, 0)) bk_ k_ hk_)⟩)) (bz_ bw_))
          have n4_ := A_ (kb_ BK304 hb)
          have n5_ := A_ (kb_ BK305 hb)
          have n6_ := A_ (kb_ BK306 hb)
          have n7_ := A_ (kb_ BK311 hb)
          have n8_ := A_ (bs_ bw_ hb)
          clear HO294
          clear HO298
          clear HO302
          clear BK304
          clear BK305
          clear BK306
          clear BK311
          clear HB
          have HO294 := n0_
          have HO298 := n1_
          have HO302 := n2_
          have HO306 := n3_
          have BK304 := n4_
          have BK305 := n5_
          have BK306 := n6_
          have BK311 := n7_
          have HB := n8_
          clear n0_ n1_ n2_ n3_ n4_ n5_ n6_ n7_ n8_
          (try clear hb)
          (try clear hb2)
          (try clear hk)
          (try clear hi)
          (try clear ho0)
          obtain ⟨Ao114, co114, eo114⟩ := Kd.V_slice HO306.out
          (first | subst eo114 | (injection eo114 with f1_ f2_ f3_; have f4_ := f1_.symm; have f5_ := f3_.symm; clear f1_ f2_ f3_; subst f4_; subst f5_))
          refine hK.out _ _ ⟨(bc_ BK311.out 0).trans rfl, (bc_ BK311.out 1).trans rfl, (bc_ BK305.out 0).trans rfl, (bc_ BK305.out 1).trans rfl⟩ (fun hHeld => ?_)
          clear hK K
          refine norm_ (a' := ?_) ?_ ?_
          rotate_left
          ·
           show Act.put _ (some 65) _ = _
           simp only [Act.put, sA_, sZ_, sS_, i64_w, i32_w]
           rfl
          refine pure_ (i := 3) (N := some 66) (v := ?_) (a' := ?_) #[true, true, true, true, true, true, false, false] rfl rfl (any_of HT_.out (by kernel_rfl)) (fun _ _ _ h => h) (Or.inl ⟨by rfl, ?_⟩) ?_ ?_
          rotate_left
          ·
           intro w'
           go_simp
           with_reducible rfl
          rotate_left
          ·
           simp only [Act.put, sA_, sZ_, sS_, i64_w, i32_w]
           rfl
          refine one_ (i := 6) (N := some 69) #[true, true, true, true, true, true, true, false] rfl rfl (one_of HT_.out (by kernel_rfl)) (by decide) (fun K hK => ?_)
          refine goes_ Try.func42 (by kernel_rfl) rfl #[.slice Ao114 t304.length co114, .slice A1_1 l1_1.length c1_1] (by rfl) rfl rfl (by (try simp only [List.map_toArray, List.map_cons, List.map_nil]); first | done | rfl | (simp only [List.length_drop, List.length_take]; rfl)) ?_
          with_reducible refine (clevisref01_size.calls kj43 _ _ t304 _ _ l1_1 t307 _ ?side1 ?side2 ?side3 ?side4 A61.out).mono ?_
          (case side1 => repeat (first | exact (Kd.V_reads' HO306.out).2.2 | (with_reducible refine ca_ ?_ _) | (with_reducible refine cn_ ?_ _) | (with_reducible refine cd_ ?_)))
          (case side2 => exact (Kd.V_reads' HO306.out).2.1)
          (case side3 => repeat (first | exact (cb_ HR1_1.out HB.out) | (with_reducible refine ca_ ?_ _) | (with_reducible refine cn_ ?_ _) | (with_reducible refine cd_ ?_)))
          (case side4 => exact HC1_1.out)
          rintro e w' ⟨rfl, ⟨nd, rfl⟩⟩
          refine ⟨_, rfl, ?_⟩
          refine hK.out _ _ ⟨(bc_ BK311.out 0).trans rfl, (bc_ BK311.out 1).trans rfl, (bc_ BK305.out 0).trans rfl, (bc_ BK305.out 1).trans rfl⟩ (fun hHeld => ?_)
          clear hK K
          refine norm_ (a' := ?_) ?_ ?_
          rotate_left
          ·
           show Act.put _ (some 69) _ = _
           simp only [Act.put, sA_, sZ_, sS_, i64_w, i32_w]
           rfl
          refine pure_ (i := 7) (N := some 12) (v := ?_) (a' := ?_) #[true, true, true, true, true, true, true, true] rfl rfl (any_of HT_.out (by kernel_rfl)) (fun _ _ _ h => h) (Or.inl ⟨by rfl, ?_⟩) ?_ ?_
          rotate_left
          ·
           intro w'
           go_simp
           with_reducible rfl
          rotate_left
          ·
           simp only [Act.put, sA_, sZ_, sS_, i64_w, i32_w]
           rfl
          refine done_ (done_of HT_.out (by kernel_rfl)) ?_
          try go_wp2
          go_ret
          exact ⟨by first | rfl | (simp [errW_none, errW_some] <;> rfl) | (simp [*, errW_none, errW_some] <;> rfl), bw_⟩
end Go.Proofs.Ytjbcigiffihjaaa.Fx
end
