/- Texts of this seat, put together (ZD13). -/
import Derived.Test.YtjbcigiffihjaaaZD3
import Derived.Test.YtjbcigiffihjaaaZD5
import Derived.Test.YtjbcigiffihjaaaZD6
section
namespace Go.Proofs.Ytjbcigiffihjaaa.Fx
open Go.RowKit Go.Proofs.YtjbcigiffihjaaaW.PrintWords Go.Proofs.YtjbcigiffihjaaaW.PrintLast Go.Proofs.YtjbcigiffihjaaaW.PrintMore
attribute [local go_sem] max2_int min2_int max_two min_two max_three min_three max_four min_four   -- for this text's walks alone
set_option linter.unusedVariables false
set_option linter.unusedSimpArgs false
attribute [local go_sem] run_add64_any
def clevisref01_Floor.f (k : Nat) (a0_0 : Bool) (l0_1 : List Int) (a1_0 : Bool) (l1_1 : List Int) (a2_0 : Bool) (l2_1 : List Int) : Option (Bool) := if a1_0 = true then ((clevisref01_Neg.f k a0_0 l0_1).bind fun bt233 => ((clevisref01_Neg.f k a1_0 l1_1).bind fun bt237 => ((clevisref01_Mul.f k a2_0 l2_1 bt237.1 bt237.2).bind fun bt241 => ((clevisref01_Compare.f k bt241.1 bt241.2 bt233.1 bt233.2).bind fun t245 => (if t245 ≤ 0 then ((clevisref01_Add.f k bt241.1 bt241.2 bt237.1 bt237.2).bind fun bt246 => ((clevisref01_Compare.f k bt233.1 bt233.2 bt246.1 bt246.2).bind fun t250 => (some (decide (t250 < 0))))) else (some false)))))) else ((clevisref01_Mul.f k a2_0 l2_1 a1_0 l1_1).bind fun bt251 => ((clevisref01_Compare.f k bt251.1 bt251.2 a0_0 l0_1).bind fun t255 => (if t255 ≤ 0 then ((clevisref01_Add.f k bt251.1 bt251.2 a1_0 l1_1).bind fun bt256 => ((clevisref01_Compare.f k a0_0 l0_1 bt256.1 bt256.2).bind fun t260 => (some (decide (t260 < 0))))) else (some false))))
def clevisref01_Floor.T4 : Bool × List (List Nat × List Nat) := (true, [([], []), ([], []), ([0, 1], [0, 1]), ([2], [2]), ([3, 2], [3]), ([4], [4]), ([4], [4]), ([4], [4]), ([6, 7, 4, 4], [4, 6, 7]), ([5, 8, 8, 4], [4, 5, 8]), ([9, 4], [4, 9]), ([4, 10], [4, 10]), ([11, 9, 0, 1, 2, 3, 4, 5, 6, 7, 8, 9, 10, 11], [11])])
def clevisref01_Floor.B4 : List Nat := [0, 0, 3, 7, 15, 31, 31, 31, 223, 511, 1023, 2047, 4095]
theorem clevisref01_Floor.tab4 : rtab .any (opsOf Try.f40 4) = clevisref01_Floor.T4 := by kernel_rfl
theorem clevisref01_Floor.bits4 : waitsOk clevisref01_Floor.T4.2 clevisref01_Floor.B4 = true := by kernel_rfl
set_option maxHeartbeats 8000000 in
set_option maxRecDepth 100000 in
theorem clevisref01_Floor.calls (k : Nat) (a0_0 : Bool) (A0_1 : Option Addr) (c0_1 : Nat) (l0_1 : List Int) (a1_0 : Bool) (A1_1 : Option Addr) (c1_1 : Nat) (l1_1 : List Int) (a2_0 : Bool) (A2_1 : Option Addr) (c2_1 : Nat) (l2_1 : List Int) (r : Bool) (w : World) (hr0_1 : Kd.C (Kd.int .i64) w A0_1 l0_1.length l0_1) (hc0_1 : l0_1.length ≤ c0_1) (hr1_1 : Kd.C (Kd.int .i64) w A1_1 l1_1.length l1_1) (hc1_1 : l1_1.length ≤ c1_1) (hr2_1 : Kd.C (Kd.int .i64) w A2_1 l2_1.length l2_1) (hc2_1 : l2_1.length ≤ c2_1) (h : clevisref01_Floor.f k a0_0 l0_1 a1_0 l1_1 a2_0 l2_1 = some r) :
  Calls Try.prog 40 #[.agg #[.bool a0_0, .slice A0_1 l0_1.length c0_1], .agg #[.bool a1_0, .slice A1_1 l1_1.length c1_1], .agg #[.bool a2_0, .slice A2_1 l2_1.length c2_1]] w fun e w' => e = .returned (.bool r) ∧ Below w.heap.size w w' := by
 have hu32 := Try.underlying32
 have HR0_1 := A_ hr0_1
 have HC0_1 := A_ hc0_1
 clear hr0_1 hc0_1
 have HR1_1 := A_ hr1_1
 have HC1_1 := A_ hc1_1
 clear hr1_1 hc1_1
 have HR2_1 := A_ hr2_1
 have HC2_1 := A_ hc2_1
 clear hr2_1 hc2_1
 have HB := A_ (Below.refl w.heap.size w)
 have H : (if a1_0 = true then ((clevisref01_Neg.f k a0_0 l0_1).bind fun bt233 => ((clevisref01_Neg.f k a1_0 l1_1).bind fun bt237 => ((clevisref01_Mul.f k a2_0 l2_1 bt237.1 bt237.2).bind fun bt241 => ((clevisref01_Compare.f k bt241.1 bt241.2 bt233.1 bt233.2).bind fun t245 => (if t245 ≤ 0 then ((clevisref01_Add.f k bt241.1 bt241.2 bt237.1 bt237.2).bind fun bt246 => ((clevisref01_Compare.f k bt233.1 bt233.2 bt246.1 bt246.2).bind fun t250 => (some (decide (t250 < 0))))) else (some false)))))) else ((clevisref01_Mul.f k a2_0 l2_1 a1_0 l1_1).bind fun bt251 => ((clevisref01_Compare.f k bt251.1 bt251.2 a0_0 l0_1).bind fun t255 => (if t255 ≤ 0 then ((clevisref01_Add.f k bt251.1 bt251.2 a1_0 l1_1).bind fun bt256 => ((clevisref01_Compare.f k a0_0 l0_1 bt256.1 bt256.2).bind fun t260 => (some (decide (t260 < 0))))) else (some false))))) = some r := h
 clear h
 by_cases c4 : a1_0 = true
 ·
  subst c4
  have H1 : ((clevisref01_Neg.f k a0_0 l0_1).bind fun bt233 => ((clevisref01_Neg.f k true l1_1).bind fun bt237 => ((clevisref01_Mul.f k a2_0 l2_1 bt237.1 bt237.2).bind fun bt241 => ((clevisref01_Compare.f k bt241.1 bt241.2 bt233.1 bt233.2).bind fun t245 => (if t245 ≤ 0 then ((clevisref01_Add.f k bt241.1 bt241.2 bt237.1 bt237.2).bind fun bt246 => ((clevisref01_Compare.f k bt233.1 bt233.2 bt246.1 bt246.2).bind fun t250 => (some (decide (t250 < 0))))) else (some false)))))) = some r := by rw [if_pos rfl] at H; exact H
  clear H
  have H := H1
  clear H1
  replace H := os_ H
  obtain ⟨⟨t233, t234⟩, A50, H⟩ := H
  replace H : ((clevisref01_Neg.f k true l1_1).bind fun bt237 => ((clevisref01_Mul.f k a2_0 l2_1 bt237.1 bt237.2).bind fun bt241 => ((clevisref01_Compare.f k bt241.1 bt241.2 t233 t234).bind fun t245 => (if t245 ≤ 0 then ((clevisref01_Add.f k bt241.1 bt241.2 bt237.1 bt237.2).bind fun bt246 => ((clevisref01_Compare.f k t233 t234 bt246.1 bt246.2).bind fun t250 => (some (decide (t250 < 0))))) else (some false))))) = some r := H
  have A5 := A_ A50
  clear A50
  replace H := os_ H
  obtain ⟨⟨t237, t238⟩, A60, H⟩ := H
  replace H : ((clevisref01_Mul.f k a2_0 l2_1 t237 t238).bind fun bt241 => ((clevisref01_Compare.f k bt241.1 bt241.2 t233 t234).bind fun t245 => (if t245 ≤ 0 then ((clevisref01_Add.f k bt241.1 bt241.2 t237 t238).bind fun bt246 => ((clevisref01_Compare.f k t233 t234 bt246.1 bt246.2).bind fun t250 => (some (decide (t250 < 0))))) else (some false)))) = some r := H
  have A6 := A_ A60
  clear A60
  replace H := os_ H
  obtain ⟨⟨t241, t242⟩, A70, H⟩ := H
  replace H : ((clevisref01_Compare.f k t241 t242 t233 t234).bind fun t245 => (if t245 ≤ 0 then ((clevisref01_Add.f k t241 t242 t237 t238).bind fun bt246 => ((clevisref01_Compare.f k t233 t234 bt246.1 bt246.2).bind fun t250 => (some (decide (t250 < 0))))) else (some false))) = some r := H
  have A7 := A_ A70
  clear A70
  replace H := os_ H
  obtain ⟨t245, A80, H⟩ := H
  replace H : (if t245 ≤ 0 then ((clevisref01_Add.f k t241 t242 t237 t238).bind fun bt246 => ((clevisref01_Compare.f k t233 t234 bt246.1 bt246.2).bind fun t250 => (some (decide (t250 < 0))))) else (some false)) = some r := H
  have A8 := A_ A80
  clear A80
  by_cases c9 : t245 ≤ 0
  ·
   rw [if_pos c9] at H
   have c9b0 : decide (t245 ≤ 0) = true := decide_eq_true c9
   clear c9
   replace H := os_ H
   obtain ⟨⟨t246, t247⟩, A100, H⟩ := H
   replace H : ((clevisref01_Compare.f k t233 t234 t246 t247).bind fun t250 => (some (decide (t250 < 0)))) = some r := H
   have A10 := A_ A100
   clear A100
   replace H := os_ H
   obtain ⟨t250, A110, H⟩ := H
   replace H : (some (decide (t250 < 0))) = some r := H
   have A11 := A_ A110
   clear A110
   obtain rfl := Option.some.inj H
   go_enter Try.func40, Try.ntmps40
   try go_wp2_with (first | ((with_reducible refine gate_dst (N := 3) rfl ?_); refine box_event ?hg (N := 3) ?hd (cs := #[.bool a0_0, .slice A0_1 l0_1.length c0_1]) (t := 32) ?hr ?_; (case hd => rfl); (case hg => rfl); (case hr => first | (go_simp; done) | (go_simp; rfl)); intro gb303 hg w12 hbox hb; have n0_ := A_ (bs_ bw_ hb); have n1_ := A_ (hbox); have n2_ := A_ ((by rw [hg]; exact (bz_ bw_) : w.heap.size ≤ gb303)); have n3_ := A_ ((by rw [hg]; exact (bz_ bw_) : w.heap.size ≤ gb303)); clear HB; have HB := n0_; have BK303 := n1_; have GW303 := n2_; have GE303 := n3_; clear n0_ n1_ n2_ n3_; clear hb hbox hg) | ((with_reducible refine gate_dst (N := 4) rfl ?_); refine box_event ?hg (N := 4) ?hd (cs := #[.bool true, .slice A1_1 l1_1.length c1_1]) (t := 32) ?hr ?_; (case hd => rfl); (case hg => rfl); (case hr => first | (go_simp; done) | (go_simp; rfl)); intro gb304 hg w13 hbox hb; have n0_ := A_ (kb_ BK303 hb); have n1_ := A_ (bs_ bw_ hb); have n2_ := A_ (hbox); have n3_ := A_ ((by rw [hg]; exact (bz_ bw_) : w.heap.size ≤ gb304)); have n4_ := A_ ((by rw [hg]; exact (bz_ bw_) : w.heap.size ≤ gb304)); have n5_ := A_ ((by rw [hg]; exact nl_ (lt_ BK303) : gb303 ≠ gb304)); have n6_ := A_ ((by rw [hg]; exact ng_ (lt_ BK303) : gb304 ≠ gb303)); clear BK303; clear HB; have BK303 := n0_; have HB := n1_; have BK304 := n2_; have GW304 := n3_; have GE304 := n4_; have NB303_304 := n5_; have NB304_303 := n6_; clear n0_ n1_ n2_ n3_ n4_ n5_ n6_; clear hb hbox hg) | ((with_reducible refine gate_dst (N := 5) rfl ?_); refine box_event ?hg (N := 5) ?hd (cs := #[.bool a2_0, .slice A2_1 l2_1.length c2_1]) (t := 32) ?hr ?_; (case hd => rfl); (case hg => rfl); (case hr => first | (go_simp; done) | (go_simp; rfl)); intro gb305 hg w14 hbox hb; have n0_ := A_ (kb_ BK303 hb); have n1_ := A_ (kb_ BK304 hb); have n2_ := A_ (bs_ bw_ hb); have n3_ := A_ (hbox); have n4_ := A_ ((by rw [hg]; exact (bz_ bw_) : w.heap.size ≤ gb305)); have n5_ := A_ ((by rw [hg]; exact (bz_ bw_) : w.heap.size ≤ gb305)); have n6_ := A_ ((by rw [hg]; exact nl_ (lt_ BK303) : gb303 ≠ gb305)); have n7_ := A_ ((by rw [hg]; exact ng_ (lt_ BK303) : gb305 ≠ gb303)); have n8_ := A_ ((by rw [hg]; exact nl_ (lt_ BK304) : gb304 ≠ gb305)); have n9_ := A_ ((by rw [hg]; exact ng_ (lt_ BK304) : gb305 ≠ gb304)); clear BK303; clear BK304; clear HB; have BK303 := n0_; have BK304 := n1_; have HB := n2_; have BK305 := n3_; have GW305 := n4_; have GE305 := n5_; have NB303_305 := n6_; have NB305_303 := n7_; have NB304_305 := n8_; have NB305_304 := n9_; clear n0_ n1_ n2_ n3_ n4_ n5_ n6_ n7_ n8_ n9_; clear hb hbox hg; have hnb15 := NB304_303.out; have hnc15 := NB303_304.out; have hnb16 := NB304_305.out; have hnc16 := NB305_304.out; have hcz17_0 : w14.cell? ⟨gb304, 0, none⟩ = some (.bool true) := (bc_ BK304.out 0).trans rfl; have hcz17_1 : w14.cell? ⟨gb304, 1, none⟩ = some (.slice A1_1 l1_1.length c1_1) := (bc_ BK304.out 1).trans rfl; have hfz17_0 := bf_ BK304.out 0; have hfz17_1 := bf_ BK304.out 1))
   have n0_ := A_ (bd_ BK303.out)
   have n1_ := A_ (bd_ BK304.out)
   have n2_ := A_ (bd_ BK305.out)
   have n3_ := A_ (b1_ HB.out)
   clear BK303
   clear BK304
   clear BK305
   clear HB
   have BK303 := n0_
   have BK304 := n1_
   have BK305 := n2_
   have HB := n3_
   clear n0_ n1_ n2_ n3_
   refine start_ (n := 6) (S := fun w' => w'.cell? ⟨gb303, 0, none⟩ = some (.bool a0_0) ∧ w'.cell? ⟨gb303, 1, none⟩ = some (.slice A0_1 l0_1.length c0_1) ∧ w'.cell? ⟨gb304, 0, none⟩ = some (.bool true) ∧ w'.cell? ⟨gb304, 1, none⟩ = some (.slice A1_1 l1_1.length c1_1)) (ds := [4, 5]) #[false, false, false, false, false, false] (by kernel_rfl) rfl rfl ⟨(bc_ BK303.out 0).trans rfl, (bc_ BK303.out 1).trans rfl, (bc_ BK304.out 0).trans rfl, (bc_ BK304.out 1).trans rfl⟩ (fun hHeld => ?_)
   generalize w14.drew = w18 at BK303 BK304 BK305 HB hHeld ⊢
   refine take_ (i := 0) (N := some 10) (v := ?_) (a' := ?_) #[true, false, false, false, false, false] rfl rfl (by kernel_rfl) (fun _ _ _ h => h) (Or.inl ⟨by rfl, ?_⟩) hHeld ?_ ?_
   rotate_left
   ·
    rintro w' ⟨s0, s1, s2, s3⟩
    go_simp
    with_reducible rfl
   rotate_left
   ·
    simp only [Act.put, sA_, sZ_, sS_, i64_w, i32_w]
    rfl
   refine take_ (i := 2) (N := some 12) (v := ?_) (a' := ?_) #[true, false, true, false, false, false] rfl rfl (by kernel_rfl) (fun _ _ _ h => h) (Or.inl ⟨by rfl, ?_⟩) hHeld ?_ ?_
   rotate_left
   ·
    rintro w' ⟨s0, s1, s2, s3⟩
    go_simp
    with_reducible rfl
   rotate_left
   ·
    simp only [Act.put, sA_, sZ_, sS_, i64_w, i32_w]
    rfl
   refine one_ (i := 1) (N := some 11) #[true, true, true, false, false, false] rfl rfl (by kernel_rfl) (by decide) (fun K hK => ?_)
   refine goes_ Try.func22 (by kernel_rfl) rfl #[.agg #[.bool a0_0, .slice A0_1 l0_1.length c0_1]] (by rfl) rfl rfl (by (try simp only [List.map_toArray, List.map_cons, List.map_nil]); first | done | rfl | (simp only [List.length_drop, List.length_take]; rfl)) ?_
   with_reducible refine (clevisref01_Neg.calls k a0_0 (fun k_ => k_ < w.heap.size) _ _ l0_1 t233 t234 _ ?side1 A5.out).mono ?_
   (case side1 => exact Kd.V_mk HC0_1.out (Kd.F_below (Kd.C_F (Kd.heap_int .i64) HR0_1.out) bw_))
   rintro e w19 ⟨v235, rfl, ho0, hb⟩
   refine ⟨_, rfl, ?_⟩
   have n0_ := A_ (Kd.V_lower (vm_ (ok' := fun k_ => k_ ≠ gb303 ∧ k_ ≠ gb304 ∧ k_ ≠ gb305) ho0 (fun k_ hk_ => ⟨Or.elim hk_ (fun hs_ => fun e_ => Nat.not_le.2 hs_ (by rw [e_]; exact GW303.out)) (fun hn_ => (Kd.freshB (g := gb303) (o := .cells #[.bool a0_0, .slice A0_1 l0_1.length c0_1] 32 (0, 0)) bk_ k_ hn_)), Or.elim hk_ (fun hs_ => fun e_ => Nat.not_le.2 hs_ (by rw [e_]; exact GW304.out)) (fun hn_ => (Kd.freshB (g := gb304) (o := .cells #[.bool true, .slice A1_1 l1_1.length c1_1] 32 (0, 0)) bk_ k_ hn_)), Or.elim hk_ (fun hs_ => fun e_ => Nat.not_le.2 hs_ (by rw [e_]; exact GW305.out)) (fun hn_ => (Kd.freshB (g := gb305) (o := .cells #[.bool a2_0, .slice A2_1 l2_1.length c2_1] 32 (0, 0)) bk_ k_ hn_))⟩)) (bz_ bw_))
   have n1_ := A_ (kb_ BK303 hb)
   have n2_ := A_ (kb_ BK304 hb)
   have n3_ := A_ (kb_ BK305 hb)
   have n4_ := A_ (bs_ bw_ hb)
   clear BK303
   clear BK304
   clear BK305
   clear HB
   have HO236 := n0_
   have BK303 := n1_
   have BK304 := n2_
   have BK305 := n3_
   have HB := n4_
   clear n0_ n1_ n2_ n3_ n4_
   (try clear hb)
   (try clear hb2)
   (try clear hk)
   (try clear hi)
   (try clear ho0)
   refine hK.out _ _ ⟨(bc_ BK303.out 0).trans rfl, (bc_ BK303.out 1).trans rfl, (bc_ BK304.out 0).trans rfl, (bc_ BK304.out 1).trans rfl⟩ (fun hHeld => ?_)
   clear hK K
   refine norm_ (a' := ?_) ?_ ?_
   rotate_left
   ·
    show Act.put _ (some 11) _ = _
    simp only [Act.put, sA_, sZ_, sS_, i64_w, i32_w]
    rfl
   refine one_ (i := 3) (N := some 13) #[true, true, true, true, false, false] rfl rfl (by kernel_rfl) (by decide) (fun K hK => ?_)
   refine goes_ Try.func22 (by kernel_rfl) rfl #[.agg #[.bool true, .slice A1_1 l1_1.length c1_1]] (by rfl) rfl rfl (by (try simp only [List.map_toArray, List.map_cons, List.map_nil]); first | done | rfl | (simp only [List.length_drop, List.length_take]; rfl)) ?_
   with_reducible refine (clevisref01_Neg.calls k true (fun k_ => k_ < w.heap.size) _ _ l1_1 t237 t238 _ ?side1 A6.out).mono ?_
   (case side1 => exact Kd.V_mk HC1_1.out (Kd.F_below (Kd.C_F (Kd.heap_int .i64) HR1_1.out) bw_))
   rintro e w20 ⟨v239, rfl, ho0, hb⟩
   refine ⟨_, rfl, ?_⟩
   have n0_ := A_ (Kd.V_below (by (with_reducible repeat (first | apply va_ | apply vn_ | apply vd_)); exact HO236.out) hb)
   have n1_ := A_ (Kd.V_lower (vm_ (ok' := fun k_ => k_ ≠ gb303 ∧ k_ ≠ gb304 ∧ k_ ≠ gb305) ho0 (fun k_ hk_ => ⟨Or.elim hk_ (fun hs_ => fun e_ => Nat.not_le.2 hs_ (by rw [e_]; exact GW303.out)) (fun hn_ => (Kd.freshB (g := gb303) (o := .cells #[.bool a0_0, .slice A0_1 l0_1.length c0_1] 32 (0, 0)) bk_ k_ hn_)), Or.elim hk_ (fun hs_ => fun e_ => Nat.not_le.2 hs_ (by rw [e_]; exact GW304.out)) (fun hn_ => (Kd.freshB (g := gb304) (o := .cells #[.bool true, .slice A1_1 l1_1.length c1_1] 32 (0, 0)) bk_ k_ hn_)), Or.elim hk_ (fun hs_ => fun e_ => Nat.not_le.2 hs_ (by rw [e_]; exact GW305.out)) (fun hn_ => (Kd.freshB (g := gb305) (o := .cells #[.bool a2_0, .slice A2_1 l2_1.length c2_1] 32 (0, 0)) bk_ k_ hn_))⟩)) (bz_ bw_))
   have n2_ := A_ (kb_ BK303 hb)
   have n3_ := A_ (kb_ BK304 hb)
   have n4_ := A_ (kb_ BK305 hb)
   have n5_ := A_ (bs_ bw_ hb)
   clear HO236
   clear BK303
   clear BK304
   clear BK305
   clear HB
   have HO236 := n0_
   have HO240 := n1_
   have BK303 := n2_
   have BK304 := n3_
   have BK305 := n4_
   have HB := n5_
   clear n0_ n1_ n2_ n3_ n4_ n5_
   (try clear hb)
   (try clear hb2)
   (try clear hk)
   (try clear hi)
   (try clear ho0)
   obtain ⟨Ao22, co22, eo22⟩ := Kd.V_slice HO236.out
   (first | subst eo22 | (injection eo22 with f1_ f2_ f3_; have f4_ := f1_.symm; have f5_ := f3_.symm; clear f1_ f2_ f3_; subst f4_; subst f5_))
   obtain ⟨Ao25, co25, eo25⟩ := Kd.V_slice HO240.out
   (first | subst eo25 | (injection eo25 with f1_ f2_ f3_; have f4_ := f1_.symm; have f5_ := f3_.symm; clear f1_ f2_ f3_; subst f4_; subst f5_))
   refine hK.out _ _ ⟨(bc_ BK303.out 0).trans rfl, (bc_ BK303.out 1).trans rfl, (bc_ BK304.out 0).trans rfl, (bc_ BK304.out 1).trans rfl⟩ (fun hHeld => ?_)
   clear hK K
   refine norm_ (a' := ?_) ?_ ?_
   rotate_left
   ·
    show Act.put _ (some 13) _ = _
    simp only [Act.put, sA_, sZ_, sS_, i64_w, i32_w]
    rfl
   refine last_ (i := 4) (N := none) #[true, true, true, true, true, false] rfl rfl (by kernel_rfl) (by decide) (fun K hK => ?_)
   have hs21 : w20.cell? ⟨gb303, 0, none⟩ = some (.bool a0_0) := (bc_ BK303.out 0).trans rfl
   have hfs21 := bf_ BK303.out 0
   have hns21_1 := NB304_303.out
   have hns21_2 := NB305_303.out
   have hms21_1 := NB303_304.out
   have hms21_2 := NB303_305.out
   have hs23 : w20.cell? ⟨gb303, 1, none⟩ = some (.slice A0_1 l0_1.length c0_1) := (bc_ BK303.out 1).trans rfl
   have hfs23 := bf_ BK303.out 1
   have hns23_1 := NB304_303.out
   have hns23_2 := NB305_303.out
   have hms23_1 := NB303_304.out
   have hms23_2 := NB303_305.out
   refine skip_ (w1 := ?_) (by rfl) rfl ?_ ?_
   rotate_left
   ·
    go_simp
    rfl
   refine hK.out _ _ ?_
   clear hK K
   refine last_ (i := 5) (N := none) #[true, true, true, true, true, true] rfl rfl (by kernel_rfl) (by decide) (fun K hK => ?_)
   have hs24 : w20.cell? ⟨gb304, 0, none⟩ = some (.bool true) := (bc_ BK304.out 0).trans rfl
   have hfs24 := bf_ BK304.out 0
   have hns24_0 := NB303_304.out
   have hns24_2 := NB305_304.out
   have hms24_0 := NB304_303.out
   have hms24_2 := NB304_305.out
   have hs26 : w20.cell? ⟨gb304, 1, none⟩ = some (.slice A1_1 l1_1.length c1_1) := (bc_ BK304.out 1).trans rfl
   have hfs26 := bf_ BK304.out 1
   have hns26_0 := NB303_304.out
   have hns26_2 := NB305_304.out
   have hms26_0 := NB304_303.out
   have hms26_2 := NB304_305.out
   refine skip_ (w1 := ?_) (by rfl) rfl ?_ ?_
   rotate_left
   ·
    go_simp
    rfl
   refine hK.out _ _ ?_
   clear hK K
   refine done_ (by kernel_rfl) ?_
   have hnb27 := NB305_303.out
   have hnc27 := NB303_305.out
   have hcz28_0 : w20.cell? ⟨gb305, 0, none⟩ = some (.bool a2_0) := (bc_ BK305.out 0).trans rfl
   have hcz28_1 : w20.cell? ⟨gb305, 1, none⟩ = some (.slice A2_1 l2_1.length c2_1) := (bc_ BK305.out 1).trans rfl
   have hfz28_0 := bf_ BK305.out 0
   have hfz28_1 := bf_ BK305.out 1
   have hcz29_0 : w20.cell? ⟨gb304, 0, none⟩ = some (.bool true) := (bc_ BK304.out 0).trans rfl
   have hcz29_1 : w20.cell? ⟨gb304, 1, none⟩ = some (.slice A1_1 l1_1.length c1_1) := (bc_ BK304.out 1).trans rfl
   have hfz29_0 := bf_ BK304.out 0
   have hfz29_1 := bf_ BK304.out 1
   try go_wp2_with (first | ((with_reducible refine gate_callee (f := 26) rfl ?_); refine goesL_ (some 16) rfl rfl Try.func26 (by kernel_rfl) rfl #[.agg #[.bool a2_0, .slice A2_1 l2_1.length c2_1], .agg #[.bool t237, .slice Ao25 t238.length co25]] rfl (by (try simp only [List.map_toArray, List.map_cons, List.map_nil]); first | done | rfl | (simp only [List.length_drop, List.length_take]; rfl)) ?_; (with_reducible refine (clevisref01_Mul.calls k a2_0 _ _ l2_1 t237 _ _ t238 t241 t242 _ ?side1 ?side2 ?side3 ?side4 A7.out).mono ?_); (case side1 => exact cb_ HR2_1.out bw_); (case side2 => exact HC2_1.out); (case side3 => refine (Kd.V_reads' (e := 3) (base := w.heap.size) (ok := fun k_ => (k_ ≠ gb303 ∧ (k_ ≠ gb304 ∧ k_ ≠ gb305))) (n := t238.length) (c := co25) ?_).2.2; exact (by (with_reducible repeat (first | apply va_ | apply vn_ | apply vd_)); exact (vm_ (vm_ (Kd.V_far (p := ⟨gb304, 1, none⟩) (Kd.V_far (p := ⟨gb304, 0, none⟩) (Kd.V_far (p := ⟨gb303, 1, none⟩) (Kd.V_far (p := ⟨gb303, 0, none⟩) (vm_ (vm_ HO240.out (fun k_ hk => (⟨hk, hk.1⟩ : _ ∧ k_ ≠ gb303))) (fun k_ hk => (⟨hk, hk.1.2.1⟩ : _ ∧ k_ ≠ gb304))) (fun _ hk => hk.1.2) (.bool t233)) (fun _ hk => hk.1.2) (.slice Ao22 t234.length co22)) (fun _ hk => hk.2) (.bool t237)) (fun _ hk => hk.2) (.slice Ao25 t238.length co25)) (fun _ h_ => h_.1)) (fun _ h_ => h_.1)))); (case side4 => exact (Kd.V_reads' HO240.out).2.1); rintro e w30 ⟨v243, rfl, ho0, hb⟩; refine ⟨_, rfl, ?_⟩; have n0_ := A_ (Kd.V_below (by (with_reducible repeat (first | apply va_ | apply vn_ | apply vd_)); exact (vm_ (vm_ (Kd.V_far (p := ⟨gb304, 1, none⟩) (Kd.V_far (p := ⟨gb304, 0, none⟩) (Kd.V_far (p := ⟨gb303, 1, none⟩) (Kd.V_far (p := ⟨gb303, 0, none⟩) (vm_ (vm_ HO236.out (fun k_ hk => (⟨hk, hk.1⟩ : _ ∧ k_ ≠ gb303))) (fun k_ hk => (⟨hk, hk.1.2.1⟩ : _ ∧ k_ ≠ gb304))) (fun _ hk => hk.1.2) (.bool t233)) (fun _ hk => hk.1.2) (.slice Ao22 t234.length co22)) (fun _ hk => hk.2) (.bool t237)) (fun _ hk => hk.2) (.slice Ao25 t238.length co25)) (fun _ h_ => h_.1)) (fun _ h_ => h_.1))) hb); have n1_ := A_ (Kd.V_below (by (with_reducible repeat (first | apply va_ | apply vn_ | apply vd_)); exact (vm_ (vm_ (Kd.V_far (p := ⟨gb304, 1, none⟩) (Kd.V_far (p := ⟨gb304, 0, none⟩) (Kd.V_far (p := ⟨gb303, 1, none⟩) (Kd.V_far (p := ⟨gb303, 0, none⟩) (vm_ (vm_ HO240.out (fun k_ hk => (⟨hk, hk.1⟩ : _ ∧ k_ ≠ gb303))) (fun k_ hk => (⟨hk, hk.1.2.1⟩ : _ ∧ k_ ≠ gb304))) (fun _ hk => hk.1.2) (.bool t233)) (fun _ hk => hk.1.2) (.slice Ao22 t234.length co22)) (fun _ hk => hk.2) (.bool t237)) (fun _ hk => hk.2) (.slice Ao25 t238.length co25)) (fun _ h_ => h_.1)) (fun _ h_ => h_.1))) hb); have n2_ := A_ (Kd.V_lower (vm_ (ok' := fun k_ => k_ ≠ gb303 ∧ k_ ≠ gb304 ∧ k_ ≠ gb305) ho0 (fun k_ hk_ => ⟨(Kd.freshB (g := gb303) (o := .cells #[.bool t233, .slice Ao22 t234.length co22] 32 (0, 0)) (by (with_reducible repeat (first | refine bn_ ?_ _ | refine bd_ ?_ | refine ba_ ?_ _)); refine br_ ?_ NB303_304.out _; (with_reducible repeat (first | refine bn_ ?_ _ | refine bd_ ?_ | refine ba_ ?_ _)); refine br_ ?_ NB303_304.out _; (with_reducible repeat (first | refine bn_ ?_ _ | refine bd_ ?_ | refine ba_ ?_ _)); refine bp_ (cs := #[.bool t233, .slice A0_1 l0_1.length c0_1]) ?_ 1 _ rfl; (with_reducible repeat (first | refine bn_ ?_ _ | refine bd_ ?_ | refine ba_ ?_ _)); refine bp_ (cs := #[.bool a0_0, .slice A0_1 l0_1.length c0_1]) ?_ 0 _ rfl; (with_reducible repeat (first | refine bn_ ?_ _ | refine bd_ ?_ | refine ba_ ?_ _)); exact BK303.out) k_ hk_), (Kd.freshB (g := gb304) (o := .cells #[.bool t237, .slice Ao25 t238.length co25] 32 (0, 0)) (by (with_reducible repeat (first | refine bn_ ?_ _ | refine bd_ ?_ | refine ba_ ?_ _)); refine bp_ (cs := #[.bool t237, .slice A1_1 l1_1.length c1_1]) ?_ 1 _ rfl; (with_reducible repeat (first | refine bn_ ?_ _ | refine bd_ ?_ | refine ba_ ?_ _)); refine bp_ (cs := #[.bool true, .slice A1_1 l1_1.length c1_1]) ?_ 0 _ rfl; (with_reducible repeat (first | refine bn_ ?_ _ | refine bd_ ?_ | refine ba_ ?_ _)); refine br_ ?_ NB304_303.out _; (with_reducible repeat (first | refine bn_ ?_ _ | refine bd_ ?_ | refine ba_ ?_ _)); refine br_ ?_ NB304_303.out _; (with_reducible repeat (first | refine bn_ ?_ _ | refine bd_ ?_ | refine ba_ ?_ _)); exact BK304.out) k_ hk_), (Kd.freshB (g := gb305) (o := .cells #[.bool a2_0, .slice A2_1 l2_1.length c2_1] 32 (0, 0)) bk_ k_ hk_)⟩)) (bz_ bw_)); have n3_ := A_ (blk_below (g := gb303) (o := .cells #[.bool t233, .slice Ao22 t234.length co22] 32 (0, 0)) (by (with_reducible repeat (first | refine bn_ ?_ _ | refine bd_ ?_ | refine ba_ ?_ _)); refine br_ ?_ NB303_304.out _; (with_reducible repeat (first | refine bn_ ?_ _ | refine bd_ ?_ | refine ba_ ?_ _)); refine br_ ?_ NB303_304.out _; (with_reducible repeat (first | refine bn_ ?_ _ | refine bd_ ?_ | refine ba_ ?_ _)); refine bp_ (cs := #[.bool t233, .slice A0_1 l0_1.length c0_1]) ?_ 1 _ rfl; (with_reducible repeat (first | refine bn_ ?_ _ | refine bd_ ?_ | refine ba_ ?_ _)); refine bp_ (cs := #[.bool a0_0, .slice A0_1 l0_1.length c0_1]) ?_ 0 _ rfl; (with_reducible repeat (first | refine bn_ ?_ _ | refine bd_ ?_ | refine ba_ ?_ _)); exact BK303.out) hb); have n4_ := A_ (blk_below (g := gb304) (o := .cells #[.bool t237, .slice Ao25 t238.length co25] 32 (0, 0)) (by (with_reducible repeat (first | refine bn_ ?_ _ | refine bd_ ?_ | refine ba_ ?_ _)); refine bp_ (cs := #[.bool t237, .slice A1_1 l1_1.length c1_1]) ?_ 1 _ rfl; (with_reducible repeat (first | refine bn_ ?_ _ | refine bd_ ?_ | refine ba_ ?_ _)); refine bp_ (cs := #[.bool true, .slice A1_1 l1_1.length c1_1]) ?_ 0 _ rfl; (with_reducible repeat (first | refine bn_ ?_ _ | refine bd_ ?_ | refine ba_ ?_ _)); refine br_ ?_ NB304_303.out _; (with_reducible repeat (first | refine bn_ ?_ _ | refine bd_ ?_ | refine ba_ ?_ _)); refine br_ ?_ NB304_303.out _; (with_reducible repeat (first | refine bn_ ?_ _ | refine bd_ ?_ | refine ba_ ?_ _)); exact BK304.out) hb); have n5_ := A_ (kb_ BK305 hb); have n6_ := A_ (bs_ bw_ hb); clear HO236; clear HO240; clear BK303; clear BK304; clear BK305; clear HB; have HO236 := n0_; have HO240 := n1_; have HO244 := n2_; have BK303 := n3_; have BK304 := n4_; have BK305 := n5_; have HB := n6_; clear n0_ n1_ n2_ n3_ n4_ n5_ n6_; (try clear hb); (try clear hb2); (try clear hk); (try clear hi); (try clear ho0)) | ((with_reducible refine gate_dst (N := 7) rfl ?_); refine box_event ?hg (N := 7) ?hd (cs := #[.bool false, .slice none 0 0]) (t := 32) ?hr ?_; (case hd => rfl); (case hg => rfl); (case hr => first | (go_simp; done) | (go_simp; rfl)); intro gb307 hg w31 hbox hb; have n0_ := A_ (Kd.V_below (Kd.V_elderB (by (with_reducible repeat (first | apply va_ | apply vn_ | apply vd_)); exact HO236.out) gb307 (Nat.le_of_eq hg.symm)) hb); have n1_ := A_ (Kd.V_below (Kd.V_elderB (by (with_reducible repeat (first | apply va_ | apply vn_ | apply vd_)); exact HO240.out) gb307 (Nat.le_of_eq hg.symm)) hb); have n2_ := A_ (Kd.V_below (Kd.V_elderB (by (with_reducible repeat (first | apply va_ | apply vn_ | apply vd_)); exact HO244.out) gb307 (Nat.le_of_eq hg.symm)) hb); have n3_ := A_ (kb_ BK303 hb); have n4_ := A_ (kb_ BK304 hb); have n5_ := A_ (kb_ BK305 hb); have n6_ := A_ (bs_ bw_ hb); have n7_ := A_ (hbox); have n8_ := A_ ((by rw [hg]; exact (bz_ bw_) : w.heap.size ≤ gb307)); have n9_ := A_ ((by rw [hg]; exact (bz_ bw_) : w.heap.size ≤ gb307)); have n10_ := A_ ((by rw [hg]; exact nl_ (lt_ BK303) : gb303 ≠ gb307)); have n11_ := A_ ((by rw [hg]; exact ng_ (lt_ BK303) : gb307 ≠ gb303)); have n12_ := A_ ((by rw [hg]; exact nl_ (lt_ BK304) : gb304 ≠ gb307)); have n13_ := A_ ((by rw [hg]; exact ng_ (lt_ BK304) : gb307 ≠ gb304)); have n14_ := A_ ((by rw [hg]; exact nl_ (lt_ BK305) : gb305 ≠ gb307)); have n15_ := A_ ((by rw [hg]; exact ng_ (lt_ BK305) : gb307 ≠ gb305)); clear HO236; clear HO240; clear HO244; clear BK303; clear BK304; clear BK305; clear HB; have HO236 := n0_; have HO240 := n1_; have HO244 := n2_; have BK303 := n3_; have BK304 := n4_; have BK305 := n5_; have HB := n6_; have BK307 := n7_; have GW307 := n8_; have GE307 := n9_; have NB303_307 := n10_; have NB307_303 := n11_; have NB304_307 := n12_; have NB307_304 := n13_; have NB305_307 := n14_; have NB307_305 := n15_; clear n0_ n1_ n2_ n3_ n4_ n5_ n6_ n7_ n8_ n9_ n10_ n11_ n12_ n13_ n14_ n15_; clear hb hbox hg; have hnb32 := NB307_303.out; have hnc32 := NB303_307.out; have hnb33 := NB307_304.out; have hnc33 := NB304_307.out; have hnb34 := NB307_305.out; have hnc34 := NB305_307.out; have hcz35_0 : w31.cell? ⟨gb307, 0, none⟩ = some (.bool false) := (bc_ BK307.out 0).trans rfl; have hcz35_1 : w31.cell? ⟨gb307, 1, none⟩ = some (.slice none 0 0) := (bc_ BK307.out 1).trans rfl; have hfz35_0 := bf_ BK307.out 0; have hfz35_1 := bf_ BK307.out 1; obtain ⟨Ao36, co36, eo36⟩ := Kd.V_slice HO244.out; subst eo36))
   have n0_ : Aside0 (Kd.V (Kd.int .i64) 3 ((w31.setCell ⟨gb307, 0, none⟩ (.bool t241)).setCell ⟨gb307, 1, none⟩ (.slice Ao36 t242.length co36)) w.heap.size (fun k_ => k_ ≠ gb303 ∧ k_ ≠ gb304 ∧ k_ ≠ gb305 ∧ k_ ≠ gb307) (.slice Ao22 t234.length co22) t234) := ⟨by (with_reducible repeat (first | apply va_ | apply vn_ | apply vd_)); exact vm_ (Kd.V_far (p := ⟨gb307, 1, none⟩) (Kd.V_far (p := ⟨gb307, 0, none⟩) (vm_ HO236.out (fun k_ hk => (⟨hk, hk.2⟩ : _ ∧ k_ ≠ gb307))) (fun _ hk => hk.2) (.bool t241)) (fun _ hk => hk.2) (.slice Ao36 t242.length co36)) (fun _ hk => ⟨hk.1.1.1, ⟨hk.1.1.2.1, ⟨hk.1.1.2.2, hk.1.2⟩⟩⟩)⟩
   have n1_ : Aside0 (Kd.V (Kd.int .i64) 3 ((w31.setCell ⟨gb307, 0, none⟩ (.bool t241)).setCell ⟨gb307, 1, none⟩ (.slice Ao36 t242.length co36)) w.heap.size (fun k_ => k_ ≠ gb303 ∧ k_ ≠ gb304 ∧ k_ ≠ gb305 ∧ k_ ≠ gb307) (.slice Ao25 t238.length co25) t238) := ⟨by (with_reducible repeat (first | apply va_ | apply vn_ | apply vd_)); exact vm_ (Kd.V_far (p := ⟨gb307, 1, none⟩) (Kd.V_far (p := ⟨gb307, 0, none⟩) (vm_ HO240.out (fun k_ hk => (⟨hk, hk.2⟩ : _ ∧ k_ ≠ gb307))) (fun _ hk => hk.2) (.bool t241)) (fun _ hk => hk.2) (.slice Ao36 t242.length co36)) (fun _ hk => ⟨hk.1.1.1, ⟨hk.1.1.2.1, ⟨hk.1.1.2.2, hk.1.2⟩⟩⟩)⟩
   have n2_ : Aside0 (Kd.V (Kd.int .i64) 3 ((w31.setCell ⟨gb307, 0, none⟩ (.bool t241)).setCell ⟨gb307, 1, none⟩ (.slice Ao36 t242.length co36)) w.heap.size (fun k_ => k_ ≠ gb303 ∧ k_ ≠ gb304 ∧ k_ ≠ gb305 ∧ k_ ≠ gb307) (.slice Ao36 t242.length co36) t242) := ⟨by (with_reducible repeat (first | apply va_ | apply vn_ | apply vd_)); exact vm_ (Kd.V_far (p := ⟨gb307, 1, none⟩) (Kd.V_far (p := ⟨gb307, 0, none⟩) (vm_ HO244.out (fun k_ hk => (⟨hk, hk.2⟩ : _ ∧ k_ ≠ gb307))) (fun _ hk => hk.2) (.bool t241)) (fun _ hk => hk.2) (.slice Ao36 t242.length co36)) (fun _ hk => ⟨hk.1.1.1, ⟨hk.1.1.2.1, ⟨hk.1.1.2.2, hk.1.2⟩⟩⟩)⟩
   have n3_ : Aside0 (((w31.setCell ⟨gb307, 0, none⟩ (.bool t241)).setCell ⟨gb307, 1, none⟩ (.slice Ao36 t242.length co36)).heap[gb303]? = some (.cells #[.bool t233, .slice Ao22 t234.length co22] 32 (0, 0))) := ⟨bk_⟩
   have n4_ : Aside0 (((w31.setCell ⟨gb307, 0, none⟩ (.bool t241)).setCell ⟨gb307, 1, none⟩ (.slice Ao36 t242.length co36)).heap[gb304]? = some (.cells #[.bool t237, .slice Ao25 t238.length co25] 32 (0, 0))) := ⟨bk_⟩
   have n5_ : Aside0 (((w31.setCell ⟨gb307, 0, none⟩ (.bool t241)).setCell ⟨gb307, 1, none⟩ (.slice Ao36 t242.length co36)).heap[gb305]? = some (.cells #[.bool a2_0, .slice A2_1 l2_1.length c2_1] 32 (0, 0))) := ⟨bk_⟩
   have n6_ : Aside0 (((w31.setCell ⟨gb307, 0, none⟩ (.bool t241)).setCell ⟨gb307, 1, none⟩ (.slice Ao36 t242.length co36)).heap[gb307]? = some (.cells #[.bool t241, .slice Ao36 t242.length co36] 32 (0, 0))) := ⟨by (with_reducible repeat (first | refine bn_ ?_ _ | refine bd_ ?_ | refine ba_ ?_ _)); refine bp_ (cs := #[.bool t241, .slice none 0 0]) ?_ 1 _ rfl; (with_reducible repeat (first | refine bn_ ?_ _ | refine bd_ ?_ | refine ba_ ?_ _)); refine bp_ (cs := #[.bool false, .slice none 0 0]) ?_ 0 _ rfl; (with_reducible repeat (first | refine bn_ ?_ _ | refine bd_ ?_ | refine ba_ ?_ _)); exact BK307.out⟩
   have n7_ : Aside0 (Below w.heap.size w ((w31.setCell ⟨gb307, 0, none⟩ (.bool t241)).setCell ⟨gb307, 1, none⟩ (.slice Ao36 t242.length co36))) := ⟨bw_⟩
   (try clear HO236)
   (try clear HO240)
   (try clear HO244)
   (try clear BK303)
   (try clear BK304)
   (try clear BK305)
   (try clear BK307)
   (try clear HB)
   generalize ((w31.setCell ⟨gb307, 0, none⟩ (.bool t241)).setCell ⟨gb307, 1, none⟩ (.slice Ao36 t242.length co36)) = w37 at n0_ n1_ n2_ n3_ n4_ n5_ n6_ n7_ ⊢
   have HO236 := n0_
   have HO240 := n1_
   have HO244 := n2_
   have BK303 := n3_
   have BK304 := n4_
   have BK305 := n5_
   have BK307 := n6_
   have HB := n7_
   clear n0_ n1_ n2_ n3_ n4_ n5_ n6_ n7_
   have n0_ := A_ (vd_ HO236.out)
   have n1_ := A_ (vd_ HO240.out)
   have n2_ := A_ (vd_ HO244.out)
   have n3_ := A_ (bd_ BK303.out)
   have n4_ := A_ (bd_ BK304.out)
   have n5_ := A_ (bd_ BK305.out)
   have n6_ := A_ (bd_ BK307.out)
   have n7_ := A_ (b1_ HB.out)
   clear HO236
   clear HO240
   clear HO244
   clear BK303
   clear BK304
   clear BK305
   clear BK307
   clear HB
   have HO236 := n0_
   have HO240 := n1_
   have HO244 := n2_
   have BK303 := n3_
   have BK304 := n4_
   have BK305 := n5_
   have BK307 := n6_
   have HB := n7_
   clear n0_ n1_ n2_ n3_ n4_ n5_ n6_ n7_
   refine start_ (n := 13) (S := fun w' => w'.cell? ⟨gb307, 0, none⟩ = some (.bool t241) ∧ w'.cell? ⟨gb307, 1, none⟩ = some (.slice Ao36 t242.length co36) ∧ w'.cell? ⟨gb303, 0, none⟩ = some (.bool t233) ∧ w'.cell? ⟨gb303, 1, none⟩ = some (.slice Ao22 t234.length co22) ∧ w'.cell? ⟨gb304, 0, none⟩ = some (.bool t237) ∧ w'.cell? ⟨gb304, 1, none⟩ = some (.slice Ao25 t238.length co25)) (ds := []) #[false, false, false, false, false, false, false, false, false, false, false, false, false] (by kernel_rfl) rfl rfl ⟨(bc_ BK307.out 0).trans rfl, (bc_ BK307.out 1).trans rfl, (bc_ BK303.out 0).trans rfl, (bc_ BK303.out 1).trans rfl, (bc_ BK304.out 0).trans rfl, (bc_ BK304.out 1).trans rfl⟩ (fun hHeld => ?_); refine with_tabW clevisref01_Floor.tab4 clevisref01_Floor.bits4 (fun HT_ HW_ => ?_)
   generalize w37.drew = w38 at HO236 HO240 HO244 BK303 BK304 BK305 BK307 HB hHeld ⊢
   refine take_ (i := 0) (N := some 17) (v := ?_) (a' := ?_) #[true, false, false, false, false, false, false, false, false, false, false, false, false] rfl rfl (take_ofW HT_.out HW_.out (by kernel_rfl)) (fun _ _ _ h => h) (Or.inl ⟨by rfl, ?_⟩) hHeld ?_ ?_
   rotate_left
   ·
    rintro w' ⟨s0, s1, s2, s3, s4, s5⟩
    go_simp
    with_reducible rfl
   rotate_left
   ·
    simp only [Act.put, sA_, sZ_, sS_, i64_w, i32_w]
    rfl
   refine take_ (i := 1) (N := some 18) (v := ?_) (a' := ?_) #[true, true, false, false, false, false, false, false, false, false, false, false, false] rfl rfl (take_ofW HT_.out HW_.out (by kernel_rfl)) (fun _ _ _ h => h) (Or.inl ⟨by rfl, ?_⟩) hHeld ?_ ?_
   rotate_left
   ·
    rintro w' ⟨s0, s1, s2, s3, s4, s5⟩
    go_simp
    with_reducible rfl
   rotate_left
   ·
    simp only [Act.put, sA_, sZ_, sS_, i64_w, i32_w]
    rfl
   refine one_ (i := 2) (N := some 19) #[true, true, true, false, false, false, false, false, false, false, false, false, false] rfl rfl (one_of HT_.out (by kernel_rfl)) (by decide) (fun K hK => ?_)
   refine goes_ Try.func16 (by kernel_rfl) rfl #[.agg #[.bool t241, .slice Ao36 t242.length co36], .agg #[.bool t233, .slice Ao22 t234.length co22]] (by rfl) rfl rfl (by (try simp only [List.map_toArray, List.map_cons, List.map_nil]); first | done | rfl | (simp only [List.length_drop, List.length_take]; rfl)) ?_
   with_reducible refine (clevisref01_Compare.calls k t241 _ _ t242 t233 _ _ t234 t245 _ ?side1 ?side2 ?side3 ?side4 A8.out).mono ?_
   (case side1 => repeat (first | exact (Kd.V_reads' HO244.out).2.2 | (with_reducible refine ca_ ?_ _) | (with_reducible refine cn_ ?_ _) | (with_reducible refine cd_ ?_)))
   (case side2 => exact (Kd.V_reads' HO244.out).2.1)
   (case side3 => repeat (first | exact (Kd.V_reads' HO236.out).2.2 | (with_reducible refine ca_ ?_ _) | (with_reducible refine cn_ ?_ _) | (with_reducible refine cd_ ?_)))
   (case side4 => exact (Kd.V_reads' HO236.out).2.1)
   rintro e w39 ⟨rfl, hb⟩
   refine ⟨_, rfl, ?_⟩
   have n0_ := A_ (Kd.V_below (by (with_reducible repeat (first | apply va_ | apply vn_ | apply vd_)); exact HO236.out) hb)
   have n1_ := A_ (Kd.V_below (by (with_reducible repeat (first | apply va_ | apply vn_ | apply vd_)); exact HO240.out) hb)
   have n2_ := A_ (Kd.V_below (by (with_reducible repeat (first | apply va_ | apply vn_ | apply vd_)); exact HO244.out) hb)
   have n3_ := A_ (kb_ BK303 hb)
   have n4_ := A_ (kb_ BK304 hb)
   have n5_ := A_ (kb_ BK305 hb)
   have n6_ := A_ (kb_ BK307 hb)
   have n7_ := A_ (bs_ bw_ hb)
   clear HO236
   clear HO240
   clear HO244
   clear BK303
   clear BK304
   clear BK305
   clear BK307
   clear HB
   have HO236 := n0_
   have HO240 := n1_
   have HO244 := n2_
   have BK303 := n3_
   have BK304 := n4_
   have BK305 := n5_
   have BK307 := n6_
   have HB := n7_
   clear n0_ n1_ n2_ n3_ n4_ n5_ n6_ n7_
   (try clear hb)
   (try clear hb2)
   (try clear hk)
   (try clear hi)
   refine hK.out _ _ ⟨(bc_ BK307.out 0).trans rfl, (bc_ BK307.out 1).trans rfl, (bc_ BK303.out 0).trans rfl, (bc_ BK303.out 1).trans rfl, (bc_ BK304.out 0).trans rfl, (bc_ BK304.out 1).trans rfl⟩ (fun hHeld => ?_)
   clear hK K
   refine norm_ (a' := ?_) ?_ ?_
   rotate_left
   ·
    show Act.put _ (some 19) _ = _
    simp only [Act.put, sA_, sZ_, sS_, i64_w, i32_w]
    rfl
   refine pure_ (i := 3) (N := some 20) (v := ?_) (a' := ?_) #[true, true, true, true, false, false, false, false, false, false, false, false, false] rfl rfl (any_of HT_.out (by kernel_rfl)) (fun _ _ _ h => h) (Or.inl ⟨by rfl, ?_⟩) ?_ ?_
   rotate_left
   ·
    intro w'
    go_simp
    with_reducible rfl
   rotate_left
   ·
    simp only [Act.put, sA_, sZ_, sS_, i64_w, i32_w]
    rfl
   refine pure_ (i := 4) (N := some 21) (v := ?_) (a' := ?_) #[true, true, true, true, true, false, false, false, false, false, false, false, false] rfl rfl (any_of HT_.out (by kernel_rfl)) (fun _ _ _ h => h) (Or.inl ⟨by rfl, ?_⟩) ?_ ?_
   rotate_left
   ·
    intro w'
    go_simp
    with_reducible rfl
   rotate_left
   ·
    simp only [Act.put, sA_, sZ_, sS_, i64_w, i32_w]
    rfl
   refine take_ (i := 5) (N := some 22) (v := ?_) (a' := ?_) #[true, true, true, true, true, true, false, false, false, false, false, false, false] rfl rfl (take_ofW HT_.out HW_.out (by kernel_rfl)) (fun _ _ _ h => h) (Or.inl ⟨by rfl, ?_⟩) hHeld ?_ ?_
   rotate_left
   ·
    rintro w' ⟨s0, s1, s2, s3, s4, s5⟩
    go_simp
    with_reducible rfl
   rotate_left
   ·
    simp only [Act.put, sA_, sZ_, sS_, i64_w, i32_w]
    rfl
   refine take_ (i := 6) (N := some 23) (v := ?_) (a' := ?_) #[true, true, true, true, true, true, true, false, false, false, false, false, false] rfl rfl (take_ofW HT_.out HW_.out (by kernel_rfl)) (fun _ _ _ h => h) (Or.inl ⟨by rfl, ?_⟩) hHeld ?_ ?_
   rotate_left
   ·
    rintro w' ⟨s0, s1, s2, s3, s4, s5⟩
    go_simp
    with_reducible rfl
   rotate_left
   ·
    simp only [Act.put, sA_, sZ_, sS_, i64_w, i32_w]
    rfl
   refine take_ (i := 7) (N := some 24) (v := ?_) (a' := ?_) #[true, true, true, true, true, true, true, true, false, false, false, false, false] rfl rfl (take_ofW HT_.out HW_.out (by kernel_rfl)) (fun _ _ _ h => h) (Or.inl ⟨by rfl, ?_⟩) hHeld ?_ ?_
   rotate_left
   ·
    rintro w' ⟨s0, s1, s2, s3, s4, s5⟩
    go_simp
    with_reducible rfl
   rotate_left
   ·
    simp only [Act.put, sA_, sZ_, sS_, i64_w, i32_w]
    rfl
   refine one_ (i := 8) (N := some 25) #[true, true, true, true, true, true, true, true, true, false, false, false, false] rfl rfl (one_of HT_.out (by kernel_rfl)) (by decide) (fun K hK => ?_)
   refine goes_ Try.func21 (by kernel_rfl) rfl #[.agg #[.bool t241, .slice Ao36 t242.length co36], .agg #[.bool t237, .slice Ao25 t238.length co25]] (by rfl) rfl rfl (by (try simp only [List.map_toArray, List.map_cons, List.map_nil]); first | done | rfl | (simp only [List.length_drop, List.length_take]; rfl)) ?_
   with_reducible refine (clevisref01_Add.calls k t241 _ _ t242 t237 _ _ t238 t246 t247 _ ?side1 ?side2 ?side3 ?side4 A10.out).mono ?_
   (case side1 => repeat (first | exact (Kd.V_reads' HO244.out).2.2 | (with_reducible refine ca_ ?_ _) | (with_reducible refine cn_ ?_ _) | (with_reducible refine cd_ ?_)))
   (case side2 => exact (Kd.V_reads' HO244.out).2.1)
   (case side3 => repeat (first | exact (Kd.V_reads' HO240.out).2.2 | (with_reducible refine ca_ ?_ _) | (with_reducible refine cn_ ?_ _) | (with_reducible refine cd_ ?_)))
   (case side4 => exact (Kd.V_reads' HO240.out).2.1)
   rintro e w40 ⟨v248, rfl, ho0, hb⟩
   refine ⟨_, rfl, ?_⟩
   have n0_ := A_ (Kd.V_below (by (with_reducible repeat (first | apply va_ | apply vn_ | apply vd_)); exact HO236.out) hb)
   have n1_ := A_ (Kd.V_below (by (with_reducible repeat (first | apply va_ | apply vn_ | apply vd_)); exact HO240.out) hb)
   have n2_ := A_ (Kd.V_below (by (with_reducible repeat (first | apply va_ | apply vn_ | apply vd_)); exact HO244.out) hb)
   have n3_ := A_ (Kd.V_lower (vm_ (ok' := fun k_ => k_ ≠ gb303 ∧ k_ ≠ gb304 ∧ k_ ≠ gb305 ∧ k_ ≠ gb307) ho0 (fun k_ hk_ => ⟨(Kd.freshB (g := gb303) (o := .cells #[.bool t233, .slice Ao22 t234.length co22] 32 (0, 0)) bk_ k_ hk_), (Kd.freshB (g := gb304) (o := .cells #[.bool t237, .slice Ao25 t238.length co25] 32 (0, 0)) bk_ k_ hk_), (Kd.freshB (g := gb305) (o := .cells #[.bool a2_0, .slice A2_1 l2_1.length c2_1] 32 (0, 0)) bk_ k_ hk_), (Kd.freshB (g := gb307) (o := .cells #[.bool t241, .slice Ao36 t242.length co36] 32 (0, 0)) bk_ k_ hk_)⟩)) (bz_ bw_))
   have n4_ := A_ (kb_ BK303 hb)
   have n5_ := A_ (kb_ BK304 hb)
   have n6_ := A_ (kb_ BK305 hb)
   have n7_ := A_ (kb_ BK307 hb)
   have n8_ := A_ (bs_ bw_ hb)
   clear HO236
   clear HO240
   clear HO244
   clear BK303
   clear BK304
   clear BK305
   clear BK307
   clear HB
   have HO236 := n0_
   have HO240 := n1_
   have HO244 := n2_
   have HO249 := n3_
   have BK303 := n4_
   have BK304 := n5_
   have BK305 := n6_
   have BK307 := n7_
   have HB := n8_
   clear n0_ n1_ n2_ n3_ n4_ n5_ n6_ n7_ n8_
   (try clear hb)
   (try clear hb2)
   (try clear hk)
   (try clear hi)
   (try clear ho0)
   obtain ⟨Ao41, co41, eo41⟩ := Kd.V_slice HO249.out
   (first | subst eo41 | (injection eo41 with f1_ f2_ f3_; have f4_ := f1_.symm; have f5_ := f3_.symm; clear f1_ f2_ f3_; subst f4_; subst f5_))
   refine hK.out _ _ ⟨(bc_ BK307.out 0).trans rfl, (bc_ BK307.out 1).trans rfl, (bc_ BK303.out 0).trans rfl, (bc_ BK303.out 1).trans rfl, (bc_ BK304.out 0).trans rfl, (bc_ BK304.out 1).trans rfl⟩ (fun hHeld => ?_)
   clear hK K
   refine norm_ (a' := ?_) ?_ ?_
   rotate_left
   ·
    show Act.put _ (some 25) _ = _
    simp only [Act.put, sA_, sZ_, sS_, i64_w, i32_w]
    rfl
   refine one_ (i := 9) (N := some 26) #[true, true, true, true, true, true, true, true, true, true, false, false, false] rfl rfl (one_of HT_.out (by kernel_rfl)) (by decide) (fun K hK => ?_)
   refine goes_ Try.func16 (by kernel_rfl) rfl #[.agg #[.bool t233, .slice Ao22 t234.length co22], .agg #[.bool t246, .slice Ao41 t247.length co41]] (by rfl) rfl rfl (by (try simp only [List.map_toArray, List.map_cons, List.map_nil]); first | done | rfl | (simp only [List.length_drop, List.length_take]; rfl)) ?_
   with_reducible refine (clevisref01_Compare.calls k t233 _ _ t234 t246 _ _ t247 t250 _ ?side1 ?side2 ?side3 ?side4 A11.out).mono ?_
   (case side1 => repeat (first | exact (Kd.V_reads' HO236.out).2.2 | (with_reducible refine ca_ ?_ _) | (with_reducible refine cn_ ?_ _) | (with_reducible refine cd_ ?_)))
   (case side2 => exact (Kd.V_reads' HO236.out).2.1)
   (case side3 => repeat (first | exact (Kd.V_reads' HO249.out).2.2 | (with_reducible refine ca_ ?_ _) | (with_reducible refine cn_ ?_ _) | (with_reducible refine cd_ ?_)))
   (case side4 => exact (Kd.V_reads' HO249.out).2.1)
   rintro e w42 ⟨rfl, hb⟩
   refine ⟨_, rfl, ?_⟩
   have n0_ := A_ (Kd.V_below (by (with_reducible repeat (first | apply va_ | apply vn_ | apply vd_)); exact HO236.out) hb)
   have n1_ := A_ (Kd.V_below (by (with_reducible repeat (first | apply va_ | apply vn_ | apply vd_)); exact HO240.out) hb)
   have n2_ := A_ (Kd.V_below (by (with_reducible repeat (first | apply va_ | apply vn_ | apply vd_)); exact HO244.out) hb)
   have n3_ := A_ (Kd.V_below (by (with_reducible repeat (first | apply va_ | apply vn_ | apply vd_)); exact HO249.out) hb)
   have n4_ := A_ (kb_ BK303 hb)
   have n5_ := A_ (kb_ BK304 hb)
   have n6_ := A_ (kb_ BK305 hb)
   have n7_ := A_ (kb_ BK307 hb)
   have n8_ := A_ (bs_ bw_ hb)
   clear HO236
   clear HO240
   clear HO244
   clear HO249
   clear BK303
   clear BK304
   clear BK305
   clear BK307
   clear HB
   have HO236 := n0_
   have HO240 := n1_
   have HO244 := n2_
   have HO249 := n3_
   have BK303 := n4_
   have BK304 := n5_
   have BK305 := n6_
   have BK307 := n7_
   have HB := n8_
   clear n0_ n1_ n2_ n3_ n4_ n5_ n6_ n7_ n8_
   (try clear hb)
   (try clear hb2)
   (try clear hk)
   (try clear hi)
   refine hK.out _ _ ⟨(bc_ BK307.out 0).trans rfl, (bc_ BK307.out 1).trans rfl, (bc_ BK303.out 0).trans rfl, (bc_ BK303.out 1).trans rfl, (bc_ BK304.out 0).trans rfl, (bc_ BK304.out 1).trans rfl⟩ (fun hHeld => ?_)
   clear hK K
   refine norm_ (a' := ?_) ?_ ?_
   rotate_left
   ·
    show Act.put _ (some 26) _ = _
    simp only [Act.put, sA_, sZ_, sS_, i64_w, i32_w]
    rfl
   refine pure_ (i := 10) (N := some 27) (v := ?_) (a' := ?_) #[true, true, true, true, true, true, true, true, true, true, true, false, false] rfl rfl (any_of HT_.out (by kernel_rfl)) (fun _ _ _ h => h) (Or.inl ⟨by rfl, ?_⟩) ?_ ?_
   rotate_left
   ·
    intro w'
    go_simp
    with_reducible rfl
   rotate_left
   ·
    simp only [Act.put, sA_, sZ_, sS_, i64_w, i32_w]
    rfl
   refine pure_ (i := 11) (N := some 28) (v := ?_) (a' := ?_) #[true, true, true, true, true, true, true, true, true, true, true, true, false] rfl rfl (any_of HT_.out (by kernel_rfl)) (fun _ _ _ h => h) (Or.inl ⟨by rfl, ?_⟩) ?_ ?_
   rotate_left
   ·
    intro w'
    go_simp
    with_reducible rfl
   rotate_left
   ·
    simp only [Act.put, sA_, sZ_, sS_, i64_w, i32_w]
    rfl
   refine pure_ (i := 12) (N := some 6) (v := ?_) (a' := ?_) #[true, true, true, true, true, true, true, true, true, true, true, true, true] rfl rfl (any_of HT_.out (by kernel_rfl)) (fun _ _ _ h => h) (Or.inl ⟨by rfl, ?_⟩) ?_ ?_
   rotate_left
   ·
    intro w'
    go_simp
    with_reducible rfl
   rotate_left
   ·
    simp only [Act.put, sA_, sZ_, sS_, i64_w, i32_w]
    rfl
   refine done_ (done_of HT_.out (by kernel_rfl)) ?_
   try go_wp2
   go_ret
   exact ⟨by first | rfl | (simp [errW_none, errW_some] <;> rfl) | (simp [*, errW_none, errW_some] <;> rfl), bw_⟩
  ·
   rw [if_neg c9] at H
   have c9b0 : decide (t245 ≤ 0) = false := decide_eq_false c9
   clear c9
   obtain rfl := Option.some.inj H
   go_enter Try.func40, Try.ntmps40
   try go_wp2_with (first | ((with_reducible refine gate_dst (N := 3) rfl ?_); refine box_event ?hg (N := 3) ?hd (cs := #[.bool a0_0, .slice A0_1 l0_1.length c0_1]) (t := 32) ?hr ?_; (case hd => rfl); (case hg => rfl); (case hr => first | (go_simp; done) | (go_simp; rfl)); intro gb303 hg w43 hbox hb; have n0_ := A_ (bs_ bw_ hb); have n1_ := A_ (hbox); have n2_ := A_ ((by rw [hg]; exact (bz_ bw_) : w.heap.size ≤ gb303)); have n3_ := A_ ((by rw [hg]; exact (bz_ bw_) : w.heap.size ≤ gb303)); clear HB; have HB := n0_; have BK303 := n1_; have GW303 := n2_; have GE303 := n3_; clear n0_ n1_ n2_ n3_; clear hb hbox hg) | ((with_reducible refine gate_dst (N := 4) rfl ?_); refine box_event ?hg (N := 4) ?hd (cs := #[.bool true, .slice A1_1 l1_1.length c1_1]) (t := 32) ?hr ?_; (case hd => rfl); (case hg => rfl); (case hr => first | (go_simp; done) | (go_simp; rfl)); intro gb304 hg w44 hbox hb; have n0_ := A_ (kb_ BK303 hb); have n1_ := A_ (bs_ bw_ hb); have n2_ := A_ (hbox); have n3_ := A_ ((by rw [hg]; exact (bz_ bw_) : w.heap.size ≤ gb304)); have n4_ := A_ ((by rw [hg]; exact (bz_ bw_) : w.heap.size ≤ gb304)); have n5_ := A_ ((by rw [hg]; exact nl_ (lt_ BK303) : gb303 ≠ gb304)); have n6_ := A_ ((by rw [hg]; exact ng_ (lt_ BK303) : gb304 ≠ gb303)); clear BK303; clear HB; have BK303 := n0_; have HB := n1_; have BK304 := n2_; have GW304 := n3_; have GE304 := n4_; have NB303_304 := n5_; have NB304_303 := n6_; clear n0_ n1_ n2_ n3_ n4_ n5_ n6_; clear hb hbox hg) | ((with_reducible refine gate_dst (N := 5) rfl ?_); refine box_event ?hg (N := 5) ?hd (cs := #[.bool a2_0, .slice A2_1 l2_1.length c2_1]) (t := 32) ?hr ?_; (case hd => rfl); (case hg => rfl); (case hr => first | (go_simp; done) | (go_simp; rfl)); intro gb305 hg w45 hbox hb; have n0_ := A_ (kb_ BK303 hb); have n1_ := A_ (kb_ BK304 hb); have n2_ := A_ (bs_ bw_ hb); have n3_ := A_ (hbox); have n4_ := A_ ((by rw [hg]; exact (bz_ bw_) : w.heap.size ≤ gb305)); have n5_ := A_ ((by rw [hg]; exact (bz_ bw_) : w.heap.size ≤ gb305)); have n6_ := A_ ((by rw [hg]; exact nl_ (lt_ BK303) : gb303 ≠ gb305)); have n7_ := A_ ((by rw [hg]; exact ng_ (lt_ BK303) : gb305 ≠ gb303)); have n8_ := A_ ((by rw [hg]; exact nl_ (lt_ BK304) : gb304 ≠ gb305)); have n9_ := A_ ((by rw [hg]; exact ng_ (lt_ BK304) : gb305 ≠ gb304)); clear BK303; clear BK304; clear HB; have BK303 := n0_; have BK304 := n1_; have HB := n2_; have BK305 := n3_; have GW305 := n4_; have GE305 := n5_; have NB303_305 := n6_; have NB305_303 := n7_; have NB304_305 := n8_; have NB305_304 := n9_; clear n0_ n1_ n2_ n3_ n4_ n5_ n6_ n7_ n8_ n9_; clear hb hbox hg; have hnb46 := NB304_303.out; have hnc46 := NB303_304.out; have hnb47 := NB304_305.out; have hnc47 := NB305_304.out; have hcz48_0 : w45.cell? ⟨gb304, 0, none⟩ = some (.bool true) := (bc_ BK304.out 0).trans rfl; have hcz48_1 : w45.cell? ⟨gb304, 1, none⟩ = some (.slice A1_1 l1_1.length c1_1) := (bc_ BK304.out 1).trans rfl; have hfz48_0 := bf_ BK304.out 0; have hfz48_1 := bf_ BK304.out 1))
   have n0_ := A_ (bd_ BK303.out)
   have n1_ := A_ (bd_ BK304.out)
   have n2_ := A_ (bd_ BK305.out)
   have n3_ := A_ (b1_ HB.out)
   clear BK303
   clear BK304
   clear BK305
   clear HB
   have BK303 := n0_
   have BK304 := n1_
   have BK305 := n2_
   have HB := n3_
   clear n0_ n1_ n2_ n3_
   refine start_ (n := 6) (S := fun w' => w'.cell? ⟨gb303, 0, none⟩ = some (.bool a0_0) ∧ w'.cell? ⟨gb303, 1, none⟩ = some (.slice A0_1 l0_1.length c0_1) ∧ w'.cell? ⟨gb304, 0, none⟩ = some (.bool true) ∧ w'.cell? ⟨gb304, 1, none⟩ = some (.slice A1_1 l1_1.length c1_1)) (ds := [4, 5]) #[false, false, false, false, false, false] (by kernel_rfl) rfl rfl ⟨(bc_ BK303.out 0).trans rfl, (bc_ BK303.out 1).trans rfl, (bc_ BK304.out 0).trans rfl, (bc_ BK304.out 1).trans rfl⟩ (fun hHeld => ?_)
   generalize w45.drew = w49 at BK303 BK304 BK305 HB hHeld ⊢
   refine take_ (i := 0) (N := some 10) (v := ?_) (a' := ?_) #[true, false, false, false, false, false] rfl rfl (by kernel_rfl) (fun _ _ _ h => h) (Or.inl ⟨by rfl, ?_⟩) hHeld ?_ ?_
   rotate_left
   ·
    rintro w' ⟨s0, s1, s2, s3⟩
    go_simp
    with_reducible rfl
   rotate_left
   ·
    simp only [Act.put, sA_, sZ_, sS_, i64_w, i32_w]
    rfl
   refine take_ (i := 2) (N := some 12) (v := ?_) (a' := ?_) #[true, false, true, false, false, false] rfl rfl (by kernel_rfl) (fun _ _ _ h => h) (Or.inl ⟨by rfl, ?_⟩) hHeld ?_ ?_
   rotate_left
   ·
    rintro w' ⟨s0, s1, s2, s3⟩
    go_simp
    with_reducible rfl
   rotate_left
   ·
    simp only [Act.put, sA_, sZ_, sS_, i64_w, i32_w]
    rfl
   refine one_ (i := 1) (N := some 11) #[true, true, true, false, false, false] rfl rfl (by kernel_rfl) (by decide) (fun K hK => ?_)
   refine goes_ Try.func22 (by kernel_rfl) rfl #[.agg #[.bool a0_0, .slice A0_1 l0_1.length c0_1]] (by rfl) rfl rfl (by (try simp only [List.map_toArray, List.map_cons, List.map_nil]); first | done | rfl | (simp only [List.length_drop, List.length_take]; rfl)) ?_
   with_reducible refine (clevisref01_Neg.calls k a0_0 (fun k_ => k_ < w.heap.size) _ _ l0_1 t233 t234 _ ?side1 A5.out).mono ?_
   (case side1 => exact Kd.V_mk HC0_1.out (Kd.F_below (Kd.C_F (Kd.heap_int .i64) HR0_1.out) bw_))
   rintro e w50 ⟨v235, rfl, ho0, hb⟩
   refine ⟨_, rfl, ?_⟩
   have n0_ := A_ (Kd.V_lower (vm_ (ok' := fun k_ => k_ ≠ gb303 ∧ k_ ≠ gb304 ∧ k_ ≠ gb305) ho0 (fun k_ hk_ => ⟨Or.elim hk_ (fun hs_ => fun e_ => Nat.not_le.2 hs_ (by rw [e_]; exact GW303.out)) (fun hn_ => (Kd.freshB (g := gb303) (o := .cells #[.bool a0_0, .slice A0_1 l0_1.length c0_1] 32 (0, 0)) bk_ k_ hn_)), Or.elim hk_ (fun hs_ => fun e_ => Nat.not_le.2 hs_ (by rw [e_]; exact GW304.out)) (fun hn_ => (Kd.freshB (g := gb304) (o := .cells #[.bool true, .slice A1_1 l1_1.length c1_1] 32 (0, 0)) bk_ k_ hn_)), Or.elim hk_ (fun hs_ => fun e_ => Nat.not_le.2 hs_ (by rw [e_]; exact GW305.out)) (fun hn_ => (Kd.freshB (g := gb305) (o := .cells #[.bool a2_0, .slice A2_1 l2_1.length c2_1] 32 (0, 0)) bk_ k_ hn_))⟩)) (bz_ bw_))
   have n1_ := A_ (kb_ BK303 hb)
   have n2_ := A_ (kb_ BK304 hb)
   have n3_ := A_ (kb_ BK305 hb)
   have n4_ := A_ (bs_ bw_ hb)
   clear BK303
   clear BK304
   clear BK305
   clear HB
   have HO236 := n0_
   have BK303 := n1_
   have BK304 := n2_
   have BK305 := n3_
   have HB := n4_
   clear n0_ n1_ n2_ n3_ n4_
   (try clear hb)
   (try clear hb2)
   (try clear hk)
   (try clear hi)
   (try clear ho0)
   refine hK.out _ _ ⟨(bc_ BK303.out 0).trans rfl, (bc_ BK303.out 1).trans rfl, (bc_ BK304.out 0).trans rfl, (bc_ BK304.out 1).trans rfl⟩ (fun hHeld => ?_)
   clear hK K
   refine norm_ (a' := ?_) ?_ ?_
   rotate_left
   ·
    show Act.put _ (some 11) _ = _
    simp only [Act.put, sA_, sZ_, sS_, i64_w, i32_w]
    rfl
   refine one_ (i := 3) (N := some 13) #[true, true, true, true, false, false] rfl rfl (by kernel_rfl) (by decide) (fun K hK => ?_)
   refine goes_ Try.func22 (by kernel_rfl) rfl #[.agg #[.bool true, .slice A1_1 l1_1.length c1_1]] (by rfl) rfl rfl (by (try simp only [List.map_toArray, List.map_cons, List.map_nil]); first | done | rfl | (simp only [List.length_drop, List.length_take]; rfl)) ?_
   with_reducible refine (clevisref01_Neg.calls k true (fun k_ => k_ < w.heap.size) _ _ l1_1 t237 t238 _ ?side1 A6.out).mono ?_
   (case side1 => exact Kd.V_mk HC1_1.out (Kd.F_below (Kd.C_F (Kd.heap_int .i64) HR1_1.out) bw_))
   rintro e w51 ⟨v239, rfl, ho0, hb⟩
   refine ⟨_, rfl, ?_⟩
   have n0_ := A_ (Kd.V_below (by (with_reducible repeat (first | apply va_ | apply vn_ | apply vd_)); exact HO236.out) hb)
   have n1_ := A_ (Kd.V_lower (vm_ (ok' := fun k_ => k_ ≠ gb303 ∧ k_ ≠ gb304 ∧ k_ ≠ gb305) ho0 (fun k_ hk_ => ⟨Or.elim hk_ (fun hs_ => fun e_ => Nat.not_le.2 hs_ (by rw [e_]; exact GW303.out)) (fun hn_ => (Kd.freshB (g := gb303) (o := .cells #[.bool a0_0, .slice A0_1 l0_1.length c0_1] 32 (0, 0)) bk_ k_ hn_)), Or.elim hk_ (fun hs_ => fun e_ => Nat.not_le.2 hs_ (by rw [e_]; exact GW304.out)) (fun hn_ => (Kd.freshB (g := gb304) (o := .cells #[.bool true, .slice A1_1 l1_1.length c1_1] 32 (0, 0)) bk_ k_ hn_)), Or.elim hk_ (fun hs_ => fun e_ => Nat.not_le.2 hs_ (by rw [e_]; exact GW305.out)) (fun hn_ => (Kd.freshB (g := gb305) (o := .cells #[.bool a2_0, .slice A2_1 l2_1.length c2_1] 32 (0, 0)) bk_ k_ hn_))⟩)) (bz_ bw_))
   have n2_ := A_ (kb_ BK303 hb)
   have n3_ := A_ (kb_ BK304 hb)
   have n4_ := A_ (kb_ BK305 hb)
   have n5_ := A_ (bs_ bw_ hb)
   clear HO236
   clear BK303
   clear BK304
   clear BK305
   clear HB
   have HO236 := n0_
   have HO240 := n1_
   have BK303 := n2_
   have BK304 := n3_
   have BK305 := n4_
   have HB := n5_
   clear n0_ n1_ n2_ n3_ n4_ n5_
   (try clear hb)
   (try clear hb2)
   (try clear hk)
   (try clear hi)
   (try clear ho0)
   obtain ⟨Ao53, co53, eo53⟩ := Kd.V_slice HO236.out
   (first | subst eo53 | (injection eo53 with f1_ f2_ f3_; have f4_ := f1_.symm; have f5_ := f3_.symm; clear f1_ f2_ f3_; subst f4_; subst f5_))
   obtain ⟨Ao56, co56, eo56⟩ := Kd.V_slice HO240.out
   (first | subst eo56 | (injection eo56 with f1_ f2_ f3_; have f4_ := f1_.symm; have f5_ := f3_.symm; clear f1_ f2_ f3_; subst f4_; subst f5_))
   refine hK.out _ _ ⟨(bc_ BK303.out 0).trans rfl, (bc_ BK303.out 1).trans rfl, (bc_ BK304.out 0).trans rfl, (bc_ BK304.out 1).trans rfl⟩ (fun hHeld => ?_)
   clear hK K
   refine norm_ (a' := ?_) ?_ ?_
   rotate_left
   ·
    show Act.put _ (some 13) _ = _
    simp only [Act.put, sA_, sZ_, sS_, i64_w, i32_w]
    rfl
   refine last_ (i := 4) (N := none) #[true, true, true, true, true, false] rfl rfl (by kernel_rfl) (by decide) (fun K hK => ?_)
   have hs52 : w51.cell? ⟨gb303, 0, none⟩ = some (.bool a0_0) := (bc_ BK303.out 0).trans rfl
   have hfs52 := bf_ BK303.out 0
   have hns52_1 := NB304_303.out
   have hns52_2 := NB305_303.out
   have hms52_1 := NB303_304.out
   have hms52_2 := NB303_305.out
   have hs54 : w51.cell? ⟨gb303, 1, none⟩ = some (.slice A0_1 l0_1.length c0_1) := (bc_ BK303.out 1).trans rfl
   have hfs54 := bf_ BK303.out 1
   have hns54_1 := NB304_303.out
   have hns54_2 := NB305_303.out
   have hms54_1 := NB303_304.out
   have hms54_2 := NB303_305.out
   refine skip_ (w1 := ?_) (by rfl) rfl ?_ ?_
   rotate_left
   ·
    go_simp
    rfl
   refine hK.out _ _ ?_
   clear hK K
   refine last_ (i := 5) (N := none) #[true, true, true, true, true, true] rfl rfl (by kernel_rfl) (by decide) (fun K hK => ?_)
   have hs55 : w51.cell? ⟨gb304, 0, none⟩ = some (.bool true) := (bc_ BK304.out 0).trans rfl
   have hfs55 := bf_ BK304.out 0
   have hns55_0 := NB303_304.out
   have hns55_2 := NB305_304.out
   have hms55_0 := NB304_303.out
   have hms55_2 := NB304_305.out
   have hs57 : w51.cell? ⟨gb304, 1, none⟩ = some (.slice A1_1 l1_1.length c1_1) := (bc_ BK304.out 1).trans rfl
   have hfs57 := bf_ BK304.out 1
   have hns57_0 := NB303_304.out
   have hns57_2 := NB305_304.out
   have hms57_0 := NB304_303.out
   have hms57_2 := NB304_305.out
   refine skip_ (w1 := ?_) (by rfl) rfl ?_ ?_
   rotate_left
   ·
    go_simp
    rfl
   refine hK.out _ _ ?_
   clear hK K
   refine done_ (by kernel_rfl) ?_
   have hnb58 := NB305_303.out
   have hnc58 := NB303_305.out
   have hcz59_0 : w51.cell? ⟨gb305, 0, none⟩ = some (.bool a2_0) := (bc_ BK305.out 0).trans rfl
   have hcz59_1 : w51.cell? ⟨gb305, 1, none⟩ = some (.slice A2_1 l2_1.length c2_1) := (bc_ BK305.out 1).trans rfl
   have hfz59_0 := bf_ BK305.out 0
   have hfz59_1 := bf_ BK305.out 1
   have hcz60_0 : w51.cell? ⟨gb304, 0, none⟩ = some (.bool true) := (bc_ BK304.out 0).trans rfl
   have hcz60_1 : w51.cell? ⟨gb304, 1, none⟩ = some (.slice A1_1 l1_1.length c1_1) := (bc_ BK304.out 1).trans rfl
   have hfz60_0 := bf_ BK304.out 0
   have hfz60_1 := bf_ BK304.out 1
   try go_wp2_with (first | ((with_reducible refine gate_callee (f := 26) rfl ?_); refine goesL_ (some 16) rfl rfl Try.func26 (by kernel_rfl) rfl #[.agg #[.bool a2_0, .slice A2_1 l2_1.length c2_1], .agg #[.bool t237, .slice Ao56 t238.length co56]] rfl (by (try simp only [List.map_toArray, List.map_cons, List.map_nil]); first | done | rfl | (simp only [List.length_drop, List.length_take]; rfl)) ?_; (with_reducible refine (clevisref01_Mul.calls k a2_0 _ _ l2_1 t237 _ _ t238 t241 t242 _ ?side1 ?side2 ?side3 ?side4 A7.out).mono ?_); (case side1 => exact cb_ HR2_1.out bw_); (case side2 => exact HC2_1.out); (case side3 => refine (Kd.V_reads' (e := 3) (base := w.heap.size) (ok := fun k_ => (k_ ≠ gb303 ∧ (k_ ≠ gb304 ∧ k_ ≠ gb305))) (n := t238.length) (c := co56) ?_).2.2; exact (by (with_reducible repeat (first | apply va_ | apply vn_ | apply vd_)); exact (vm_ (vm_ (Kd.V_far (p := ⟨gb304, 1, none⟩) (Kd.V_far (p := ⟨gb304, 0, none⟩) (Kd.V_far (p := ⟨gb303, 1, none⟩) (Kd.V_far (p := ⟨gb303, 0, none⟩) (vm_ (vm_ HO240.out (fun k_ hk => (⟨hk, hk.1⟩ : _ ∧ k_ ≠ gb303))) (fun k_ hk => (⟨hk, hk.1.2.1⟩ : _ ∧ k_ ≠ gb304))) (fun _ hk => hk.1.2) (.bool t233)) (fun _ hk => hk.1.2) (.slice Ao53 t234.length co53)) (fun _ hk => hk.2) (.bool t237)) (fun _ hk => hk.2) (.slice Ao56 t238.length co56)) (fun _ h_ => h_.1)) (fun _ h_ => h_.1)))); (case side4 => exact (Kd.V_reads' HO240.out).2.1); rintro e w61 ⟨v243, rfl, ho0, hb⟩; refine ⟨_, rfl, ?_⟩; have n0_ := A_ (Kd.V_below (by (with_reducible repeat (first | apply va_ | apply vn_ | apply vd_)); exact (vm_ (vm_ (Kd.V_far (p := ⟨gb304, 1, none⟩) (Kd.V_far (p := ⟨gb304, 0, none⟩) (Kd.V_far (p := ⟨gb303, 1, none⟩) (Kd.V_far (p := ⟨gb303, 0, none⟩) (vm_ (vm_ HO236.out (fun k_ hk => (⟨hk, hk.1⟩ : _ ∧ k_ ≠ gb303))) (fun k_ hk => (⟨hk, hk.1.2.1⟩ : _ ∧ k_ ≠ gb304))) (fun _ hk => hk.1.2) (.bool t233)) (fun _ hk => hk.1.2) (.slice Ao53 t234.length co53)) (fun _ hk => hk.2) (.bool t237)) (fun _ hk => hk.2) (.slice Ao56 t238.length co56)) (fun _ h_ => h_.1)) (fun _ h_ => h_.1))) hb); have n1_ := A_ (Kd.V_below (by (with_reducible repeat (first | apply va_ | apply vn_ | apply vd_)); exact (vm_ (vm_ (Kd.V_far (p := ⟨gb304, 1, none⟩) (Kd.V_far (p := ⟨gb304, 0, none⟩) (Kd.V_far (p := ⟨gb303, 1, none⟩) (Kd.V_far (p := ⟨gb303, 0, none⟩) (vm_ (vm_ HO240.out (fun k_ hk => (⟨hk, hk.1⟩ : _ ∧ k_ ≠ gb303))) (fun k_ hk => (⟨hk, hk.1.2.1⟩ : _ ∧ k_ ≠ gb304))) (fun _ hk => hk.1.2) (.bool t233)) (fun _ hk => hk.1.2) (.slice Ao53 t234.length co53)) (fun _ hk => hk.2) (.bool t237)) (fun _ hk => hk.2) (.slice Ao56 t238.length co56)) (fun _ h_ => h_.1)) (fun _ h_ => h_.1))) hb); have n2_ := A_ (Kd.V_lower (vm_ (ok' := fun k_ => k_ ≠ gb303 ∧ k_ ≠ gb304 ∧ k_ ≠ gb305) ho0 (fun k_ hk_ => ⟨(Kd.freshB (g := gb303) (o := .cells #[.bool t233, .slice Ao53 t234.length co53] 32 (0, 0)) (by (with_reducible repeat (first | refine bn_ ?_ _ | refine bd_ ?_ | refine ba_ ?_ _)); refine br_ ?_ NB303_304.out _; (with_reducible repeat (first | refine bn_ ?_ _ | refine bd_ ?_ | refine ba_ ?_ _)); refine br_ ?_ NB303_304.out _; (with_reducible repeat (first | refine bn_ ?_ _ | refine bd_ ?_ | refine ba_ ?_ _)); refine bp_ (cs := #[.bool t233, .slice A0_1 l0_1.length c0_1]) ?_ 1 _ rfl; (with_reducible repeat (first | refine bn_ ?_ _ | refine bd_ ?_ | refine ba_ ?_ _)); refine bp_ (cs := #[.bool a0_0, .slice A0_1 l0_1.length c0_1]) ?_ 0 _ rfl; (with_reducible repeat (first | refine bn_ ?_ _ | refine bd_ ?_ | refine ba_ ?_ _)); exact BK303.out) k_ hk_), (Kd.freshB (g := gb304) (o := .cells #[.bool t237, .slice Ao56 t238.length co56] 32 (0, 0)) (by (with_reducible repeat (first | refine bn_ ?_ _ | refine bd_ ?_ | refine ba_ ?_ _)); refine bp_ (cs := #[.bool t237, .slice A1_1 l1_1.length c1_1]) ?_ 1 _ rfl; (with_reducible repeat (first | refine bn_ ?_ _ | refine bd_ ?_ | refine ba_ ?_ _)); refine bp_ (cs := #[.bool true, .slice A1_1 l1_1.length c1_1]) ?_ 0 _ rfl; (with_reducible repeat (first | refine bn_ ?_ _ | refine bd_ ?_ | refine ba_ ?_ _)); refine br_ ?_ NB304_303.out _; (with_reducible repeat (first | refine bn_ ?_ _ | refine bd_ ?_ | refine ba_ ?_ _)); refine br_ ?_ NB304_303.out _; (with_reducible repeat (first | refine bn_ ?_ _ | refine bd_ ?_ | refine ba_ ?_ _)); exact BK304.out) k_ hk_), (Kd.freshB (g := gb305) (o := .cells #[.bool a2_0, .slice A2_1 l2_1.length c2_1] 32 (0, 0)) bk_ k_ hk_)⟩)) (bz_ bw_)); have n3_ := A_ (blk_below (g := gb303) (o := .cells #[.bool t233, .slice Ao53 t234.length co53] 32 (0, 0)) (by (with_reducible repeat (first | refine bn_ ?_ _ | refine bd_ ?_ | refine ba_ ?_ _)); refine br_ ?_ NB303_304.out _; (with_reducible repeat (first | refine bn_ ?_ _ | refine bd_ ?_ | refine ba_ ?_ _)); refine br_ ?_ NB303_304.out _; (with_reducible repeat (first | refine bn_ ?_ _ | refine bd_ ?_ | refine ba_ ?_ _)); refine bp_ (cs := #[.bool t233, .slice A0_1 l0_1.length c0_1]) ?_ 1 _ rfl; (with_reducible repeat (first | refine bn_ ?_ _ | refine bd_ ?_ | refine ba_ ?_ _)); refine bp_ (cs := #[.bool a0_0, .slice A0_1 l0_1.length c0_1]) ?_ 0 _ rfl; (with_reducible repeat (first | refine bn_ ?_ _ | refine bd_ ?_ | refine ba_ ?_ _)); exact BK303.out) hb); have n4_ := A_ (blk_below (g := gb304) (o := .cells #[.bool t237, .slice Ao56 t238.length co56] 32 (0, 0)) (by (with_reducible repeat (first | refine bn_ ?_ _ | refine bd_ ?_ | refine ba_ ?_ _)); refine bp_ (cs := #[.bool t237, .slice A1_1 l1_1.length c1_1]) ?_ 1 _ rfl; (with_reducible repeat (first | refine bn_ ?_ _ | refine bd_ ?_ | refine ba_ ?_ _)); refine bp_ (cs := #[.bool true, .slice A1_1 l1_1.length c1_1]) ?_ 0 _ rfl; (with_reducible repeat (first | refine bn_ ?_ _ | refine bd_ ?_ | refine ba_ ?_ _)); refine br_ ?_ NB304_303.out _; (with_reducible repeat (first | refine bn_ ?_ _ | refine bd_ ?_ | refine ba_ ?_ _)); refine br_ ?_ NB304_303.out _; (with_reducible repeat (first | refine bn_ ?_ _ | refine bd_ ?_ | refine ba_ ?_ _)); exact BK304.out) hb); have n5_ := A_ (kb_ BK305 hb); have n6_ := A_ (bs_ bw_ hb); clear HO236; clear HO240; clear BK303; clear BK304; clear BK305; clear HB; have HO236 := n0_; have HO240 := n1_; have HO244 := n2_; have BK303 := n3_; have BK304 := n4_; have BK305 := n5_; have HB := n6_; clear n0_ n1_ n2_ n3_ n4_ n5_ n6_; (try clear hb); (try clear hb2); (try clear hk); (try clear hi); (try clear ho0)) | ((with_reducible refine gate_dst (N := 7) rfl ?_); refine box_event ?hg (N := 7) ?hd (cs := #[.bool false, .slice none 0 0]) (t := 32) ?hr ?_; (case hd => rfl); (case hg => rfl); (case hr => first | (go_simp; done) | (go_simp; rfl)); intro gb307 hg w62 hbox hb; have n0_ := A_ (Kd.V_below (Kd.V_elderB (by (with_reducible repeat (first | apply va_ | apply vn_ | apply vd_)); exact HO236.out) gb307 (Nat.le_of_eq hg.symm)) hb); have n1_ := A_ (Kd.V_below (Kd.V_elderB (by (with_reducible repeat (first | apply va_ | apply vn_ | apply vd_)); exact HO240.out) gb307 (Nat.le_of_eq hg.symm)) hb); have n2_ := A_ (Kd.V_below (Kd.V_elderB (by (with_reducible repeat (first | apply va_ | apply vn_ | apply vd_)); exact HO244.out) gb307 (Nat.le_of_eq hg.symm)) hb); have n3_ := A_ (kb_ BK303 hb); have n4_ := A_ (kb_ BK304 hb); have n5_ := A_ (kb_ BK305 hb); have n6_ := A_ (bs_ bw_ hb); have n7_ := A_ (hbox); have n8_ := A_ ((by rw [hg]; exact (bz_ bw_) : w.heap.size ≤ gb307)); have n9_ := A_ ((by rw [hg]; exact (bz_ bw_) : w.heap.size ≤ gb307)); have n10_ := A_ ((by rw [hg]; exact nl_ (lt_ BK303) : gb303 ≠ gb307)); have n11_ := A_ ((by rw [hg]; exact ng_ (lt_ BK303) : gb307 ≠ gb303)); have n12_ := A_ ((by rw [hg]; exact nl_ (lt_ BK304) : gb304 ≠ gb307)); have n13_ := A_ ((by rw [hg]; exact ng_ (lt_ BK304) : gb307 ≠ gb304)); have n14_ := A_ ((by rw [hg]; exact nl_ (lt_ BK305) : gb305 ≠ gb307)); have n15_ := A_ ((by rw [hg]; exact ng_ (lt_ BK305) : gb307 ≠ gb305)); clear HO236; clear HO240; clear HO244; clear BK303; clear BK304; clear BK305; clear HB; have HO236 := n0_; have HO240 := n1_; have HO244 := n2_; have BK303 := n3_; have BK304 := n4_; have BK305 := n5_; have HB := n6_; have BK307 := n7_; have GW307 := n8_; have GE307 := n9_; have NB303_307 := n10_; have NB307_303 := n11_; have NB304_307 := n12_; have NB307_304 := n13_; have NB305_307 := n14_; have NB307_305 := n15_; clear n0_ n1_ n2_ n3_ n4_ n5_ n6_ n7_ n8_ n9_ n10_ n11_ n12_ n13_ n14_ n15_; clear hb hbox hg; have hnb63 := NB307_303.out; have hnc63 := NB303_307.out; have hnb64 := NB307_304.out; have hnc64 := NB304_307.out; have hnb65 := NB307_305.out; have hnc65 := NB305_307.out; have hcz66_0 : w62.cell? ⟨gb307, 0, none⟩ = some (.bool false) := (bc_ BK307.out 0).trans rfl; have hcz66_1 : w62.cell? ⟨gb307, 1, none⟩ = some (.slice none 0 0) := (bc_ BK307.out 1).trans rfl; have hfz66_0 := bf_ BK307.out 0; have hfz66_1 := bf_ BK307.out 1; obtain ⟨Ao67, co67, eo67⟩ := Kd.V_slice HO244.out; subst eo67))
   have n0_ : Aside0 (Kd.V (Kd.int .i64) 3 ((w62.setCell ⟨gb307, 0, none⟩ (.bool t241)).setCell ⟨gb307, 1, none⟩ (.slice Ao67 t242.length co67)) w.heap.size (fun k_ => k_ ≠ gb303 ∧ k_ ≠ gb304 ∧ k_ ≠ gb305 ∧ k_ ≠ gb307) (.slice Ao53 t234.length co53) t234) := ⟨by (with_reducible repeat (first | apply va_ | apply vn_ | apply vd_)); exact vm_ (Kd.V_far (p := ⟨gb307, 1, none⟩) (Kd.V_far (p := ⟨gb307, 0, none⟩) (vm_ HO236.out (fun k_ hk => (⟨hk, hk.2⟩ : _ ∧ k_ ≠ gb307))) (fun _ hk => hk.2) (.bool t241)) (fun _ hk => hk.2) (.slice Ao67 t242.length co67)) (fun _ hk => ⟨hk.1.1.1, ⟨hk.1.1.2.1, ⟨hk.1.1.2.2, hk.1.2⟩⟩⟩)⟩
   have n1_ : Aside0 (Kd.V (Kd.int .i64) 3 ((w62.setCell ⟨gb307, 0, none⟩ (.bool t241)).setCell ⟨gb307, 1, none⟩ (.slice Ao67 t242.length co67)) w.heap.size (fun k_ => k_ ≠ gb303 ∧ k_ ≠ gb304 ∧ k_ ≠ gb305 ∧ k_ ≠ gb307) (.slice Ao56 t238.length co56) t238) := ⟨by (with_reducible repeat (first | apply va_ | apply vn_ | apply vd_)); exact vm_ (Kd.V_far (p := ⟨gb307, 1, none⟩) (Kd.V_far (p := ⟨gb307, 0, none⟩) (vm_ HO240.out (fun k_ hk => (⟨hk, hk.2⟩ : _ ∧ k_ ≠ gb307))) (fun _ hk => hk.2) (.bool t241)) (fun _ hk => hk.2) (.slice Ao67 t242.length co67)) (fun _ hk => ⟨hk.1.1.1, ⟨hk.1.1.2.1, ⟨hk.1.1.2.2, hk.1.2⟩⟩⟩)⟩
   have n2_ : Aside0 (Kd.V (Kd.int .i64) 3 ((w62.setCell ⟨gb307, 0, none⟩ (.bool t241)).setCell ⟨gb307, 1, none⟩ (.slice Ao67 t242.length co67)) w.heap.size (fun k_ => k_ ≠ gb303 ∧ k_ ≠ gb304 ∧ k_ ≠ gb305 ∧ k_ ≠ gb307) (.slice Ao67 t242.length co67) t242) := ⟨by (with_reducible repeat (first | apply va_ | apply vn_ | apply vd_)); exact vm_ (Kd.V_far (p := ⟨gb307, 1, none⟩) (Kd.V_far (p := ⟨gb307, 0, none⟩) (vm_ HO244.out (fun k_ hk => (⟨hk, hk.2⟩ : _ ∧ k_ ≠ gb307))) (fun _ hk => hk.2) (.bool t241)) (fun _ hk => hk.2) (.slice Ao67 t242.length co67)) (fun _ hk => ⟨hk.1.1.1, ⟨hk.1.1.2.1, ⟨hk.1.1.2.2, hk.1.2⟩⟩⟩)⟩
   have n3_ : Aside0 (((w62.setCell ⟨gb307, 0, none⟩ (.bool t241)).setCell ⟨gb307, 1, none⟩ (.slice Ao67 t242.length co67)).heap[gb303]? = some (.cells #[.bool t233, .slice Ao53 t234.length co53] 32 (0, 0))) := ⟨bk_⟩
   have n4_ : Aside0 (((w62.setCell ⟨gb307, 0, none⟩ (.bool t241)).setCell ⟨gb307, 1, none⟩ (.slice Ao67 t242.length co67)).heap[gb304]? = some (.cells #[.bool t237, .slice Ao56 t238.length co56] 32 (0, 0))) := ⟨bk_⟩
   have n5_ : Aside0 (((w62.setCell ⟨gb307, 0, none⟩ (.bool t241)).setCell ⟨gb307, 1, none⟩ (.slice Ao67 t242.length co67)).heap[gb305]? = some (.cells #[.bool a2_0, .slice A2_1 l2_1.length c2_1] 32 (0, 0))) := ⟨bk_⟩
   have n6_ : Aside0 (((w62.setCell ⟨gb307, 0, none⟩ (.bool t241)).setCell ⟨gb307, 1, none⟩ (.slice Ao67 t242.length co67)).heap[gb307]? = some (.cells #[.bool t241, .slice Ao67 t242.length co67] 32 (0, 0))) := ⟨by (with_reducible repeat (first | refine bn_ ?_ _ | refine bd_ ?_ | refine ba_ ?_ _)); refine bp_ (cs := #[.bool t241, .slice none 0 0]) ?_ 1 _ rfl; (with_reducible repeat (first | refine bn_ ?_ _ | refine bd_ ?_ | refine ba_ ?_ _)); refine bp_ (cs := #[.bool false, .slice none 0 0]) ?_ 0 _ rfl; (with_reducible repeat (first | refine bn_ ?_ _ | refine bd_ ?_ | refine ba_ ?_ _)); exact BK307.out⟩
   have n7_ : Aside0 (Below w.heap.size w ((w62.setCell ⟨gb307, 0, none⟩ (.bool t241)).setCell ⟨gb307, 1, none⟩ (.slice Ao67 t242.length co67))) := ⟨bw_⟩
   (try clear HO236)
   (try clear HO240)
   (try clear HO244)
   (try clear BK303)
   (try clear BK304)
   (try clear BK305)
   (try clear BK307)
   (try clear HB)
   generalize ((w62.setCell ⟨gb307, 0, none⟩ (.bool t241)).setCell ⟨gb307, 1, none⟩ (.slice Ao67 t242.length co67)) = w68 at n0_ n1_ n2_ n3_ n4_ n5_ n6_ n7_ ⊢
   have HO236 := n0_
   have HO240 := n1_
   have HO244 := n2_
   have BK303 := n3_
   have BK304 := n4_
   have BK305 := n5_
   have BK307 := n6_
   have HB := n7_
   clear n0_ n1_ n2_ n3_ n4_ n5_ n6_ n7_
   have n0_ := A_ (vd_ HO236.out)
   have n1_ := A_ (vd_ HO240.out)
   have n2_ := A_ (vd_ HO244.out)
   have n3_ := A_ (bd_ BK303.out)
   have n4_ := A_ (bd_ BK304.out)
   have n5_ := A_ (bd_ BK305.out)
   have n6_ := A_ (bd_ BK307.out)
   have n7_ := A_ (b1_ HB.out)
   clear HO236
   clear HO240
   clear HO244
   clear BK303
   clear BK304
   clear BK305
   clear BK307
   clear HB
   have HO236 := n0_
   have HO240 := n1_
   have HO244 := n2_
   have BK303 := n3_
   have BK304 := n4_
   have BK305 := n5_
   have BK307 := n6_
   have HB := n7_
   clear n0_ n1_ n2_ n3_ n4_ n5_ n6_ n7_
   refine start_ (n := 13) (S := fun w' => w'.cell? ⟨gb307, 0, none⟩ = some (.bool t241) ∧ w'.cell? ⟨gb307, 1, none⟩ = some (.slice Ao67 t242.length co67) ∧ w'.cell? ⟨gb303, 0, none⟩ = some (.bool t233) ∧ w'.cell? ⟨gb303, 1, none⟩ = some (.slice Ao53 t234.length co53)) (ds := []) #[false, false, false, false, false, false, false, false, false, false, false, false, false] (by kernel_rfl) rfl rfl ⟨(bc_ BK307.out 0).trans rfl, (bc_ BK307.out 1).trans rfl, (bc_ BK303.out 0).trans rfl, (bc_ BK303.out 1).trans rfl⟩ (fun hHeld => ?_); refine with_tabW clevisref01_Floor.tab4 clevisref01_Floor.bits4 (fun HT_ HW_ => ?_)
   generalize w68.drew = w69 at HO236 HO240 HO244 BK303 BK304 BK305 BK307 HB hHeld ⊢
   refine take_ (i := 0) (N := some 17) (v := ?_) (a' := ?_) #[true, false, false, false, false, false, false, false, false, false, false, false, false] rfl rfl (take_ofW HT_.out HW_.out (by kernel_rfl)) (fun _ _ _ h => h) (Or.inl ⟨by rfl, ?_⟩) hHeld ?_ ?_
   rotate_left
   ·
    rintro w' ⟨s0, s1, s2, s3⟩
    go_simp
    with_reducible rfl
   rotate_left
   ·
    simp only [Act.put, sA_, sZ_, sS_, i64_w, i32_w]
    rfl
   refine take_ (i := 1) (N := some 18) (v := ?_) (a' := ?_) #[true, true, false, false, false, false, false, false, false, false, false, false, false] rfl rfl (take_ofW HT_.out HW_.out (by kernel_rfl)) (fun _ _ _ h => h) (Or.inl ⟨by rfl, ?_⟩) hHeld ?_ ?_
   rotate_left
   ·
    rintro w' ⟨s0, s1, s2, s3⟩
    go_simp
    with_reducible rfl
   rotate_left
   ·
    simp only [Act.put, sA_, sZ_, sS_, i64_w, i32_w]
    rfl
   refine one_ (i := 2) (N := some 19) #[true, true, true, false, false, false, false, false, false, false, false, false, false] rfl rfl (one_of HT_.out (by kernel_rfl)) (by decide) (fun K hK => ?_)
   refine goes_ Try.func16 (by kernel_rfl) rfl #[.agg #[.bool t241, .slice Ao67 t242.length co67], .agg #[.bool t233, .slice Ao53 t234.length co53]] (by rfl) rfl rfl (by (try simp only [List.map_toArray, List.map_cons, List.map_nil]); first | done | rfl | (simp only [List.length_drop, List.length_take]; rfl)) ?_
   with_reducible refine (clevisref01_Compare.calls k t241 _ _ t242 t233 _ _ t234 t245 _ ?side1 ?side2 ?side3 ?side4 A8.out).mono ?_
   (case side1 => repeat (first | exact (Kd.V_reads' HO244.out).2.2 | (with_reducible refine ca_ ?_ _) | (with_reducible refine cn_ ?_ _) | (with_reducible refine cd_ ?_)))
   (case side2 => exact (Kd.V_reads' HO244.out).2.1)
   (case side3 => repeat (first | exact (Kd.V_reads' HO236.out).2.2 | (with_reducible refine ca_ ?_ _) | (with_reducible refine cn_ ?_ _) | (with_reducible refine cd_ ?_)))
   (case side4 => exact (Kd.V_reads' HO236.out).2.1)
   rintro e w70 ⟨rfl, hb⟩
   refine ⟨_, rfl, ?_⟩
   have n0_ := A_ (Kd.V_below (by (with_reducible repeat (first | apply va_ | apply vn_ | apply vd_)); exact HO236.out) hb)
   have n1_ := A_ (Kd.V_below (by (with_reducible repeat (first | apply va_ | apply vn_ | apply vd_)); exact HO240.out) hb)
   have n2_ := A_ (Kd.V_below (by (with_reducible repeat (first | apply va_ | apply vn_ | apply vd_)); exact HO244.out) hb)
   have n3_ := A_ (kb_ BK303 hb)
   have n4_ := A_ (kb_ BK304 hb)
   have n5_ := A_ (kb_ BK305 hb)
   have n6_ := A_ (kb_ BK307 hb)
   have n7_ := A_ (bs_ bw_ hb)
   clear HO236
   clear HO240
   clear HO244
   clear BK303
   clear BK304
   clear BK305
   clear BK307
   clear HB
   have HO236 := n0_
   have HO240 := n1_
   have HO244 := n2_
   have BK303 := n3_
   have BK304 := n4_
   have BK305 := n5_
   have BK307 := n6_
   have HB := n7_
   clear n0_ n1_ n2_ n3_ n4_ n5_ n6_ n7_
   (try clear hb)
   (try clear hb2)
   (try clear hk)
   (try clear hi)
   refine hK.out _ _ ⟨(bc_ BK307.out 0).trans rfl, (bc_ BK307.out 1).trans rfl, (bc_ BK303.out 0).trans rfl, (bc_ BK303.out 1).trans rfl⟩ (fun hHeld => ?_)
   clear hK K
   refine norm_ (a' := ?_) ?_ ?_
   rotate_left
   ·
    show Act.put _ (some 19) _ = _
    simp only [Act.put, sA_, sZ_, sS_, i64_w, i32_w]
    rfl
   refine pure_ (i := 3) (N := some 20) (v := ?_) (a' := ?_) #[true, true, true, true, false, false, false, false, false, false, false, false, false] rfl rfl (any_of HT_.out (by kernel_rfl)) (fun _ _ _ h => h) (Or.inl ⟨by rfl, ?_⟩) ?_ ?_
   rotate_left
   ·
    intro w'
    go_simp
    with_reducible rfl
   rotate_left
   ·
    simp only [Act.put, sA_, sZ_, sS_, i64_w, i32_w]
    rfl
   refine pure_ (i := 4) (N := some 21) (v := ?_) (a' := ?_) #[true, true, true, true, true, false, false, false, false, false, false, false, false] rfl rfl (any_of HT_.out (by kernel_rfl)) (fun _ _ _ h => h) (Or.inl ⟨by rfl, ?_⟩) ?_ ?_
   rotate_left
   ·
    intro w'
    go_simp
    with_reducible rfl
   rotate_left
   ·
    simp only [Act.put, sA_, sZ_, sS_, i64_w, i32_w]
    rfl
   refine pure_ (i := 5) (N := some 22) (v := undef) (a' := ?_) #[true, true, true, true, true, true, false, false, false, false, false, false, false] rfl rfl (any_of HT_.out (by kernel_rfl)) (fun _ _ _ h => h) (Or.inr ⟨by rfl, rfl⟩) ?_ ?_
   rotate_left
   ·
    simp only [Act.put, sA_, sZ_, sS_, i64_w, i32_w]
    rfl
   refine pure_ (i := 6) (N := some 23) (v := undef) (a' := ?_) #[true, true, true, true, true, true, true, false, false, false, false, false, false] rfl rfl (any_of HT_.out (by kernel_rfl)) (fun _ _ _ h => h) (Or.inr ⟨by rfl, rfl⟩) ?_ ?_
   rotate_left
   ·
    simp only [Act.put, sA_, sZ_, sS_, i64_w, i32_w]
    rfl
   refine pure_ (i := 7) (N := some 24) (v := undef) (a' := ?_) #[true, true, true, true, true, true, true, true, false, false, false, false, false] rfl rfl (any_of HT_.out (by kernel_rfl)) (fun _ _ _ h => h) (Or.inr ⟨by rfl, rfl⟩) ?_ ?_
   rotate_left
   ·
    simp only [Act.put, sA_, sZ_, sS_, i64_w, i32_w]
    rfl
   refine pure_ (i := 8) (N := some 25) (v := undef) (a' := ?_) #[true, true, true, true, true, true, true, true, true, false, false, false, false] rfl rfl (any_of HT_.out (by kernel_rfl)) (fun _ _ _ h => h) (Or.inr ⟨by rfl, rfl⟩) ?_ ?_
   rotate_left
   ·
    simp only [Act.put, sA_, sZ_, sS_, i64_w, i32_w]
    rfl
   refine pure_ (i := 9) (N := some 26) (v := undef) (a' := ?_) #[true, true, true, true, true, true, true, true, true, true, false, false, false] rfl rfl (any_of HT_.out (by kernel_rfl)) (fun _ _ _ h => h) (Or.inr ⟨by rfl, rfl⟩) ?_ ?_
   rotate_left
   ·
    simp only [Act.put, sA_, sZ_, sS_, i64_w, i32_w]
    rfl
   refine pure_ (i := 10) (N := some 27) (v := undef) (a' := ?_) #[true, true, true, true, true, true, true, true, true, true, true, false, false] rfl rfl (any_of HT_.out (by kernel_rfl)) (fun _ _ _ h => h) (Or.inr ⟨by rfl, rfl⟩) ?_ ?_
   rotate_left
   ·
    simp only [Act.put, sA_, sZ_, sS_, i64_w, i32_w]
    rfl
   refine pure_ (i := 11) (N := some 28) (v := ?_) (a' := ?_) #[true, true, true, true, true, true, true, true, true, true, true, true, false] rfl rfl (any_of HT_.out (by kernel_rfl)) (fun _ _ _ h => h) (Or.inl ⟨by rfl, ?_⟩) ?_ ?_
   rotate_left
   ·
    intro w'
    go_simp
    with_reducible rfl
   rotate_left
   ·
    simp only [Act.put, sA_, sZ_, sS_, i64_w, i32_w]
    rfl
   refine pure_ (i := 12) (N := some 6) (v := ?_) (a' := ?_) #[true, true, true, true, true, true, true, true, true, true, true, true, true] rfl rfl (any_of HT_.out (by kernel_rfl)) (fun _ _ _ h => h) (Or.inl ⟨by rfl, ?_⟩) ?_ ?_
   rotate_left
   ·
    intro w'
    go_simp
    with_reducible rfl
   rotate_left
   ·
    simp only [Act.put, sA_, sZ_, sS_, i64_w, i32_w]
    rfl
   refine done_ (done_of HT_.out (by kernel_rfl)) ?_
   try go_wp2
   go_ret
   exact ⟨by first | rfl | (simp [errW_none, errW_some] <;> rfl) | (simp [*, errW_none, errW_some] <;> rfl), bw_⟩
 ·
  replace c4 := Bool.eq_false_iff.mpr c4
  subst c4
  have H1 : ((clevisref01_Mul.f k a2_0 l2_1 false l1_1).bind fun bt251 => ((clevisref01_Compare.f k bt251.1 bt251.2 a0_0 l0_1).bind fun t255 => (if t255 ≤ 0 then ((clevisref01_Add.f k bt251.1 bt251.2 false l1_1).bind fun bt256 => ((clevisref01_Compare.f k a0_0 l0_1 bt256.1 bt256.2).bind fun t260 => (some (decide (t260 < 0))))) else (some false)))) = some r := by rw [if_neg (show ¬ (false = true) by decide)] at H; exact H
  clear H
  have H := H1
  clear H1
  replace H := os_ H
  obtain ⟨⟨t251, t252⟩, A710, H⟩ := H
  replace H : ((clevisref01_Compare.f k t251 t252 a0_0 l0_1).bind fun t255 => (if t255 ≤ 0 then ((clevisref01_Add.f k t251 t252 false l1_1).bind fun bt256 => ((clevisref01_Compare.f k a0_0 l0_1 bt256.1 bt256.2).bind fun t260 => (some (decide (t260 < 0))))) else (some false))) = some r := H
  have A71 := A_ A710
  clear A710
  replace H := os_ H
  obtain ⟨t255, A720, H⟩ := H
  replace H : (if t255 ≤ 0 then ((clevisref01_Add.f k t251 t252 false l1_1).bind fun bt256 => ((clevisref01_Compare.f k a0_0 l0_1 bt256.1 bt256.2).bind fun t260 => (some (decide (t260 < 0))))) else (some false)) = some r := H
  have A72 := A_ A720
  clear A720
  by_cases c73 : t255 ≤ 0
  ·
   rw [if_pos c73] at H
   have c73b0 : decide (t255 ≤ 0) = true := decide_eq_true c73
   clear c73
   replace H := os_ H
   obtain ⟨⟨t256, t257⟩, A740, H⟩ := H
   replace H : ((clevisref01_Compare.f k a0_0 l0_1 t256 t257).bind fun t260 => (some (decide (t260 < 0)))) = some r := H
   have A74 := A_ A740
   clear A740
   replace H := os_ H
   obtain ⟨t260, A750, H⟩ := H
   replace H : (some (decide (t260 < 0))) = some r := H
   have A75 := A_ A750
   clear A750
   obtain rfl := Option.some.inj H
   go_enter Try.func40, Try.ntmps40
   try go_wp2_with (first | ((with_reducible refine gate_dst (N := 3) rfl ?_); refine box_event ?hg (N := 3) ?hd (cs := #[.bool a0_0, .slice A0_1 l0_1.length c0_1]) (t := 32) ?hr ?_; (case hd => rfl); (case hg => rfl); (case hr => first | (go_simp; done) | (go_simp; rfl)); intro gb303 hg w76 hbox hb; have n0_ := A_ (bs_ bw_ hb); have n1_ := A_ (hbox); have n2_ := A_ ((by rw [hg]; exact (bz_ bw_) : w.heap.size ≤ gb303)); have n3_ := A_ ((by rw [hg]; exact (bz_ bw_) : w.heap.size ≤ gb303)); clear HB; have HB := n0_; have BK303 := n1_; have GW303 := n2_; have GE303 := n3_; clear n0_ n1_ n2_ n3_; clear hb hbox hg) | ((with_reducible refine gate_dst (N := 4) rfl ?_); refine box_event ?hg (N := 4) ?hd (cs := #[.bool false, .slice A1_1 l1_1.length c1_1]) (t := 32) ?hr ?_; (case hd => rfl); (case hg => rfl); (case hr => first | (go_simp; done) | (go_simp; rfl)); intro gb304 hg w77 hbox hb; have n0_ := A_ (kb_ BK303 hb); have n1_ := A_ (bs_ bw_ hb); have n2_ := A_ (hbox); have n3_ := A_ ((by rw [hg]; exact (bz_ bw_) : w.heap.size ≤ gb304)); have n4_ := A_ ((by rw [hg]; exact (bz_ bw_) : w.heap.size ≤ gb304)); have n5_ := A_ ((by rw [hg]; exact nl_ (lt_ BK303) : gb303 ≠ gb304)); have n6_ := A_ ((by rw [hg]; exact ng_ (lt_ BK303) : gb304 ≠ gb303)); clear BK303; clear HB; have BK303 := n0_; have HB := n1_; have BK304 := n2_; have GW304 := n3_; have GE304 := n4_; have NB303_304 := n5_; have NB304_303 := n6_; clear n0_ n1_ n2_ n3_ n4_ n5_ n6_; clear hb hbox hg) | ((with_reducible refine gate_dst (N := 5) rfl ?_); refine box_event ?hg (N := 5) ?hd (cs := #[.bool a2_0, .slice A2_1 l2_1.length c2_1]) (t := 32) ?hr ?_; (case hd => rfl); (case hg => rfl); (case hr => first | (go_simp; done) | (go_simp; rfl)); intro gb305 hg w78 hbox hb; have n0_ := A_ (kb_ BK303 hb); have n1_ := A_ (kb_ BK304 hb); have n2_ := A_ (bs_ bw_ hb); have n3_ := A_ (hbox); have n4_ := A_ ((by rw [hg]; exact (bz_ bw_) : w.heap.size ≤ gb305)); have n5_ := A_ ((by rw [hg]; exact (bz_ bw_) : w.heap.size ≤ gb305)); have n6_ := A_ ((by rw [hg]; exact nl_ (lt_ BK303) : gb303 ≠ gb305)); have n7_ := A_ ((by rw [hg]; exact ng_ (lt_ BK303) : gb305 ≠ gb303)); have n8_ := A_ ((by rw [hg]; exact nl_ (lt_ BK304) : gb304 ≠ gb305)); have n9_ := A_ ((by rw [hg]; exact ng_ (lt_ BK304) : gb305 ≠ gb304)); clear BK303; clear BK304; clear HB; have BK303 := n0_; have BK304 := n1_; have HB := n2_; have BK305 := n3_; have GW305 := n4_; have GE305 := n5_; have NB303_305 := n6_; have NB305_303 := n7_; have NB304_305 := n8_; have NB305_304 := n9_; clear n0_ n1_ n2_ n3_ n4_ n5_ n6_ n7_ n8_ n9_; clear hb hbox hg; have hnb79 := NB304_303.out; have hnc79 := NB303_304.out; have hnb80 := NB304_305.out; have hnc80 := NB305_304.out; have hcz81_0 : w78.cell? ⟨gb304, 0, none⟩ = some (.bool false) := (bc_ BK304.out 0).trans rfl; have hcz81_1 : w78.cell? ⟨gb304, 1, none⟩ = some (.slice A1_1 l1_1.length c1_1) := (bc_ BK304.out 1).trans rfl; have hfz81_0 := bf_ BK304.out 0; have hfz81_1 := bf_ BK304.out 1; have hnb82 := NB305_303.out; have hnc82 := NB303_305.out; have hcz83_0 : w78.cell? ⟨gb305, 0, none⟩ = some (.bool a2_0) := (bc_ BK305.out 0).trans rfl; have hcz83_1 : w78.cell? ⟨gb305, 1, none⟩ = some (.slice A2_1 l2_1.length c2_1) := (bc_ BK305.out 1).trans rfl; have hfz83_0 := bf_ BK305.out 0; have hfz83_1 := bf_ BK305.out 1) | ((with_reducible refine gate_callee (f := 26) rfl ?_); refine goesL_ (some 16) rfl rfl Try.func26 (by kernel_rfl) rfl #[.agg #[.bool a2_0, .slice A2_1 l2_1.length c2_1], .agg #[.bool false, .slice A1_1 l1_1.length c1_1]] rfl (by (try simp only [List.map_toArray, List.map_cons, List.map_nil]); first | done | rfl | (simp only [List.length_drop, List.length_take]; rfl)) ?_; (with_reducible refine (clevisref01_Mul.calls k a2_0 _ _ l2_1 false _ _ l1_1 t251 t252 _ ?side1 ?side2 ?side3 ?side4 A71.out).mono ?_); (case side1 => repeat (first | exact (cb_ HR2_1.out HB.out) | (with_reducible refine ca_ ?_ _) | (with_reducible refine cn_ ?_ _) | (with_reducible refine cd_ ?_))); (case side2 => exact HC2_1.out); (case side3 => repeat (first | exact (cb_ HR1_1.out HB.out) | (with_reducible refine ca_ ?_ _) | (with_reducible refine cn_ ?_ _) | (with_reducible refine cd_ ?_))); (case side4 => exact HC1_1.out); rintro e w84 ⟨v253, rfl, ho0, hb⟩; refine ⟨_, rfl, ?_⟩; have n0_ := A_ (Kd.V_lower (vm_ (ok' := fun k_ => k_ ≠ gb303 ∧ k_ ≠ gb304 ∧ k_ ≠ gb305) ho0 (fun k_ hk_ => ⟨(Kd.freshB (g := gb303) (o := .cells #[.bool a0_0, .slice A0_1 l0_1.length c0_1] 32 (0, 0)) bk_ k_ hk_), (Kd.freshB (g := gb304) (o := .cells #[.bool false, .slice A1_1 l1_1.length c1_1] 32 (0, 0)) bk_ k_ hk_), (Kd.freshB (g := gb305) (o := .cells #[.bool a2_0, .slice A2_1 l2_1.length c2_1] 32 (0, 0)) bk_ k_ hk_)⟩)) (bz_ bw_)); have n1_ := A_ (kb_ BK303 hb); have n2_ := A_ (kb_ BK304 hb); have n3_ := A_ (kb_ BK305 hb); have n4_ := A_ (bs_ bw_ hb); clear BK303; clear BK304; clear BK305; clear HB; have HO254 := n0_; have BK303 := n1_; have BK304 := n2_; have BK305 := n3_; have HB := n4_; clear n0_ n1_ n2_ n3_ n4_; (try clear hb); (try clear hb2); (try clear hk); (try clear hi); (try clear ho0)) | ((with_reducible refine gate_dst (N := 7) rfl ?_); refine box_event ?hg (N := 7) ?hd (cs := #[.bool false, .slice none 0 0]) (t := 32) ?hr ?_; (case hd => rfl); (case hg => rfl); (case hr => first | (go_simp; done) | (go_simp; rfl)); intro gb307 hg w85 hbox hb; have n0_ := A_ (Kd.V_below (Kd.V_elderB (by (with_reducible repeat (first | apply va_ | apply vn_ | apply vd_)); exact HO254.out) gb307 (Nat.le_of_eq hg.symm)) hb); have n1_ := A_ (kb_ BK303 hb); have n2_ := A_ (kb_ BK304 hb); have n3_ := A_ (kb_ BK305 hb); have n4_ := A_ (bs_ bw_ hb); have n5_ := A_ (hbox); have n6_ := A_ ((by rw [hg]; exact (bz_ bw_) : w.heap.size ≤ gb307)); have n7_ := A_ ((by rw [hg]; exact (bz_ bw_) : w.heap.size ≤ gb307)); have n8_ := A_ ((by rw [hg]; exact nl_ (lt_ BK303) : gb303 ≠ gb307)); have n9_ := A_ ((by rw [hg]; exact ng_ (lt_ BK303) : gb307 ≠ gb303)); have n10_ := A_ ((by rw [hg]; exact nl_ (lt_ BK304) : gb304 ≠ gb307)); have n11_ := A_ ((by rw [hg]; exact ng_ (lt_ BK304) : gb307 ≠ gb304)); have n12_ := A_ ((by rw [hg]; exact nl_ (lt_ BK305) : gb305 ≠ gb307)); have n13_ := A_ ((by rw [hg]; exact ng_ (lt_ BK305) : gb307 ≠ gb305)); clear HO254; clear BK303; clear BK304; clear BK305; clear HB; have HO254 := n0_; have BK303 := n1_; have BK304 := n2_; have BK305 := n3_; have HB := n4_; have BK307 := n5_; have GW307 := n6_; have GE307 := n7_; have NB303_307 := n8_; have NB307_303 := n9_; have NB304_307 := n10_; have NB307_304 := n11_; have NB305_307 := n12_; have NB307_305 := n13_; clear n0_ n1_ n2_ n3_ n4_ n5_ n6_ n7_ n8_ n9_ n10_ n11_ n12_ n13_; clear hb hbox hg; have hnb86 := NB307_303.out; have hnc86 := NB303_307.out; have hnb87 := NB307_304.out; have hnc87 := NB304_307.out; have hnb88 := NB307_305.out; have hnc88 := NB305_307.out; have hcz89_0 : w85.cell? ⟨gb307, 0, none⟩ = some (.bool false) := (bc_ BK307.out 0).trans rfl; have hcz89_1 : w85.cell? ⟨gb307, 1, none⟩ = some (.slice none 0 0) := (bc_ BK307.out 1).trans rfl; have hfz89_0 := bf_ BK307.out 0; have hfz89_1 := bf_ BK307.out 1; obtain ⟨Ao90, co90, eo90⟩ := Kd.V_slice HO254.out; subst eo90))
   have n0_ : Aside0 (Kd.V (Kd.int .i64) 3 ((w85.setCell ⟨gb307, 0, none⟩ (.bool t251)).setCell ⟨gb307, 1, none⟩ (.slice Ao90 t252.length co90)) w.heap.size (fun k_ => k_ ≠ gb303 ∧ k_ ≠ gb304 ∧ k_ ≠ gb305 ∧ k_ ≠ gb307) (.slice Ao90 t252.length co90) t252) := ⟨by (with_reducible repeat (first | apply va_ | apply vn_ | apply vd_)); exact vm_ (Kd.V_far (p := ⟨gb307, 1, none⟩) (Kd.V_far (p := ⟨gb307, 0, none⟩) (vm_ HO254.out (fun k_ hk => (⟨hk, hk.2⟩ : _ ∧ k_ ≠ gb307))) (fun _ hk => hk.2) (.bool t251)) (fun _ hk => hk.2) (.slice Ao90 t252.length co90)) (fun _ hk => ⟨hk.1.1.1, ⟨hk.1.1.2.1, ⟨hk.1.1.2.2, hk.1.2⟩⟩⟩)⟩
   have n1_ : Aside0 (((w85.setCell ⟨gb307, 0, none⟩ (.bool t251)).setCell ⟨gb307, 1, none⟩ (.slice Ao90 t252.length co90)).heap[gb303]? = some (.cells #[.bool a0_0, .slice A0_1 l0_1.length c0_1] 32 (0, 0))) := ⟨bk_⟩
   have n2_ : Aside0 (((w85.setCell ⟨gb307, 0, none⟩ (.bool t251)).setCell ⟨gb307, 1, none⟩ (.slice Ao90 t252.length co90)).heap[gb304]? = some (.cells #[.bool false, .slice A1_1 l1_1.length c1_1] 32 (0, 0))) := ⟨bk_⟩
   have n3_ : Aside0 (((w85.setCell ⟨gb307, 0, none⟩ (.bool t251)).setCell ⟨gb307, 1, none⟩ (.slice Ao90 t252.length co90)).heap[gb305]? = some (.cells #[.bool a2_0, .slice A2_1 l2_1.length c2_1] 32 (0, 0))) := ⟨bk_⟩
   have n4_ : Aside0 (((w85.setCell ⟨gb307, 0, none⟩ (.bool t251)).setCell ⟨gb307, 1, none⟩ (.slice Ao90 t252.length co90)).heap[gb307]? = some (.cells #[.bool t251, .slice Ao90 t252.length co90] 32 (0, 0))) := ⟨by (with_reducible repeat (first | refine bn_ ?_ _ | refine bd_ ?_ | refine ba_ ?_ _)); refine bp_ (cs := #[.bool t251, .slice none 0 0]) ?_ 1 _ rfl; (with_reducible repeat (first | refine bn_ ?_ _ | refine bd_ ?_ | refine ba_ ?_ _)); refine bp_ (cs := #[.bool false, .slice none 0 0]) ?_ 0 _ rfl; (with_reducible repeat (first | refine bn_ ?_ _ | refine bd_ ?_ | refine ba_ ?_ _)); exact BK307.out⟩
   have n5_ : Aside0 (Below w.heap.size w ((w85.setCell ⟨gb307, 0, none⟩ (.bool t251)).setCell ⟨gb307, 1, none⟩ (.slice Ao90 t252.length co90))) := ⟨bw_⟩
   (try clear HO254)
   (try clear BK303)
   (try clear BK304)
   (try clear BK305)
   (try clear BK307)
   (try clear HB)
   generalize ((w85.setCell ⟨gb307, 0, none⟩ (.bool t251)).setCell ⟨gb307, 1, none⟩ (.slice Ao90 t252.length co90)) = w91 at n0_ n1_ n2_ n3_ n4_ n5_ ⊢
   have HO254 := n0_
   have BK303 := n1_
   have BK304 := n2_
   have BK305 := n3_
   have BK307 := n4_
   have HB := n5_
   clear n0_ n1_ n2_ n3_ n4_ n5_
   have n0_ := A_ (vd_ HO254.out)
   have n1_ := A_ (bd_ BK303.out)
   have n2_ := A_ (bd_ BK304.out)
   have n3_ := A_ (bd_ BK305.out)
   have n4_ := A_ (bd_ BK307.out)
   have n5_ := A_ (b1_ HB.out)
   clear HO254
   clear BK303
   clear BK304
   clear BK305
   clear BK307
   clear HB
   have HO254 := n0_
   have BK303 := n1_
   have BK304 := n2_
   have BK305 := n3_
   have BK307 := n4_
   have HB := n5_
   clear n0_ n1_ n2_ n3_ n4_ n5_
   refine start_ (n := 13) (S := fun w' => w'.cell? ⟨gb307, 0, none⟩ = some (.bool t251) ∧ w'.cell? ⟨gb307, 1, none⟩ = some (.slice Ao90 t252.length co90) ∧ w'.cell? ⟨gb303, 0, none⟩ = some (.bool a0_0) ∧ w'.cell? ⟨gb303, 1, none⟩ = some (.slice A0_1 l0_1.length c0_1) ∧ w'.cell? ⟨gb304, 0, none⟩ = some (.bool false) ∧ w'.cell? ⟨gb304, 1, none⟩ = some (.slice A1_1 l1_1.length c1_1)) (ds := []) #[false, false, false, false, false, false, false, false, false, false, false, false, false] (by kernel_rfl) rfl rfl ⟨(bc_ BK307.out 0).trans rfl, (bc_ BK307.out 1).trans rfl, (bc_ BK303.out 0).trans rfl, (bc_ BK303.out 1).trans rfl, (bc_ BK304.out 0).trans rfl, (bc_ BK304.out 1).trans rfl⟩ (fun hHeld => ?_); refine with_tabW clevisref01_Floor.tab4 clevisref01_Floor.bits4 (fun HT_ HW_ => ?_)
   generalize w91.drew = w92 at HO254 BK303 BK304 BK305 BK307 HB hHeld ⊢
   refine take_ (i := 0) (N := some 17) (v := ?_) (a' := ?_) #[true, false, false, false, false, false, false, false, false, false, false, false, false] rfl rfl (take_ofW HT_.out HW_.out (by kernel_rfl)) (fun _ _ _ h => h) (Or.inl ⟨by rfl, ?_⟩) hHeld ?_ ?_
   rotate_left
   ·
    rintro w' ⟨s0, s1, s2, s3, s4, s5⟩
    go_simp
    with_reducible rfl
   rotate_left
   ·
    simp only [Act.put, sA_, sZ_, sS_, i64_w, i32_w]
    rfl
   refine take_ (i := 1) (N := some 18) (v := ?_) (a' := ?_) #[true, true, false, false, false, false, false, false, false, false, false, false, false] rfl rfl (take_ofW HT_.out HW_.out (by kernel_rfl)) (fun _ _ _ h => h) (Or.inl ⟨by rfl, ?_⟩) hHeld ?_ ?_
   rotate_left
   ·
    rintro w' ⟨s0, s1, s2, s3, s4, s5⟩
    go_simp
    with_reducible rfl
   rotate_left
   ·
    simp only [Act.put, sA_, sZ_, sS_, i64_w, i32_w]
    rfl
   refine one_ (i := 2) (N := some 19) #[true, true, true, false, false, false, false, false, false, false, false, false, false] rfl rfl (one_of HT_.out (by kernel_rfl)) (by decide) (fun K hK => ?_)
   refine goes_ Try.func16 (by kernel_rfl) rfl #[.agg #[.bool t251, .slice Ao90 t252.length co90], .agg #[.bool a0_0, .slice A0_1 l0_1.length c0_1]] (by rfl) rfl rfl (by (try simp only [List.map_toArray, List.map_cons, List.map_nil]); first | done | rfl | (simp only [List.length_drop, List.length_take]; rfl)) ?_
   with_reducible refine (clevisref01_Compare.calls k t251 _ _ t252 a0_0 _ _ l0_1 t255 _ ?side1 ?side2 ?side3 ?side4 A72.out).mono ?_
   (case side1 => repeat (first | exact (Kd.V_reads' HO254.out).2.2 | (with_reducible refine ca_ ?_ _) | (with_reducible refine cn_ ?_ _) | (with_reducible refine cd_ ?_)))
   (case side2 => exact (Kd.V_reads' HO254.out).2.1)
   (case side3 => repeat (first | exact (cb_ HR0_1.out HB.out) | (with_reducible refine ca_ ?_ _) | (with_reducible refine cn_ ?_ _) | (with_reducible refine cd_ ?_)))
   (case side4 => exact HC0_1.out)
   rintro e w93 ⟨rfl, hb⟩
   refine ⟨_, rfl, ?_⟩
   have n0_ := A_ (Kd.V_below (by (with_reducible repeat (first | apply va_ | apply vn_ | apply vd_)); exact HO254.out) hb)
   have n1_ := A_ (kb_ BK303 hb)
   have n2_ := A_ (kb_ BK304 hb)
   have n3_ := A_ (kb_ BK305 hb)
   have n4_ := A_ (kb_ BK307 hb)
   have n5_ := A_ (bs_ bw_ hb)
   clear HO254
   clear BK303
   clear BK304
   clear BK305
   clear BK307
   clear HB
   have HO254 := n0_
   have BK303 := n1_
   have BK304 := n2_
   have BK305 := n3_
   have BK307 := n4_
   have HB := n5_
   clear n0_ n1_ n2_ n3_ n4_ n5_
   (try clear hb)
   (try clear hb2)
   (try clear hk)
   (try clear hi)
   refine hK.out _ _ ⟨(bc_ BK307.out 0).trans rfl, (bc_ BK307.out 1).trans rfl, (bc_ BK303.out 0).trans rfl, (bc_ BK303.out 1).trans rfl, (bc_ BK304.out 0).trans rfl, (bc_ BK304.out 1).trans rfl⟩ (fun hHeld => ?_)
   clear hK K
   refine norm_ (a' := ?_) ?_ ?_
   rotate_left
   ·
    show Act.put _ (some 19) _ = _
    simp only [Act.put, sA_, sZ_, sS_, i64_w, i32_w]
    rfl
   refine pure_ (i := 3) (N := some 20) (v := ?_) (a' := ?_) #[true, true, true, true, false, false, false, false, false, false, false, false, false] rfl rfl (any_of HT_.out (by kernel_rfl)) (fun _ _ _ h => h) (Or.inl ⟨by rfl, ?_⟩) ?_ ?_
   rotate_left
   ·
    intro w'
    go_simp
    with_reducible rfl
   rotate_left
   ·
    simp only [Act.put, sA_, sZ_, sS_, i64_w, i32_w]
    rfl
   refine pure_ (i := 4) (N := some 21) (v := ?_) (a' := ?_) #[true, true, true, true, true, false, false, false, false, false, false, false, false] rfl rfl (any_of HT_.out (by kernel_rfl)) (fun _ _ _ h => h) (Or.inl ⟨by rfl, ?_⟩) ?_ ?_
   rotate_left
   ·
    intro w'
    go_simp
    with_reducible rfl
   rotate_left
   ·
    simp only [Act.put, sA_, sZ_, sS_, i64_w, i32_w]
    rfl
   refine take_ (i := 5) (N := some 22) (v := ?_) (a' := ?_) #[true, true, true, true, true, true, false, false, false, false, false, false, false] rfl rfl (take_ofW HT_.out HW_.out (by kernel_rfl)) (fun _ _ _ h => h) (Or.inl ⟨by rfl, ?_⟩) hHeld ?_ ?_
   rotate_left
   ·
    rintro w' ⟨s0, s1, s2, s3, s4, s5⟩
    go_simp
    with_reducible rfl
   rotate_left
   ·
    simp only [Act.put, sA_, sZ_, sS_, i64_w, i32_w]
    rfl
   refine take_ (i := 6) (N := some 23) (v := ?_) (a' := ?_) #[true, true, true, true, true, true, true, false, false, false, false, false, false] rfl rfl (take_ofW HT_.out HW_.out (by kernel_rfl)) (fun _ _ _ h => h) (Or.inl ⟨by rfl, ?_⟩) hHeld ?_ ?_
   rotate_left
   ·
    rintro w' ⟨s0, s1, s2, s3, s4, s5⟩
    go_simp
    with_reducible rfl
   rotate_left
   ·
    simp only [Act.put, sA_, sZ_, sS_, i64_w, i32_w]
    rfl
   refine take_ (i := 7) (N := some 24) (v := ?_) (a' := ?_) #[true, true, true, true, true, true, true, true, false, false, false, false, false] rfl rfl (take_ofW HT_.out HW_.out (by kernel_rfl)) (fun _ _ _ h => h) (Or.inl ⟨by rfl, ?_⟩) hHeld ?_ ?_
   rotate_left
   ·
    rintro w' ⟨s0, s1, s2, s3, s4, s5⟩
    go_simp
    with_reducible rfl
   rotate_left
   ·
    simp only [Act.put, sA_, sZ_, sS_, i64_w, i32_w]
    rfl
   refine one_ (i := 8) (N := some 25) #[true, true, true, true, true, true, true, true, true, false, false, false, false] rfl rfl (one_of HT_.out (by kernel_rfl)) (by decide) (fun K hK => ?_)
   refine goes_ Try.func21 (by kernel_rfl) rfl #[.agg #[.bool t251, .slice Ao90 t252.length co90], .agg #[.bool false, .slice A1_1 l1_1.length c1_1]] (by rfl) rfl rfl (by (try simp only [List.map_toArray, List.map_cons, List.map_nil]); first | done | rfl | (simp only [List.length_drop, List.length_take]; rfl)) ?_
   with_reducible refine (clevisref01_Add.calls k t251 _ _ t252 false _ _ l1_1 t256 t257 _ ?side1 ?side2 ?side3 ?side4 A74.out).mono ?_
   (case side1 => repeat (first | exact (Kd.V_reads' HO254.out).2.2 | (with_reducible refine ca_ ?_ _) | (with_reducible refine cn_ ?_ _) | (with_reducible refine cd_ ?_)))
   (case side2 => exact (Kd.V_reads' HO254.out).2.1)
   (case side3 => repeat (first | exact (cb_ HR1_1.out HB.out) | (with_reducible refine ca_ ?_ _) | (with_reducible refine cn_ ?_ _) | (with_reducible refine cd_ ?_)))
   (case side4 => exact HC1_1.out)
   rintro e w94 ⟨v258, rfl, ho0, hb⟩
   refine ⟨_, rfl, ?_⟩
   have n0_ := A_ (Kd.V_below (by (with_reducible repeat (first | apply va_ | apply vn_ | apply vd_)); exact HO254.out) hb)
   have n1_ := A_ (Kd.V_lower (vm_ (ok' := fun k_ => k_ ≠ gb303 ∧ k_ ≠ gb304 ∧ k_ ≠ gb305 ∧ k_ ≠ gb307) ho0 (fun k_ hk_ => ⟨(Kd.freshB (g := gb303) (o := .cells #[.bool a0_0, .slice A0_1 l0_1.length c0_1] 32 (0, 0)) bk_ k_ hk_), (Kd.freshB (g := gb304) (o := .cells #[.bool false, .slice A1_1 l1_1.length c1_1] 32 (0, 0)) bk_ k_ hk_), (Kd.freshB (g := gb305) (o := .cells #[.bool a2_0, .slice A2_1 l2_1.length c2_1] 32 (0, 0)) bk_ k_ hk_), (Kd.freshB (g := gb307) (o := .cells #[.bool t251, .slice Ao90 t252.length co90] 32 (0, 0)) bk_ k_ hk_)⟩)) (bz_ bw_))
   have n2_ := A_ (kb_ BK303 hb)
   have n3_ := A_ (kb_ BK304 hb)
   have n4_ := A_ (kb_ BK305 hb)
   have n5_ := A_ (kb_ BK307 hb)
   have n6_ := A_ (bs_ bw_ hb)
   clear HO254
   clear BK303
   clear BK304
   clear BK305
   clear BK307
   clear HB
   have HO254 := n0_
   have HO259 := n1_
   have BK303 := n2_
   have BK304 := n3_
   have BK305 := n4_
   have BK307 := n5_
   have HB := n6_
   clear n0_ n1_ n2_ n3_ n4_ n5_ n6_
   (try clear hb)
   (try clear hb2)
   (try clear hk)
   (try clear hi)
   (try clear ho0)
   obtain ⟨Ao95, co95, eo95⟩ := Kd.V_slice HO259.out
   (first | subst eo95 | (injection eo95 with f1_ f2_ f3_; have f4_ := f1_.symm; have f5_ := f3_.symm; clear f1_ f2_ f3_; subst f4_; subst f5_))
   refine hK.out _ _ ⟨(bc_ BK307.out 0).trans rfl, (bc_ BK307.out 1).trans rfl, (bc_ BK303.out 0).trans rfl, (bc_ BK303.out 1).trans rfl, (bc_ BK304.out 0).trans rfl, (bc_ BK304.out 1).trans rfl⟩ (fun hHeld => ?_)
   clear hK K
   refine norm_ (a' := ?_) ?_ ?_
   rotate_left
   ·
    show Act.put _ (some 25) _ = _
    simp only [Act.put, sA_, sZ_, sS_, i64_w, i32_w]
    rfl
   refine one_ (i := 9) (N := some 26) #[true, true, true, true, true, true, true, true, true, true, false, false, false] rfl rfl (one_of HT_.out (by kernel_rfl)) (by decide) (fun K hK => ?_)
   refine goes_ Try.func16 (by kernel_rfl) rfl #[.agg #[.bool a0_0, .slice A0_1 l0_1.length c0_1], .agg #[.bool t256, .slice Ao95 t257.length co95]] (by rfl) rfl rfl (by (try simp only [List.map_toArray, List.map_cons, List.map_nil]); first | done | rfl | (simp only [List.length_drop, List.length_take]; rfl)) ?_
   with_reducible refine (clevisref01_Compare.calls k a0_0 _ _ l0_1 t256 _ _ t257 t260 _ ?side1 ?side2 ?side3 ?side4 A75.out).mono ?_
   (case side1 => repeat (first | exact (cb_ HR0_1.out HB.out) | (with_reducible refine ca_ ?_ _) | (with_reducible refine cn_ ?_ _) | (with_reducible refine cd_ ?_)))
   (case side2 => exact HC0_1.out)
   (case side3 => repeat (first | exact (Kd.V_reads' HO259.out).2.2 | (with_reducible refine ca_ ?_ _) | (with_reducible refine cn_ ?_ _) | (with_reducible refine cd_ ?_)))
   (case side4 => exact (Kd.V_reads' HO259.out).2.1)
   rintro e w96 ⟨rfl, hb⟩
   refine ⟨_, rfl, ?_⟩
   have n0_ := A_ (Kd.V_below (by (with_reducible repeat (first | apply va_ | apply vn_ | apply vd_)); exact HO254.out) hb)
   have n1_ := A_ (Kd.V_below (by (with_reducible repeat (first | apply va_ | apply vn_ | apply vd_)); exact HO259.out) hb)
   have n2_ := A_ (kb_ BK303 hb)
   have n3_ := A_ (kb_ BK304 hb)
   have n4_ := A_ (kb_ BK305 hb)
   have n5_ := A_ (kb_ BK307 hb)
   have n6_ := A_ (bs_ bw_ hb)
   clear HO254
   clear HO259
   clear BK303
   clear BK304
   clear BK305
   clear BK307
   clear HB
   have HO254 := n0_
   have HO259 := n1_
   have BK303 := n2_
   have BK304 := n3_
   have BK305 := n4_
   have BK307 := n5_
   have HB := n6_
   clear n0_ n1_ n2_ n3_ n4_ n5_ n6_
   (try clear hb)
   (try clear hb2)
   (try clear hk)
   (try clear hi)
   refine hK.out _ _ ⟨(bc_ BK307.out 0).trans rfl, (bc_ BK307.out 1).trans rfl, (bc_ BK303.out 0).trans rfl, (bc_ BK303.out 1).trans rfl, (bc_ BK304.out 0).trans rfl, (bc_ BK304.out 1).trans rfl⟩ (fun hHeld => ?_)
   clear hK K
   refine norm_ (a' := ?_) ?_ ?_
   rotate_left
   ·
    show Act.put _ (some 26) _ = _
    simp only [Act.put, sA_, sZ_, sS_, i64_w, i32_w]
    rfl
   refine pure_ (i := 10) (N := some 27) (v := ?_) (a' := ?_) #[true, true, true, true, true, true, true, true, true, true, true, false, false] rfl rfl (any_of HT_.out (by kernel_rfl)) (fun _ _ _ h => h) (Or.inl ⟨by rfl, ?_⟩) ?_ ?_
   rotate_left
   ·
    intro w'
    go_simp
    with_reducible rfl
   rotate_left
   ·
    simp only [Act.put, sA_, sZ_, sS_, i64_w, i32_w]
    rfl
   refine pure_ (i := 11) (N := some 28) (v := ?_) (a' := ?_) #[true, true, true, true, true, true, true, true, true, true, true, true, false] rfl rfl (any_of HT_.out (by kernel_rfl)) (fun _ _ _ h => h) (Or.inl ⟨by rfl, ?_⟩) ?_ ?_
   rotate_left
   ·
    intro w'
    go_simp
    with_reducible rfl
   rotate_left
   ·
    simp only [Act.put, sA_, sZ_, sS_, i64_w, i32_w]
    rfl
   refine pure_ (i := 12) (N := some 6) (v := ?_) (a' := ?_) #[true, true, true, true, true, true, true, true, true, true, true, true, true] rfl rfl (any_of HT_.out (by kernel_rfl)) (fun _ _ _ h => h) (Or.inl ⟨by rfl, ?_⟩) ?_ ?_
   rotate_left
   ·
    intro w'
    go_simp
    with_reducible rfl
   rotate_left
   ·
    simp only [Act.put, sA_, sZ_, sS_, i64_w, i32_w]
    rfl
   refine done_ (done_of HT_.out (by kernel_rfl)) ?_
   try go_wp2
   go_ret
   exact ⟨by first | rfl | (simp [errW_none, errW_some] <;> rfl) | (simp [*, errW_none, errW_some] <;> rfl), bw_⟩
  ·
   rw [if_neg c73] at H
   have c73b0 : decide (t255 ≤ 0) = false := decide_eq_false c73
   clear c73
   obtain rfl := Option.some.inj H
   go_enter Try.func40, Try.ntmps40
   try go_wp2_with (first | ((with_reducible refine gate_dst (N := 3) rfl ?_); refine box_event ?hg (N := 3) ?hd (cs := #[.bool a0_0, .slice A0_1 l0_1.length c0_1]) (t := 32) ?hr ?_; (case hd => rfl); (case hg => rfl); (case hr => first | (go_simp; done) | (go_simp; rfl)); intro gb303 hg w97 hbox hb; have n0_ := A_ (bs_ bw_ hb); have n1_ := A_ (hbox); have n2_ := A_ ((by rw [hg]; exact (bz_ bw_) : w.heap.size ≤ gb303)); have n3_ := A_ ((by rw [hg]; exact (bz_ bw_) : w.heap.size ≤ gb303)); clear HB; have HB := n0_; have BK303 := n1_; have GW303 := n2_; have GE303 := n3_; clear n0_ n1_ n2_ n3_; clear hb hbox hg) | ((with_reducible refine gate_dst (N := 4) rfl ?_); refine box_event ?hg (N := 4) ?hd (cs := #[.bool false, .slice A1_1 l1_1.length c1_1]) (t := 32) ?hr ?_; (case hd => rfl); (case hg => rfl); (case hr => first | (go_simp; done) | (go_simp; rfl)); intro gb304 hg w98 hbox hb; have n0_ := A_ (kb_ BK303 hb); have n1_ := A_ (bs_ bw_ hb); have n2_ := A_ (hbox); have n3_ := A_ ((by rw [hg]; exact (bz_ bw_) : w.heap.size ≤ gb304)); have n4_ := A_ ((by rw [hg]; exact (bz_ bw_) : w.heap.size ≤ gb304)); have n5_ := A_ ((by rw [hg]; exact nl_ (lt_ BK303) : gb303 ≠ gb304)); have n6_ := A_ ((by rw [hg]; exact ng_ (lt_ BK303) : gb304 ≠ gb303)); clear BK303; clear HB; have BK303 := n0_; have HB := n1_; have BK304 := n2_; have GW304 := n3_; have GE304 := n4_; have NB303_304 := n5_; have NB304_303 := n6_; clear n0_ n1_ n2_ n3_ n4_ n5_ n6_; clear hb hbox hg) | ((with_reducible refine gate_dst (N := 5) rfl ?_); refine box_event ?hg (N := 5) ?hd (cs := #[.bool a2_0, .slice A2_1 l2_1.length c2_1]) (t := 32) ?hr ?_; (case hd => rfl); (case hg => rfl); (case hr => first | (go_simp; done) | (go_simp; rfl)); intro gb305 hg w99 hbox hb; have n0_ := A_ (kb_ BK303 hb); have n1_ := A_ (kb_ BK304 hb); have n2_ := A_ (bs_ bw_ hb); have n3_ := A_ (hbox); have n4_ := A_ ((by rw [hg]; exact (bz_ bw_) : w.heap.size ≤ gb305)); have n5_ := A_ ((by rw [hg]; exact (bz_ bw_) : w.heap.size ≤ gb305)); have n6_ := A_ ((by rw [hg]; exact nl_ (lt_ BK303) : gb303 ≠ gb305)); have n7_ := A_ ((by rw [hg]; exact ng_ (lt_ BK303) : gb305 ≠ gb303)); have n8_ := A_ ((by rw [hg]; exact nl_ (lt_ BK304) : gb304 ≠ gb305)); have n9_ := A_ ((by rw [hg]; exact ng_ (lt_ BK304) : gb305 ≠ gb304)); clear BK303; clear BK304; clear HB; have BK303 := n0_; have BK304 := n1_; have HB := n2_; have BK305 := n3_; have GW305 := n4_; have GE305 := n5_; have NB303_305 := n6_; have NB305_303 := n7_; have NB304_305 := n8_; have NB305_304 := n9_; clear n0_ n1_ n2_ n3_ n4_ n5_ n6_ n7_ n8_ n9_; clear hb hbox hg; have hnb100 := NB304_303.out; have hnc100 := NB303_304.out; have hnb101 := NB304_305.out; have hnc101 := NB305_304.out; have hcz102_0 : w99.cell? ⟨gb304, 0, none⟩ = some (.bool false) := (bc_ BK304.out 0).trans rfl; have hcz102_1 : w99.cell? ⟨gb304, 1, none⟩ = some (.slice A1_1 l1_1.length c1_1) := (bc_ BK304.out 1).trans rfl; have hfz102_0 := bf_ BK304.out 0; have hfz102_1 := bf_ BK304.out 1; have hnb103 := NB305_303.out; have hnc103 := NB303_305.out; have hcz104_0 : w99.cell? ⟨gb305, 0, none⟩ = some (.bool a2_0) := (bc_ BK305.out 0).trans rfl; have hcz104_1 : w99.cell? ⟨gb305, 1, none⟩ = some (.slice A2_1 l2_1.length c2_1) := (bc_ BK305.out 1).trans rfl; have hfz104_0 := bf_ BK305.out 0; have hfz104_1 := bf_ BK305.out 1) | ((with_reducible refine gate_callee (f := 26) rfl ?_); refine goesL_ (some 16) rfl rfl Try.func26 (by kernel_rfl) rfl #[.agg #[.bool a2_0, .slice A2_1 l2_1.length c2_1], .agg #[.bool false, .slice A1_1 l1_1.length c1_1]] rfl (by (try simp only [List.map_toArray, List.map_cons, List.map_nil]); first | done | rfl | (simp only [List.length_drop, List.length_take]; rfl)) ?_; (with_reducible refine (clevisref01_Mul.calls k a2_0 _ _ l2_1 false _ _ l1_1 t251 t252 _ ?side1 ?side2 ?side3 ?side4 A71.out).mono ?_); (case side1 => repeat (first | exact (cb_ HR2_1.out HB.out) | (with_reducible refine ca_ ?_ _) | (with_reducible refine cn_ ?_ _) | (with_reducible refine cd_ ?_))); (case side2 => exact HC2_1.out); (case side3 => repeat (first | exact (cb_ HR1_1.out HB.out) | (with_reducible refine ca_ ?_ _) | (with_reducible refine cn_ ?_ _) | (with_reducible refine cd_ ?_))); (case side4 => exact HC1_1.out); rintro e w105 ⟨v253, rfl, ho0, hb⟩; refine ⟨_, rfl, ?_⟩; have n0_ := A_ (Kd.V_lower (vm_ (ok' := fun k_ => k_ ≠ gb303 ∧ k_ ≠ gb304 ∧ k_ ≠ gb305) ho0 (fun k_ hk_ => ⟨(Kd.freshB (g := gb303) (o := .cells #[.bool a0_0, .slice A0_1 l0_1.length c0_1] 32 (0, 0)) bk_ k_ hk_), (Kd.freshB (g := gb304) (o := .cells #[.bool false, .slice A1_1 l1_1.length c1_1] 32 (0, 0)) bk_ k_ hk_), (Kd.freshB (g := gb305) (o := .cells #[.bool a2_0, .slice A2_1 l2_1.length c2_1] 32 (0, 0)) bk_ k_ hk_)⟩)) (bz_ bw_)); have n1_ := A_ (kb_ BK303 hb); have n2_ := A_ (kb_ BK304 hb); have n3_ := A_ (kb_ BK305 hb); have n4_ := A_ (bs_ bw_ hb); clear BK303; clear BK304; clear BK305; clear HB; have HO254 := n0_; have BK303 := n1_; have BK304 := n2_; have BK305 := n3_; have HB := n4_; clear n0_ n1_ n2_ n3_ n4_; (try clear hb); (try clear hb2); (try clear hk); (try clear hi); (try clear ho0)) | ((with_reducible refine gate_dst (N := 7) rfl ?_); refine box_event ?hg (N := 7) ?hd (cs := #[.bool false, .slice none 0 0]) (t := 32) ?hr ?_; (case hd => rfl); (case hg => rfl); (case hr => first | (go_simp; done) | (go_simp; rfl)); intro gb307 hg w106 hbox hb; have n0_ := A_ (Kd.V_below (Kd.V_elderB (by (with_reducible repeat (first | apply va_ | apply vn_ | apply vd_)); exact HO254.out) gb307 (Nat.le_of_eq hg.symm)) hb); have n1_ := A_ (kb_ BK303 hb); have n2_ := A_ (kb_ BK304 hb); have n3_ := A_ (kb_ BK305 hb); have n4_ := A_ (bs_ bw_ hb); have n5_ := A_ (hbox); have n6_ := A_ ((by rw [hg]; exact (bz_ bw_) : w.heap.size ≤ gb307)); have n7_ := A_ ((by rw [hg]; exact (bz_ bw_) : w.heap.size ≤ gb307)); have n8_ := A_ ((by rw [hg]; exact nl_ (lt_ BK303) : gb303 ≠ gb307)); have n9_ := A_ ((by rw [hg]; exact ng_ (lt_ BK303) : gb307 ≠ gb303)); have n10_ := A_ ((by rw [hg]; exact nl_ (lt_ BK304) : gb304 ≠ gb307)); have n11_ := A_ ((by rw [hg]; exact ng_ (lt_ BK304) : gb307 ≠ gb304)); have n12_ := A_ ((by rw [hg]; exact nl_ (lt_ BK305) : gb305 ≠ gb307)); have n13_ := A_ ((by rw [hg]; exact ng_ (lt_ BK305) : gb307 ≠ gb305)); clear HO254; clear BK303; clear BK304; clear BK305; clear HB; have HO254 := n0_; have BK303 := n1_; have BK304 := n2_; have BK305 := n3_; have HB := n4_; have BK307 := n5_; have GW307 := n6_; have GE307 := n7_; have NB303_307 := n8_; have NB307_303 := n9_; have NB304_307 := n10_; have NB307_304 := n11_; have NB305_307 := n12_; have NB307_305 := n13_; clear n0_ n1_ n2_ n3_ n4_ n5_ n6_ n7_ n8_ n9_ n10_ n11_ n12_ n13_; clear hb hbox hg; have hnb107 := NB307_303.out; have hnc107 := NB303_307.out; have hnb108 := NB307_304.out; have hnc108 := NB304_307.out; have hnb109 := NB307_305.out; have hnc109 := NB305_307.out; have hcz110_0 : w106.cell? ⟨gb307, 0, none⟩ = some (.bool false) := (bc_ BK307.out 0).trans rfl; have hcz110_1 : w106.cell? ⟨gb307, 1, none⟩ = some (.slice none 0 0) := (bc_ BK307.out 1).trans rfl; have hfz110_0 := bf_ BK307.out 0; have hfz110_1 := bf_ BK307.out 1; obtain ⟨Ao111, co111, eo111⟩ := Kd.V_slice HO254.out; subst eo111))
   have n0_ : Aside0 (Kd.V (Kd.int .i64) 3 ((w106.setCell ⟨gb307, 0, none⟩ (.bool t251)).setCell ⟨gb307, 1, none⟩ (.slice Ao111 t252.length co111)) w.heap.size (fun k_ => k_ ≠ gb303 ∧ k_ ≠ gb304 ∧ k_ ≠ gb305 ∧ k_ ≠ gb307) (.slice Ao111 t252.length co111) t252) := ⟨by (with_reducible repeat (first | apply va_ | apply vn_ | apply vd_)); exact vm_ (Kd.V_far (p := ⟨gb307, 1, none⟩) (Kd.V_far (p := ⟨gb307, 0, none⟩) (vm_ HO254.out (fun k_ hk => (⟨hk, hk.2⟩ : _ ∧ k_ ≠ gb307))) (fun _ hk => hk.2) (.bool t251)) (fun _ hk => hk.2) (.slice Ao111 t252.length co111)) (fun _ hk => ⟨hk.1.1.1, ⟨hk.1.1.2.1, ⟨hk.1.1.2.2, hk.1.2⟩⟩⟩)⟩
   have n1_ : Aside0 (((w106.setCell ⟨gb307, 0, none⟩ (.bool t251)).setCell ⟨gb307, 1, none⟩ (.slice Ao111 t252.length co111)).heap[gb303]? = some (.cells #[.bool a0_0, .slice A0_1 l0_1.length c0_1] 32 (0, 0))) := ⟨bk_⟩
   have n2_ : Aside0 (((w106.setCell ⟨gb307, 0, none⟩ (.bool t251)).setCell ⟨gb307, 1, none⟩ (.slice Ao111 t252.length co111)).heap[gb304]? = some (.cells #[.bool false, .slice A1_1 l1_1.length c1_1] 32 (0, 0))) := ⟨bk_⟩
   have n3_ : Aside0 (((w106.setCell ⟨gb307, 0, none⟩ (.bool t251)).setCell ⟨gb307, 1, none⟩ (.slice Ao111 t252.length co111)).heap[gb305]? = some (.cells #[.bool a2_0, .slice A2_1 l2_1.length c2_1] 32 (0, 0))) := ⟨bk_⟩
   have n4_ : Aside0 (((w106.setCell ⟨gb307, 0, none⟩ (.bool t251)).setCell ⟨gb307, 1, none⟩ (.slice Ao111 t252.length co111)).heap[gb307]? = some (.cells #[.bool t251, .slice Ao111 t252.length co111] 32 (0, 0))) := ⟨by (with_reducible repeat (first | refine bn_ ?_ _ | refine bd_ ?_ | refine ba_ ?_ _)); refine bp_ (cs := #[.bool t251, .slice none 0 0]) ?_ 1 _ rfl; (with_reducible repeat (first | refine bn_ ?_ _ | refine bd_ ?_ | refine ba_ ?_ _)); refine bp_ (cs := #[.bool false, .slice none 0 0]) ?_ 0 _ rfl; (with_reducible repeat (first | refine bn_ ?_ _ | refine bd_ ?_ | refine ba_ ?_ _)); exact BK307.out⟩
   have n5_ : Aside0 (Below w.heap.size w ((w106.setCell ⟨gb307, 0, none⟩ (.bool t251)).setCell ⟨gb307, 1, none⟩ (.slice Ao111 t252.length co111))) := ⟨bw_⟩
   (try clear HO254)
   (try clear BK303)
   (try clear BK304)
   (try clear BK305)
   (try clear BK307)
   (try clear HB)
   generalize ((w106.setCell ⟨gb307, 0, none⟩ (.bool t251)).setCell ⟨gb307, 1, none⟩ (.slice Ao111 t252.length co111)) = w112 at n0_ n1_ n2_ n3_ n4_ n5_ ⊢
   have HO254 := n0_
   have BK303 := n1_
   have BK304 := n2_
   have BK305 := n3_
   have BK307 := n4_
   have HB := n5_
   clear n0_ n1_ n2_ n3_ n4_ n5_
   have n0_ := A_ (vd_ HO254.out)
   have n1_ := A_ (bd_ BK303.out)
   have n2_ := A_ (bd_ BK304.out)
   have n3_ := A_ (bd_ BK305.out)
   have n4_ := A_ (bd_ BK307.out)
   have n5_ := A_ (b1_ HB.out)
   clear HO254
   clear BK303
   clear BK304
   clear BK305
   clear BK307
   clear HB
   have HO254 := n0_
   have BK303 := n1_
   have BK304 := n2_
   have BK305 := n3_
   have BK307 := n4_
   have HB := n5_
   clear n0_ n1_ n2_ n3_ n4_ n5_
   refine start_ (n := 13) (S := fun w' => w'.cell? ⟨gb307, 0, none⟩ = some (.bool t251) ∧ w'.cell? ⟨gb307, 1, none⟩ = some (.slice Ao111 t252.length co111) ∧ w'.cell? ⟨gb303, 0, none⟩ = some (.bool a0_0) ∧ w'.cell? ⟨gb303, 1, none⟩ = some (.slice A0_1 l0_1.length c0_1)) (ds := []) #[false, false, false, false, false, false, false, false, false, false, false, false, false] (by kernel_rfl) rfl rfl ⟨(bc_ BK307.out 0).trans rfl, (bc_ BK307.out 1).trans rfl, (bc_ BK303.out 0).trans rfl, (bc_ BK303.out 1).trans rfl⟩ (fun hHeld => ?_); refine with_tabW clevisref01_Floor.tab4 clevisref01_Floor.bits4 (fun HT_ HW_ => ?_)
   generalize w112.drew = w113 at HO254 BK303 BK304 BK305 BK307 HB hHeld ⊢
   refine take_ (i := 0) (N := some 17) (v := ?_) (a' := ?_) #[true, false, false, false, false, false, false, false, false, false, false, false, false] rfl rfl (take_ofW HT_.out HW_.out (by kernel_rfl)) (fun _ _ _ h => h) (Or.inl ⟨by rfl, ?_⟩) hHeld ?_ ?_
   rotate_left
   ·
    rintro w' ⟨s0, s1, s2, s3⟩
    go_simp
    with_reducible rfl
   rotate_left
   ·
    simp only [Act.put, sA_, sZ_, sS_, i64_w, i32_w]
    rfl
   refine take_ (i := 1) (N := some 18) (v := ?_) (a' := ?_) #[true, true, false, false, false, false, false, false, false, false, false, false, false] rfl rfl (take_ofW HT_.out HW_.out (by kernel_rfl)) (fun _ _ _ h => h) (Or.inl ⟨by rfl, ?_⟩) hHeld ?_ ?_
   rotate_left
   ·
    rintro w' ⟨s0, s1, s2, s3⟩
    go_simp
    with_reducible rfl
   rotate_left
   ·
    simp only [Act.put, sA_, sZ_, sS_, i64_w, i32_w]
    rfl
   refine one_ (i := 2) (N := some 19) #[true, true, true, false, false, false, false, false, false, false, false, false, false] rfl rfl (one_of HT_.out (by kernel_rfl)) (by decide) (fun K hK => ?_)
   refine goes_ Try.func16 (by kernel_rfl) rfl #[.agg #[.bool t251, .slice Ao111 t252.length co111], .agg #[.bool a0_0, .slice A0_1 l0_1.length c0_1]] (by rfl) rfl rfl (by (try simp only [List.map_toArray, List.map_cons, List.map_nil]); first | done | rfl | (simp only [List.length_drop, List.length_take]; rfl)) ?_
   with_reducible refine (clevisref01_Compare.calls k t251 _ _ t252 a0_0 _ _ l0_1 t255 _ ?side1 ?side2 ?side3 ?side4 A72.out).mono ?_
   (case side1 => repeat (first | exact (Kd.V_reads' HO254.out).2.2 | (with_reducible refine ca_ ?_ _) | (with_reducible refine cn_ ?_ _) | (with_reducible refine cd_ ?_)))
   (case side2 => exact (Kd.V_reads' HO254.out).2.1)
   (case side3 => repeat (first | exact (cb_ HR0_1.out HB.out) | (with_reducible refine ca_ ?_ _) | (with_reducible refine cn_ ?_ _) | (with_reducible refine cd_ ?_)))
   (case side4 => exact HC0_1.out)
   rintro e w114 ⟨rfl, hb⟩
   refine ⟨_, rfl, ?_⟩
   have n0_ := A_ (Kd.V_below (by (with_reducible repeat (first | apply va_ | apply vn_ | apply vd_)); exact HO254.out) hb)
   have n1_ := A_ (kb_ BK303 hb)
   have n2_ := A_ (kb_ BK304 hb)
   have n3_ := A_ (kb_ BK305 hb)
   have n4_ := A_ (kb_ BK307 hb)
   have n5_ := A_ (bs_ bw_ hb)
   clear HO254
   clear BK303
   clear BK304
   clear BK305
   clear BK307
   clear HB
   have HO254 := n0_
   have BK303 := n1_
   have BK304 := n2_
   have BK305 := n3_
   have BK307 := n4_
   have HB := n5_
   clear n0_ n1_ n2_ n3_ n4_ n5_
   (try clear hb)
   (try clear hb2)
   (try clear hk)
   (try clear hi)
   refine hK.out _ _ ⟨(bc_ BK307.out 0).trans rfl, (bc_ BK307.out 1).trans rfl, (bc_ BK303.out 0).trans rfl, (bc_ BK303.out 1).trans rfl⟩ (fun hHeld => ?_)
   clear hK K
   refine norm_ (a' := ?_) ?_ ?_
   rotate_left
   ·
    show Act.put _ (some 19) _ = _
    simp only [Act.put, sA_, sZ_, sS_, i64_w, i32_w]
    rfl
   refine pure_ (i := 3) (N := some 20) (v := ?_) (a' := ?_) #[true, true, true, true, false, false, false, false, false, false, false, false, false] rfl rfl (any_of HT_.out (by kernel_rfl)) (fun _ _ _ h => h) (Or.inl ⟨by rfl, ?_⟩) ?_ ?_
   rotate_left
   ·
    intro w'
    go_simp
    with_reducible rfl
   rotate_left
   ·
    simp only [Act.put, sA_, sZ_, sS_, i64_w, i32_w]
    rfl
   refine pure_ (i := 4) (N := some 21) (v := ?_) (a' := ?_) #[true, true, true, true, true, false, false, false, false, false, false, false, false] rfl rfl (any_of HT_.out (by kernel_rfl)) (fun _ _ _ h => h) (Or.inl ⟨by rfl, ?_⟩) ?_ ?_
   rotate_left
   ·
    intro w'
    go_simp
    with_reducible rfl
   rotate_left
   ·
    simp only [Act.put, sA_, sZ_, sS_, i64_w, i32_w]
    rfl
   refine pure_ (i := 5) (N := some 22) (v := undef) (a' := ?_) #[true, true, true, true, true, true, false, false, false, false, false, false, false] rfl rfl (any_of HT_.out (by kernel_rfl)) (fun _ _ _ h => h) (Or.inr ⟨by rfl, rfl⟩) ?_ ?_
   rotate_left
   ·
    simp only [Act.put, sA_, sZ_, sS_, i64_w, i32_w]
    rfl
   refine pure_ (i := 6) (N := some 23) (v := undef) (a' := ?_) #[true, true, true, true, true, true, true, false, false, false, false, false, false] rfl rfl (any_of HT_.out (by kernel_rfl)) (fun _ _ _ h => h) (Or.inr ⟨by rfl, rfl⟩) ?_ ?_
   rotate_left
   ·
    simp only [Act.put, sA_, sZ_, sS_, i64_w, i32_w]
    rfl
   refine pure_ (i := 7) (N := some 24) (v := undef) (a' := ?_) #[true, true, true, true, true, true, true, true, false, false, false, false, false] rfl rfl (any_of HT_.out (by kernel_rfl)) (fun _ _ _ h => h) (Or.inr ⟨by rfl, rfl⟩) ?_ ?_
   rotate_left
   ·
    simp only [Act.put, sA_, sZ_, sS_, i64_w, i32_w]
    rfl
   refine pure_ (i := 8) (N := some 25) (v := undef) (a' := ?_) #[true, true, true, true, true, true, true, true, true, false, false, false, false] rfl rfl (any_of HT_.out (by kernel_rfl)) (fun _ _ _ h => h) (Or.inr ⟨by rfl, rfl⟩) ?_ ?_
   rotate_left
   ·
    simp only [Act.put, sA_, sZ_, sS_, i64_w, i32_w]
    rfl
   refine pure_ (i := 9) (N := some 26) (v := undef) (a' := ?_) #[true, true, true, true, true, true, true, true, true, true, false, false, false] rfl rfl (any_of HT_.out (by kernel_rfl)) (fun _ _ _ h => h) (Or.inr ⟨by rfl, rfl⟩) ?_ ?_
   rotate_left
   ·
    simp only [Act.put, sA_, sZ_, sS_, i64_w, i32_w]
    rfl
   refine pure_ (i := 10) (N := some 27) (v := undef) (a' := ?_) #[true, true, true, true, true, true, true, true, true, true, true, false, false] rfl rfl (any_of HT_.out (by kernel_rfl)) (fun _ _ _ h => h) (Or.inr ⟨by rfl, rfl⟩) ?_ ?_
   rotate_left
   ·
    simp only [Act.put, sA_, sZ_, sS_, i64_w, i32_w]
    rfl
   refine pure_ (i := 11) (N := some 28) (v := ?_) (a' := ?_) #[true, true, true, true, true, true, true, true, true, true, true, true, false] rfl rfl (any_of HT_.out (by kernel_rfl)) (fun _ _ _ h => h) (Or.inl ⟨by rfl, ?_⟩) ?_ ?_
   rotate_left
   ·
    intro w'
    go_simp
    with_reducible rfl
   rotate_left
   ·
    simp only [Act.put, sA_, sZ_, sS_, i64_w, i32_w]
    rfl
   refine pure_ (i := 12) (N := some 6) (v := ?_) (a' := ?_) #[true, true, true, true, true, true, true, true, true, true, true, true, true] rfl rfl (any_of HT_.out (by kernel_rfl)) (fun _ _ _ h => h) (Or.inl ⟨by rfl, ?_⟩) ?_ ?_
   rotate_left
   ·
    intro w'
    go_simp
    with_reducible rfl
   rotate_left
   ·
    simp only [Act.put, sA_, sZ_, sS_, i64_w, i32_w]
    rfl
   refine done_ (done_of HT_.out (by kernel_rfl)) ?_
   try go_wp2
   go_ret
   exact ⟨by first | rfl | (simp [errW_none, errW_some] <;> rfl) | (simp [*, errW_none, errW_some] <;> rfl), bw_⟩
end Go.Proofs.Ytjbcigiffihjaaa.Fx
end
