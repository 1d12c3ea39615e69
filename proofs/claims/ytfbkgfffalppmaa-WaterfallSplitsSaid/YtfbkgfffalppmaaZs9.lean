/- Texts of this seat, put together (Zs9). -/
import Derived.Test.YtfbkgfffalppmaaZs2
import Derived.Test.YtfbkgfffalppmaaZs6
import Derived.Test.YtfbkgfffalppmaaZs8
section
namespace Go.Proofs.Ytfbkgfffalppmaa.Fc
set_option linter.unusedSimpArgs false
set_option linter.unusedVariables false
open Go Go.RowKit Go.Proofs.Ytfbkgfffalppmaa.Wf Go.Proofs.YtfbkgfffalppmaaW.PrintWords Go.Proofs.Ytfbkgfffalppmaa.Fv
theorem w64 {n : Int} (h0 : -9223372036854775808 ≤ n) (h1 : n ≤ 9223372036854775807) : wrap64 n = n := by unfold wrap64; omega
end Go.Proofs.Ytfbkgfffalppmaa.Fc
end
section
namespace Go.Proofs.Ytfbkgfffalppmaa.Fc
set_option linter.unusedSimpArgs false
set_option linter.unusedVariables false
open Go Go.RowKit Go.Proofs.Ytfbkgfffalppmaa.Wf Go.Proofs.YtfbkgfffalppmaaW.PrintWords Go.Proofs.Ytfbkgfffalppmaa.Fv
end Go.Proofs.Ytfbkgfffalppmaa.Fc
end
section
namespace Go.Proofs.Ytfbkgfffalppmaa.Fc
set_option linter.unusedSimpArgs false
set_option linter.unusedVariables false
open Go Go.RowKit Go.Proofs.Ytfbkgfffalppmaa.Wf Go.Proofs.YtfbkgfffalppmaaW.PrintWords Go.Proofs.Ytfbkgfffalppmaa.Fv
end Go.Proofs.Ytfbkgfffalppmaa.Fc
end
section
namespace Go.Proofs.Ytfbkgfffalppmaa.Fc
set_option linter.unusedSimpArgs false
set_option linter.unusedVariables false
open Go Go.RowKit Go.Proofs.Ytfbkgfffalppmaa.Wf Go.Proofs.YtfbkgfffalppmaaW.PrintWords Go.Proofs.Ytfbkgfffalppmaa.Fv
end Go.Proofs.Ytfbkgfffalppmaa.Fc
end
section
namespace Go.Proofs.Ytfbkgfffalppmaa.Fc
set_option linter.unusedSimpArgs false
set_option linter.unusedVariables false
open Go Go.RowKit Go.Proofs.Ytfbkgfffalppmaa.Wf Go.Proofs.YtfbkgfffalppmaaW.PrintWords Go.Proofs.Ytfbkgfffalppmaa.Fv
end Go.Proofs.Ytfbkgfffalppmaa.Fc
end
section
namespace Go.Proofs.Ytfbkgfffalppmaa.Fc
set_option linter.unusedSimpArgs false
set_option linter.unusedVariables false
open Go Go.RowKit Go.Proofs.Ytfbkgfffalppmaa.Wf Go.Proofs.YtfbkgfffalppmaaW.PrintWords Go.Proofs.Ytfbkgfffalppmaa.Fv
end Go.Proofs.Ytfbkgfffalppmaa.Fc
end
section
namespace Go.Proofs.Ytfbkgfffalppmaa.Fc
set_option linter.unusedSimpArgs false
set_option linter.unusedVariables false
open Go Go.RowKit Go.Proofs.Ytfbkgfffalppmaa.Wf Go.Proofs.YtfbkgfffalppmaaW.PrintWords Go.Proofs.Ytfbkgfffalppmaa.Fv
theorem mul_step (Bik Bi Bk ai bk o more s Vo X Vk : Int) (hs : o + ai * bk + more = s) (hBa : Bik = Bi * Bk) (hv : Vo + Bik * more = X + Bi * ai * Vk) : Vo + Bik * (s % 65536 - o) + 65536 * Bik * (s / 65536) = X + Bi * ai * (Vk + Bk * bk) := by
  have h2 : s % 65536 - o + 65536 * (s / 65536) = ai * bk + more := by
    generalize ai * bk = z at hs
    omega
  have h3 : Bik * (s % 65536 - o) + 65536 * Bik * (s / 65536) = Bik * (ai * bk) + Bik * more := by
    rw [← Int.mul_add, ← h2, Int.mul_add, Int.mul_comm 65536 Bik, Int.mul_assoc]
  have h4 : Bi * ai * (Vk + Bk * bk) = Bi * ai * Vk + Bik * (ai * bk) := by
    rw [Int.mul_add, hBa]
    congr 1
    rw [Int.mul_assoc, Int.mul_assoc, ← Int.mul_assoc ai, Int.mul_comm ai Bk, Int.mul_assoc]
  rw [h4, Int.add_assoc, h3]
  generalize Bik * (ai * bk) = z1
  generalize Bik * more = z2 at *
  generalize Bi * ai * Vk = z3 at *
  omega
theorem V_set (d : List Int) (i : Nat) (x : Int) (h : i < d.length) : V (d.set i x) = V d + B i * (x - d.getD i 0) := by
  have h1 : d = d.take i ++ d.getD i 0 :: d.drop (i + 1) := by
    rw [List.getD_eq_getElem?_getD, List.getElem?_eq_getElem h, Option.getD_some, ← List.drop_eq_getElem_cons h, List.take_append_drop]
  have h2 : d.set i x = d.take i ++ x :: d.drop (i + 1) := by rw [List.set_eq_take_append_cons_drop, if_pos h]
  have h3 : V d = V (d.take i ++ d.getD i 0 :: d.drop (i + 1)) := by rw [← h1]
  rw [h2, h3, V_append, V_append, List.length_take, Nat.min_eq_left (by omega)]
  simp only [V]
  rw [Int.mul_add, Int.mul_add, Int.mul_sub]
  omega
theorem Ds.set {d : List Int} (h : Ds d) (i : Nat) {x : Int} (hx : Dg x) : Ds (d.set i x) := fun y hy => by
  rcases List.mem_or_eq_of_mem_set hy with q | q
  · exact h y q
  · rw [q]; exact hx
section
variable (a b : List Int) (ha : Ds a) (hb : Ds b) (hla : a.length ≤ 400000) (hlb : b.length ≤ 400000) (na nb no : Bool) (P : Bool × List Int → Prop)
include ha hb hla hlb
end
end Go.Proofs.Ytfbkgfffalppmaa.Fc
end
section
namespace Go.Proofs.Ytfbkgfffalppmaa.Fc
set_option linter.unusedSimpArgs false
set_option linter.unusedVariables false
open Go Go.RowKit Go.Proofs.Ytfbkgfffalppmaa.Wf Go.Proofs.YtfbkgfffalppmaaW.PrintWords Go.Proofs.Ytfbkgfffalppmaa.Fv
theorem V_mul_lt {a b : List Int} (ha : Ds a) (hb : Ds b) (i : Nat) : V (a.take i) * V b < B (i + b.length + 1) := by
  have h1 := take_lt ha i
  have h2 := V_lt hb
  have h3 := V_nonneg (ha.take i)
  have h4 := V_nonneg hb
  have h5 : V (a.take i) * V b ≤ B i * B b.length := Int.mul_le_mul (by omega) (by omega) h4 (by have := B_pos i; omega)
  rw [← B_add] at h5
  have h6 := B_succ (i + b.length)
  have h7 := B_pos (i + b.length)
  omega
theorem V_zeros : ∀ n, V (List.replicate n 0) = 0
  | 0 => rfl
  | n + 1 => by rw [List.replicate_succ]; simp only [V]; rw [V_zeros n]; omega
end Go.Proofs.Ytfbkgfffalppmaa.Fc
end
section
namespace Go.Proofs.Ytfbkgfffalppmaa.Fc
set_option linter.unusedSimpArgs false
set_option linter.unusedVariables false
open Go Go.RowKit Go.Proofs.Ytfbkgfffalppmaa.Wf Go.Proofs.YtfbkgfffalppmaaW.PrintWords Go.Proofs.Ytfbkgfffalppmaa.Fv
theorem wn (n : Nat) (h : n ≤ 1000000000) : wrap64 ((n : Int) + 1) = ((n + 1 : Nat) : Int) := by unfold wrap64; omega
theorem B4 : B 4 = 18446744073709551616 := by rw [B_succ, B_succ, B_succ, B_succ, B_zero]; rfl
theorem B8 : B 8 = 340282366920938463463374607431768211456 := by rw [B_add 4 4, B4]; rfl
end Go.Proofs.Ytfbkgfffalppmaa.Fc
end
section
namespace Go.Proofs.Ytfbkgfffalppmaa.Fc
set_option linter.unusedSimpArgs false
set_option linter.unusedVariables false
open Go Go.RowKit Go.Proofs.Ytfbkgfffalppmaa.Wf Go.Proofs.YtfbkgfffalppmaaW.PrintWords Go.Proofs.Ytfbkgfffalppmaa.Fv
def Tells (f : Nat → Option (Bool × List Int)) (v : Int) (m : Nat) : Prop := ∃ K n d, (∀ e, f (K + e) = some (n, d)) ∧ Nm v n d ∧ d.length ≤ m
def W (hi lo : Int) : Int := hi * 18446744073709551616 + lo
end Go.Proofs.Ytfbkgfffalppmaa.Fc
end
section
namespace Go.Proofs.Ytfbkgfffalppmaa.Wf
open Go.RowKit Go.Proofs.YtfbkgfffalppmaaW.PrintWords Go.Proofs.YtfbkgfffalppmaaW.PrintLast Go.Proofs.YtfbkgfffalppmaaW.PrintMore
attribute [local go_sem] max2_int min2_int max_two min_two max_three min_three max_four min_four   -- for this text's walks alone
set_option linter.unusedVariables false
set_option linter.unusedSimpArgs false
attribute [local go_sem] run_add64_any
def waterfall_parts.l0 : Nat → List (S74) → List (S35) → Int → Int → Option ((List (S74)))
 | 0, _, _, _, _ => none
 | k + 1, x3, x6, x7, x8 => if x8 < x7 then (if 0 ≤ x8 then (if x8 < (x6.length : Int) then (if x3.length + ((rd_T35 x6 x8).f1).length < 5864062014805 then (waterfall_parts.l0 k (x3 ++ ((rd_T35 x6 x8).f1)) x6 x7 (wrap64 (x8 + 1))) else (none)) else (none)) else (none)) else (some x3)
def waterfall_parts.f (k : Nat) (l0 : List (S35)) : Option ((List (S74))) := waterfall_parts.l0 k ([] : List (S74)) l0 (l0.length : Int) 0
theorem waterfall_parts.mono_l : ∀ k, (∀ y0 y1 y2 y3, LeO (waterfall_parts.l0 k y0 y1 y2 y3) (waterfall_parts.l0 (k + 1) y0 y1 y2 y3))
 | 0 => fun _ _ _ _ r h => by simp [waterfall_parts.l0] at h
 | k + 1 => by
  have ih0 := waterfall_parts.mono_l k
  ·
   intro y0 y1 y2 y3
   unfold waterfall_parts.l0
   repeat' first
   | (with_reducible exact ih0 _ _ _ _)
   | (with_reducible exact LeO.refl _)
   | (with_reducible exact LeO.none _)
   | (with_reducible refine LeO.ite ?_ ?_)
   | (with_reducible refine LeO.bind ?_ (fun _ => ?_))
   | exact ih0 _ _ _ _
   | exact LeO.none _
   | refine LeO.ite ?_ ?_
   | refine LeO.bind ?_ (fun _ => ?_)
theorem waterfall_parts.mono : ∀ a0 k, LeO (waterfall_parts.f k a0) (waterfall_parts.f (k + 1) a0) := by
 intro a0 k
 have ih0 := waterfall_parts.mono_l k
 unfold waterfall_parts.f
 repeat' first
   | (with_reducible exact ih0 _ _ _ _)
   | (with_reducible exact LeO.refl _)
   | (with_reducible exact LeO.none _)
   | (with_reducible refine LeO.ite ?_ ?_)
   | (with_reducible refine LeO.bind ?_ (fun _ => ?_))
   | exact ih0 _ _ _ _
   | exact LeO.none _
   | refine LeO.ite ?_ ?_
   | refine LeO.bind ?_ (fun _ => ?_)
set_option maxHeartbeats 8000000 in
set_option maxRecDepth 100000 in
theorem waterfall_parts.calls (k : Nat) (A0 : Option Addr) (c0 : Nat) (l0 : List (S35)) (r : List (S74)) (w : World) (hr0 : Kd.C k35 w A0 l0.length l0) (hc0 : l0.length ≤ c0) (h : waterfall_parts.f k l0 = some r) :
  Calls Try.prog 43 #[.slice A0 l0.length c0] w fun e w' => ∃ v0_ : Value, e = .returned (v0_) ∧ Kd.R k74 74 w' w.heap.size (fun _ => True) v0_ r ∧ Below w.heap.size w w' := by
 have hu35 := Try.underlying35
 have HR0 := A_ hr0
 have HC0 := A_ hc0
 clear hr0 hc0
 have HB := A_ (Below.refl w.heap.size w)
 have H : (waterfall_parts.l0 k ([] : List (S74)) l0 (l0.length : Int) 0) = some r := h
 clear h
 have H' := A_ H
 clear H
 go_enter Try.func43, Try.ntmps43
 go_wp2
 (try simp only [Act.put, sA_, sZ_, sS_])
 go_loopg [3, 8] k (fun kq v3 v8 w' => ∃ (x3_1 : List (S74)) (x8_1 : Int), v8 = .int .i64 x8_1 ∧ Aside0 (waterfall_parts.l0 kq x3_1 l0 (l0.length : Int) x8_1 = some r) ∧ Aside0 (kq ≤ k) ∧ Aside0 (Kd.R k74 74 w' w.heap.size (fun _ => True) v3 x3_1) ∧ Aside0 (Below w.heap.size w w'))
 case atStart => exact ⟨(([] : List (S74))), (0), (by first | rfl | (simp; done) | (simp [*]; done)), H', ⟨Nat.le_refl _⟩, ⟨by first | exact Kd.R_nil _ _ _ _ _ | exact Kd.N_nil _ _ _ _ _ | exact Kd.V_nil _ _ _ _ _ | exact Kd.Q_nil _ _ _ _ _ | exact Kd.S_nil _ _ _ _ _⟩, ⟨bw_⟩⟩
 case round =>
  clear H'
  obtain ⟨x3_1, x8_1, rfl, HA, HK1, HO_3, HB⟩ := hrel
  cases gk with
  | zero => exact absurd HA.out (by simp [waterfall_parts.l0])
  | succ k1 =>
   have H := HA.out
   clear HA
   simp only [waterfall_parts.l0] at H
   by_cases c2 : x8_1 < (l0.length : Int)
   ·
    rw [if_pos c2] at H
    have c2b0 : decide (x8_1 < (l0.length : Int)) = true := decide_eq_true c2
    clear c2
    by_cases c3 : 0 ≤ x8_1
    ·
     rw [if_pos c3] at H
     have c3b0 : decide (0 ≤ x8_1) = true := decide_eq_true c3
     clear c3
     by_cases c4 : x8_1 < (l0.length : Int)
     ·
      rw [if_pos c4] at H
      have c4b0 : decide (x8_1 < (l0.length : Int)) = true := decide_eq_true c4
      clear c4
      by_cases c5 : x3_1.length + ((rd_T35 l0 x8_1).f1).length < 5864062014805
      ·
       rw [if_pos c5] at H
       have LMc5 := A_ c5
       clear c5
       obtain ⟨y255, hy255⟩ : ∃ y_ : List (S74), y_ = (x3_1 ++ ((rd_T35 l0 x8_1).f1)) := ⟨_, rfl⟩
       replace H : (waterfall_parts.l0 k1 y255 l0 (l0.length : Int) (wrap64 (x8_1 + 1))) = some r := by first | (rw [hy255]; with_reducible exact H) | (have H2_ := (Option.bind_some _ _).symm.trans H; rw [hy255]; with_reducible exact H2_) | (have H2_ := (Option.bind_some _ _).symm.trans H; with_reducible exact H2_) | with_reducible exact H | (rw [hy255]; exact H) | exact H
       have Ny255 := A_ hy255
       clear hy255
       have H' := A_ H
       clear H
       have p254 : 0 ≤ (x8_1 : Int) := od_ (by first | (with_reducible assumption) | assumption)
       have q254 : x8_1 < (l0.length : Int) := od_ (by first | (with_reducible assumption) | assumption)
       obtain ⟨ad254, A254_1, c254_1, e254, hx254_0, hx254_1, hl254_1, hi254_1⟩ := at_T35 HR0.out x8_1 p254 q254
       cases e254
       replace hx254_0 := (HB.out.cell (World.block_lt_of_cell? w _ hx254_0)).trans hx254_0
       replace hx254_1 := (HB.out.cell (World.block_lt_of_cell? w _ hx254_1)).trans hx254_1
       have HR254_1 := A_ hi254_1
       have HC254_1 := A_ hl254_1
       clear hi254_1 hl254_1
       replace p254 := eq_true p254
       replace q254 := eq_true q254
       go_wp2_with (first | ((with_reducible refine gate_dst (N := 5) rfl ?_); refine box_event ?hg (N := 5) ?hd (cs := #[.string (⟨#[]⟩ : ByteArray), .slice none 0 0]) (t := 35) ?hr ?_; (case hd => rfl); (case hg => rfl); (case hr => first | (go_simp; done) | (go_simp; rfl)); intro gb305 hg w6 hbox hb; have n0_ := A_ (Kd.R_below (by (with_reducible repeat (first | apply Kd.R_alloc | apply Kd.R_drewN | apply Kd.R_drew)); exact HO_3.out) hb); have n1_ := A_ (bs_ bw_ hb); have n2_ := A_ (hbox); have n3_ := A_ ((by rw [hg]; exact (bz_ bw_) : w.heap.size ≤ gb305)); have n4_ := A_ ((by rw [hg]; exact (bz_ bw_) : w.heap.size ≤ gb305)); clear HO_3; clear HB; have HO_3 := n0_; have HB := n1_; have BK305 := n2_; have GW305 := n3_; have GE305 := n4_; clear n0_ n1_ n2_ n3_ n4_; clear hb hbox hg; have hcz7_0 : w6.cell? ⟨gb305, 0, none⟩ = some (.string (⟨#[]⟩ : ByteArray)) := (bc_ BK305.out 0).trans rfl; have hcz7_1 : w6.cell? ⟨gb305, 1, none⟩ = some (.slice none 0 0) := (bc_ BK305.out 1).trans rfl; have hfz7_0 := bf_ BK305.out 0; have hfz7_1 := bf_ BK305.out 1) | ((with_reducible refine gate_builtin (b := .append) (xs := #[.tmp 12, .tmp 14]) rfl ?_); at_builtin; refine Kd.R_append_rows k74 (w0 := w) w.heap.size rfl (.tmp 12) (.tmp 14) 33 74 (.agg #[(.string ⟨#[]⟩), (.int .i64 0)]) 24 rfl Try.underlying33 info74 rfl (by decide) (by omega) u3 x3_1 ((rd_T35 l0 x8_1).f1) _ _ _ (fun _ => True) (fun _ => False) rfl rfl ?aO ?aR (fun _ _ h => h) (fun _ h => h.elim) ?aF ?aB ?aS ?aL ?_; (case aR => exact cb_ HR254_1.out bw_); (case aB => exact bw_); (case aF => exact (fun _ _ => trivial)); (case aO => exact (by (with_reducible repeat (first | apply Kd.R_alloc | apply Kd.R_drewN | apply Kd.R_drew)); exact Kd.R_mono (Kd.R_far (p := ⟨gb305, 1, none⟩) (Kd.R_far (p := ⟨gb305, 0, none⟩) (Kd.R_types HO_3.out BK305.out (by decide)) (fun _ hk => hk.2) (.string ((rd_T35 l0 x8_1).f0))) (fun _ hk => hk.2) (.slice A254_1 ((rd_T35 l0 x8_1).f1).length c254_1)) (fun _ hk => trivial))); (case aS => exact (bz_ bw_)); (case aL => have := LMc5.out; omega); intro v256 w8 ho hb hg hat; rw [← Ny255.out] at ho; have n0_ := A_ (blk_grown (g := gb305) (o := .cells #[.string ((rd_T35 l0 x8_1).f0), .slice A254_1 ((rd_T35 l0 x8_1).f1).length c254_1] 35 (0, 0)) (by (with_reducible repeat (first | refine bn_ ?_ _ | refine bd_ ?_ | refine ba_ ?_ _)); refine bp_ (cs := #[.string ((rd_T35 l0 x8_1).f0), .slice none 0 0]) ?_ 1 _ rfl; (with_reducible repeat (first | refine bn_ ?_ _ | refine bd_ ?_ | refine ba_ ?_ _)); refine bp_ (cs := #[.string (⟨#[]⟩ : ByteArray), .slice none 0 0]) ?_ 0 _ rfl; (with_reducible repeat (first | refine bn_ ?_ _ | refine bd_ ?_ | refine ba_ ?_ _)); exact BK305.out) hg (Kd.R_ne HO_3.out BK305.out (by decide))); have n1_ := A_ (hb); have n2_ := A_ (ho); clear BK305; clear HB; clear HO_3; have BK305 := n0_; have HB := n1_; have HO257 := n2_; clear n0_ n1_ n2_; clear ho hb hg hat))
       go_roundg k1
       case measure => have := HK1.out; omega
       case rel => exact ⟨(y255), (wrap64 (x8_1 + 1)), (by first | rfl | (simp; done) | (simp [*]; done)), H', ⟨by have := HK1.out; omega⟩, ⟨by (with_reducible repeat (first | apply Kd.R_alloc | apply Kd.R_drewN | apply Kd.R_drew)); exact HO257.out⟩, ⟨bw_⟩⟩
      ·
       rw [if_neg c5] at H
       exact absurd H (by simp)
     ·
      rw [if_neg c4] at H
      exact absurd H (by simp)
    ·
     rw [if_neg c3] at H
     exact absurd H (by simp)
   ·
    rw [if_neg c2] at H
    have c2b0 : decide (x8_1 < (l0.length : Int)) = false := decide_eq_false c2
    clear c2
    obtain rfl := Option.some.inj H
    go_wp2
    go_ret
    exact ⟨_, by first | rfl | (simp [errW_none, errW_some] <;> rfl) | (simp [*, errW_none, errW_some] <;> rfl), by (with_reducible repeat (first | apply Kd.R_alloc | apply Kd.R_drewN | apply Kd.R_drew)); exact HO_3.out, bw_⟩
end Go.Proofs.Ytfbkgfffalppmaa.Wf
end
section
namespace Go.Proofs.Ytfbkgfffalppmaa.Wf
open Go.RowKit Go.Proofs.YtfbkgfffalppmaaW.PrintWords Go.Proofs.YtfbkgfffalppmaaW.PrintLast Go.Proofs.YtfbkgfffalppmaaW.PrintMore
attribute [local go_sem] max2_int min2_int max_two min_two max_three min_three max_four min_four   -- for this text's walks alone
set_option linter.unusedVariables false
set_option linter.unusedSimpArgs false
attribute [local go_sem] run_add64_any
def waterfall_Check.g (k : Nat) (l0 : List S35) (all : List S74) (b1 b2 b3 b4 b5 : Bool) : Option Int := if b5 = true then some 1 else if (b1 || b2) = true then some 6 else if (b3 || b4) = true then some 2 else (waterfall_room.f k all).bind fun x => some x.2
def waterfall_Check.f (k : Nat) (l0 : List S35) : Option Int := (waterfall_parts.f k l0).bind fun all => waterfall_Check.g k l0 all (waterfall_below.tw_layer l0) (l0.any (fun x => waterfall_below.tw_part x.f1)) (decide ((64 : Int) < (l0.length : Int))) (l0.any (fun x => decide (64 < (x.f1.length : Int)))) (all.any (fun x => decide (x.f1 < 0)))
theorem waterfall_Check.mono : ∀ l0 k, LeO (waterfall_Check.f k l0) (waterfall_Check.f (k + 1) l0) := by
 intro l0 k
 unfold waterfall_Check.f waterfall_Check.g
 repeat' first
 | (with_reducible exact waterfall_parts.mono _ _)
 | (with_reducible exact waterfall_room.mono _ _)
 | (with_reducible exact LeO.refl _)
 | (with_reducible refine LeO.bind ?_ (fun _ => ?_))
 | (with_reducible refine LeO.ite ?_ ?_)
set_option maxRecDepth 20000 in
set_option maxHeartbeats 8000000 in
theorem waterfall_Check.calls (k : Nat) (A0 : Option Addr) (c0 : Nat) (l0 : List S35) (r : Int) (w : World) (hr0 : Kd.C k35 w A0 l0.length l0) (hc0 : l0.length ≤ c0) (h : waterfall_Check.f k l0 = some r) :
  Calls Try.prog 21 #[.slice A0 l0.length c0] w fun e w' => e = .returned (.int .i64 r) ∧ Below w.heap.size w w' := by
 unfold waterfall_Check.f at h
 replace h := os_ h
 obtain ⟨all, hp, h⟩ := h
 obtain ⟨b1, h1⟩ : ∃ b, waterfall_below.tw_layer l0 = b := ⟨_, rfl⟩
 obtain ⟨b2, h2⟩ : ∃ b, l0.any (fun x => waterfall_below.tw_part x.f1) = b := ⟨_, rfl⟩
 obtain ⟨b3, h3⟩ : ∃ b, decide ((64 : Int) < (l0.length : Int)) = b := ⟨_, rfl⟩
 obtain ⟨b4, h4⟩ : ∃ b, l0.any (fun x => decide (64 < (x.f1.length : Int))) = b := ⟨_, rfl⟩
 obtain ⟨b5, h5⟩ : ∃ b, all.any (fun x => decide (x.f1 < 0)) = b := ⟨_, rfl⟩
 rw [h1, h2, h3, h4, h5] at h
 unfold waterfall_Check.g at h
 have H := A_ h
 have HP := A_ hp
 have HR := A_ hr0
 replace h1 := A_ h1
 replace h2 := A_ h2
 replace h3 := A_ h3
 replace h4 := A_ h4
 replace h5 := A_ h5
 clear h hp hr0
 go_enter Try.func21, Try.ntmps21
 go_wp2_with fail
 refine (waterfall_parts.calls _ A0 c0 l0 all _ HR.out hc0 HP.out).mono ?_
 rintro e w1 ⟨v, rfl, hv, hb⟩
 obtain ⟨Aa, ca, rfl, hca, hC⟩ := Kd.R_reads hv
 have HA := A_ hC
 have HBx := A_ hb
 clear hv hC hb
 have HB := A_ (Below.refl w1.heap.size w1)
 go_wp2_with fail
 refine (waterfall_below.twice_layer A0 c0 l0 _ (cb_ HR.out HBx.out) hc0).mono ?_
 rintro e w2 ⟨rfl, hb⟩
 replace HB := A_ (bs_ HB.out hb)
 clear hb
 rw [h1.out]
 cases b1
 ·
  go_wp2_with fail
  refine (waterfall_below.names_any A0 c0 l0 _ (cb_ HR.out (HBx.out.trans (HB.out.mono HBx.out.size))) hc0).mono ?_
  rintro e w3 ⟨rfl, hb⟩
  replace HB := A_ (bs_ HB.out hb)
  clear hb
  rw [h2.out]
  by_cases h64 : 64 < l0.length
  ·
   have e64 : decide ((64 : Int) < (l0.length : Int)) = true := by simp; omega
   rw [show b3 = true from by rw [← h3.out]; exact e64] at H
   go_wp2_with fail
   refine (waterfall_below.below_any Aa ca all _ (cb_ HA.out HB.out) hca).mono ?_
   rintro e w5 ⟨rfl, hb⟩
   have HB5 := A_ (bs_ HB.out hb)
   clear hb HB
   rw [h5.out]
   cases b5
   ·
    have H2 := H.out; rw [if_neg (by simp)] at H2
    cases b2
    ·
     rw [if_neg (by simp)] at H2
     rw [if_pos (by simp)] at H2
     obtain rfl := Option.some.inj H2
     clear H2
     go_wp2
     go_ret
     exact ⟨rfl, HBx.out.trans (HB5.out.mono HBx.out.size)⟩
    ·
     rw [if_pos (by simp)] at H2
     obtain rfl := Option.some.inj H2
     clear H2
     go_wp2
     go_ret
     exact ⟨rfl, HBx.out.trans (HB5.out.mono HBx.out.size)⟩
   ·
    have H2 := H.out; rw [if_pos rfl] at H2
    obtain rfl := Option.some.inj H2
    clear H2
    go_wp2
    go_ret
    exact ⟨rfl, HBx.out.trans (HB5.out.mono HBx.out.size)⟩
  ·
   have e64 : decide ((64 : Int) < (l0.length : Int)) = false := by simp; omega
   rw [show b3 = false from by rw [← h3.out]; exact e64] at H
   go_wp2_with fail
   refine (waterfall_below.longs_any A0 c0 l0 _ (cb_ HR.out (HBx.out.trans (HB.out.mono HBx.out.size))) hc0).mono ?_
   rintro e w4 ⟨rfl, hb⟩
   have HB := A_ (bs_ HB.out hb)
   clear hb
   rw [h4.out]
   go_wp2_with fail
   refine (waterfall_below.below_any Aa ca all _ (cb_ HA.out HB.out) hca).mono ?_
   rintro e w5 ⟨rfl, hb⟩
   have HB5 := A_ (bs_ HB.out hb)
   clear hb HB
   rw [h5.out]
   cases b5
   ·
    have H2 := H.out; rw [if_neg (by simp)] at H2
    cases b2
    ·
     rw [if_neg (by simp)] at H2
     cases b4
     ·
      rw [if_neg (by simp)] at H2
      obtain ⟨⟨r1, r2⟩, hrm, hre⟩ := os_ H2
      obtain rfl := Option.some.inj hre
      have HM := A_ hrm
      clear hrm hre H2
      go_wp2_with fail
      refine (waterfall_room.calls _ Aa ca all r1 r2 _ (cb_ HA.out HB5.out) hca HM.out).mono ?_
      rintro e w6 ⟨rfl, hb⟩
      have HB6 := A_ (bs_ HB5.out hb)
      clear hb
      go_wp2
      go_ret
      exact ⟨rfl, HBx.out.trans (HB6.out.mono HBx.out.size)⟩
     ·
      rw [if_pos (by simp)] at H2
      obtain rfl := Option.some.inj H2
      clear H2
      go_wp2
      go_ret
      exact ⟨rfl, HBx.out.trans (HB5.out.mono HBx.out.size)⟩
    ·
     rw [if_pos (by simp)] at H2
     obtain rfl := Option.some.inj H2
     clear H2
     go_wp2
     go_ret
     exact ⟨rfl, HBx.out.trans (HB5.out.mono HBx.out.size)⟩
   ·
    have H2 := H.out; rw [if_pos rfl] at H2
    obtain rfl := Option.some.inj H2
    clear H2
    go_wp2
    go_ret
    exact ⟨rfl, HBx.out.trans (HB5.out.mono HBx.out.size)⟩
 ·
  skip
  by_cases h64 : 64 < l0.length
  ·
   have e64 : decide ((64 : Int) < (l0.length : Int)) = true := by simp; omega
   rw [show b3 = true from by rw [← h3.out]; exact e64] at H
   go_wp2_with fail
   refine (waterfall_below.below_any Aa ca all _ (cb_ HA.out HB.out) hca).mono ?_
   rintro e w5 ⟨rfl, hb⟩
   have HB5 := A_ (bs_ HB.out hb)
   clear hb HB
   rw [h5.out]
   cases b5
   ·
    have H2 := H.out; rw [if_neg (by simp)] at H2
    rw [if_pos (by simp)] at H2
    obtain rfl := Option.some.inj H2
    clear H2
    go_wp2
    go_ret
    exact ⟨rfl, HBx.out.trans (HB5.out.mono HBx.out.size)⟩
   ·
    have H2 := H.out; rw [if_pos rfl] at H2
    obtain rfl := Option.some.inj H2
    clear H2
    go_wp2
    go_ret
    exact ⟨rfl, HBx.out.trans (HB5.out.mono HBx.out.size)⟩
  ·
   have e64 : decide ((64 : Int) < (l0.length : Int)) = false := by simp; omega
   rw [show b3 = false from by rw [← h3.out]; exact e64] at H
   go_wp2_with fail
   refine (waterfall_below.longs_any A0 c0 l0 _ (cb_ HR.out (HBx.out.trans (HB.out.mono HBx.out.size))) hc0).mono ?_
   rintro e w4 ⟨rfl, hb⟩
   have HB := A_ (bs_ HB.out hb)
   clear hb
   rw [h4.out]
   go_wp2_with fail
   refine (waterfall_below.below_any Aa ca all _ (cb_ HA.out HB.out) hca).mono ?_
   rintro e w5 ⟨rfl, hb⟩
   have HB5 := A_ (bs_ HB.out hb)
   clear hb HB
   rw [h5.out]
   cases b5
   ·
    have H2 := H.out; rw [if_neg (by simp)] at H2
    rw [if_pos (by simp)] at H2
    obtain rfl := Option.some.inj H2
    clear H2
    go_wp2
    go_ret
    exact ⟨rfl, HBx.out.trans (HB5.out.mono HBx.out.size)⟩
   ·
    have H2 := H.out; rw [if_pos rfl] at H2
    obtain rfl := Option.some.inj H2
    clear H2
    go_wp2
    go_ret
    exact ⟨rfl, HBx.out.trans (HB5.out.mono HBx.out.size)⟩
end Go.Proofs.Ytfbkgfffalppmaa.Wf
end
section
namespace Go.Proofs.Ytfbkgfffalppmaa.Wf
open Go.RowKit Go.Proofs.YtfbkgfffalppmaaW.PrintWords Go.Proofs.YtfbkgfffalppmaaW.PrintLast Go.Proofs.YtfbkgfffalppmaaW.PrintMore
attribute [local go_sem] max2_int min2_int max_two min_two max_three min_three max_four min_four   -- for this text's walks alone
set_option linter.unusedVariables false
set_option linter.unusedSimpArgs false
attribute [local go_sem] run_add64_any
mutual
def waterfall_Run.l0 : Nat → Int → List (S52) → List (S35) → Int → Int → Option ((List (S52)) × Int × Int)
 | 0, _, _, _, _, _ => none
 | k + 1, x0, x8, x25, x26, x27 => if x27 < x26 then (if 0 ≤ x27 then (if x27 < (x25.length : Int) then ((waterfall_room.f k ((rd_T35 x25 x27).f1)).bind fun bt260 => ((waterfall_Split.f k (mn x0 bt260.1) ((rd_T35 x25 x27).f1)).bind fun bt262 => (if bt262.2 = 0 then (waterfall_Run.l1 k x0 x8 (mn x0 bt260.1) x25 x26 x27 bt262.1 (bt262.1.length : Int) 0 ((rd_T35 x25 x27).f0) ((rd_T35 x25 x27).f1)) else (some (([] : List (S52)), 0, bt262.2))))) else (none)) else (none)) else (some (x8, x0, 0))
def waterfall_Run.l1 : Nat → Int → List (S52) → Int → List (S35) → Int → Int → List Int → Int → Int → ByteArray → List (S74) → Option ((List (S52)) × Int × Int)
 | 0, _, _, _, _, _, _, _, _, _, _, _ => none
 | k + 1, x0, x8, x13, x25, x26, x27, x50, x51, x52, x311000, x311001 => if x52 < x51 then (if 0 ≤ x52 then (if x52 < (x50.length : Int) then (if (rd x50 x52) > 0 then (if x52 < (x311001.length : Int) then (if x8.length < 3518437208883 then (waterfall_Run.l1 k x0 (x8 ++ [(⟨x311000, (rd_T74 x311001 x52).f0, rd x50 x52⟩ : S52)]) x13 x25 x26 x27 x50 x51 (wrap64 (x52 + 1)) x311000 x311001) else (none)) else (none)) else (waterfall_Run.l1 k x0 x8 x13 x25 x26 x27 x50 x51 (wrap64 (x52 + 1)) x311000 x311001)) else (none)) else (none)) else (waterfall_Run.l0 k (wrap64 (x0 - x13)) x8 x25 x26 (wrap64 (x27 + 1)))
end
def waterfall_Run.f (k : Nat) (a0 : Int) (l1 : List (S35)) : Option ((List (S52)) × Int × Int) := (waterfall_Check.f k l1).bind fun t258 => (if t258 = 0 then (if a0 < 0 then (some (([] : List (S52)), 0, 1)) else (waterfall_Run.l0 k a0 ([] : List (S52)) l1 (l1.length : Int) 0)) else (some (([] : List (S52)), 0, t258)))
theorem waterfall_Run.mono_l : ∀ k, (∀ y0 y1 y2 y3 y4, LeO (waterfall_Run.l0 k y0 y1 y2 y3 y4) (waterfall_Run.l0 (k + 1) y0 y1 y2 y3 y4)) ∧ (∀ y0 y1 y2 y3 y4 y5 y6 y7 y8 y9 y10, LeO (waterfall_Run.l1 k y0 y1 y2 y3 y4 y5 y6 y7 y8 y9 y10) (waterfall_Run.l1 (k + 1) y0 y1 y2 y3 y4 y5 y6 y7 y8 y9 y10))
 | 0 => ⟨fun _ _ _ _ _ r h => by simp [waterfall_Run.l0] at h, fun _ _ _ _ _ _ _ _ _ _ _ r h => by simp [waterfall_Run.l1] at h⟩
 | k + 1 => by
  obtain ⟨ih0, ih1⟩ := waterfall_Run.mono_l k
  refine ⟨?_, ?_⟩
  ·
   intro y0 y1 y2 y3 y4
   unfold waterfall_Run.l0
   repeat' first
   | (with_reducible exact ih0 _ _ _ _ _)
   | (with_reducible exact ih1 _ _ _ _ _ _ _ _ _ _ _)
   | (with_reducible exact waterfall_Check.mono _ _)
   | (with_reducible exact waterfall_Split.mono _ _ _)
   | (with_reducible exact waterfall_room.mono _ _)
   | (with_reducible exact LeO.refl _)
   | (with_reducible exact LeO.none _)
   | (with_reducible refine LeO.ite ?_ ?_)
   | (with_reducible refine LeO.bind ?_ (fun _ => ?_))
   | exact ih0 _ _ _ _ _
   | exact ih1 _ _ _ _ _ _ _ _ _ _ _
   | exact waterfall_Check.mono _ _
   | exact waterfall_Split.mono _ _ _
   | exact waterfall_room.mono _ _
   | exact LeO.none _
   | refine LeO.ite ?_ ?_
   | refine LeO.bind ?_ (fun _ => ?_)
  ·
   intro y0 y1 y2 y3 y4 y5 y6 y7 y8 y9 y10
   unfold waterfall_Run.l1
   repeat' first
   | (with_reducible exact ih0 _ _ _ _ _)
   | (with_reducible exact ih1 _ _ _ _ _ _ _ _ _ _ _)
   | (with_reducible exact waterfall_Check.mono _ _)
   | (with_reducible exact waterfall_Split.mono _ _ _)
   | (with_reducible exact waterfall_room.mono _ _)
   | (with_reducible exact LeO.refl _)
   | (with_reducible exact LeO.none _)
   | (with_reducible refine LeO.ite ?_ ?_)
   | (with_reducible refine LeO.bind ?_ (fun _ => ?_))
   | exact ih0 _ _ _ _ _
   | exact ih1 _ _ _ _ _ _ _ _ _ _ _
   | exact waterfall_Check.mono _ _
   | exact waterfall_Split.mono _ _ _
   | exact waterfall_room.mono _ _
   | exact LeO.none _
   | refine LeO.ite ?_ ?_
   | refine LeO.bind ?_ (fun _ => ?_)
theorem waterfall_Run.mono : ∀ a0 a1 k, LeO (waterfall_Run.f k a0 a1) (waterfall_Run.f (k + 1) a0 a1) := by
 intro a0 a1 k
 obtain ⟨ih0, ih1⟩ := waterfall_Run.mono_l k
 unfold waterfall_Run.f
 repeat' first
   | (with_reducible exact ih0 _ _ _ _ _)
   | (with_reducible exact ih1 _ _ _ _ _ _ _ _ _ _ _)
   | (with_reducible exact waterfall_Check.mono _ _)
   | (with_reducible exact waterfall_Split.mono _ _ _)
   | (with_reducible exact waterfall_room.mono _ _)
   | (with_reducible exact LeO.refl _)
   | (with_reducible exact LeO.none _)
   | (with_reducible refine LeO.ite ?_ ?_)
   | (with_reducible refine LeO.bind ?_ (fun _ => ?_))
   | exact ih0 _ _ _ _ _
   | exact ih1 _ _ _ _ _ _ _ _ _ _ _
   | exact waterfall_Check.mono _ _
   | exact waterfall_Split.mono _ _ _
   | exact waterfall_room.mono _ _
   | exact LeO.none _
   | refine LeO.ite ?_ ?_
   | refine LeO.bind ?_ (fun _ => ?_)
def waterfall_Run.T19 : Bool × List (List Nat × List Nat) := (true, [([], []), ([], []), ([1], [1]), ([], []), ([3], [3]), ([], []), ([4, 5], [4, 5]), ([6], [6]), ([7], [7]), ([], []), ([2, 8, 9], [2, 8, 9]), ([10], [10]), ([0, 11], [0, 11]), ([12, 12, 0, 1, 2, 3, 4, 5, 6, 7, 8, 9, 10, 11, 12], [0, 12])])
def waterfall_Run.B19 : List Nat := [0, 0, 2, 0, 8, 0, 56, 120, 248, 0, 1022, 2046, 4095, 8191]
theorem waterfall_Run.tab19 : rtab .any (opsOf Try.f17 19) = waterfall_Run.T19 := by kernel_rfl
theorem waterfall_Run.bits19 : waitsOk waterfall_Run.T19.2 waterfall_Run.B19 = true := by kernel_rfl
set_option maxHeartbeats 8000000 in
set_option maxRecDepth 100000 in
theorem waterfall_Run.calls (k : Nat) (a0 : Int) (A1 : Option Addr) (c1 : Nat) (l1 : List (S35)) (r1 : List (S52)) (r2 : Int) (r3 : Int) (w : World) (hr1 : Kd.C k35 w A1 l1.length l1) (hc1 : l1.length ≤ c1) (h : waterfall_Run.f k a0 l1 = some (r1, r2, r3)) :
  Calls Try.prog 17 #[.int .i64 a0, .slice A1 l1.length c1] w fun e w' => ∃ v0_ : Value, e = .returned (.tuple #[v0_, .int .i64 r2, .int .i64 r3]) ∧ Kd.R k52 52 w' w.heap.size (fun _ => True) v0_ r1 ∧ Below w.heap.size w w' := by
 have hu35 := Try.underlying35
 have hu52 := Try.underlying52
 have HR1 := A_ hr1
 have HC1 := A_ hc1
 clear hr1 hc1
 have HB := A_ (Below.refl w.heap.size w)
 have H : ((waterfall_Check.f k l1).bind fun t258 => (if t258 = 0 then (if a0 < 0 then (some (([] : List (S52)), 0, 1)) else (waterfall_Run.l0 k a0 ([] : List (S52)) l1 (l1.length : Int) 0)) else (some (([] : List (S52)), 0, t258)))) = some (r1, r2, r3) := h
 clear h
 replace H := os_ H
 obtain ⟨t258, A30, H⟩ := H
 replace H : (if t258 = 0 then (if a0 < 0 then (some (([] : List (S52)), 0, 1)) else (waterfall_Run.l0 k a0 ([] : List (S52)) l1 (l1.length : Int) 0)) else (some (([] : List (S52)), 0, t258))) = some (r1, r2, r3) := H
 have A3 := A_ A30
 clear A30
 by_cases c4 : t258 = 0
 ·
  rw [if_pos c4] at H
  have c4b0 : (t258 == 0) = true := q1_ c4
  have c4b1 : (t258 != 0) = false := q3_ c4
  clear c4
  by_cases c5 : a0 < 0
  ·
   rw [if_pos c5] at H
   have c5b0 : decide (a0 < 0) = true := decide_eq_true c5
   clear c5
   simp only [Option.some.injEq, Prod.mk.injEq] at H
   obtain ⟨rfl, rfl, rfl⟩ := H
   go_enter Try.func17, Try.ntmps17
   go_wp2_with (first | ((with_reducible refine gate_callee (f := 21) rfl ?_); refine goesL_ (some 19) rfl rfl Try.func21 (by kernel_rfl) rfl #[.slice A1 l1.length c1] rfl (by (try simp only [List.map_toArray, List.map_cons, List.map_nil]); first | done | rfl | (simp only [List.length_drop, List.length_take]; rfl)) ?_; (with_reducible refine (waterfall_Check.calls k _ _ l1 t258 _ ?side1 ?side2 A3.out).mono ?_); (case side1 => repeat (first | exact HR1.out | (with_reducible refine ca_ ?_ _) | (with_reducible refine cn_ ?_ _) | (with_reducible refine cd_ ?_))); (case side2 => exact HC1.out); rintro e w6 ⟨rfl, hb⟩; refine ⟨_, rfl, ?_⟩; have n0_ := A_ (bs_ bw_ hb); clear HB; have HB := n0_; clear n0_; (try clear hb); (try clear hb2); (try clear hk); (try clear hi)))
   go_ret3
   exact ⟨_, by first | rfl | (simp [errW_none, errW_some] <;> rfl) | (simp [*, errW_none, errW_some] <;> rfl), by first | exact Kd.R_nil _ _ _ _ _ | exact Kd.N_nil _ _ _ _ _ | exact Kd.V_nil _ _ _ _ _ | exact Kd.Q_nil _ _ _ _ _ | exact Kd.S_nil _ _ _ _ _, bw_⟩
  ·
   rw [if_neg c5] at H
   have c5b0 : decide (a0 < 0) = false := decide_eq_false c5
   clear c5
   have H' := A_ H
   clear H
   go_enter Try.func17, Try.ntmps17
   go_wp2_with (first | ((with_reducible refine gate_callee (f := 21) rfl ?_); refine goesL_ (some 19) rfl rfl Try.func21 (by kernel_rfl) rfl #[.slice A1 l1.length c1] rfl (by (try simp only [List.map_toArray, List.map_cons, List.map_nil]); first | done | rfl | (simp only [List.length_drop, List.length_take]; rfl)) ?_; (with_reducible refine (waterfall_Check.calls k _ _ l1 t258 _ ?side1 ?side2 A3.out).mono ?_); (case side1 => repeat (first | exact HR1.out | (with_reducible refine ca_ ?_ _) | (with_reducible refine cn_ ?_ _) | (with_reducible refine cd_ ?_))); (case side2 => exact HC1.out); rintro e w7 ⟨rfl, hb⟩; refine ⟨_, rfl, ?_⟩; have n0_ := A_ (bs_ bw_ hb); clear HB; have HB := n0_; clear n0_; (try clear hb); (try clear hb2); (try clear hk); (try clear hi)))
   (try simp only [Act.put, sA_, sZ_, sS_])
   go_loopg [0, 8, 27] k (fun kq v0 v8 v27 w' => ∃ (x0_1 : Int) (x8_1 : List (S52)) (x27_1 : Int), v0 = .int .i64 x0_1 ∧ v27 = .int .i64 x27_1 ∧ Aside0 (waterfall_Run.l0 kq x0_1 x8_1 l1 (l1.length : Int) x27_1 = some (r1, r2, r3)) ∧ Aside0 (kq ≤ k) ∧ Aside0 (Kd.R k52 52 w' w.heap.size (fun _ => True) v8 x8_1) ∧ Aside0 (Below w.heap.size w w'))
   case atStart => exact ⟨(a0), (([] : List (S52))), (0), (by first | rfl | (simp; done) | (simp [*]; done)), (by first | rfl | (simp; done) | (simp [*]; done)), H', ⟨Nat.le_refl _⟩, ⟨by first | exact Kd.R_nil _ _ _ _ _ | exact Kd.N_nil _ _ _ _ _ | exact Kd.V_nil _ _ _ _ _ | exact Kd.Q_nil _ _ _ _ _ | exact Kd.S_nil _ _ _ _ _⟩, ⟨bw_⟩⟩
   case round =>
    clear H'
    try clear c1
    try clear c2
    try clear p2
    try clear c4
    try clear c4b0
    try clear c4b1
    try clear c5
    try clear c5b0
    obtain ⟨x0_1, x8_1, x27_1, rfl, rfl, HA, HK1, HO_8, HB⟩ := hrel
    cases gk with
    | zero => exact absurd HA.out (by simp [waterfall_Run.l0])
    | succ k1 =>
     have H := HA.out
     clear HA
     simp only [waterfall_Run.l0] at H
     by_cases c8 : x27_1 < (l1.length : Int)
     ·
      rw [if_pos c8] at H
      have c8b0 : decide (x27_1 < (l1.length : Int)) = true := decide_eq_true c8
      clear c8
      by_cases c9 : 0 ≤ x27_1
      ·
       rw [if_pos c9] at H
       have c9b0 : decide (0 ≤ x27_1) = true := decide_eq_true c9
       clear c9
       by_cases c10 : x27_1 < (l1.length : Int)
       ·
        rw [if_pos c10] at H
        have c10b0 : decide (x27_1 < (l1.length : Int)) = true := decide_eq_true c10
        clear c10
        replace H := os_ H
        obtain ⟨⟨t260, t261⟩, A110, H⟩ := H
        replace H : ((waterfall_Split.f k1 (mn x0_1 t260) ((rd_T35 l1 x27_1).f1)).bind fun bt262 => (if bt262.2 = 0 then (waterfall_Run.l1 k1 x0_1 x8_1 (mn x0_1 t260) l1 (l1.length : Int) x27_1 bt262.1 (bt262.1.length : Int) 0 ((rd_T35 l1 x27_1).f0) ((rd_T35 l1 x27_1).f1)) else (some (([] : List (S52)), 0, bt262.2)))) = some (r1, r2, r3) := H
        have A11 := A_ A110
        clear A110
        obtain ⟨ji12, hji12⟩ : ∃ j_ : Int, (mn x0_1 t260) = j_ := ⟨_, rfl⟩
        replace H : ((waterfall_Split.f k1 (ji12) ((rd_T35 l1 x27_1).f1)).bind fun bt262 => (if bt262.2 = 0 then (waterfall_Run.l1 k1 x0_1 x8_1 ji12 l1 (l1.length : Int) x27_1 bt262.1 (bt262.1.length : Int) 0 ((rd_T35 l1 x27_1).f0) ((rd_T35 l1 x27_1).f1)) else (some (([] : List (S52)), 0, bt262.2)))) = some (r1, r2, r3) := by first | (rw [hji12] at H; exact H) | (simp only [hji12] at H ⊢; exact H)
        (try rw [hji12] at A11)
        have hji12_ : (if t260 < x0_1 then t260 else x0_1) = ji12 := hji12
        replace H := os_ H
        obtain ⟨⟨t262, t263⟩, A130, H⟩ := H
        replace H : (if t263 = 0 then (waterfall_Run.l1 k1 x0_1 x8_1 ji12 l1 (l1.length : Int) x27_1 t262 (t262.length : Int) 0 ((rd_T35 l1 x27_1).f0) ((rd_T35 l1 x27_1).f1)) else (some (([] : List (S52)), 0, t263))) = some (r1, r2, r3) := H
        have A13 := A_ A130
        clear A130
        by_cases c14 : t263 = 0
        ·
         rw [if_pos c14] at H
         have c14b0 : (t263 == 0) = true := q1_ c14
         have c14b1 : (t263 != 0) = false := q3_ c14
         clear c14
         have H' := A_ H
         clear H
         have p259 : 0 ≤ (x27_1 : Int) := od_ (by first | (with_reducible assumption) | assumption)
         have q259 : x27_1 < (l1.length : Int) := od_ (by first | (with_reducible assumption) | assumption)
         obtain ⟨ad259, A259_1, c259_1, e259, hx259_0, hx259_1, hl259_1, hi259_1⟩ := at_T35 HR1.out x27_1 p259 q259
         cases e259
         replace hx259_0 := (HB.out.cell (World.block_lt_of_cell? w _ hx259_0)).trans hx259_0
         replace hx259_1 := (HB.out.cell (World.block_lt_of_cell? w _ hx259_1)).trans hx259_1
         have HR259_1 := A_ hi259_1
         have HC259_1 := A_ hl259_1
         clear hi259_1 hl259_1
         replace p259 := eq_true p259
         replace q259 := eq_true q259
         go_wp2_with (first | ((with_reducible refine gate_dst (N := 10) rfl ?_); refine box_event ?hg (N := 10) ?hd (cs := #[.string (⟨#[]⟩ : ByteArray), .slice none 0 0]) (t := 35) ?hr ?_; (case hd => rfl); (case hg => rfl); (case hr => first | (go_simp; done) | (go_simp; rfl)); intro gb310 hg w15 hbox hb; have n0_ := A_ (Kd.R_below (by (with_reducible repeat (first | apply Kd.R_alloc | apply Kd.R_drewN | apply Kd.R_drew)); exact HO_8.out) hb); have n1_ := A_ (bs_ bw_ hb); have n2_ := A_ (hbox); have n3_ := A_ ((by rw [hg]; exact (bz_ bw_) : w.heap.size ≤ gb310)); have n4_ := A_ ((by rw [hg]; exact (bz_ bw_) : w.heap.size ≤ gb310)); clear HO_8; clear HB; have HO_8 := n0_; have HB := n1_; have BK310 := n2_; have GW310 := n3_; have GE310 := n4_; clear n0_ n1_ n2_ n3_ n4_; clear hb hbox hg; have hcz16_0 : w15.cell? ⟨gb310, 0, none⟩ = some (.string (⟨#[]⟩ : ByteArray)) := (bc_ BK310.out 0).trans rfl; have hcz16_1 : w15.cell? ⟨gb310, 1, none⟩ = some (.slice none 0 0) := (bc_ BK310.out 1).trans rfl; have hfz16_0 := bf_ BK310.out 0; have hfz16_1 := bf_ BK310.out 1) | ((with_reducible refine gate_callee (f := 33) rfl ?_); refine goesL_ (some 34) rfl rfl Try.func33 (by kernel_rfl) rfl #[.slice A259_1 ((rd_T35 l1 x27_1).f1).length c259_1] rfl (by (try simp only [List.map_toArray, List.map_cons, List.map_nil]); first | done | rfl | (simp only [List.length_drop, List.length_take]; rfl)) ?_; (with_reducible refine (waterfall_room.calls k1 _ _ ((rd_T35 l1 x27_1).f1) t260 t261 _ ?side1 ?side2 A11.out).mono ?_); (case side1 => exact cb_ HR259_1.out bw_); (case side2 => exact HC259_1.out); rintro e w17 ⟨rfl, hb⟩; refine ⟨_, rfl, ?_⟩; have n0_ := A_ (Kd.R_below (by (with_reducible repeat (first | apply Kd.R_alloc | apply Kd.R_drewN | apply Kd.R_drew)); exact (Kd.R_mono (Kd.R_far (p := ⟨gb310, 1, none⟩) (Kd.R_far (p := ⟨gb310, 0, none⟩) (Kd.R_types HO_8.out BK310.out (by decide)) (fun _ hk => hk.2) (.string ((rd_T35 l1 x27_1).f0))) (fun _ hk => hk.2) (.slice A259_1 ((rd_T35 l1 x27_1).f1).length c259_1)) (fun _ h_ => h_.1))) hb); have n1_ := A_ (blk_below (g := gb310) (o := .cells #[.string ((rd_T35 l1 x27_1).f0), .slice A259_1 ((rd_T35 l1 x27_1).f1).length c259_1] 35 (0, 0)) (by (with_reducible repeat (first | refine bn_ ?_ _ | refine bd_ ?_ | refine ba_ ?_ _)); refine bp_ (cs := #[.string ((rd_T35 l1 x27_1).f0), .slice none 0 0]) ?_ 1 _ rfl; (with_reducible repeat (first | refine bn_ ?_ _ | refine bd_ ?_ | refine ba_ ?_ _)); refine bp_ (cs := #[.string (⟨#[]⟩ : ByteArray), .slice none 0 0]) ?_ 0 _ rfl; (with_reducible repeat (first | refine bn_ ?_ _ | refine bd_ ?_ | refine ba_ ?_ _)); exact BK310.out) hb); have n2_ := A_ (bs_ bw_ hb); clear HO_8; clear BK310; clear HB; have HO_8 := n0_; have BK310 := n1_; have HB := n2_; clear n0_ n1_ n2_; (try clear hb); (try clear hb2); (try clear hk); (try clear hi); have hcz18_0 : w17.cell? ⟨gb310, 0, none⟩ = some (.string ((rd_T35 l1 x27_1).f0)) := (bc_ BK310.out 0).trans rfl; have hcz18_1 : w17.cell? ⟨gb310, 1, none⟩ = some (.slice A259_1 ((rd_T35 l1 x27_1).f1).length c259_1) := (bc_ BK310.out 1).trans rfl; have hfz18_0 := bf_ BK310.out 0; have hfz18_1 := bf_ BK310.out 1) | ((with_reducible refine gate_callee (f := 10) rfl ?_); refine goesL_ (some 44) rfl rfl Try.func10 (by kernel_rfl) rfl #[.int .i64 ji12, .slice A259_1 ((rd_T35 l1 x27_1).f1).length c259_1] rfl (by (try simp only [List.map_toArray, List.map_cons, List.map_nil]); first | done | (simp only [hji12]; rfl) | rfl | (simp only [List.length_drop, List.length_take]; rfl)) ?_; (with_reducible refine (waterfall_Split.calls k1 ji12 _ _ ((rd_T35 l1 x27_1).f1) t262 t263 _ ?side1 ?side2 A13.out).mono ?_); (case side1 => repeat (first | exact (cb_ HR259_1.out HB.out) | (with_reducible refine ca_ ?_ _) | (with_reducible refine cn_ ?_ _) | (with_reducible refine cd_ ?_))); (case side2 => exact HC259_1.out); rintro e w19 ⟨v264, rfl, ho0, hb⟩; refine ⟨_, rfl, ?_⟩; have n0_ := A_ (Kd.R_below (by (with_reducible repeat (first | apply Kd.R_alloc | apply Kd.R_drewN | apply Kd.R_drew)); exact HO_8.out) hb); have n1_ := A_ (Kd.R_lower ho0 (bz_ bw_)); have n2_ := A_ (kb_ BK310 hb); have n3_ := A_ (bs_ bw_ hb); clear HO_8; clear BK310; clear HB; have HO_8 := n0_; have HO265 := n1_; have BK310 := n2_; have HB := n3_; clear n0_ n1_ n2_ n3_; (try clear hb); (try clear hb2); (try clear hk); (try clear hi); (try clear ho0); obtain ⟨Ao20, co20, eo20⟩ := Kd.R_slice HO265.out; subst eo20))
         (try simp only [Act.put, sA_, sZ_, sS_])
         go_loopg [8, 52] k1 (fun kq v8 v52 w' => ∃ (x8_2 : List (S52)) (x52_2 : Int), v52 = .int .i64 x52_2 ∧ Aside0 (waterfall_Run.l1 kq x0_1 x8_2 ji12 l1 (l1.length : Int) x27_1 t262 (t262.length : Int) x52_2 ((rd_T35 l1 x27_1).f0) ((rd_T35 l1 x27_1).f1) = some (r1, r2, r3)) ∧ Aside0 (kq ≤ k1) ∧ Aside0 (Kd.R k52 52 w' w.heap.size (fun _ => True) v8 x8_2) ∧ Aside0 (Kd.R (Kd.int .i64) 2 w' w.heap.size (fun _ => True) (.slice Ao20 t262.length co20) t262) ∧ Aside0 (w'.heap[gb310]? = some (.cells #[.string ((rd_T35 l1 x27_1).f0), (.slice A259_1 ((rd_T35 l1 x27_1).f1).length c259_1)] 35 (0, 0))) ∧ Aside0 (Below w.heap.size w w'))
         case atStart => exact ⟨(x8_1), (0), (by first | rfl | (simp; done) | (simp [*]; done)), H', ⟨Nat.le_refl _⟩, ⟨by (with_reducible repeat (first | apply Kd.R_alloc | apply Kd.R_drewN | apply Kd.R_drew)); exact HO_8.out⟩, ⟨by (with_reducible repeat (first | apply Kd.R_alloc | apply Kd.R_drewN | apply Kd.R_drew)); exact HO265.out⟩, ⟨bk_⟩, ⟨bw_⟩⟩
         case round =>
          clear H'
          try clear c1
          try clear c2
          try clear p2
          try clear q2
          try clear hx2
          try clear c3
          try clear c4
          try clear c4b0
          try clear c4b1
          try clear c5
          try clear c5b0
          try clear c8
          try clear c8b0
          try clear c9
          try clear c9b0
          try clear c10
          try clear c10b0
          try clear c14
          try clear c14b0
          try clear c14b1
          try clear c17
          try clear hcz16_0
          try clear hcz16_1
          try clear hcz18_0
          try clear hcz18_1
          try clear hfz16_0
          try clear hfz16_1
          try clear hfz18_0
          try clear hfz18_1
          try clear hx259_0
          try clear hx259_1
          try clear p2
          try clear p259
          try clear q259
          obtain ⟨x8_2, x52_2, rfl, HA, HK2, HO_8, HO_50, BK310, HB⟩ := hrel
          cases gk with
          | zero => exact absurd HA.out (by simp [waterfall_Run.l1])
          | succ k2 =>
           have H := HA.out
           clear HA
           simp only [waterfall_Run.l1] at H
           by_cases c21 : x52_2 < (t262.length : Int)
           ·
            rw [if_pos c21] at H
            have c21b0 : decide (x52_2 < (t262.length : Int)) = true := decide_eq_true c21
            clear c21
            by_cases c22 : 0 ≤ x52_2
            ·
             rw [if_pos c22] at H
             have c22b0 : decide (0 ≤ x52_2) = true := decide_eq_true c22
             clear c22
             by_cases c23 : x52_2 < (t262.length : Int)
             ·
              rw [if_pos c23] at H
              have c23b0 : decide (x52_2 < (t262.length : Int)) = true := decide_eq_true c23
              clear c23
              by_cases c24 : (rd t262 x52_2) > 0
              ·
               rw [if_pos c24] at H
               have c24b0 : decide (0 < (rd t262 x52_2)) = true := decide_eq_true c24
               clear c24
               by_cases c25 : x52_2 < (((rd_T35 l1 x27_1).f1).length : Int)
               ·
                rw [if_pos c25] at H
                have c25b0 : decide (x52_2 < (((rd_T35 l1 x27_1).f1).length : Int)) = true := decide_eq_true c25
                clear c25
                by_cases c26 : x8_2.length < 3518437208883
                ·
                 rw [if_pos c26] at H
                 have LMc26 := A_ c26
                 clear c26
                 obtain ⟨y268, hy268⟩ : ∃ y_ : List (S52), y_ = (x8_2 ++ [(⟨((rd_T35 l1 x27_1).f0), (rd_T74 ((rd_T35 l1 x27_1).f1) x52_2).f0, rd t262 x52_2⟩ : S52)]) := ⟨_, rfl⟩
                 replace H : (waterfall_Run.l1 k2 x0_1 y268 ji12 l1 (l1.length : Int) x27_1 t262 (t262.length : Int) (wrap64 (x52_2 + 1)) ((rd_T35 l1 x27_1).f0) ((rd_T35 l1 x27_1).f1)) = some (r1, r2, r3) := by first | (rw [hy268]; with_reducible exact H) | (have H2_ := (Option.bind_some _ _).symm.trans H; rw [hy268]; with_reducible exact H2_) | (have H2_ := (Option.bind_some _ _).symm.trans H; with_reducible exact H2_) | with_reducible exact H | (rw [hy268]; exact H) | exact H
                 have Ny268 := A_ hy268
                 clear hy268
                 have H' := A_ H
                 clear H
                 have p266 : 0 ≤ (x52_2 : Int) := od_ (by first | (with_reducible assumption) | assumption)
                 have q266 : x52_2 < (t262.length : Int) := od_ (by first | (with_reducible assumption) | assumption)
                 obtain ⟨ad266, e266, hx266_0⟩ := Kd.at_int (Kd.R_reads' HO_50.out).2.2 x52_2 p266 q266
                 cases e266
                 replace p266 := eq_true p266
                 replace q266 := eq_true q266
                 try go_wp2
                 have n0_ := A_ (Kd.R_drew HO_8.out)
                 have n1_ := A_ (Kd.R_drew HO_50.out)
                 have n2_ := A_ (bd_ BK310.out)
                 have n3_ := A_ (b1_ HB.out)
                 clear HO_8
                 clear HO_50
                 clear BK310
                 clear HB
                 have HO_8 := n0_
                 have HO_50 := n1_
                 have BK310 := n2_
                 have HB := n3_
                 clear n0_ n1_ n2_ n3_
                 have p267 : 0 ≤ (x52_2 : Int) := od_ (by first | (with_reducible assumption) | assumption)
                 have q267 : x52_2 < (((rd_T35 l1 x27_1).f1).length : Int) := od_ (by first | (with_reducible assumption) | assumption)
                 obtain ⟨ad267, e267, hx267_0, hx267_1⟩ := at_T74 HR259_1.out x52_2 p267 q267
                 have hw267_1 := hx267_1
                 have hw267_0 := hx267_0
                 cases e267
                 replace hx267_0 := (HB.out.cell (World.block_lt_of_cell? w _ hx267_0)).trans hx267_0
                 replace hx267_1 := (HB.out.cell (World.block_lt_of_cell? w _ hx267_1)).trans hx267_1
                 replace p267 := eq_true p267
                 replace q267 := eq_true q267
                 refine start_ (n := 14) (S := fun w' => w'.cell? ⟨gb310, 0, none⟩ = some (.string ((rd_T35 l1 x27_1).f0)) ∧ w'.cell? ⟨gb310, 1, none⟩ = some (.slice (some ad267) ((rd_T35 l1 x27_1).f1).length c259_1) ∧ w'.cell? (ad267.add ((x52_2).toNat * 2)) = some (.string ((rd_T74 ((rd_T35 l1 x27_1).f1) x52_2).f0)) ∧ w'.cell? ⟨(ad267.add ((x52_2).toNat * 2)).block, (ad267.add ((x52_2).toNat * 2)).off + 1, none⟩ = some (.int .i64 ((rd_T74 ((rd_T35 l1 x27_1).f1) x52_2).f1))) (ds := []) #[false, false, false, false, false, false, false, false, false, false, false, false, false, false] (by kernel_rfl) rfl rfl ⟨(bc_ BK310.out 0).trans rfl, (bc_ BK310.out 1).trans rfl, ((HB.out.cell (World.block_lt_of_cell? w _ hw267_0)).trans hw267_0), ((HB.out.cell (World.block_lt_of_cell? w _ hw267_1)).trans hw267_1)⟩ (fun hHeld => ?_); refine with_tabW waterfall_Run.tab19 waterfall_Run.bits19 (fun HT_ HW_ => ?_)
                 generalize wr.drew = w27 at HO_8 HO_50 BK310 HB hx267_0 hx267_1 hHeld ⊢
                 refine pure_ (i := 0) (N := some 59) (v := ?_) (a' := ?_) #[true, false, false, false, false, false, false, false, false, false, false, false, false, false] rfl rfl (any_of HT_.out (by kernel_rfl)) (fun _ _ _ h => h) (Or.inl ⟨by rfl, ?_⟩) ?_ ?_
                 rotate_left
                 ·
                  intro w'
                  go_simp
                  with_reducible rfl
                 rotate_left
                 ·
                  simp only [Act.put, sA_, sZ_, sS_, i64_w, i32_w]
                  rfl
                 refine pure_ (i := 1) (N := some 60) (v := ?_) (a' := ?_) #[true, true, false, false, false, false, false, false, false, false, false, false, false, false] rfl rfl (any_of HT_.out (by kernel_rfl)) (fun _ _ _ h => h) (Or.inl ⟨by rfl, ?_⟩) ?_ ?_
                 rotate_left
                 ·
                  intro w'
                  go_simp
                  with_reducible rfl
                 rotate_left
                 ·
                  simp only [Act.put, sA_, sZ_, sS_, i64_w, i32_w]
                  rfl
                 refine pure_ (i := 3) (N := some 62) (v := ?_) (a' := ?_) #[true, true, false, true, false, false, false, false, false, false, false, false, false, false] rfl rfl (any_of HT_.out (by kernel_rfl)) (fun _ _ _ h => h) (Or.inl ⟨by rfl, ?_⟩) ?_ ?_
                 rotate_left
                 ·
                  intro w'
                  go_simp
                  with_reducible rfl
                 rotate_left
                 ·
                  simp only [Act.put, sA_, sZ_, sS_, i64_w, i32_w]
                  rfl
                 refine pure_ (i := 5) (N := some 64) (v := ?_) (a' := ?_) #[true, true, false, true, false, true, false, false, false, false, false, false, false, false] rfl rfl (any_of HT_.out (by kernel_rfl)) (fun _ _ _ h => h) (Or.inl ⟨by rfl, ?_⟩) ?_ ?_
                 rotate_left
                 ·
                  intro w'
                  go_simp
                  with_reducible rfl
                 rotate_left
                 ·
                  simp only [Act.put, sA_, sZ_, sS_, i64_w, i32_w]
                  rfl
                 refine pure_ (i := 9) (N := some 68) (v := ?_) (a' := ?_) #[true, true, false, true, false, true, false, false, false, true, false, false, false, false] rfl rfl (any_of HT_.out (by kernel_rfl)) (fun _ _ _ h => h) (Or.inl ⟨by rfl, ?_⟩) ?_ ?_
                 rotate_left
                 ·
                  intro w'
                  go_simp
                  with_reducible rfl
                 rotate_left
                 ·
                  simp only [Act.put, sA_, sZ_, sS_, i64_w, i32_w]
                  rfl
                 refine take_ (i := 2) (N := some 61) (v := ?_) (a' := ?_) #[true, true, true, true, false, true, false, false, false, true, false, false, false, false] rfl rfl (take_ofW HT_.out HW_.out (by kernel_rfl)) (fun _ _ _ h => h) (Or.inl ⟨by rfl, ?_⟩) hHeld ?_ ?_
                 rotate_left
                 ·
                  rintro w' ⟨s0, s1, s2, s3⟩
                  go_simp
                  with_reducible rfl
                 rotate_left
                 ·
                  simp only [Act.put, sA_, sZ_, sS_, i64_w, i32_w]
                  rfl
                 refine take_ (i := 4) (N := some 63) (v := ?_) (a' := ?_) #[true, true, true, true, true, true, false, false, false, true, false, false, false, false] rfl rfl (take_ofW HT_.out HW_.out (by kernel_rfl)) (fun _ _ _ h => h) (Or.inl ⟨by rfl, ?_⟩) hHeld ?_ ?_
                 rotate_left
                 ·
                  rintro w' ⟨s0, s1, s2, s3⟩
                  go_simp
                  with_reducible rfl
                 rotate_left
                 ·
                  simp only [Act.put, sA_, sZ_, sS_, i64_w, i32_w]
                  rfl
                 refine pure_ (i := 6) (N := some 65) (v := ?_) (a' := ?_) #[true, true, true, true, true, true, true, false, false, true, false, false, false, false] rfl rfl (any_of HT_.out (by kernel_rfl)) (fun _ _ _ h => h) (Or.inl ⟨by rfl, ?_⟩) ?_ ?_
                 rotate_left
                 ·
                  intro w'
                  go_simp
                  with_reducible rfl
                 rotate_left
                 ·
                  simp only [Act.put, sA_, sZ_, sS_, i64_w, i32_w]
                  rfl
                 refine pure_ (i := 7) (N := some 66) (v := ?_) (a' := ?_) #[true, true, true, true, true, true, true, true, false, true, false, false, false, false] rfl rfl (any_of HT_.out (by kernel_rfl)) (fun _ _ _ h => h) (Or.inl ⟨by rfl, ?_⟩) ?_ ?_
                 rotate_left
                 ·
                  intro w'
                  go_simp
                  with_reducible rfl
                 rotate_left
                 ·
                  simp only [Act.put, sA_, sZ_, sS_, i64_w, i32_w]
                  rfl
                 refine take_ (i := 8) (N := some 67) (v := ?_) (a' := ?_) #[true, true, true, true, true, true, true, true, true, true, false, false, false, false] rfl rfl (take_ofW HT_.out HW_.out (by kernel_rfl)) (fun _ _ _ h => h) (Or.inl ⟨by rfl, ?_⟩) hHeld ?_ ?_
                 rotate_left
                 ·
                  rintro w' ⟨s0, s1, s2, s3⟩
                  go_simp
                  with_reducible rfl
                 rotate_left
                 ·
                  simp only [Act.put, sA_, sZ_, sS_, i64_w, i32_w]
                  rfl
                 refine pure_ (i := 10) (N := some 69) (v := ?_) (a' := ?_) #[true, true, true, true, true, true, true, true, true, true, true, false, false, false] rfl rfl (any_of HT_.out (by kernel_rfl)) (fun _ _ _ h => h) (Or.inl ⟨by rfl, ?_⟩) ?_ ?_
                 rotate_left
                 ·
                  intro w'
                  go_simp
                  with_reducible rfl
                 rotate_left
                 ·
                  simp only [Act.put, sA_, sZ_, sS_, i64_w, i32_w]
                  rfl
                 refine one_ (i := 11) (N := some 70) #[true, true, true, true, true, true, true, true, true, true, true, true, false, false] rfl rfl (one_of HT_.out (by kernel_rfl)) (by decide) (fun K hK => ?_)
                 refine value_ (w1 := ?_) (v := ?_) (by rfl) rfl ?_ ?_
                 rotate_left 2
                 ·
                  go_simp
                  constructor
                  ·
                   rfl
                  ·
                   rfl
                 refine hK.out _ _ ⟨(bc_ (ba_ BK310.out _) 0).trans rfl, (bc_ (ba_ BK310.out _) 1).trans rfl, (World.cell?_alloc_lt _ _ _ (World.block_lt_of_cell? _ _ (((HB.out.cell (World.block_lt_of_cell? w _ hw267_0)).trans hw267_0)))).trans (((HB.out.cell (World.block_lt_of_cell? w _ hw267_0)).trans hw267_0)), (World.cell?_alloc_lt _ _ _ (World.block_lt_of_cell? _ _ (((HB.out.cell (World.block_lt_of_cell? w _ hw267_1)).trans hw267_1)))).trans (((HB.out.cell (World.block_lt_of_cell? w _ hw267_1)).trans hw267_1))⟩ (fun hHeld => ?_)
                 clear hK K
                 refine norm_ (a' := ?_) ?_ ?_
                 rotate_left
                 ·
                  show Act.put _ (some 70) _ = _
                  simp only [Act.put, sA_, sZ_, sS_, i64_w, i32_w]
                  rfl
                 refine one_ (i := 12) (N := some 71) #[true, true, true, true, true, true, true, true, true, true, true, true, true, false] rfl rfl (one_of HT_.out (by kernel_rfl)) (by decide) (fun K hK => ?_)
                 refine Kd.R_append_step k52 (w0 := w) w.heap.size (by rfl) (.tmp 59) (.tmp 70) 48 52 (.agg #[(.string ⟨#[]⟩), (.string ⟨#[]⟩), (.int .i64 0)]) 40 rfl Try.underlying48 info52 rfl (by decide) (by omega) u8 x8_2 (⟨((rd_T35 l1 x27_1).f0), (rd_T74 ((rd_T35 l1 x27_1).f1) x52_2).f0, rd t262 x52_2⟩ : S52) [.string ((rd_T35 l1 x27_1).f0), .string ((rd_T74 ((rd_T35 l1 x27_1).f1) x52_2).f0), .int .i64 (rd t262 x52_2)] (fun _ => True) (fun _ => False) rfl rfl ?aP (fun _ hk => hk.elim) ?aF ?aO ?aB ?aS ?aL ?_
                 (case aP => exact k52_mkM _ _ _ (⟨((rd_T35 l1 x27_1).f0), (rd_T74 ((rd_T35 l1 x27_1).f1) x52_2).f0, rd t262 x52_2⟩ : S52))
                 (case aB => exact bw_)
                 (case aF => exact (fun _ _ => trivial))
                 (case aO => exact (by (with_reducible repeat (first | apply Kd.R_alloc | apply Kd.R_drewN | apply Kd.R_drew)); exact HO_8.out))
                 (case aS => exact (bz_ bw_))
                 (case aL => have := LMc26.out; omega)
                 intro v269 w28 ho hb hg hat
                 rw [← Ny268.out] at ho
                 have n0_ := A_ (Kd.R_over' (by (with_reducible repeat (first | apply Kd.R_alloc | apply Kd.R_drewN | apply Kd.R_drew)); exact HO_50.out) (Kd.R_typed (by (with_reducible repeat (first | apply Kd.R_alloc | apply Kd.R_drewN | apply Kd.R_drew)); exact HO_8.out)) (by decide) hg)
                 have n1_ := A_ (blk_grown (g := gb310) (o := .cells #[.string ((rd_T35 l1 x27_1).f0), .slice (some ad267) ((rd_T35 l1 x27_1).f1).length c259_1] 35 (0, 0)) bk_ hg (Kd.R_ne HO_8.out BK310.out (by decide)))
                 have n2_ := A_ (hb)
                 have n3_ := A_ (ho)
                 clear HO_50
                 clear BK310
                 clear HB
                 clear HO_8
                 have HO_50 := n0_
                 have BK310 := n1_
                 have HB := n2_
                 have HO270 := n3_
                 clear n0_ n1_ n2_ n3_
                 clear ho hb hg hat
                 refine hK.out _ _ ⟨(bc_ BK310.out 0).trans rfl, (bc_ BK310.out 1).trans rfl, ((HB.out.cell (World.block_lt_of_cell? w _ hw267_0)).trans hw267_0), ((HB.out.cell (World.block_lt_of_cell? w _ hw267_1)).trans hw267_1)⟩ (fun hHeld => ?_)
                 clear hK K
                 refine norm_ (a' := ?_) ?_ ?_
                 rotate_left
                 ·
                  show Act.put _ (some 71) _ = _
                  simp only [Act.put, sA_, sZ_, sS_, i64_w, i32_w]
                  rfl
                 refine pure_ (i := 13) (N := some 8) (v := ?_) (a' := ?_) #[true, true, true, true, true, true, true, true, true, true, true, true, true, true] rfl rfl (any_of HT_.out (by kernel_rfl)) (fun _ _ _ h => h) (Or.inl ⟨by rfl, ?_⟩) ?_ ?_
                 rotate_left
                 ·
                  intro w'
                  go_simp
                  with_reducible rfl
                 rotate_left
                 ·
                  simp only [Act.put, sA_, sZ_, sS_, i64_w, i32_w]
                  rfl
                 refine done_ (done_of HT_.out (by kernel_rfl)) ?_
                 try go_wp2
                 go_roundg k2
                 case measure => have := HK1.out; have := HK2.out; omega
                 case rel => exact ⟨(y268), (wrap64 (x52_2 + 1)), (by first | rfl | (simp; done) | (simp [*]; done)), H', ⟨by have := HK1.out; have := HK2.out; omega⟩, ⟨by (with_reducible repeat (first | apply Kd.R_alloc | apply Kd.R_drewN | apply Kd.R_drew)); exact HO270.out⟩, ⟨by (with_reducible repeat (first | apply Kd.R_alloc | apply Kd.R_drewN | apply Kd.R_drew)); exact HO_50.out⟩, ⟨bk_⟩, ⟨bw_⟩⟩
                ·
                 rw [if_neg c26] at H
                 exact absurd H (by simp)
               ·
                rw [if_neg c25] at H
                exact absurd H (by simp)
              ·
               rw [if_neg c24] at H
               have c24b0 : decide (0 < (rd t262 x52_2)) = false := decide_eq_false c24
               clear c24
               have H' := A_ H
               clear H
               have p266 : 0 ≤ (x52_2 : Int) := od_ (by first | (with_reducible assumption) | assumption)
               have q266 : x52_2 < (t262.length : Int) := od_ (by first | (with_reducible assumption) | assumption)
               obtain ⟨ad266, e266, hx266_0⟩ := Kd.at_int (Kd.R_reads' HO_50.out).2.2 x52_2 p266 q266
               cases e266
               replace p266 := eq_true p266
               replace q266 := eq_true q266
               go_wp2
               go_roundg k2
               case measure => have := HK1.out; have := HK2.out; omega
               case rel => exact ⟨(x8_2), (wrap64 (x52_2 + 1)), (by first | rfl | (simp; done) | (simp [*]; done)), H', ⟨by have := HK1.out; have := HK2.out; omega⟩, ⟨by (with_reducible repeat (first | apply Kd.R_alloc | apply Kd.R_drewN | apply Kd.R_drew)); exact HO_8.out⟩, ⟨by (with_reducible repeat (first | apply Kd.R_alloc | apply Kd.R_drewN | apply Kd.R_drew)); exact HO_50.out⟩, ⟨bk_⟩, ⟨bw_⟩⟩
             ·
              rw [if_neg c23] at H
              exact absurd H (by simp)
            ·
             rw [if_neg c22] at H
             exact absurd H (by simp)
           ·
            rw [if_neg c21] at H
            have c21b0 : decide (x52_2 < (t262.length : Int)) = false := decide_eq_false c21
            clear c21
            have H' := A_ H
            clear H
            go_wp2
            go_roundg k2
            case measure => have := HK1.out; have := HK2.out; omega
            case rel => exact ⟨(wrap64 (x0_1 - ji12)), (x8_2), (wrap64 (x27_1 + 1)), (by first | rfl | (simp; done) | (simp only [← hji12] <;> (first | rfl | simp)) | (simp [*]; done)), (by first | rfl | (simp; done) | (simp [*]; done)), H', ⟨by have := HK1.out; have := HK2.out; omega⟩, ⟨by (with_reducible repeat (first | apply Kd.R_alloc | apply Kd.R_drewN | apply Kd.R_drew)); exact HO_8.out⟩, ⟨bw_⟩⟩
        ·
         rw [if_neg c14] at H
         have c14b0 : (t263 == 0) = false := q4_ c14
         have c14b1 : (t263 != 0) = true := q2_ c14
         simp only [Option.some.injEq, Prod.mk.injEq] at H
         obtain ⟨rfl, rfl, rfl⟩ := H
         have p259 : 0 ≤ (x27_1 : Int) := od_ (by first | (with_reducible assumption) | assumption)
         have q259 : x27_1 < (l1.length : Int) := od_ (by first | (with_reducible assumption) | assumption)
         obtain ⟨ad259, A259_1, c259_1, e259, hx259_0, hx259_1, hl259_1, hi259_1⟩ := at_T35 HR1.out x27_1 p259 q259
         cases e259
         replace hx259_0 := (HB.out.cell (World.block_lt_of_cell? w _ hx259_0)).trans hx259_0
         replace hx259_1 := (HB.out.cell (World.block_lt_of_cell? w _ hx259_1)).trans hx259_1
         have HR259_1 := A_ hi259_1
         have HC259_1 := A_ hl259_1
         clear hi259_1 hl259_1
         replace p259 := eq_true p259
         replace q259 := eq_true q259
         go_wp2_with (first | ((with_reducible refine gate_dst (N := 10) rfl ?_); refine box_event ?hg (N := 10) ?hd (cs := #[.string (⟨#[]⟩ : ByteArray), .slice none 0 0]) (t := 35) ?hr ?_; (case hd => rfl); (case hg => rfl); (case hr => first | (go_simp; done) | (go_simp; rfl)); intro gb310 hg w29 hbox hb; have n0_ := A_ (Kd.R_below (by (with_reducible repeat (first | apply Kd.R_alloc | apply Kd.R_drewN | apply Kd.R_drew)); exact HO_8.out) hb); have n1_ := A_ (bs_ bw_ hb); have n2_ := A_ (hbox); have n3_ := A_ ((by rw [hg]; exact (bz_ bw_) : w.heap.size ≤ gb310)); have n4_ := A_ ((by rw [hg]; exact (bz_ bw_) : w.heap.size ≤ gb310)); clear HO_8; clear HB; have HO_8 := n0_; have HB := n1_; have BK310 := n2_; have GW310 := n3_; have GE310 := n4_; clear n0_ n1_ n2_ n3_ n4_; clear hb hbox hg; have hcz30_0 : w29.cell? ⟨gb310, 0, none⟩ = some (.string (⟨#[]⟩ : ByteArray)) := (bc_ BK310.out 0).trans rfl; have hcz30_1 : w29.cell? ⟨gb310, 1, none⟩ = some (.slice none 0 0) := (bc_ BK310.out 1).trans rfl; have hfz30_0 := bf_ BK310.out 0; have hfz30_1 := bf_ BK310.out 1) | ((with_reducible refine gate_callee (f := 33) rfl ?_); refine goesL_ (some 34) rfl rfl Try.func33 (by kernel_rfl) rfl #[.slice A259_1 ((rd_T35 l1 x27_1).f1).length c259_1] rfl (by (try simp only [List.map_toArray, List.map_cons, List.map_nil]); first | done | rfl | (simp only [List.length_drop, List.length_take]; rfl)) ?_; (with_reducible refine (waterfall_room.calls k1 _ _ ((rd_T35 l1 x27_1).f1) t260 t261 _ ?side1 ?side2 A11.out).mono ?_); (case side1 => exact cb_ HR259_1.out bw_); (case side2 => exact HC259_1.out); rintro e w31 ⟨rfl, hb⟩; refine ⟨_, rfl, ?_⟩; have n0_ := A_ (Kd.R_below (by (with_reducible repeat (first | apply Kd.R_alloc | apply Kd.R_drewN | apply Kd.R_drew)); exact (Kd.R_mono (Kd.R_far (p := ⟨gb310, 1, none⟩) (Kd.R_far (p := ⟨gb310, 0, none⟩) (Kd.R_types HO_8.out BK310.out (by decide)) (fun _ hk => hk.2) (.string ((rd_T35 l1 x27_1).f0))) (fun _ hk => hk.2) (.slice A259_1 ((rd_T35 l1 x27_1).f1).length c259_1)) (fun _ h_ => h_.1))) hb); have n1_ := A_ (blk_below (g := gb310) (o := .cells #[.string ((rd_T35 l1 x27_1).f0), .slice A259_1 ((rd_T35 l1 x27_1).f1).length c259_1] 35 (0, 0)) (by (with_reducible repeat (first | refine bn_ ?_ _ | refine bd_ ?_ | refine ba_ ?_ _)); refine bp_ (cs := #[.string ((rd_T35 l1 x27_1).f0), .slice none 0 0]) ?_ 1 _ rfl; (with_reducible repeat (first | refine bn_ ?_ _ | refine bd_ ?_ | refine ba_ ?_ _)); refine bp_ (cs := #[.string (⟨#[]⟩ : ByteArray), .slice none 0 0]) ?_ 0 _ rfl; (with_reducible repeat (first | refine bn_ ?_ _ | refine bd_ ?_ | refine ba_ ?_ _)); exact BK310.out) hb); have n2_ := A_ (bs_ bw_ hb); clear HO_8; clear BK310; clear HB; have HO_8 := n0_; have BK310 := n1_; have HB := n2_; clear n0_ n1_ n2_; (try clear hb); (try clear hb2); (try clear hk); (try clear hi); have hcz32_0 : w31.cell? ⟨gb310, 0, none⟩ = some (.string ((rd_T35 l1 x27_1).f0)) := (bc_ BK310.out 0).trans rfl; have hcz32_1 : w31.cell? ⟨gb310, 1, none⟩ = some (.slice A259_1 ((rd_T35 l1 x27_1).f1).length c259_1) := (bc_ BK310.out 1).trans rfl; have hfz32_0 := bf_ BK310.out 0; have hfz32_1 := bf_ BK310.out 1) | ((with_reducible refine gate_callee (f := 10) rfl ?_); refine goesL_ (some 44) rfl rfl Try.func10 (by kernel_rfl) rfl #[.int .i64 ji12, .slice A259_1 ((rd_T35 l1 x27_1).f1).length c259_1] rfl (by (try simp only [List.map_toArray, List.map_cons, List.map_nil]); first | done | (simp only [hji12]; rfl) | rfl | (simp only [List.length_drop, List.length_take]; rfl)) ?_; (with_reducible refine (waterfall_Split.calls k1 ji12 _ _ ((rd_T35 l1 x27_1).f1) t262 t263 _ ?side1 ?side2 A13.out).mono ?_); (case side1 => repeat (first | exact (cb_ HR259_1.out HB.out) | (with_reducible refine ca_ ?_ _) | (with_reducible refine cn_ ?_ _) | (with_reducible refine cd_ ?_))); (case side2 => exact HC259_1.out); rintro e w33 ⟨v264, rfl, ho0, hb⟩; refine ⟨_, rfl, ?_⟩; have n0_ := A_ (Kd.R_below (by (with_reducible repeat (first | apply Kd.R_alloc | apply Kd.R_drewN | apply Kd.R_drew)); exact HO_8.out) hb); have n1_ := A_ (Kd.R_lower ho0 (bz_ bw_)); have n2_ := A_ (kb_ BK310 hb); have n3_ := A_ (bs_ bw_ hb); clear HO_8; clear BK310; clear HB; have HO_8 := n0_; have HO265 := n1_; have BK310 := n2_; have HB := n3_; clear n0_ n1_ n2_ n3_; (try clear hb); (try clear hb2); (try clear hk); (try clear hi); (try clear ho0)))
         go_ret3
         exact ⟨_, by first | rfl | (simp [errW_none, errW_some] <;> rfl) | (simp only [← hji12]; first | rfl | (simp [errW_none, errW_some] <;> rfl)) | (simp [*, errW_none, errW_some] <;> rfl), by first | exact Kd.R_nil _ _ _ _ _ | exact Kd.N_nil _ _ _ _ _ | exact Kd.V_nil _ _ _ _ _ | exact Kd.Q_nil _ _ _ _ _ | exact Kd.S_nil _ _ _ _ _, bw_⟩
       ·
        rw [if_neg c10] at H
        exact absurd H (by simp)
      ·
       rw [if_neg c9] at H
       exact absurd H (by simp)
     ·
      rw [if_neg c8] at H
      have c8b0 : decide (x27_1 < (l1.length : Int)) = false := decide_eq_false c8
      clear c8
      simp only [Option.some.injEq, Prod.mk.injEq] at H
      obtain ⟨rfl, rfl, rfl⟩ := H
      go_wp2
      go_ret3
      exact ⟨_, by first | rfl | (simp [errW_none, errW_some] <;> rfl) | (simp [*, errW_none, errW_some] <;> rfl), by (with_reducible repeat (first | apply Kd.R_alloc | apply Kd.R_drewN | apply Kd.R_drew)); exact HO_8.out, bw_⟩
 ·
  rw [if_neg c4] at H
  have c4b0 : (t258 == 0) = false := q4_ c4
  have c4b1 : (t258 != 0) = true := q2_ c4
  simp only [Option.some.injEq, Prod.mk.injEq] at H
  obtain ⟨rfl, rfl, rfl⟩ := H
  go_enter Try.func17, Try.ntmps17
  go_wp2_with (first | ((with_reducible refine gate_callee (f := 21) rfl ?_); refine goesL_ (some 19) rfl rfl Try.func21 (by kernel_rfl) rfl #[.slice A1 l1.length c1] rfl (by (try simp only [List.map_toArray, List.map_cons, List.map_nil]); first | done | rfl | (simp only [List.length_drop, List.length_take]; rfl)) ?_; (with_reducible refine (waterfall_Check.calls k _ _ l1 t258 _ ?side1 ?side2 A3.out).mono ?_); (case side1 => repeat (first | exact HR1.out | (with_reducible refine ca_ ?_ _) | (with_reducible refine cn_ ?_ _) | (with_reducible refine cd_ ?_))); (case side2 => exact HC1.out); rintro e w34 ⟨rfl, hb⟩; refine ⟨_, rfl, ?_⟩; have n0_ := A_ (bs_ bw_ hb); clear HB; have HB := n0_; clear n0_; (try clear hb); (try clear hb2); (try clear hk); (try clear hi)))
  go_ret3
  exact ⟨_, by first | rfl | (simp [errW_none, errW_some] <;> rfl) | (simp [*, errW_none, errW_some] <;> rfl), by first | exact Kd.R_nil _ _ _ _ _ | exact Kd.N_nil _ _ _ _ _ | exact Kd.V_nil _ _ _ _ _ | exact Kd.Q_nil _ _ _ _ _ | exact Kd.S_nil _ _ _ _ _, bw_⟩
end Go.Proofs.Ytfbkgfffalppmaa.Wf
end
section
namespace Go.Proofs.Ytfbkgfffalppmaa.Wf
open Go.RowKit Go.Proofs.YtfbkgfffalppmaaW.PrintWords Go.Proofs.YtfbkgfffalppmaaW.PrintLast Go.Proofs.YtfbkgfffalppmaaW.PrintMore
attribute [local go_sem] max2_int min2_int max_two min_two max_three min_three max_four min_four   -- for this text's walks alone
set_option linter.unusedVariables false
set_option linter.unusedSimpArgs false
attribute [local go_sem] run_add64_any
attribute [local go_sem high] eqA52
def clevislaw28_known.f (k : Nat)  : Option (Bool) := (waterfall_Split.f k 4 (([(⟨(⟨#[97]⟩ : ByteArray), 5⟩ : S74), (⟨(⟨#[98]⟩ : ByteArray), 3⟩ : S74)] : List (S74)))).bind fun bt274 => ((waterfall_Run.f k 7 (([(⟨(⟨#[120]⟩ : ByteArray), (([(⟨(⟨#[97]⟩ : ByteArray), 5⟩ : S74)] : List (S74)))⟩ : S35), (⟨(⟨#[121]⟩ : ByteArray), (([(⟨(⟨#[97]⟩ : ByteArray), 10⟩ : S74)] : List (S74)))⟩ : S35)] : List (S35)))).bind fun bt287 => (if bt274.2 = 0 then (if (bt274.1.length : Int) = 2 then (if 0 < (bt274.1.length : Int) then (if (rd bt274.1 0) = 3 then (if 1 < (bt274.1.length : Int) then (if (rd bt274.1 1) = 1 then (if bt287.2.2 = 0 then (if bt287.2.1 = 0 then (if (bt287.1.length : Int) = 2 then (if 0 < (bt287.1.length : Int) then (if ((rd_T52 bt287.1 0).f2) = 5 then (if 1 < (bt287.1.length : Int) then (some ((((rd_T52 bt287.1 1).f0).toList) == ([121] : List UInt8) && ((((rd_T52 bt287.1 1).f1).toList) == ([97] : List UInt8) && (((rd_T52 bt287.1 1).f2) == 2)))) else (none)) else (some false)) else (none)) else (some false)) else (some false)) else (some false)) else (some false)) else (none)) else (some false)) else (none)) else (some false)) else (some false)))
theorem clevislaw28_known.mono : ∀ k, LeO (clevislaw28_known.f k ) (clevislaw28_known.f (k + 1) ) := by
 intro  k
 unfold clevislaw28_known.f
 repeat' first
   | (with_reducible exact waterfall_Run.mono _ _ _)
   | (with_reducible exact waterfall_Split.mono _ _ _)
   | (with_reducible exact LeO.refl _)
   | (with_reducible exact LeO.none _)
   | (with_reducible refine LeO.ite ?_ ?_)
   | (with_reducible refine LeO.bind ?_ (fun _ => ?_))
   | exact waterfall_Run.mono _ _ _
   | exact waterfall_Split.mono _ _ _
   | exact LeO.none _
   | refine LeO.ite ?_ ?_
   | refine LeO.bind ?_ (fun _ => ?_)
set_option maxHeartbeats 8000000 in
set_option maxRecDepth 100000 in
theorem clevislaw28_known.calls (k : Nat)  (r : Bool) (w : World) (h : clevislaw28_known.f k  = some r) :
  Calls Try.prog 12 #[] w fun e w' => e = .returned (.bool r) ∧ Below w.heap.size w w' := by
 have hu74 := Try.underlying74
 have hu35 := Try.underlying35
 have hu52 := Try.underlying52
 have HB := A_ (Below.refl w.heap.size w)
 have H : ((waterfall_Split.f k 4 (([(⟨(⟨#[97]⟩ : ByteArray), 5⟩ : S74), (⟨(⟨#[98]⟩ : ByteArray), 3⟩ : S74)] : List (S74)))).bind fun bt274 => ((waterfall_Run.f k 7 (([(⟨(⟨#[120]⟩ : ByteArray), (([(⟨(⟨#[97]⟩ : ByteArray), 5⟩ : S74)] : List (S74)))⟩ : S35), (⟨(⟨#[121]⟩ : ByteArray), (([(⟨(⟨#[97]⟩ : ByteArray), 10⟩ : S74)] : List (S74)))⟩ : S35)] : List (S35)))).bind fun bt287 => (if bt274.2 = 0 then (if (bt274.1.length : Int) = 2 then (if 0 < (bt274.1.length : Int) then (if (rd bt274.1 0) = 3 then (if 1 < (bt274.1.length : Int) then (if (rd bt274.1 1) = 1 then (if bt287.2.2 = 0 then (if bt287.2.1 = 0 then (if (bt287.1.length : Int) = 2 then (if 0 < (bt287.1.length : Int) then (if ((rd_T52 bt287.1 0).f2) = 5 then (if 1 < (bt287.1.length : Int) then (some ((((rd_T52 bt287.1 1).f0).toList) == ([121] : List UInt8) && ((((rd_T52 bt287.1 1).f1).toList) == ([97] : List UInt8) && (((rd_T52 bt287.1 1).f2) == 2)))) else (none)) else (some false)) else (none)) else (some false)) else (some false)) else (some false)) else (some false)) else (none)) else (some false)) else (none)) else (some false)) else (some false)))) = some r := h
 clear h
 obtain ⟨y271, hy271⟩ : ∃ y_ : List (S74), y_ = (([(⟨(⟨#[97]⟩ : ByteArray), 5⟩ : S74), (⟨(⟨#[98]⟩ : ByteArray), 3⟩ : S74)] : List (S74))) := ⟨_, rfl⟩
 replace H : ((waterfall_Split.f k 4 y271).bind fun bt274 => ((waterfall_Run.f k 7 (([(⟨(⟨#[120]⟩ : ByteArray), (([(⟨(⟨#[97]⟩ : ByteArray), 5⟩ : S74)] : List (S74)))⟩ : S35), (⟨(⟨#[121]⟩ : ByteArray), (([(⟨(⟨#[97]⟩ : ByteArray), 10⟩ : S74)] : List (S74)))⟩ : S35)] : List (S35)))).bind fun bt287 => (if bt274.2 = 0 then (if (bt274.1.length : Int) = 2 then (if 0 < (bt274.1.length : Int) then (if (rd bt274.1 0) = 3 then (if 1 < (bt274.1.length : Int) then (if (rd bt274.1 1) = 1 then (if bt287.2.2 = 0 then (if bt287.2.1 = 0 then (if (bt287.1.length : Int) = 2 then (if 0 < (bt287.1.length : Int) then (if ((rd_T52 bt287.1 0).f2) = 5 then (if 1 < (bt287.1.length : Int) then (some ((((rd_T52 bt287.1 1).f0).toList) == ([121] : List UInt8) && ((((rd_T52 bt287.1 1).f1).toList) == ([97] : List UInt8) && (((rd_T52 bt287.1 1).f2) == 2)))) else (none)) else (some false)) else (none)) else (some false)) else (some false)) else (some false)) else (some false)) else (none)) else (some false)) else (none)) else (some false)) else (some false)))) = some r := by first | (rw [hy271]; with_reducible exact H) | (have H2_ := (Option.bind_some _ _).symm.trans H; rw [hy271]; with_reducible exact H2_) | (have H2_ := (Option.bind_some _ _).symm.trans H; with_reducible exact H2_) | with_reducible exact H | (rw [hy271]; exact H) | exact H
 have Ny271 := A_ hy271
 clear hy271
 replace H := os_ H
 obtain ⟨⟨t274, t275⟩, A10, H⟩ := H
 replace H : ((waterfall_Run.f k 7 (([(⟨(⟨#[120]⟩ : ByteArray), (([(⟨(⟨#[97]⟩ : ByteArray), 5⟩ : S74)] : List (S74)))⟩ : S35), (⟨(⟨#[121]⟩ : ByteArray), (([(⟨(⟨#[97]⟩ : ByteArray), 10⟩ : S74)] : List (S74)))⟩ : S35)] : List (S35)))).bind fun bt287 => (if t275 = 0 then (if (t274.length : Int) = 2 then (if 0 < (t274.length : Int) then (if (rd t274 0) = 3 then (if 1 < (t274.length : Int) then (if (rd t274 1) = 1 then (if bt287.2.2 = 0 then (if bt287.2.1 = 0 then (if (bt287.1.length : Int) = 2 then (if 0 < (bt287.1.length : Int) then (if ((rd_T52 bt287.1 0).f2) = 5 then (if 1 < (bt287.1.length : Int) then (some ((((rd_T52 bt287.1 1).f0).toList) == ([121] : List UInt8) && ((((rd_T52 bt287.1 1).f1).toList) == ([97] : List UInt8) && (((rd_T52 bt287.1 1).f2) == 2)))) else (none)) else (some false)) else (none)) else (some false)) else (some false)) else (some false)) else (some false)) else (none)) else (some false)) else (none)) else (some false)) else (some false))) = some r := H
 have A1 := A_ A10
 clear A10
 obtain ⟨y278, hy278⟩ : ∃ y_ : List (S74), y_ = (([(⟨(⟨#[97]⟩ : ByteArray), 5⟩ : S74)] : List (S74))) := ⟨_, rfl⟩
 replace H : ((waterfall_Run.f k 7 (([(⟨(⟨#[120]⟩ : ByteArray), y278⟩ : S35), (⟨(⟨#[121]⟩ : ByteArray), (([(⟨(⟨#[97]⟩ : ByteArray), 10⟩ : S74)] : List (S74)))⟩ : S35)] : List (S35)))).bind fun bt287 => (if t275 = 0 then (if (t274.length : Int) = 2 then (if 0 < (t274.length : Int) then (if (rd t274 0) = 3 then (if 1 < (t274.length : Int) then (if (rd t274 1) = 1 then (if bt287.2.2 = 0 then (if bt287.2.1 = 0 then (if (bt287.1.length : Int) = 2 then (if 0 < (bt287.1.length : Int) then (if ((rd_T52 bt287.1 0).f2) = 5 then (if 1 < (bt287.1.length : Int) then (some ((((rd_T52 bt287.1 1).f0).toList) == ([121] : List UInt8) && ((((rd_T52 bt287.1 1).f1).toList) == ([97] : List UInt8) && (((rd_T52 bt287.1 1).f2) == 2)))) else (none)) else (some false)) else (none)) else (some false)) else (some false)) else (some false)) else (some false)) else (none)) else (some false)) else (none)) else (some false)) else (some false))) = some r := by first | (rw [hy278]; with_reducible exact H) | (have H2_ := (Option.bind_some _ _).symm.trans H; rw [hy278]; with_reducible exact H2_) | (have H2_ := (Option.bind_some _ _).symm.trans H; with_reducible exact H2_) | with_reducible exact H | (rw [hy278]; exact H) | exact H
 have Ny278 := A_ hy278
 clear hy278
 obtain ⟨y281, hy281⟩ : ∃ y_ : List (S74), y_ = (([(⟨(⟨#[97]⟩ : ByteArray), 10⟩ : S74)] : List (S74))) := ⟨_, rfl⟩
 replace H : ((waterfall_Run.f k 7 (([(⟨(⟨#[120]⟩ : ByteArray), y278⟩ : S35), (⟨(⟨#[121]⟩ : ByteArray), y281⟩ : S35)] : List (S35)))).bind fun bt287 => (if t275 = 0 then (if (t274.length : Int) = 2 then (if 0 < (t274.length : Int) then (if (rd t274 0) = 3 then (if 1 < (t274.length : Int) then (if (rd t274 1) = 1 then (if bt287.2.2 = 0 then (if bt287.2.1 = 0 then (if (bt287.1.length : Int) = 2 then (if 0 < (bt287.1.length : Int) then (if ((rd_T52 bt287.1 0).f2) = 5 then (if 1 < (bt287.1.length : Int) then (some ((((rd_T52 bt287.1 1).f0).toList) == ([121] : List UInt8) && ((((rd_T52 bt287.1 1).f1).toList) == ([97] : List UInt8) && (((rd_T52 bt287.1 1).f2) == 2)))) else (none)) else (some false)) else (none)) else (some false)) else (some false)) else (some false)) else (some false)) else (none)) else (some false)) else (none)) else (some false)) else (some false))) = some r := by first | (rw [hy281]; with_reducible exact H) | (have H2_ := (Option.bind_some _ _).symm.trans H; rw [hy281]; with_reducible exact H2_) | (have H2_ := (Option.bind_some _ _).symm.trans H; with_reducible exact H2_) | with_reducible exact H | (rw [hy281]; exact H) | exact H
 have Ny281 := A_ hy281
 clear hy281
 obtain ⟨y284, hy284⟩ : ∃ y_ : List (S35), y_ = (([(⟨(⟨#[120]⟩ : ByteArray), y278⟩ : S35), (⟨(⟨#[121]⟩ : ByteArray), y281⟩ : S35)] : List (S35))) := ⟨_, rfl⟩
 replace H : ((waterfall_Run.f k 7 y284).bind fun bt287 => (if t275 = 0 then (if (t274.length : Int) = 2 then (if 0 < (t274.length : Int) then (if (rd t274 0) = 3 then (if 1 < (t274.length : Int) then (if (rd t274 1) = 1 then (if bt287.2.2 = 0 then (if bt287.2.1 = 0 then (if (bt287.1.length : Int) = 2 then (if 0 < (bt287.1.length : Int) then (if ((rd_T52 bt287.1 0).f2) = 5 then (if 1 < (bt287.1.length : Int) then (some ((((rd_T52 bt287.1 1).f0).toList) == ([121] : List UInt8) && ((((rd_T52 bt287.1 1).f1).toList) == ([97] : List UInt8) && (((rd_T52 bt287.1 1).f2) == 2)))) else (none)) else (some false)) else (none)) else (some false)) else (some false)) else (some false)) else (some false)) else (none)) else (some false)) else (none)) else (some false)) else (some false))) = some r := by first | (rw [hy284]; with_reducible exact H) | (have H2_ := (Option.bind_some _ _).symm.trans H; rw [hy284]; with_reducible exact H2_) | (have H2_ := (Option.bind_some _ _).symm.trans H; with_reducible exact H2_) | with_reducible exact H | (rw [hy284]; exact H) | exact H
 have Ny284 := A_ hy284
 clear hy284
 replace H := os_ H
 obtain ⟨⟨t287, t288, t289⟩, A20, H⟩ := H
 replace H : (if t275 = 0 then (if (t274.length : Int) = 2 then (if 0 < (t274.length : Int) then (if (rd t274 0) = 3 then (if 1 < (t274.length : Int) then (if (rd t274 1) = 1 then (if t289 = 0 then (if t288 = 0 then (if (t287.length : Int) = 2 then (if 0 < (t287.length : Int) then (if ((rd_T52 t287 0).f2) = 5 then (if 1 < (t287.length : Int) then (some ((((rd_T52 t287 1).f0).toList) == ([121] : List UInt8) && ((((rd_T52 t287 1).f1).toList) == ([97] : List UInt8) && (((rd_T52 t287 1).f2) == 2)))) else (none)) else (some false)) else (none)) else (some false)) else (some false)) else (some false)) else (some false)) else (none)) else (some false)) else (none)) else (some false)) else (some false)) = some r := H
 have A2 := A_ A20
 clear A20
 by_cases c3 : t275 = 0
 ·
  rw [if_pos c3] at H
  have c3b0 : (t275 == 0) = true := q1_ c3
  have c3b1 : (t275 != 0) = false := q3_ c3
  clear c3
  by_cases c4 : (t274.length : Int) = 2
  ·
   rw [if_pos c4] at H
   have c4b0 : ((t274.length : Int) == 2) = true := q1_ c4
   have c4b1 : ((t274.length : Int) != 2) = false := q3_ c4
   clear c4
   by_cases c5 : 0 < (t274.length : Int)
   ·
    rw [if_pos c5] at H
    have c5b0 : decide (0 < (t274.length : Int)) = true := decide_eq_true c5
    have c5b1 : decide (0 < t274.length) = true := decide_eq_true (by omega)
    clear c5
    by_cases c6 : (rd t274 0) = 3
    ·
     rw [if_pos c6] at H
     have c6b0 : ((rd t274 0) == 3) = true := q1_ c6
     have c6b1 : ((rd t274 0) != 3) = false := q3_ c6
     clear c6
     by_cases c7 : 1 < (t274.length : Int)
     ·
      rw [if_pos c7] at H
      have c7b0 : decide (1 < (t274.length : Int)) = true := decide_eq_true c7
      have c7b1 : decide (1 < t274.length) = true := decide_eq_true (by omega)
      clear c7
      by_cases c8 : (rd t274 1) = 1
      ·
       rw [if_pos c8] at H
       have c8b0 : ((rd t274 1) == 1) = true := q1_ c8
       have c8b1 : ((rd t274 1) != 1) = false := q3_ c8
       clear c8
       by_cases c9 : t289 = 0
       ·
        rw [if_pos c9] at H
        have c9b0 : (t289 == 0) = true := q1_ c9
        have c9b1 : (t289 != 0) = false := q3_ c9
        clear c9
        by_cases c10 : t288 = 0
        ·
         rw [if_pos c10] at H
         have c10b0 : (t288 == 0) = true := q1_ c10
         have c10b1 : (t288 != 0) = false := q3_ c10
         clear c10
         by_cases c11 : (t287.length : Int) = 2
         ·
          rw [if_pos c11] at H
          have c11b0 : ((t287.length : Int) == 2) = true := q1_ c11
          have c11b1 : ((t287.length : Int) != 2) = false := q3_ c11
          clear c11
          by_cases c12 : 0 < (t287.length : Int)
          ·
           rw [if_pos c12] at H
           have c12b0 : decide (0 < (t287.length : Int)) = true := decide_eq_true c12
           have c12b1 : decide (0 < t287.length) = true := decide_eq_true (by omega)
           clear c12
           by_cases c13 : ((rd_T52 t287 0).f2) = 5
           ·
            rw [if_pos c13] at H
            have c13b0 : (((rd_T52 t287 0).f2) == 5) = true := q1_ c13
            have c13b1 : (((rd_T52 t287 0).f2) != 5) = false := q3_ c13
            clear c13
            by_cases c14 : 1 < (t287.length : Int)
            ·
             rw [if_pos c14] at H
             have c14b0 : decide (1 < (t287.length : Int)) = true := decide_eq_true c14
             have c14b1 : decide (1 < t287.length) = true := decide_eq_true (by omega)
             clear c14
             obtain rfl := Option.some.inj H
             go_enter Try.func12, Try.ntmps12
             go_wp2_with (first | ((with_reducible refine gate_dst (N := 9) rfl ?_); (try (refine gate_guard (by rfl) ?_; dsimp only)); refine Kd.R_lit k74 _ 74 ?hg (N := 9) ?hd (xs := ([(⟨(⟨#[97]⟩ : ByteArray), 5⟩ : S74), (⟨(⟨#[98]⟩ : ByteArray), 3⟩ : S74)] : List (S74))) (inner := [.string (⟨#[97]⟩ : ByteArray), .int .i64 5, .string (⟨#[98]⟩ : ByteArray), .int .i64 3]) (ok := fun _ => True) (okp := fun _ => True) ?hr ?hp (fun _ hk => hk) trivial (Below.refl _ _) (Nat.le_refl _) (by simp) ?_; (case hd => rfl); (case hg => rfl); (case hr => first | (go_simp; done) | (go_simp; rfl)); (case hp => exact (Reps.c2 (show Kd.M k74 _ _ _ (⟨(⟨#[97]⟩ : ByteArray), 5⟩ : S74) [.string (⟨#[97]⟩ : ByteArray), .int .i64 5] from (k74_mkM _ _ _ (⟨(⟨#[97]⟩ : ByteArray), 5⟩ : S74) )) (Reps.c2 (show Kd.M k74 _ _ _ (⟨(⟨#[98]⟩ : ByteArray), 3⟩ : S74) [.string (⟨#[98]⟩ : ByteArray), .int .i64 3] from (k74_mkM _ _ _ (⟨(⟨#[98]⟩ : ByteArray), 3⟩ : S74) )) (Reps.none _ _)))); intro v272 w15 ho16 hb hg_ hnew_; clear hg_ hnew_; (first | rw [← Ny271.out] at ho16 | (simp only [Int.reduceToNat] at ho16; rw [← Ny271.out] at ho16)); have n0_ := A_ (Kd.R_lower ho16 (bz_ bw_)); have n1_ := A_ (bs_ bw_ hb); clear HB; have HO273 := n0_; have HB := n1_; clear n0_ n1_; clear hb ho16; obtain ⟨Ao17, co17, eo17⟩ := Kd.R_slice HO273.out; subst eo17) | ((with_reducible refine gate_callee (f := 10) rfl ?_); refine goesL_ (some 10) rfl rfl Try.func10 (by kernel_rfl) rfl #[.int .i64 4, .slice Ao17 y271.length co17] rfl (by (try simp only [List.map_toArray, List.map_cons, List.map_nil]); first | done | rfl | (simp only [List.length_drop, List.length_take]; rfl)) ?_; (with_reducible refine (waterfall_Split.calls k 4 _ _ y271 t274 t275 _ ?side1 ?side2 A1.out).mono ?_); (case side1 => repeat (first | exact (Kd.R_reads' HO273.out).2.2 | (with_reducible refine ca_ ?_ _) | (with_reducible refine cn_ ?_ _) | (with_reducible refine cd_ ?_))); (case side2 => exact (Kd.R_reads' HO273.out).2.1); rintro e w18 ⟨v276, rfl, ho0, hb⟩; refine ⟨_, rfl, ?_⟩; have n0_ := A_ (Kd.R_below (by (with_reducible repeat (first | apply Kd.R_alloc | apply Kd.R_drewN | apply Kd.R_drew)); exact HO273.out) hb); have n1_ := A_ (Kd.R_lower ho0 (bz_ bw_)); have n2_ := A_ (bs_ bw_ hb); clear HO273; clear HB; have HO273 := n0_; have HO277 := n1_; have HB := n2_; clear n0_ n1_ n2_; (try clear hb); (try clear hb2); (try clear hk); (try clear hi); (try clear ho0)) | ((with_reducible refine gate_dst (N := 15) rfl ?_); (try (refine gate_guard (by rfl) ?_; dsimp only)); refine Kd.R_lit k74 _ 74 ?hg (N := 15) ?hd (xs := ([(⟨(⟨#[97]⟩ : ByteArray), 5⟩ : S74)] : List (S74))) (inner := [.string (⟨#[97]⟩ : ByteArray), .int .i64 5]) (ok := fun _ => True) (okp := fun _ => True) ?hr ?hp (fun _ hk => hk) trivial (Below.refl _ _) (Nat.le_refl _) (by simp) ?_; (case hd => rfl); (case hg => rfl); (case hr => first | (go_simp; done) | (go_simp; rfl)); (case hp => exact (Reps.c2 (show Kd.M k74 _ _ _ (⟨(⟨#[97]⟩ : ByteArray), 5⟩ : S74) [.string (⟨#[97]⟩ : ByteArray), .int .i64 5] from (k74_mkM _ _ _ (⟨(⟨#[97]⟩ : ByteArray), 5⟩ : S74) )) (Reps.none _ _))); intro v279 w19 ho20 hb hg_ hnew_; clear hg_ hnew_; (first | rw [← Ny278.out] at ho20 | (simp only [Int.reduceToNat] at ho20; rw [← Ny278.out] at ho20)); have n0_ := A_ (Kd.R_elder' (by (with_reducible repeat (first | apply Kd.R_alloc | apply Kd.R_drewN | apply Kd.R_drew)); exact HO273.out) (Kd.R_base ho20) hb); have n1_ := A_ (Kd.R_below (by (with_reducible repeat (first | apply Kd.R_alloc | apply Kd.R_drewN | apply Kd.R_drew)); exact HO277.out) hb); have n2_ := A_ (Kd.R_lower (Kd.R_new' ho20 (Kd.R_lt (by (with_reducible repeat (first | apply Kd.R_alloc | apply Kd.R_drewN | apply Kd.R_drew)); exact HO273.out))) (bz_ bw_)); have n3_ := A_ (bs_ bw_ hb); clear HO273; clear HO277; clear HB; have HO273 := n0_; have HO277 := n1_; have HO280 := n2_; have HB := n3_; clear n0_ n1_ n2_ n3_; clear hb ho20; obtain ⟨Ao21, co21, eo21⟩ := Kd.R_slice HO280.out; subst eo21) | ((with_reducible refine gate_dst (N := 18) rfl ?_); (try (refine gate_guard (by rfl) ?_; dsimp only)); refine Kd.R_lit k74 _ 74 ?hg (N := 18) ?hd (xs := ([(⟨(⟨#[97]⟩ : ByteArray), 10⟩ : S74)] : List (S74))) (inner := [.string (⟨#[97]⟩ : ByteArray), .int .i64 10]) (ok := fun _ => True) (okp := fun _ => True) ?hr ?hp (fun _ hk => hk) trivial (Below.refl _ _) (Nat.le_refl _) (by simp) ?_; (case hd => rfl); (case hg => rfl); (case hr => first | (go_simp; done) | (go_simp; rfl)); (case hp => exact (Reps.c2 (show Kd.M k74 _ _ _ (⟨(⟨#[97]⟩ : ByteArray), 10⟩ : S74) [.string (⟨#[97]⟩ : ByteArray), .int .i64 10] from (k74_mkM _ _ _ (⟨(⟨#[97]⟩ : ByteArray), 10⟩ : S74) )) (Reps.none _ _))); intro v282 w22 ho23 hb hg_ hnew_; clear hg_ hnew_; (first | rw [← Ny281.out] at ho23 | (simp only [Int.reduceToNat] at ho23; rw [← Ny281.out] at ho23)); have n0_ := A_ (Kd.R_elder' (by (with_reducible repeat (first | apply Kd.R_alloc | apply Kd.R_drewN | apply Kd.R_drew)); exact HO273.out) (Kd.R_base ho23) hb); have n1_ := A_ (Kd.R_below (by (with_reducible repeat (first | apply Kd.R_alloc | apply Kd.R_drewN | apply Kd.R_drew)); exact HO277.out) hb); have n2_ := A_ (Kd.R_elder' (by (with_reducible repeat (first | apply Kd.R_alloc | apply Kd.R_drewN | apply Kd.R_drew)); exact HO280.out) (Kd.R_base ho23) hb); have n3_ := A_ (Kd.R_lower (Kd.R_new' (Kd.R_new' ho23 (Kd.R_lt (by (with_reducible repeat (first | apply Kd.R_alloc | apply Kd.R_drewN | apply Kd.R_drew)); exact HO273.out))) (Kd.R_lt (by (with_reducible repeat (first | apply Kd.R_alloc | apply Kd.R_drewN | apply Kd.R_drew)); exact HO280.out))) (bz_ bw_)); have n4_ := A_ (bs_ bw_ hb); clear HO273; clear HO277; clear HO280; clear HB; have HO273 := n0_; have HO277 := n1_; have HO280 := n2_; have HO283 := n3_; have HB := n4_; clear n0_ n1_ n2_ n3_ n4_; clear hb ho23; obtain ⟨Ao24, co24, eo24⟩ := Kd.R_slice HO283.out; subst eo24) | ((with_reducible refine gate_dst (N := 20) rfl ?_); (try (refine gate_guard (by rfl) ?_; dsimp only)); refine Kd.N_lit k35 _ 35 ?hg (N' := 20) ?hd (xs := ([(⟨(⟨#[120]⟩ : ByteArray), y278⟩ : S35), (⟨(⟨#[121]⟩ : ByteArray), y281⟩ : S35)] : List (S35))) (inner := [.string (⟨#[120]⟩ : ByteArray), .slice Ao21 y278.length co21, .string (⟨#[121]⟩ : ByteArray), .slice Ao24 y281.length co24]) (ok := (fun k_ => some k_ ≠ (.slice Ao17 y271.length co17 : Value).ownBlock ∧ some k_ ≠ (v276 : Value).ownBlock)) (okp := (fun k_ => some k_ ≠ (.slice Ao17 y271.length co17 : Value).ownBlock ∧ some k_ ≠ (v276 : Value).ownBlock)) ?hr ?hp (fun _ hk => hk) ((show ∀ k_, w22.heap.size ≤ k_ → (fun k_ => some k_ ≠ (.slice Ao17 y271.length co17 : Value).ownBlock ∧ some k_ ≠ (v276 : Value).ownBlock) k_ from fun k_ hk => ⟨Kd.fresh' (Kd.R_lt (by (with_reducible repeat (first | apply Kd.R_alloc | apply Kd.R_drewN | apply Kd.R_drew)); exact HO273.out)) k_ hk, Kd.fresh' (Kd.R_lt (by (with_reducible repeat (first | apply Kd.R_alloc | apply Kd.R_drewN | apply Kd.R_drew)); exact HO277.out)) k_ hk⟩) _ (Nat.le_refl _)) (Below.refl _ _) (Nat.le_refl _) (by simp) ?_; (case hd => rfl); (case hg => rfl); (case hr => first | (go_simp; done) | (go_simp; rfl)); (case hp => exact (Reps.c2 (show Kd.FK k35 _ _ (⟨(⟨#[120]⟩ : ByteArray), y278⟩ : S35) [.string (⟨#[120]⟩ : ByteArray), .slice Ao21 y278.length co21] from (k35_mkF _ _ (⟨(⟨#[120]⟩ : ByteArray), y278⟩ : S35) (Kd.R_reads' (Kd.R_mono (ok' := (fun k_ => some k_ ≠ (.slice Ao17 y271.length co17 : Value).ownBlock ∧ some k_ ≠ (v276 : Value).ownBlock)) (Kd.R_apart' (HO280.out) (Kd.R_typed HO277.out) (by decide)) (fun k_ hk => ⟨hk.1.1.2, hk.2⟩))).2.1 (Kd.R_F (Kd.R_mono (ok' := (fun k_ => some k_ ≠ (.slice Ao17 y271.length co17 : Value).ownBlock ∧ some k_ ≠ (v276 : Value).ownBlock)) (Kd.R_apart' (HO280.out) (Kd.R_typed HO277.out) (by decide)) (fun k_ hk => ⟨hk.1.1.2, hk.2⟩))))) (Reps.c2 (show Kd.FK k35 _ _ (⟨(⟨#[121]⟩ : ByteArray), y281⟩ : S35) [.string (⟨#[121]⟩ : ByteArray), .slice Ao24 y281.length co24] from (k35_mkF _ _ (⟨(⟨#[121]⟩ : ByteArray), y281⟩ : S35) (Kd.R_reads' (Kd.R_mono (ok' := (fun k_ => some k_ ≠ (.slice Ao17 y271.length co17 : Value).ownBlock ∧ some k_ ≠ (v276 : Value).ownBlock)) (Kd.R_apart' (HO283.out) (Kd.R_typed HO277.out) (by decide)) (fun k_ hk => ⟨hk.1.1.2, hk.2⟩))).2.1 (Kd.R_F (Kd.R_mono (ok' := (fun k_ => some k_ ≠ (.slice Ao17 y271.length co17 : Value).ownBlock ∧ some k_ ≠ (v276 : Value).ownBlock)) (Kd.R_apart' (HO283.out) (Kd.R_typed HO277.out) (by decide)) (fun k_ hk => ⟨hk.1.1.2, hk.2⟩))))) (Reps.none _ _)))); intro v285 w25 ho26 hb hg_ hnew_; clear hg_ hnew_; (first | rw [← Ny284.out] at ho26 | (simp only [Int.reduceToNat] at ho26; rw [← Ny284.out] at ho26)); have n0_ := A_ (Kd.R_below (by (with_reducible repeat (first | apply Kd.R_alloc | apply Kd.R_drewN | apply Kd.R_drew)); exact HO273.out) hb); have n1_ := A_ (Kd.R_below (by (with_reducible repeat (first | apply Kd.R_alloc | apply Kd.R_drewN | apply Kd.R_drew)); exact HO277.out) hb); have n2_ := A_ (Kd.N_lower ho26 (bz_ bw_)); have n3_ := A_ (bs_ bw_ hb); clear HO273; clear HO277; clear HB; clear HO280; clear HO283; have HO273 := n0_; have HO277 := n1_; have HO286 := n2_; have HB := n3_; clear n0_ n1_ n2_ n3_; clear hb ho26; obtain ⟨Ao27, co27, eo27⟩ := Kd.N_slice HO286.out; subst eo27) | ((with_reducible refine gate_callee (f := 17) rfl ?_); refine goesL_ (some 21) rfl rfl Try.func17 (by kernel_rfl) rfl #[.int .i64 7, .slice Ao27 y284.length co27] rfl (by (try simp only [List.map_toArray, List.map_cons, List.map_nil]); first | done | rfl | (simp only [List.length_drop, List.length_take]; rfl)) ?_; (with_reducible refine (waterfall_Run.calls k 7 _ _ y284 t287 t288 t289 _ ?side1 ?side2 A2.out).mono ?_); (case side1 => repeat (first | exact (Kd.N_reads' HO286.out).2.2 | (with_reducible refine ca_ ?_ _) | (with_reducible refine cn_ ?_ _) | (with_reducible refine cd_ ?_))); (case side2 => exact (Kd.N_reads' HO286.out).2.1); rintro e w28 ⟨v290, rfl, ho0, hb⟩; refine ⟨_, rfl, ?_⟩; have n0_ := A_ (Kd.R_below (by (with_reducible repeat (first | apply Kd.R_alloc | apply Kd.R_drewN | apply Kd.R_drew)); exact HO273.out) hb); have n1_ := A_ (Kd.R_below (by (with_reducible repeat (first | apply Kd.R_alloc | apply Kd.R_drewN | apply Kd.R_drew)); exact HO277.out) hb); have n2_ := A_ (Kd.N_elder' (by (with_reducible repeat (first | apply Kd.N_alloc | apply Kd.N_drewN | apply Kd.N_drew)); exact HO286.out) (Kd.R_base ho0) hb); have n3_ := A_ (Kd.R_lower ho0 (bz_ bw_)); have n4_ := A_ (bs_ bw_ hb); clear HO273; clear HO277; clear HO286; clear HB; have HO273 := n0_; have HO277 := n1_; have HO286 := n2_; have HO291 := n3_; have HB := n4_; clear n0_ n1_ n2_ n3_ n4_; (try clear hb); (try clear hb2); (try clear hk); (try clear hi); (try clear ho0); obtain ⟨Ao29, co29, eo29⟩ := Kd.R_slice HO277.out; subst eo29; have p292 : 0 ≤ (0 : Int) := (by omega); have q292 : 0 < (t274.length : Int) := od_ (by first | (with_reducible assumption) | assumption); obtain ⟨ad292, e292, hx292_0⟩ := Kd.at_int (Kd.R_reads' HO277.out).2.2 0 p292 q292; cases e292; have qi292 : (0 < t274.length) = True := eq_true (by omega); (try rw [show ((0 : Int)).toNat = 0 from rfl] at hx292_0); (try rw [Addr.add_zero'] at hx292_0); replace p292 := eq_true p292; replace q292 := eq_true q292; have p293 : 0 ≤ (1 : Int) := (by omega); have q293 : 1 < (t274.length : Int) := od_ (by first | (with_reducible assumption) | assumption); obtain ⟨ad293, e293, hx293_0⟩ := Kd.at_int (Kd.R_reads' HO277.out).2.2 1 p293 q293; obtain rfl : ad292 = ad293 := (by injection e293); (try simp only [show (1 : Int).toNat = 1 from rfl, Nat.reduceMul, Nat.reduceEqDiff, Go.Addr.add, ↓reduceIte] at hx293_0); have qi293 : (1 < t274.length) = True := eq_true (by omega); (try rw [show ((1 : Int)).toNat = 1 from rfl] at hx293_0); replace p293 := eq_true p293; replace q293 := eq_true q293; obtain ⟨Ao30, co30, eo30⟩ := Kd.R_slice HO291.out; subst eo30; have p294 : 0 ≤ (0 : Int) := (by omega); have q294 : 0 < (t287.length : Int) := od_ (by first | (with_reducible assumption) | assumption); obtain ⟨ad294, e294, hx294_0, hx294_1, hx294_2⟩ := at_T52 (Kd.R_reads' HO291.out).2.2 0 p294 q294; cases e294; have qi294 : (0 < t287.length) = True := eq_true (by omega); (try rw [show ((0 : Int)).toNat = 0 from rfl] at hx294_0); (try rw [show 0 * 3 = 0 from rfl] at hx294_0); (try rw [Addr.add_zero'] at hx294_0); (try rw [show ((0 : Int)).toNat = 0 from rfl] at hx294_1); (try rw [show 0 * 3 = 0 from rfl] at hx294_1); (try rw [Addr.add_zero'] at hx294_1); (try rw [show ((0 : Int)).toNat = 0 from rfl] at hx294_2); (try rw [show 0 * 3 = 0 from rfl] at hx294_2); (try rw [Addr.add_zero'] at hx294_2); replace p294 := eq_true p294; replace q294 := eq_true q294; have p295 : 0 ≤ (1 : Int) := (by omega); have q295 : 1 < (t287.length : Int) := od_ (by first | (with_reducible assumption) | assumption); obtain ⟨ad295, e295, hx295_0, hx295_1, hx295_2⟩ := at_T52 (Kd.R_reads' HO291.out).2.2 1 p295 q295; obtain rfl : ad294 = ad295 := (by injection e295); (try simp only [show (1 : Int).toNat = 1 from rfl, Nat.reduceMul, Nat.reduceEqDiff, Go.Addr.add, ↓reduceIte] at hx295_0); (try simp only [show (1 : Int).toNat = 1 from rfl, Nat.reduceMul, Nat.reduceEqDiff, Go.Addr.add, ↓reduceIte] at hx295_1); (try simp only [show (1 : Int).toNat = 1 from rfl, Nat.reduceMul, Nat.reduceEqDiff, Go.Addr.add, ↓reduceIte] at hx295_2); have qi295 : (1 < t287.length) = True := eq_true (by omega); (try rw [show ((1 : Int)).toNat = 1 from rfl] at hx295_0); (try rw [show 1 * 3 = 3 from rfl] at hx295_0); (try rw [show ((1 : Int)).toNat = 1 from rfl] at hx295_1); (try rw [show 1 * 3 = 3 from rfl] at hx295_1); (try rw [show ((1 : Int)).toNat = 1 from rfl] at hx295_2); (try rw [show 1 * 3 = 3 from rfl] at hx295_2); replace p295 := eq_true p295; replace q295 := eq_true q295))
             go_ret
             exact ⟨by first | rfl | (simp [errW_none, errW_some] <;> rfl) | (simp [*, errW_none, errW_some] <;> rfl), bw_⟩
            ·
             rw [if_neg c14] at H
             exact absurd H (by simp)
           ·
            rw [if_neg c13] at H
            have c13b0 : (((rd_T52 t287 0).f2) == 5) = false := q4_ c13
            have c13b1 : (((rd_T52 t287 0).f2) != 5) = true := q2_ c13
            obtain rfl := Option.some.inj H
            go_enter Try.func12, Try.ntmps12
            go_wp2_with (first | ((with_reducible refine gate_dst (N := 9) rfl ?_); (try (refine gate_guard (by rfl) ?_; dsimp only)); refine Kd.R_lit k74 _ 74 ?hg (N := 9) ?hd (xs := ([(⟨(⟨#[97]⟩ : ByteArray), 5⟩ : S74), (⟨(⟨#[98]⟩ : ByteArray), 3⟩ : S74)] : List (S74))) (inner := [.string (⟨#[97]⟩ : ByteArray), .int .i64 5, .string (⟨#[98]⟩ : ByteArray), .int .i64 3]) (ok := fun _ => True) (okp := fun _ => True) ?hr ?hp (fun _ hk => hk) trivial (Below.refl _ _) (Nat.le_refl _) (by simp) ?_; (case hd => rfl); (case hg => rfl); (case hr => first | (go_simp; done) | (go_simp; rfl)); (case hp => exact (Reps.c2 (show Kd.M k74 _ _ _ (⟨(⟨#[97]⟩ : ByteArray), 5⟩ : S74) [.string (⟨#[97]⟩ : ByteArray), .int .i64 5] from (k74_mkM _ _ _ (⟨(⟨#[97]⟩ : ByteArray), 5⟩ : S74) )) (Reps.c2 (show Kd.M k74 _ _ _ (⟨(⟨#[98]⟩ : ByteArray), 3⟩ : S74) [.string (⟨#[98]⟩ : ByteArray), .int .i64 3] from (k74_mkM _ _ _ (⟨(⟨#[98]⟩ : ByteArray), 3⟩ : S74) )) (Reps.none _ _)))); intro v272 w31 ho32 hb hg_ hnew_; clear hg_ hnew_; (first | rw [← Ny271.out] at ho32 | (simp only [Int.reduceToNat] at ho32; rw [← Ny271.out] at ho32)); have n0_ := A_ (Kd.R_lower ho32 (bz_ bw_)); have n1_ := A_ (bs_ bw_ hb); clear HB; have HO273 := n0_; have HB := n1_; clear n0_ n1_; clear hb ho32; obtain ⟨Ao33, co33, eo33⟩ := Kd.R_slice HO273.out; subst eo33) | ((with_reducible refine gate_callee (f := 10) rfl ?_); refine goesL_ (some 10) rfl rfl Try.func10 (by kernel_rfl) rfl #[.int .i64 4, .slice Ao33 y271.length co33] rfl (by (try simp only [List.map_toArray, List.map_cons, List.map_nil]); first | done | rfl | (simp only [List.length_drop, List.length_take]; rfl)) ?_; (with_reducible refine (waterfall_Split.calls k 4 _ _ y271 t274 t275 _ ?side1 ?side2 A1.out).mono ?_); (case side1 => repeat (first | exact (Kd.R_reads' HO273.out).2.2 | (with_reducible refine ca_ ?_ _) | (with_reducible refine cn_ ?_ _) | (with_reducible refine cd_ ?_))); (case side2 => exact (Kd.R_reads' HO273.out).2.1); rintro e w34 ⟨v276, rfl, ho0, hb⟩; refine ⟨_, rfl, ?_⟩; have n0_ := A_ (Kd.R_below (by (with_reducible repeat (first | apply Kd.R_alloc | apply Kd.R_drewN | apply Kd.R_drew)); exact HO273.out) hb); have n1_ := A_ (Kd.R_lower ho0 (bz_ bw_)); have n2_ := A_ (bs_ bw_ hb); clear HO273; clear HB; have HO273 := n0_; have HO277 := n1_; have HB := n2_; clear n0_ n1_ n2_; (try clear hb); (try clear hb2); (try clear hk); (try clear hi); (try clear ho0)) | ((with_reducible refine gate_dst (N := 15) rfl ?_); (try (refine gate_guard (by rfl) ?_; dsimp only)); refine Kd.R_lit k74 _ 74 ?hg (N := 15) ?hd (xs := ([(⟨(⟨#[97]⟩ : ByteArray), 5⟩ : S74)] : List (S74))) (inner := [.string (⟨#[97]⟩ : ByteArray), .int .i64 5]) (ok := fun _ => True) (okp := fun _ => True) ?hr ?hp (fun _ hk => hk) trivial (Below.refl _ _) (Nat.le_refl _) (by simp) ?_; (case hd => rfl); (case hg => rfl); (case hr => first | (go_simp; done) | (go_simp; rfl)); (case hp => exact (Reps.c2 (show Kd.M k74 _ _ _ (⟨(⟨#[97]⟩ : ByteArray), 5⟩ : S74) [.string (⟨#[97]⟩ : ByteArray), .int .i64 5] from (k74_mkM _ _ _ (⟨(⟨#[97]⟩ : ByteArray), 5⟩ : S74) )) (Reps.none _ _))); intro v279 w35 ho36 hb hg_ hnew_; clear hg_ hnew_; (first | rw [← Ny278.out] at ho36 | (simp only [Int.reduceToNat] at ho36; rw [← Ny278.out] at ho36)); have n0_ := A_ (Kd.R_elder' (by (with_reducible repeat (first | apply Kd.R_alloc | apply Kd.R_drewN | apply Kd.R_drew)); exact HO273.out) (Kd.R_base ho36) hb); have n1_ := A_ (Kd.R_below (by (with_reducible repeat (first | apply Kd.R_alloc | apply Kd.R_drewN | apply Kd.R_drew)); exact HO277.out) hb); have n2_ := A_ (Kd.R_lower (Kd.R_new' ho36 (Kd.R_lt (by (with_reducible repeat (first | apply Kd.R_alloc | apply Kd.R_drewN | apply Kd.R_drew)); exact HO273.out))) (bz_ bw_)); have n3_ := A_ (bs_ bw_ hb); clear HO273; clear HO277; clear HB; have HO273 := n0_; have HO277 := n1_; have HO280 := n2_; have HB := n3_; clear n0_ n1_ n2_ n3_; clear hb ho36; obtain ⟨Ao37, co37, eo37⟩ := Kd.R_slice HO280.out; subst eo37) | ((with_reducible refine gate_dst (N := 18) rfl ?_); (try (refine gate_guard (by rfl) ?_; dsimp only)); refine Kd.R_lit k74 _ 74 ?hg (N := 18) ?hd (xs := ([(⟨(⟨#[97]⟩ : ByteArray), 10⟩ : S74)] : List (S74))) (inner := [.string (⟨#[97]⟩ : ByteArray), .int .i64 10]) (ok := fun _ => True) (okp := fun _ => True) ?hr ?hp (fun _ hk => hk) trivial (Below.refl _ _) (Nat.le_refl _) (by simp) ?_; (case hd => rfl); (case hg => rfl); (case hr => first | (go_simp; done) | (go_simp; rfl)); (case hp => exact (Reps.c2 (show Kd.M k74 _ _ _ (⟨(⟨#[97]⟩ : ByteArray), 10⟩ : S74) [.string (⟨#[97]⟩ : ByteArray), .int .i64 10] from (k74_mkM _ _ _ (⟨(⟨#[97]⟩ : ByteArray), 10⟩ : S74) )) (Reps.none _ _))); intro v282 w38 ho39 hb hg_ hnew_; clear hg_ hnew_; (first | rw [← Ny281.out] at ho39 | (simp only [Int.reduceToNat] at ho39; rw [← Ny281.out] at ho39)); have n0_ := A_ (Kd.R_elder' (by (with_reducible repeat (first | apply Kd.R_alloc | apply Kd.R_drewN | apply Kd.R_drew)); exact HO273.out) (Kd.R_base ho39) hb); have n1_ := A_ (Kd.R_below (by (with_reducible repeat (first | apply Kd.R_alloc | apply Kd.R_drewN | apply Kd.R_drew)); exact HO277.out) hb); have n2_ := A_ (Kd.R_elder' (by (with_reducible repeat (first | apply Kd.R_alloc | apply Kd.R_drewN | apply Kd.R_drew)); exact HO280.out) (Kd.R_base ho39) hb); have n3_ := A_ (Kd.R_lower (Kd.R_new' (Kd.R_new' ho39 (Kd.R_lt (by (with_reducible repeat (first | apply Kd.R_alloc | apply Kd.R_drewN | apply Kd.R_drew)); exact HO273.out))) (Kd.R_lt (by (with_reducible repeat (first | apply Kd.R_alloc | apply Kd.R_drewN | apply Kd.R_drew)); exact HO280.out))) (bz_ bw_)); have n4_ := A_ (bs_ bw_ hb); clear HO273; clear HO277; clear HO280; clear HB; have HO273 := n0_; have HO277 := n1_; have HO280 := n2_; have HO283 := n3_; have HB := n4_; clear n0_ n1_ n2_ n3_ n4_; clear hb ho39; obtain ⟨Ao40, co40, eo40⟩ := Kd.R_slice HO283.out; subst eo40) | ((with_reducible refine gate_dst (N := 20) rfl ?_); (try (refine gate_guard (by rfl) ?_; dsimp only)); refine Kd.N_lit k35 _ 35 ?hg (N' := 20) ?hd (xs := ([(⟨(⟨#[120]⟩ : ByteArray), y278⟩ : S35), (⟨(⟨#[121]⟩ : ByteArray), y281⟩ : S35)] : List (S35))) (inner := [.string (⟨#[120]⟩ : ByteArray), .slice Ao37 y278.length co37, .string (⟨#[121]⟩ : ByteArray), .slice Ao40 y281.length co40]) (ok := (fun k_ => some k_ ≠ (.slice Ao33 y271.length co33 : Value).ownBlock ∧ some k_ ≠ (v276 : Value).ownBlock)) (okp := (fun k_ => some k_ ≠ (.slice Ao33 y271.length co33 : Value).ownBlock ∧ some k_ ≠ (v276 : Value).ownBlock)) ?hr ?hp (fun _ hk => hk) ((show ∀ k_, w38.heap.size ≤ k_ → (fun k_ => some k_ ≠ (.slice Ao33 y271.length co33 : Value).ownBlock ∧ some k_ ≠ (v276 : Value).ownBlock) k_ from fun k_ hk => ⟨Kd.fresh' (Kd.R_lt (by (with_reducible repeat (first | apply Kd.R_alloc | apply Kd.R_drewN | apply Kd.R_drew)); exact HO273.out)) k_ hk, Kd.fresh' (Kd.R_lt (by (with_reducible repeat (first | apply Kd.R_alloc | apply Kd.R_drewN | apply Kd.R_drew)); exact HO277.out)) k_ hk⟩) _ (Nat.le_refl _)) (Below.refl _ _) (Nat.le_refl _) (by simp) ?_; (case hd => rfl); (case hg => rfl); (case hr => first | (go_simp; done) | (go_simp; rfl)); (case hp => exact (Reps.c2 (show Kd.FK k35 _ _ (⟨(⟨#[120]⟩ : ByteArray), y278⟩ : S35) [.string (⟨#[120]⟩ : ByteArray), .slice Ao37 y278.length co37] from (k35_mkF _ _ (⟨(⟨#[120]⟩ : ByteArray), y278⟩ : S35) (Kd.R_reads' (Kd.R_mono (ok' := (fun k_ => some k_ ≠ (.slice Ao33 y271.length co33 : Value).ownBlock ∧ some k_ ≠ (v276 : Value).ownBlock)) (Kd.R_apart' (HO280.out) (Kd.R_typed HO277.out) (by decide)) (fun k_ hk => ⟨hk.1.1.2, hk.2⟩))).2.1 (Kd.R_F (Kd.R_mono (ok' := (fun k_ => some k_ ≠ (.slice Ao33 y271.length co33 : Value).ownBlock ∧ some k_ ≠ (v276 : Value).ownBlock)) (Kd.R_apart' (HO280.out) (Kd.R_typed HO277.out) (by decide)) (fun k_ hk => ⟨hk.1.1.2, hk.2⟩))))) (Reps.c2 (show Kd.FK k35 _ _ (⟨(⟨#[121]⟩ : ByteArray), y281⟩ : S35) [.string (⟨#[121]⟩ : ByteArray), .slice Ao40 y281.length co40] from (k35_mkF _ _ (⟨(⟨#[121]⟩ : ByteArray), y281⟩ : S35) (Kd.R_reads' (Kd.R_mono (ok' := (fun k_ => some k_ ≠ (.slice Ao33 y271.length co33 : Value).ownBlock ∧ some k_ ≠ (v276 : Value).ownBlock)) (Kd.R_apart' (HO283.out) (Kd.R_typed HO277.out) (by decide)) (fun k_ hk => ⟨hk.1.1.2, hk.2⟩))).2.1 (Kd.R_F (Kd.R_mono (ok' := (fun k_ => some k_ ≠ (.slice Ao33 y271.length co33 : Value).ownBlock ∧ some k_ ≠ (v276 : Value).ownBlock)) (Kd.R_apart' (HO283.out) (Kd.R_typed HO277.out) (by decide)) (fun k_ hk => ⟨hk.1.1.2, hk.2⟩))))) (Reps.none _ _)))); intro v285 w41 ho42 hb hg_ hnew_; clear hg_ hnew_; (first | rw [← Ny284.out] at ho42 | (simp only [Int.reduceToNat] at ho42; rw [← Ny284.out] at ho42)); have n0_ := A_ (Kd.R_below (by (with_reducible repeat (first | apply Kd.R_alloc | apply Kd.R_drewN | apply Kd.R_drew)); exact HO273.out) hb); have n1_ := A_ (Kd.R_below (by (with_reducible repeat (first | apply Kd.R_alloc | apply Kd.R_drewN | apply Kd.R_drew)); exact HO277.out) hb); have n2_ := A_ (Kd.N_lower ho42 (bz_ bw_)); have n3_ := A_ (bs_ bw_ hb); clear HO273; clear HO277; clear HB; clear HO280; clear HO283; have HO273 := n0_; have HO277 := n1_; have HO286 := n2_; have HB := n3_; clear n0_ n1_ n2_ n3_; clear hb ho42; obtain ⟨Ao43, co43, eo43⟩ := Kd.N_slice HO286.out; subst eo43) | ((with_reducible refine gate_callee (f := 17) rfl ?_); refine goesL_ (some 21) rfl rfl Try.func17 (by kernel_rfl) rfl #[.int .i64 7, .slice Ao43 y284.length co43] rfl (by (try simp only [List.map_toArray, List.map_cons, List.map_nil]); first | done | rfl | (simp only [List.length_drop, List.length_take]; rfl)) ?_; (with_reducible refine (waterfall_Run.calls k 7 _ _ y284 t287 t288 t289 _ ?side1 ?side2 A2.out).mono ?_); (case side1 => repeat (first | exact (Kd.N_reads' HO286.out).2.2 | (with_reducible refine ca_ ?_ _) | (with_reducible refine cn_ ?_ _) | (with_reducible refine cd_ ?_))); (case side2 => exact (Kd.N_reads' HO286.out).2.1); rintro e w44 ⟨v290, rfl, ho0, hb⟩; refine ⟨_, rfl, ?_⟩; have n0_ := A_ (Kd.R_below (by (with_reducible repeat (first | apply Kd.R_alloc | apply Kd.R_drewN | apply Kd.R_drew)); exact HO273.out) hb); have n1_ := A_ (Kd.R_below (by (with_reducible repeat (first | apply Kd.R_alloc | apply Kd.R_drewN | apply Kd.R_drew)); exact HO277.out) hb); have n2_ := A_ (Kd.N_elder' (by (with_reducible repeat (first | apply Kd.N_alloc | apply Kd.N_drewN | apply Kd.N_drew)); exact HO286.out) (Kd.R_base ho0) hb); have n3_ := A_ (Kd.R_lower ho0 (bz_ bw_)); have n4_ := A_ (bs_ bw_ hb); clear HO273; clear HO277; clear HO286; clear HB; have HO273 := n0_; have HO277 := n1_; have HO286 := n2_; have HO291 := n3_; have HB := n4_; clear n0_ n1_ n2_ n3_ n4_; (try clear hb); (try clear hb2); (try clear hk); (try clear hi); (try clear ho0); obtain ⟨Ao45, co45, eo45⟩ := Kd.R_slice HO277.out; subst eo45; have p292 : 0 ≤ (0 : Int) := (by omega); have q292 : 0 < (t274.length : Int) := od_ (by first | (with_reducible assumption) | assumption); obtain ⟨ad292, e292, hx292_0⟩ := Kd.at_int (Kd.R_reads' HO277.out).2.2 0 p292 q292; cases e292; have qi292 : (0 < t274.length) = True := eq_true (by omega); (try rw [show ((0 : Int)).toNat = 0 from rfl] at hx292_0); (try rw [Addr.add_zero'] at hx292_0); replace p292 := eq_true p292; replace q292 := eq_true q292; have p293 : 0 ≤ (1 : Int) := (by omega); have q293 : 1 < (t274.length : Int) := od_ (by first | (with_reducible assumption) | assumption); obtain ⟨ad293, e293, hx293_0⟩ := Kd.at_int (Kd.R_reads' HO277.out).2.2 1 p293 q293; obtain rfl : ad292 = ad293 := (by injection e293); (try simp only [show (1 : Int).toNat = 1 from rfl, Nat.reduceMul, Nat.reduceEqDiff, Go.Addr.add, ↓reduceIte] at hx293_0); have qi293 : (1 < t274.length) = True := eq_true (by omega); (try rw [show ((1 : Int)).toNat = 1 from rfl] at hx293_0); replace p293 := eq_true p293; replace q293 := eq_true q293; obtain ⟨Ao46, co46, eo46⟩ := Kd.R_slice HO291.out; subst eo46; have p294 : 0 ≤ (0 : Int) := (by omega); have q294 : 0 < (t287.length : Int) := od_ (by first | (with_reducible assumption) | assumption); obtain ⟨ad294, e294, hx294_0, hx294_1, hx294_2⟩ := at_T52 (Kd.R_reads' HO291.out).2.2 0 p294 q294; cases e294; have qi294 : (0 < t287.length) = True := eq_true (by omega); (try rw [show ((0 : Int)).toNat = 0 from rfl] at hx294_0); (try rw [show 0 * 3 = 0 from rfl] at hx294_0); (try rw [Addr.add_zero'] at hx294_0); (try rw [show ((0 : Int)).toNat = 0 from rfl] at hx294_1); (try rw [show 0 * 3 = 0 from rfl] at hx294_1); (try rw [Addr.add_zero'] at hx294_1); (try rw [show ((0 : Int)).toNat = 0 from rfl] at hx294_2); (try rw [show 0 * 3 = 0 from rfl] at hx294_2); (try rw [Addr.add_zero'] at hx294_2); replace p294 := eq_true p294; replace q294 := eq_true q294))
            go_ret
            exact ⟨by first | rfl | (simp [errW_none, errW_some] <;> rfl) | (simp [*, errW_none, errW_some] <;> rfl), bw_⟩
          ·
           rw [if_neg c12] at H
           exact absurd H (by simp)
         ·
          rw [if_neg c11] at H
          have c11b0 : ((t287.length : Int) == 2) = false := q4_ c11
          have c11b1 : ((t287.length : Int) != 2) = true := q2_ c11
          obtain rfl := Option.some.inj H
          go_enter Try.func12, Try.ntmps12
          go_wp2_with (first | ((with_reducible refine gate_dst (N := 9) rfl ?_); (try (refine gate_guard (by rfl) ?_; dsimp only)); refine Kd.R_lit k74 _ 74 ?hg (N := 9) ?hd (xs := ([(⟨(⟨#[97]⟩ : ByteArray), 5⟩ : S74), (⟨(⟨#[98]⟩ : ByteArray), 3⟩ : S74)] : List (S74))) (inner := [.string (⟨#[97]⟩ : ByteArray), .int .i64 5, .string (⟨#[98]⟩ : ByteArray), .int .i64 3]) (ok := fun _ => True) (okp := fun _ => True) ?hr ?hp (fun _ hk => hk) trivial (Below.refl _ _) (Nat.le_refl _) (by simp) ?_; (case hd => rfl); (case hg => rfl); (case hr => first | (go_simp; done) | (go_simp; rfl)); (case hp => exact (Reps.c2 (show Kd.M k74 _ _ _ (⟨(⟨#[97]⟩ : ByteArray), 5⟩ : S74) [.string (⟨#[97]⟩ : ByteArray), .int .i64 5] from (k74_mkM _ _ _ (⟨(⟨#[97]⟩ : ByteArray), 5⟩ : S74) )) (Reps.c2 (show Kd.M k74 _ _ _ (⟨(⟨#[98]⟩ : ByteArray), 3⟩ : S74) [.string (⟨#[98]⟩ : ByteArray), .int .i64 3] from (k74_mkM _ _ _ (⟨(⟨#[98]⟩ : ByteArray), 3⟩ : S74) )) (Reps.none _ _)))); intro v272 w47 ho48 hb hg_ hnew_; clear hg_ hnew_; (first | rw [← Ny271.out] at ho48 | (simp only [Int.reduceToNat] at ho48; rw [← Ny271.out] at ho48)); have n0_ := A_ (Kd.R_lower ho48 (bz_ bw_)); have n1_ := A_ (bs_ bw_ hb); clear HB; have HO273 := n0_; have HB := n1_; clear n0_ n1_; clear hb ho48; obtain ⟨Ao49, co49, eo49⟩ := Kd.R_slice HO273.out; subst eo49) | ((with_reducible refine gate_callee (f := 10) rfl ?_); refine goesL_ (some 10) rfl rfl Try.func10 (by kernel_rfl) rfl #[.int .i64 4, .slice Ao49 y271.length co49] rfl (by (try simp only [List.map_toArray, List.map_cons, List.map_nil]); first | done | rfl | (simp only [List.length_drop, List.length_take]; rfl)) ?_; (with_reducible refine (waterfall_Split.calls k 4 _ _ y271 t274 t275 _ ?side1 ?side2 A1.out).mono ?_); (case side1 => repeat (first | exact (Kd.R_reads' HO273.out).2.2 | (with_reducible refine ca_ ?_ _) | (with_reducible refine cn_ ?_ _) | (with_reducible refine cd_ ?_))); (case side2 => exact (Kd.R_reads' HO273.out).2.1); rintro e w50 ⟨v276, rfl, ho0, hb⟩; refine ⟨_, rfl, ?_⟩; have n0_ := A_ (Kd.R_below (by (with_reducible repeat (first | apply Kd.R_alloc | apply Kd.R_drewN | apply Kd.R_drew)); exact HO273.out) hb); have n1_ := A_ (Kd.R_lower ho0 (bz_ bw_)); have n2_ := A_ (bs_ bw_ hb); clear HO273; clear HB; have HO273 := n0_; have HO277 := n1_; have HB := n2_; clear n0_ n1_ n2_; (try clear hb); (try clear hb2); (try clear hk); (try clear hi); (try clear ho0)) | ((with_reducible refine gate_dst (N := 15) rfl ?_); (try (refine gate_guard (by rfl) ?_; dsimp only)); refine Kd.R_lit k74 _ 74 ?hg (N := 15) ?hd (xs := ([(⟨(⟨#[97]⟩ : ByteArray), 5⟩ : S74)] : List (S74))) (inner := [.string (⟨#[97]⟩ : ByteArray), .int .i64 5]) (ok := fun _ => True) (okp := fun _ => True) ?hr ?hp (fun _ hk => hk) trivial (Below.refl _ _) (Nat.le_refl _) (by simp) ?_; (case hd => rfl); (case hg => rfl); (case hr => first | (go_simp; done) | (go_simp; rfl)); (case hp => exact (Reps.c2 (show Kd.M k74 _ _ _ (⟨(⟨#[97]⟩ : ByteArray), 5⟩ : S74) [.string (⟨#[97]⟩ : ByteArray), .int .i64 5] from (k74_mkM _ _ _ (⟨(⟨#[97]⟩ : ByteArray), 5⟩ : S74) )) (Reps.none _ _))); intro v279 w51 ho52 hb hg_ hnew_; clear hg_ hnew_; (first | rw [← Ny278.out] at ho52 | (simp only [Int.reduceToNat] at ho52; rw [← Ny278.out] at ho52)); have n0_ := A_ (Kd.R_elder' (by (with_reducible repeat (first | apply Kd.R_alloc | apply Kd.R_drewN | apply Kd.R_drew)); exact HO273.out) (Kd.R_base ho52) hb); have n1_ := A_ (Kd.R_below (by (with_reducible repeat (first | apply Kd.R_alloc | apply Kd.R_drewN | apply Kd.R_drew)); exact HO277.out) hb); have n2_ := A_ (Kd.R_lower (Kd.R_new' ho52 (Kd.R_lt (by (with_reducible repeat (first | apply Kd.R_alloc | apply Kd.R_drewN | apply Kd.R_drew)); exact HO273.out))) (bz_ bw_)); have n3_ := A_ (bs_ bw_ hb); clear HO273; clear HO277; clear HB; have HO273 := n0_; have HO277 := n1_; have HO280 := n2_; have HB := n3_; clear n0_ n1_ n2_ n3_; clear hb ho52; obtain ⟨Ao53, co53, eo53⟩ := Kd.R_slice HO280.out; subst eo53) | ((with_reducible refine gate_dst (N := 18) rfl ?_); (try (refine gate_guard (by rfl) ?_; dsimp only)); refine Kd.R_lit k74 _ 74 ?hg (N := 18) ?hd (xs := ([(⟨(⟨#[97]⟩ : ByteArray), 10⟩ : S74)] : List (S74))) (inner := [.string (⟨#[97]⟩ : ByteArray), .int .i64 10]) (ok := fun _ => True) (okp := fun _ => True) ?hr ?hp (fun _ hk => hk) trivial (Below.refl _ _) (Nat.le_refl _) (by simp) ?_; (case hd => rfl); (case hg => rfl); (case hr => first | (go_simp; done) | (go_simp; rfl)); (case hp => exact (Reps.c2 (show Kd.M k74 _ _ _ (⟨(⟨#[97]⟩ : ByteArray), 10⟩ : S74) [.string (⟨#[97]⟩ : ByteArray), .int .i64 10] from (k74_mkM _ _ _ (⟨(⟨#[97]⟩ : ByteArray), 10⟩ : S74) )) (Reps.none _ _))); intro v282 w54 ho55 hb hg_ hnew_; clear hg_ hnew_; (first | rw [← Ny281.out] at ho55 | (simp only [Int.reduceToNat] at ho55; rw [← Ny281.out] at ho55)); have n0_ := A_ (Kd.R_elder' (by (with_reducible repeat (first | apply Kd.R_alloc | apply Kd.R_drewN | apply Kd.R_drew)); exact HO273.out) (Kd.R_base ho55) hb); have n1_ := A_ (Kd.R_below (by (with_reducible repeat (first | apply Kd.R_alloc | apply Kd.R_drewN | apply Kd.R_drew)); exact HO277.out) hb); have n2_ := A_ (Kd.R_elder' (by (with_reducible repeat (first | apply Kd.R_alloc | apply Kd.R_drewN | apply Kd.R_drew)); exact HO280.out) (Kd.R_base ho55) hb); have n3_ := A_ (Kd.R_lower (Kd.R_new' (Kd.R_new' ho55 (Kd.R_lt (by (with_reducible repeat (first | apply Kd.R_alloc | apply Kd.R_drewN | apply Kd.R_drew)); exact HO273.out))) (Kd.R_lt (by (with_reducible repeat (first | apply Kd.R_alloc | apply Kd.R_drewN | apply Kd.R_drew)); exact HO280.out))) (bz_ bw_)); have n4_ := A_ (bs_ bw_ hb); clear HO273; clear HO277; clear HO280; clear HB; have HO273 := n0_; have HO277 := n1_; have HO280 := n2_; have HO283 := n3_; have HB := n4_; clear n0_ n1_ n2_ n3_ n4_; clear hb ho55; obtain ⟨Ao56, co56, eo56⟩ := Kd.R_slice HO283.out; subst eo56) | ((with_reducible refine gate_dst (N := 20) rfl ?_); (try (refine gate_guard (by rfl) ?_; dsimp only)); refine Kd.N_lit k35 _ 35 ?hg (N' := 20) ?hd (xs := ([(⟨(⟨#[120]⟩ : ByteArray), y278⟩ : S35), (⟨(⟨#[121]⟩ : ByteArray), y281⟩ : S35)] : List (S35))) (inner := [.string (⟨#[120]⟩ : ByteArray), .slice Ao53 y278.length co53, .string (⟨#[121]⟩ : ByteArray), .slice Ao56 y281.length co56]) (ok := (fun k_ => some k_ ≠ (.slice Ao49 y271.length co49 : Value).ownBlock ∧ some k_ ≠ (v276 : Value).ownBlock)) (okp := (fun k_ => some k_ ≠ (.slice Ao49 y271.length co49 : Value).ownBlock ∧ some k_ ≠ (v276 : Value).ownBlock)) ?hr ?hp (fun _ hk => hk) ((show ∀ k_, w54.heap.size ≤ k_ → (fun k_ => some k_ ≠ (.slice Ao49 y271.length co49 : Value).ownBlock ∧ some k_ ≠ (v276 : Value).ownBlock) k_ from fun k_ hk => ⟨Kd.fresh' (Kd.R_lt (by (with_reducible repeat (first | apply Kd.R_alloc | apply Kd.R_drewN | apply Kd.R_drew)); exact HO273.out)) k_ hk, Kd.fresh' (Kd.R_lt (by (with_reducible repeat (first | apply Kd.R_alloc | apply Kd.R_drewN | apply Kd.R_drew)); exact HO277.out)) k_ hk⟩) _ (Nat.le_refl _)) (Below.refl _ _) (Nat.le_refl _) (by simp) ?_; (case hd => rfl); (case hg => rfl); (case hr => first | (go_simp; done) | (go_simp; rfl)); (case hp => exact (Reps.c2 (show Kd.FK k35 _ _ (⟨(⟨#[120]⟩ : ByteArray), y278⟩ : S35) [.string (⟨#[120]⟩ : ByteArray), .slice Ao53 y278.length co53] from (k35_mkF _ _ (⟨(⟨#[120]⟩ : ByteArray), y278⟩ : S35) (Kd.R_reads' (Kd.R_mono (ok' := (fun k_ => some k_ ≠ (.slice Ao49 y271.length co49 : Value).ownBlock ∧ some k_ ≠ (v276 : Value).ownBlock)) (Kd.R_apart' (HO280.out) (Kd.R_typed HO277.out) (by decide)) (fun k_ hk => ⟨hk.1.1.2, hk.2⟩))).2.1 (Kd.R_F (Kd.R_mono (ok' := (fun k_ => some k_ ≠ (.slice Ao49 y271.length co49 : Value).ownBlock ∧ some k_ ≠ (v276 : Value).ownBlock)) (Kd.R_apart' (HO280.out) (Kd.R_typed HO277.out) (by decide)) (fun k_ hk => ⟨hk.1.1.2, hk.2⟩))))) (Reps.c2 (show Kd.FK k35 _ _ (⟨(⟨#[121]⟩ : ByteArray), y281⟩ : S35) [.string (⟨#[121]⟩ : ByteArray), .slice Ao56 y281.length co56] from (k35_mkF _ _ (⟨(⟨#[121]⟩ : ByteArray), y281⟩ : S35) (Kd.R_reads' (Kd.R_mono (ok' := (fun k_ => some k_ ≠ (.slice Ao49 y271.length co49 : Value).ownBlock ∧ some k_ ≠ (v276 : Value).ownBlock)) (Kd.R_apart' (HO283.out) (Kd.R_typed HO277.out) (by decide)) (fun k_ hk => ⟨hk.1.1.2, hk.2⟩))).2.1 (Kd.R_F (Kd.R_mono (ok' := (fun k_ => some k_ ≠ (.slice Ao49 y271.length co49 : Value).ownBlock ∧ some k_ ≠ (v276 : Value).ownBlock)) (Kd.R_apart' (HO283.out) (Kd.R_typed HO277.out) (by decide)) (fun k_ hk => ⟨hk.1.1.2, hk.2⟩))))) (Reps.none _ _)))); intro v285 w57 ho58 hb hg_ hnew_; clear hg_ hnew_; (first | rw [← Ny284.out] at ho58 | (simp only [Int.reduceToNat] at ho58; rw [← Ny284.out] at ho58)); have n0_ := A_ (Kd.R_below (by (with_reducible repeat (first | apply Kd.R_alloc | apply Kd.R_drewN | apply Kd.R_drew)); exact HO273.out) hb); have n1_ := A_ (Kd.R_below (by (with_reducible repeat (first | apply Kd.R_alloc | apply Kd.R_drewN | apply Kd.R_drew)); exact HO277.out) hb); have n2_ := A_ (Kd.N_lower ho58 (bz_ bw_)); have n3_ := A_ (bs_ bw_ hb); clear HO273; clear HO277; clear HB; clear HO280; clear HO283; have HO273 := n0_; have HO277 := n1_; have HO286 := n2_; have HB := n3_; clear n0_ n1_ n2_ n3_; clear hb ho58; obtain ⟨Ao59, co59, eo59⟩ := Kd.N_slice HO286.out; subst eo59) | ((with_reducible refine gate_callee (f := 17) rfl ?_); refine goesL_ (some 21) rfl rfl Try.func17 (by kernel_rfl) rfl #[.int .i64 7, .slice Ao59 y284.length co59] rfl (by (try simp only [List.map_toArray, List.map_cons, List.map_nil]); first | done | rfl | (simp only [List.length_drop, List.length_take]; rfl)) ?_; (with_reducible refine (waterfall_Run.calls k 7 _ _ y284 t287 t288 t289 _ ?side1 ?side2 A2.out).mono ?_); (case side1 => repeat (first | exact (Kd.N_reads' HO286.out).2.2 | (with_reducible refine ca_ ?_ _) | (with_reducible refine cn_ ?_ _) | (with_reducible refine cd_ ?_))); (case side2 => exact (Kd.N_reads' HO286.out).2.1); rintro e w60 ⟨v290, rfl, ho0, hb⟩; refine ⟨_, rfl, ?_⟩; have n0_ := A_ (Kd.R_below (by (with_reducible repeat (first | apply Kd.R_alloc | apply Kd.R_drewN | apply Kd.R_drew)); exact HO273.out) hb); have n1_ := A_ (Kd.R_below (by (with_reducible repeat (first | apply Kd.R_alloc | apply Kd.R_drewN | apply Kd.R_drew)); exact HO277.out) hb); have n2_ := A_ (Kd.N_elder' (by (with_reducible repeat (first | apply Kd.N_alloc | apply Kd.N_drewN | apply Kd.N_drew)); exact HO286.out) (Kd.R_base ho0) hb); have n3_ := A_ (Kd.R_lower ho0 (bz_ bw_)); have n4_ := A_ (bs_ bw_ hb); clear HO273; clear HO277; clear HO286; clear HB; have HO273 := n0_; have HO277 := n1_; have HO286 := n2_; have HO291 := n3_; have HB := n4_; clear n0_ n1_ n2_ n3_ n4_; (try clear hb); (try clear hb2); (try clear hk); (try clear hi); (try clear ho0); obtain ⟨Ao61, co61, eo61⟩ := Kd.R_slice HO277.out; subst eo61; have p292 : 0 ≤ (0 : Int) := (by omega); have q292 : 0 < (t274.length : Int) := od_ (by first | (with_reducible assumption) | assumption); obtain ⟨ad292, e292, hx292_0⟩ := Kd.at_int (Kd.R_reads' HO277.out).2.2 0 p292 q292; cases e292; have qi292 : (0 < t274.length) = True := eq_true (by omega); (try rw [show ((0 : Int)).toNat = 0 from rfl] at hx292_0); (try rw [Addr.add_zero'] at hx292_0); replace p292 := eq_true p292; replace q292 := eq_true q292; have p293 : 0 ≤ (1 : Int) := (by omega); have q293 : 1 < (t274.length : Int) := od_ (by first | (with_reducible assumption) | assumption); obtain ⟨ad293, e293, hx293_0⟩ := Kd.at_int (Kd.R_reads' HO277.out).2.2 1 p293 q293; obtain rfl : ad292 = ad293 := (by injection e293); (try simp only [show (1 : Int).toNat = 1 from rfl, Nat.reduceMul, Nat.reduceEqDiff, Go.Addr.add, ↓reduceIte] at hx293_0); have qi293 : (1 < t274.length) = True := eq_true (by omega); (try rw [show ((1 : Int)).toNat = 1 from rfl] at hx293_0); replace p293 := eq_true p293; replace q293 := eq_true q293; obtain ⟨Ao62, co62, eo62⟩ := Kd.R_slice HO291.out; subst eo62))
          go_ret
          exact ⟨by first | rfl | (simp [errW_none, errW_some] <;> rfl) | (simp [*, errW_none, errW_some] <;> rfl), bw_⟩
        ·
         rw [if_neg c10] at H
         have c10b0 : (t288 == 0) = false := q4_ c10
         have c10b1 : (t288 != 0) = true := q2_ c10
         obtain rfl := Option.some.inj H
         go_enter Try.func12, Try.ntmps12
         go_wp2_with (first | ((with_reducible refine gate_dst (N := 9) rfl ?_); (try (refine gate_guard (by rfl) ?_; dsimp only)); refine Kd.R_lit k74 _ 74 ?hg (N := 9) ?hd (xs := ([(⟨(⟨#[97]⟩ : ByteArray), 5⟩ : S74), (⟨(⟨#[98]⟩ : ByteArray), 3⟩ : S74)] : List (S74))) (inner := [.string (⟨#[97]⟩ : ByteArray), .int .i64 5, .string (⟨#[98]⟩ : ByteArray), .int .i64 3]) (ok := fun _ => True) (okp := fun _ => True) ?hr ?hp (fun _ hk => hk) trivial (Below.refl _ _) (Nat.le_refl _) (by simp) ?_; (case hd => rfl); (case hg => rfl); (case hr => first | (go_simp; done) | (go_simp; rfl)); (case hp => exact (Reps.c2 (show Kd.M k74 _ _ _ (⟨(⟨#[97]⟩ : ByteArray), 5⟩ : S74) [.string (⟨#[97]⟩ : ByteArray), .int .i64 5] from (k74_mkM _ _ _ (⟨(⟨#[97]⟩ : ByteArray), 5⟩ : S74) )) (Reps.c2 (show Kd.M k74 _ _ _ (⟨(⟨#[98]⟩ : ByteArray), 3⟩ : S74) [.string (⟨#[98]⟩ : ByteArray), .int .i64 3] from (k74_mkM _ _ _ (⟨(⟨#[98]⟩ : ByteArray), 3⟩ : S74) )) (Reps.none _ _)))); intro v272 w63 ho64 hb hg_ hnew_; clear hg_ hnew_; (first | rw [← Ny271.out] at ho64 | (simp only [Int.reduceToNat] at ho64; rw [← Ny271.out] at ho64)); have n0_ := A_ (Kd.R_lower ho64 (bz_ bw_)); have n1_ := A_ (bs_ bw_ hb); clear HB; have HO273 := n0_; have HB := n1_; clear n0_ n1_; clear hb ho64; obtain ⟨Ao65, co65, eo65⟩ := Kd.R_slice HO273.out; subst eo65) | ((with_reducible refine gate_callee (f := 10) rfl ?_); refine goesL_ (some 10) rfl rfl Try.func10 (by kernel_rfl) rfl #[.int .i64 4, .slice Ao65 y271.length co65] rfl (by (try simp only [List.map_toArray, List.map_cons, List.map_nil]); first | done | rfl | (simp only [List.length_drop, List.length_take]; rfl)) ?_; (with_reducible refine (waterfall_Split.calls k 4 _ _ y271 t274 t275 _ ?side1 ?side2 A1.out).mono ?_); (case side1 => repeat (first | exact (Kd.R_reads' HO273.out).2.2 | (with_reducible refine ca_ ?_ _) | (with_reducible refine cn_ ?_ _) | (with_reducible refine cd_ ?_))); (case side2 => exact (Kd.R_reads' HO273.out).2.1); rintro e w66 ⟨v276, rfl, ho0, hb⟩; refine ⟨_, rfl, ?_⟩; have n0_ := A_ (Kd.R_below (by (with_reducible repeat (first | apply Kd.R_alloc | apply Kd.R_drewN | apply Kd.R_drew)); exact HO273.out) hb); have n1_ := A_ (Kd.R_lower ho0 (bz_ bw_)); have n2_ := A_ (bs_ bw_ hb); clear HO273; clear HB; have HO273 := n0_; have HO277 := n1_; have HB := n2_; clear n0_ n1_ n2_; (try clear hb); (try clear hb2); (try clear hk); (try clear hi); (try clear ho0)) | ((with_reducible refine gate_dst (N := 15) rfl ?_); (try (refine gate_guard (by rfl) ?_; dsimp only)); refine Kd.R_lit k74 _ 74 ?hg (N := 15) ?hd (xs := ([(⟨(⟨#[97]⟩ : ByteArray), 5⟩ : S74)] : List (S74))) (inner := [.string (⟨#[97]⟩ : ByteArray), .int .i64 5]) (ok := fun _ => True) (okp := fun _ => True) ?hr ?hp (fun _ hk => hk) trivial (Below.refl _ _) (Nat.le_refl _) (by simp) ?_; (case hd => rfl); (case hg => rfl); (case hr => first | (go_simp; done) | (go_simp; rfl)); (case hp => exact (Reps.c2 (show Kd.M k74 _ _ _ (⟨(⟨#[97]⟩ : ByteArray), 5⟩ : S74) [.string (⟨#[97]⟩ : ByteArray), .int .i64 5] from (k74_mkM _ _ _ (⟨(⟨#[97]⟩ : ByteArray), 5⟩ : S74) )) (Reps.none _ _))); intro v279 w67 ho68 hb hg_ hnew_; clear hg_ hnew_; (first | rw [← Ny278.out] at ho68 | (simp only [Int.reduceToNat] at ho68; rw [← Ny278.out] at ho68)); have n0_ := A_ (Kd.R_elder' (by (with_reducible repeat (first | apply Kd.R_alloc | apply Kd.R_drewN | apply Kd.R_drew)); exact HO273.out) (Kd.R_base ho68) hb); have n1_ := A_ (Kd.R_below (by (with_reducible repeat (first | apply Kd.R_alloc | apply Kd.R_drewN | apply Kd.R_drew)); exact HO277.out) hb); have n2_ := A_ (Kd.R_lower (Kd.R_new' ho68 (Kd.R_lt (by (with_reducible repeat (first | apply Kd.R_alloc | apply Kd.R_drewN | apply Kd.R_drew)); exact HO273.out))) (bz_ bw_)); have n3_ := A_ (bs_ bw_ hb); clear HO273; clear HO277; clear HB; have HO273 := n0_; have HO277 := n1_; have HO280 := n2_; have HB := n3_; clear n0_ n1_ n2_ n3_; clear hb ho68; obtain ⟨Ao69, co69, eo69⟩ := Kd.R_slice HO280.out; subst eo69) | ((with_reducible refine gate_dst (N := 18) rfl ?_); (try (refine gate_guard (by rfl) ?_; dsimp only)); refine Kd.R_lit k74 _ 74 ?hg (N := 18) ?hd (xs := ([(⟨(⟨#[97]⟩ : ByteArray), 10⟩ : S74)] : List (S74))) (inner := [.string (⟨#[97]⟩ : ByteArray), .int .i64 10]) (ok := fun _ => True) (okp := fun _ => True) ?hr ?hp (fun _ hk => hk) trivial (Below.refl _ _) (Nat.le_refl _) (by simp) ?_; (case hd => rfl); (case hg => rfl); (case hr => first | (go_simp; done) | (go_simp; rfl)); (case hp => exact (Reps.c2 (show Kd.M k74 _ _ _ (⟨(⟨#[97]⟩ : ByteArray), 10⟩ : S74) [.string (⟨#[97]⟩ : ByteArray), .int .i64 10] from (k74_mkM _ _ _ (⟨(⟨#[97]⟩ : ByteArray), 10⟩ : S74) )) (Reps.none _ _))); intro v282 w70 ho71 hb hg_ hnew_; clear hg_ hnew_; (first | rw [← Ny281.out] at ho71 | (simp only [Int.reduceToNat] at ho71; rw [← Ny281.out] at ho71)); have n0_ := A_ (Kd.R_elder' (by (with_reducible repeat (first | apply Kd.R_alloc | apply Kd.R_drewN | apply Kd.R_drew)); exact HO273.out) (Kd.R_base ho71) hb); have n1_ := A_ (Kd.R_below (by (with_reducible repeat (first | apply Kd.R_alloc | apply Kd.R_drewN | apply Kd.R_drew)); exact HO277.out) hb); have n2_ := A_ (Kd.R_elder' (by (with_reducible repeat (first | apply Kd.R_alloc | apply Kd.R_drewN | apply Kd.R_drew)); exact HO280.out) (Kd.R_base ho71) hb); have n3_ := A_ (Kd.R_lower (Kd.R_new' (Kd.R_new' ho71 (Kd.R_lt (by (with_reducible repeat (first | apply Kd.R_alloc | apply Kd.R_drewN | apply Kd.R_drew)); exact HO273.out))) (Kd.R_lt (by (with_reducible repeat (first | apply Kd.R_alloc | apply Kd.R_drewN | apply Kd.R_drew)); exact HO280.out))) (bz_ bw_)); have n4_ := A_ (bs_ bw_ hb); clear HO273; clear HO277; clear HO280; clear HB; have HO273 := n0_; have HO277 := n1_; have HO280 := n2_; have HO283 := n3_; have HB := n4_; clear n0_ n1_ n2_ n3_ n4_; clear hb ho71; obtain ⟨Ao72, co72, eo72⟩ := Kd.R_slice HO283.out; subst eo72) | ((with_reducible refine gate_dst (N := 20) rfl ?_); (try (refine gate_guard (by rfl) ?_; dsimp only)); refine Kd.N_lit k35 _ 35 ?hg (N' := 20) ?hd (xs := ([(⟨(⟨#[120]⟩ : ByteArray), y278⟩ : S35), (⟨(⟨#[121]⟩ : ByteArray), y281⟩ : S35)] : List (S35))) (inner := [.string (⟨#[120]⟩ : ByteArray), .slice Ao69 y278.length co69, .string (⟨#[121]⟩ : ByteArray), .slice Ao72 y281.length co72]) (ok := (fun k_ => some k_ ≠ (.slice Ao65 y271.length co65 : Value).ownBlock ∧ some k_ ≠ (v276 : Value).ownBlock)) (okp := (fun k_ => some k_ ≠ (.slice Ao65 y271.length co65 : Value).ownBlock ∧ some k_ ≠ (v276 : Value).ownBlock)) ?hr ?hp (fun _ hk => hk) ((show ∀ k_, w70.heap.size ≤ k_ → (fun k_ => some k_ ≠ (.slice Ao65 y271.length co65 : Value).ownBlock ∧ some k_ ≠ (v276 : Value).ownBlock) k_ from fun k_ hk => ⟨Kd.fresh' (Kd.R_lt (by (with_reducible repeat (first | apply Kd.R_alloc | apply Kd.R_drewN | apply Kd.R_drew)); exact HO273.out)) k_ hk, Kd.fresh' (Kd.R_lt (by (with_reducible repeat (first | apply Kd.R_alloc | apply Kd.R_drewN | apply Kd.R_drew)); exact HO277.out)) k_ hk⟩) _ (Nat.le_refl _)) (Below.refl _ _) (Nat.le_refl _) (by simp) ?_; (case hd => rfl); (case hg => rfl); (case hr => first | (go_simp; done) | (go_simp; rfl)); (case hp => exact (Reps.c2 (show Kd.FK k35 _ _ (⟨(⟨#[120]⟩ : ByteArray), y278⟩ : S35) [.string (⟨#[120]⟩ : ByteArray), .slice Ao69 y278.length co69] from (k35_mkF _ _ (⟨(⟨#[120]⟩ : ByteArray), y278⟩ : S35) (Kd.R_reads' (Kd.R_mono (ok' := (fun k_ => some k_ ≠ (.slice Ao65 y271.length co65 : Value).ownBlock ∧ some k_ ≠ (v276 : Value).ownBlock)) (Kd.R_apart' (HO280.out) (Kd.R_typed HO277.out) (by decide)) (fun k_ hk => ⟨hk.1.1.2, hk.2⟩))).2.1 (Kd.R_F (Kd.R_mono (ok' := (fun k_ => some k_ ≠ (.slice Ao65 y271.length co65 : Value).ownBlock ∧ some k_ ≠ (v276 : Value).ownBlock)) (Kd.R_apart' (HO280.out) (Kd.R_typed HO277.out) (by decide)) (fun k_ hk => ⟨hk.1.1.2, hk.2⟩))))) (Reps.c2 (show Kd.FK k35 _ _ (⟨(⟨#[121]⟩ : ByteArray), y281⟩ : S35) [.string (⟨#[121]⟩ : ByteArray), .slice Ao72 y281.length co72] from (k35_mkF _ _ (⟨(⟨#[121]⟩ : ByteArray), y281⟩ : S35) (Kd.R_reads' (Kd.R_mono (ok' := (fun k_ => some k_ ≠ (.slice Ao65 y271.length co65 : Value).ownBlock ∧ some k_ ≠ (v276 : Value).ownBlock)) (Kd.R_apart' (HO283.out) (Kd.R_typed HO277.out) (by decide)) (fun k_ hk => ⟨hk.1.1.2, hk.2⟩))).2.1 (Kd.R_F (Kd.R_mono (ok' := (fun k_ => some k_ ≠ (.slice Ao65 y271.length co65 : Value).ownBlock ∧ some k_ ≠ (v276 : Value).ownBlock)) (Kd.R_apart' (HO283.out) (Kd.R_typed HO277.out) (by decide)) (fun k_ hk => ⟨hk.1.1.2, hk.2⟩))))) (Reps.none _ _)))); intro v285 w73 ho74 hb hg_ hnew_; clear hg_ hnew_; (first | rw [← Ny284.out] at ho74 | (simp only [Int.reduceToNat] at ho74; rw [← Ny284.out] at ho74)); have n0_ := A_ (Kd.R_below (by (with_reducible repeat (first | apply Kd.R_alloc | apply Kd.R_drewN | apply Kd.R_drew)); exact HO273.out) hb); have n1_ := A_ (Kd.R_below (by (with_reducible repeat (first | apply Kd.R_alloc | apply Kd.R_drewN | apply Kd.R_drew)); exact HO277.out) hb); have n2_ := A_ (Kd.N_lower ho74 (bz_ bw_)); have n3_ := A_ (bs_ bw_ hb); clear HO273; clear HO277; clear HB; clear HO280; clear HO283; have HO273 := n0_; have HO277 := n1_; have HO286 := n2_; have HB := n3_; clear n0_ n1_ n2_ n3_; clear hb ho74; obtain ⟨Ao75, co75, eo75⟩ := Kd.N_slice HO286.out; subst eo75) | ((with_reducible refine gate_callee (f := 17) rfl ?_); refine goesL_ (some 21) rfl rfl Try.func17 (by kernel_rfl) rfl #[.int .i64 7, .slice Ao75 y284.length co75] rfl (by (try simp only [List.map_toArray, List.map_cons, List.map_nil]); first | done | rfl | (simp only [List.length_drop, List.length_take]; rfl)) ?_; (with_reducible refine (waterfall_Run.calls k 7 _ _ y284 t287 t288 t289 _ ?side1 ?side2 A2.out).mono ?_); (case side1 => repeat (first | exact (Kd.N_reads' HO286.out).2.2 | (with_reducible refine ca_ ?_ _) | (with_reducible refine cn_ ?_ _) | (with_reducible refine cd_ ?_))); (case side2 => exact (Kd.N_reads' HO286.out).2.1); rintro e w76 ⟨v290, rfl, ho0, hb⟩; refine ⟨_, rfl, ?_⟩; have n0_ := A_ (Kd.R_below (by (with_reducible repeat (first | apply Kd.R_alloc | apply Kd.R_drewN | apply Kd.R_drew)); exact HO273.out) hb); have n1_ := A_ (Kd.R_below (by (with_reducible repeat (first | apply Kd.R_alloc | apply Kd.R_drewN | apply Kd.R_drew)); exact HO277.out) hb); have n2_ := A_ (Kd.N_elder' (by (with_reducible repeat (first | apply Kd.N_alloc | apply Kd.N_drewN | apply Kd.N_drew)); exact HO286.out) (Kd.R_base ho0) hb); have n3_ := A_ (Kd.R_lower ho0 (bz_ bw_)); have n4_ := A_ (bs_ bw_ hb); clear HO273; clear HO277; clear HO286; clear HB; have HO273 := n0_; have HO277 := n1_; have HO286 := n2_; have HO291 := n3_; have HB := n4_; clear n0_ n1_ n2_ n3_ n4_; (try clear hb); (try clear hb2); (try clear hk); (try clear hi); (try clear ho0); obtain ⟨Ao77, co77, eo77⟩ := Kd.R_slice HO277.out; subst eo77; have p292 : 0 ≤ (0 : Int) := (by omega); have q292 : 0 < (t274.length : Int) := od_ (by first | (with_reducible assumption) | assumption); obtain ⟨ad292, e292, hx292_0⟩ := Kd.at_int (Kd.R_reads' HO277.out).2.2 0 p292 q292; cases e292; have qi292 : (0 < t274.length) = True := eq_true (by omega); (try rw [show ((0 : Int)).toNat = 0 from rfl] at hx292_0); (try rw [Addr.add_zero'] at hx292_0); replace p292 := eq_true p292; replace q292 := eq_true q292; have p293 : 0 ≤ (1 : Int) := (by omega); have q293 : 1 < (t274.length : Int) := od_ (by first | (with_reducible assumption) | assumption); obtain ⟨ad293, e293, hx293_0⟩ := Kd.at_int (Kd.R_reads' HO277.out).2.2 1 p293 q293; obtain rfl : ad292 = ad293 := (by injection e293); (try simp only [show (1 : Int).toNat = 1 from rfl, Nat.reduceMul, Nat.reduceEqDiff, Go.Addr.add, ↓reduceIte] at hx293_0); have qi293 : (1 < t274.length) = True := eq_true (by omega); (try rw [show ((1 : Int)).toNat = 1 from rfl] at hx293_0); replace p293 := eq_true p293; replace q293 := eq_true q293))
         go_ret
         exact ⟨by first | rfl | (simp [errW_none, errW_some] <;> rfl) | (simp [*, errW_none, errW_some] <;> rfl), bw_⟩
       ·
        rw [if_neg c9] at H
        have c9b0 : (t289 == 0) = false := q4_ c9
        have c9b1 : (t289 != 0) = true := q2_ c9
        obtain rfl := Option.some.inj H
        go_enter Try.func12, Try.ntmps12
        go_wp2_with (first | ((with_reducible refine gate_dst (N := 9) rfl ?_); (try (refine gate_guard (by rfl) ?_; dsimp only)); refine Kd.R_lit k74 _ 74 ?hg (N := 9) ?hd (xs := ([(⟨(⟨#[97]⟩ : ByteArray), 5⟩ : S74), (⟨(⟨#[98]⟩ : ByteArray), 3⟩ : S74)] : List (S74))) (inner := [.string (⟨#[97]⟩ : ByteArray), .int .i64 5, .string (⟨#[98]⟩ : ByteArray), .int .i64 3]) (ok := fun _ => True) (okp := fun _ => True) ?hr ?hp (fun _ hk => hk) trivial (Below.refl _ _) (Nat.le_refl _) (by simp) ?_; (case hd => rfl); (case hg => rfl); (case hr => first | (go_simp; done) | (go_simp; rfl)); (case hp => exact (Reps.c2 (show Kd.M k74 _ _ _ (⟨(⟨#[97]⟩ : ByteArray), 5⟩ : S74) [.string (⟨#[97]⟩ : ByteArray), .int .i64 5] from (k74_mkM _ _ _ (⟨(⟨#[97]⟩ : ByteArray), 5⟩ : S74) )) (Reps.c2 (show Kd.M k74 _ _ _ (⟨(⟨#[98]⟩ : ByteArray), 3⟩ : S74) [.string (⟨#[98]⟩ : ByteArray), .int .i64 3] from (k74_mkM _ _ _ (⟨(⟨#[98]⟩ : ByteArray), 3⟩ : S74) )) (Reps.none _ _)))); intro v272 w78 ho79 hb hg_ hnew_; clear hg_ hnew_; (first | rw [← Ny271.out] at ho79 | (simp only [Int.reduceToNat] at ho79; rw [← Ny271.out] at ho79)); have n0_ := A_ (Kd.R_lower ho79 (bz_ bw_)); have n1_ := A_ (bs_ bw_ hb); clear HB; have HO273 := n0_; have HB := n1_; clear n0_ n1_; clear hb ho79; obtain ⟨Ao80, co80, eo80⟩ := Kd.R_slice HO273.out; subst eo80) | ((with_reducible refine gate_callee (f := 10) rfl ?_); refine goesL_ (some 10) rfl rfl Try.func10 (by kernel_rfl) rfl #[.int .i64 4, .slice Ao80 y271.length co80] rfl (by (try simp only [List.map_toArray, List.map_cons, List.map_nil]); first | done | rfl | (simp only [List.length_drop, List.length_take]; rfl)) ?_; (with_reducible refine (waterfall_Split.calls k 4 _ _ y271 t274 t275 _ ?side1 ?side2 A1.out).mono ?_); (case side1 => repeat (first | exact (Kd.R_reads' HO273.out).2.2 | (with_reducible refine ca_ ?_ _) | (with_reducible refine cn_ ?_ _) | (with_reducible refine cd_ ?_))); (case side2 => exact (Kd.R_reads' HO273.out).2.1); rintro e w81 ⟨v276, rfl, ho0, hb⟩; refine ⟨_, rfl, ?_⟩; have n0_ := A_ (Kd.R_below (by (with_reducible repeat (first | apply Kd.R_alloc | apply Kd.R_drewN | apply Kd.R_drew)); exact HO273.out) hb); have n1_ := A_ (Kd.R_lower ho0 (bz_ bw_)); have n2_ := A_ (bs_ bw_ hb); clear HO273; clear HB; have HO273 := n0_; have HO277 := n1_; have HB := n2_; clear n0_ n1_ n2_; (try clear hb); (try clear hb2); (try clear hk); (try clear hi); (try clear ho0)) | ((with_reducible refine gate_dst (N := 15) rfl ?_); (try (refine gate_guard (by rfl) ?_; dsimp only)); refine Kd.R_lit k74 _ 74 ?hg (N := 15) ?hd (xs := ([(⟨(⟨#[97]⟩ : ByteArray), 5⟩ : S74)] : List (S74))) (inner := [.string (⟨#[97]⟩ : ByteArray), .int .i64 5]) (ok := fun _ => True) (okp := fun _ => True) ?hr ?hp (fun _ hk => hk) trivial (Below.refl _ _) (Nat.le_refl _) (by simp) ?_; (case hd => rfl); (case hg => rfl); (case hr => first | (go_simp; done) | (go_simp; rfl)); (case hp => exact (Reps.c2 (show Kd.M k74 _ _ _ (⟨(⟨#[97]⟩ : ByteArray), 5⟩ : S74) [.string (⟨#[97]⟩ : ByteArray), .int .i64 5] from (k74_mkM _ _ _ (⟨(⟨#[97]⟩ : ByteArray), 5⟩ : S74) )) (Reps.none _ _))); intro v279 w82 ho83 hb hg_ hnew_; clear hg_ hnew_; (first | rw [← Ny278.out] at ho83 | (simp only [Int.reduceToNat] at ho83; rw [← Ny278.out] at ho83)); have n0_ := A_ (Kd.R_elder' (by (with_reducible repeat (first | apply Kd.R_alloc | apply Kd.R_drewN | apply Kd.R_drew)); exact HO273.out) (Kd.R_base ho83) hb); have n1_ := A_ (Kd.R_below (by (with_reducible repeat (first | apply Kd.R_alloc | apply Kd.R_drewN | apply Kd.R_drew)); exact HO277.out) hb); have n2_ := A_ (Kd.R_lower (Kd.R_new' ho83 (Kd.R_lt (by (with_reducible repeat (first | apply Kd.R_alloc | apply Kd.R_drewN | apply Kd.R_drew)); exact HO273.out))) (bz_ bw_)); have n3_ := A_ (bs_ bw_ hb); clear HO273; clear HO277; clear HB; have HO273 := n0_; have HO277 := n1_; have HO280 := n2_; have HB := n3_; clear n0_ n1_ n2_ n3_; clear hb ho83; obtain ⟨Ao84, co84, eo84⟩ := Kd.R_slice HO280.out; subst eo84) | ((with_reducible refine gate_dst (N := 18) rfl ?_); (try (refine gate_guard (by rfl) ?_; dsimp only)); refine Kd.R_lit k74 _ 74 ?hg (N := 18) ?hd (xs := ([(⟨(⟨#[97]⟩ : ByteArray), 10⟩ : S74)] : List (S74))) (inner := [.string (⟨#[97]⟩ : ByteArray), .int .i64 10]) (ok := fun _ => True) (okp := fun _ => True) ?hr ?hp (fun _ hk => hk) trivial (Below.refl _ _) (Nat.le_refl _) (by simp) ?_; (case hd => rfl); (case hg => rfl); (case hr => first | (go_simp; done) | (go_simp; rfl)); (case hp => exact (Reps.c2 (show Kd.M k74 _ _ _ (⟨(⟨#[97]⟩ : ByteArray), 10⟩ : S74) [.string (⟨#[97]⟩ : ByteArray), .int .i64 10] from (k74_mkM _ _ _ (⟨(⟨#[97]⟩ : ByteArray), 10⟩ : S74) )) (Reps.none _ _))); intro v282 w85 ho86 hb hg_ hnew_; clear hg_ hnew_; (first | rw [← Ny281.out] at ho86 | (simp only [Int.reduceToNat] at ho86; rw [← Ny281.out] at ho86)); have n0_ := A_ (Kd.R_elder' (by (with_reducible repeat (first | apply Kd.R_alloc | apply Kd.R_drewN | apply Kd.R_drew)); exact HO273.out) (Kd.R_base ho86) hb); have n1_ := A_ (Kd.R_below (by (with_reducible repeat (first | apply Kd.R_alloc | apply Kd.R_drewN | apply Kd.R_drew)); exact HO277.out) hb); have n2_ := A_ (Kd.R_elder' (by (with_reducible repeat (first | apply Kd.R_alloc | apply Kd.R_drewN | apply Kd.R_drew)); exact HO280.out) (Kd.R_base ho86) hb); have n3_ := A_ (Kd.R_lower (Kd.R_new' (Kd.R_new' ho86 (Kd.R_lt (by (with_reducible repeat (first | apply Kd.R_alloc | apply Kd.R_drewN | apply Kd.R_drew)); exact HO273.out))) (Kd.R_lt (by (with_reducible repeat (first | apply Kd.R_alloc | apply Kd.R_drewN | apply Kd.R_drew)); exact HO280.out))) (bz_ bw_)); have n4_ := A_ (bs_ bw_ hb); clear HO273; clear HO277; clear HO280; clear HB; have HO273 := n0_; have HO277 := n1_; have HO280 := n2_; have HO283 := n3_; have HB := n4_; clear n0_ n1_ n2_ n3_ n4_; clear hb ho86; obtain ⟨Ao87, co87, eo87⟩ := Kd.R_slice HO283.out; subst eo87) | ((with_reducible refine gate_dst (N := 20) rfl ?_); (try (refine gate_guard (by rfl) ?_; dsimp only)); refine Kd.N_lit k35 _ 35 ?hg (N' := 20) ?hd (xs := ([(⟨(⟨#[120]⟩ : ByteArray), y278⟩ : S35), (⟨(⟨#[121]⟩ : ByteArray), y281⟩ : S35)] : List (S35))) (inner := [.string (⟨#[120]⟩ : ByteArray), .slice Ao84 y278.length co84, .string (⟨#[121]⟩ : ByteArray), .slice Ao87 y281.length co87]) (ok := (fun k_ => some k_ ≠ (.slice Ao80 y271.length co80 : Value).ownBlock ∧ some k_ ≠ (v276 : Value).ownBlock)) (okp := (fun k_ => some k_ ≠ (.slice Ao80 y271.length co80 : Value).ownBlock ∧ some k_ ≠ (v276 : Value).ownBlock)) ?hr ?hp (fun _ hk => hk) ((show ∀ k_, w85.heap.size ≤ k_ → (fun k_ => some k_ ≠ (.slice Ao80 y271.length co80 : Value).ownBlock ∧ some k_ ≠ (v276 : Value).ownBlock) k_ from fun k_ hk => ⟨Kd.fresh' (Kd.R_lt (by (with_reducible repeat (first | apply Kd.R_alloc | apply Kd.R_drewN | apply Kd.R_drew)); exact HO273.out)) k_ hk, Kd.fresh' (Kd.R_lt (by (with_reducible repeat (first | apply Kd.R_alloc | apply Kd.R_drewN | apply Kd.R_drew)); exact HO277.out)) k_ hk⟩) _ (Nat.le_refl _)) (Below.refl _ _) (Nat.le_refl _) (by simp) ?_; (case hd => rfl); (case hg => rfl); (case hr => first | (go_simp; done) | (go_simp; rfl)); (case hp => exact (Reps.c2 (show Kd.FK k35 _ _ (⟨(⟨#[120]⟩ : ByteArray), y278⟩ : S35) [.string (⟨#[120]⟩ : ByteArray), .slice Ao84 y278.length co84] from (k35_mkF _ _ (⟨(⟨#[120]⟩ : ByteArray), y278⟩ : S35) (Kd.R_reads' (Kd.R_mono (ok' := (fun k_ => some k_ ≠ (.slice Ao80 y271.length co80 : Value).ownBlock ∧ some k_ ≠ (v276 : Value).ownBlock)) (Kd.R_apart' (HO280.out) (Kd.R_typed HO277.out) (by decide)) (fun k_ hk => ⟨hk.1.1.2, hk.2⟩))).2.1 (Kd.R_F (Kd.R_mono (ok' := (fun k_ => some k_ ≠ (.slice Ao80 y271.length co80 : Value).ownBlock ∧ some k_ ≠ (v276 : Value).ownBlock)) (Kd.R_apart' (HO280.out) (Kd.R_typed HO277.out) (by decide)) (fun k_ hk => ⟨hk.1.1.2, hk.2⟩))))) (Reps.c2 (show Kd.FK k35 _ _ (⟨(⟨#[121]⟩ : ByteArray), y281⟩ : S35) [.string (⟨#[121]⟩ : ByteArray), .slice Ao87 y281.length co87] from (k35_mkF _ _ (⟨(⟨#[121]⟩ : ByteArray), y281⟩ : S35) (Kd.R_reads' (Kd.R_mono (ok' := (fun k_ => some k_ ≠ (.slice Ao80 y271.length co80 : Value).ownBlock ∧ some k_ ≠ (v276 : Value).ownBlock)) (Kd.R_apart' (HO283.out) (Kd.R_typed HO277.out) (by decide)) (fun k_ hk => ⟨hk.1.1.2, hk.2⟩))).2.1 (Kd.R_F (Kd.R_mono (ok' := (fun k_ => some k_ ≠ (.slice Ao80 y271.length co80 : Value).ownBlock ∧ some k_ ≠ (v276 : Value).ownBlock)) (Kd.R_apart' (HO283.out) (Kd.R_typed HO277.out) (by decide)) (fun k_ hk => ⟨hk.1.1.2, hk.2⟩))))) (Reps.none _ _)))); intro v285 w88 ho89 hb hg_ hnew_; clear hg_ hnew_; (first | rw [← Ny284.out] at ho89 | (simp only [Int.reduceToNat] at ho89; rw [← Ny284.out] at ho89)); have n0_ := A_ (Kd.R_below (by (with_reducible repeat (first | apply Kd.R_alloc | apply Kd.R_drewN | apply Kd.R_drew)); exact HO273.out) hb); have n1_ := A_ (Kd.R_below (by (with_reducible repeat (first | apply Kd.R_alloc | apply Kd.R_drewN | apply Kd.R_drew)); exact HO277.out) hb); have n2_ := A_ (Kd.N_lower ho89 (bz_ bw_)); have n3_ := A_ (bs_ bw_ hb); clear HO273; clear HO277; clear HB; clear HO280; clear HO283; have HO273 := n0_; have HO277 := n1_; have HO286 := n2_; have HB := n3_; clear n0_ n1_ n2_ n3_; clear hb ho89; obtain ⟨Ao90, co90, eo90⟩ := Kd.N_slice HO286.out; subst eo90) | ((with_reducible refine gate_callee (f := 17) rfl ?_); refine goesL_ (some 21) rfl rfl Try.func17 (by kernel_rfl) rfl #[.int .i64 7, .slice Ao90 y284.length co90] rfl (by (try simp only [List.map_toArray, List.map_cons, List.map_nil]); first | done | rfl | (simp only [List.length_drop, List.length_take]; rfl)) ?_; (with_reducible refine (waterfall_Run.calls k 7 _ _ y284 t287 t288 t289 _ ?side1 ?side2 A2.out).mono ?_); (case side1 => repeat (first | exact (Kd.N_reads' HO286.out).2.2 | (with_reducible refine ca_ ?_ _) | (with_reducible refine cn_ ?_ _) | (with_reducible refine cd_ ?_))); (case side2 => exact (Kd.N_reads' HO286.out).2.1); rintro e w91 ⟨v290, rfl, ho0, hb⟩; refine ⟨_, rfl, ?_⟩; have n0_ := A_ (Kd.R_below (by (with_reducible repeat (first | apply Kd.R_alloc | apply Kd.R_drewN | apply Kd.R_drew)); exact HO273.out) hb); have n1_ := A_ (Kd.R_below (by (with_reducible repeat (first | apply Kd.R_alloc | apply Kd.R_drewN | apply Kd.R_drew)); exact HO277.out) hb); have n2_ := A_ (Kd.N_elder' (by (with_reducible repeat (first | apply Kd.N_alloc | apply Kd.N_drewN | apply Kd.N_drew)); exact HO286.out) (Kd.R_base ho0) hb); have n3_ := A_ (Kd.R_lower ho0 (bz_ bw_)); have n4_ := A_ (bs_ bw_ hb); clear HO273; clear HO277; clear HO286; clear HB; have HO273 := n0_; have HO277 := n1_; have HO286 := n2_; have HO291 := n3_; have HB := n4_; clear n0_ n1_ n2_ n3_ n4_; (try clear hb); (try clear hb2); (try clear hk); (try clear hi); (try clear ho0); obtain ⟨Ao92, co92, eo92⟩ := Kd.R_slice HO277.out; subst eo92; have p292 : 0 ≤ (0 : Int) := (by omega); have q292 : 0 < (t274.length : Int) := od_ (by first | (with_reducible assumption) | assumption); obtain ⟨ad292, e292, hx292_0⟩ := Kd.at_int (Kd.R_reads' HO277.out).2.2 0 p292 q292; cases e292; have qi292 : (0 < t274.length) = True := eq_true (by omega); (try rw [show ((0 : Int)).toNat = 0 from rfl] at hx292_0); (try rw [Addr.add_zero'] at hx292_0); replace p292 := eq_true p292; replace q292 := eq_true q292; have p293 : 0 ≤ (1 : Int) := (by omega); have q293 : 1 < (t274.length : Int) := od_ (by first | (with_reducible assumption) | assumption); obtain ⟨ad293, e293, hx293_0⟩ := Kd.at_int (Kd.R_reads' HO277.out).2.2 1 p293 q293; obtain rfl : ad292 = ad293 := (by injection e293); (try simp only [show (1 : Int).toNat = 1 from rfl, Nat.reduceMul, Nat.reduceEqDiff, Go.Addr.add, ↓reduceIte] at hx293_0); have qi293 : (1 < t274.length) = True := eq_true (by omega); (try rw [show ((1 : Int)).toNat = 1 from rfl] at hx293_0); replace p293 := eq_true p293; replace q293 := eq_true q293))
        go_ret
        exact ⟨by first | rfl | (simp [errW_none, errW_some] <;> rfl) | (simp [*, errW_none, errW_some] <;> rfl), bw_⟩
      ·
       rw [if_neg c8] at H
       have c8b0 : ((rd t274 1) == 1) = false := q4_ c8
       have c8b1 : ((rd t274 1) != 1) = true := q2_ c8
       obtain rfl := Option.some.inj H
       go_enter Try.func12, Try.ntmps12
       go_wp2_with (first | ((with_reducible refine gate_dst (N := 9) rfl ?_); (try (refine gate_guard (by rfl) ?_; dsimp only)); refine Kd.R_lit k74 _ 74 ?hg (N := 9) ?hd (xs := ([(⟨(⟨#[97]⟩ : ByteArray), 5⟩ : S74), (⟨(⟨#[98]⟩ : ByteArray), 3⟩ : S74)] : List (S74))) (inner := [.string (⟨#[97]⟩ : ByteArray), .int .i64 5, .string (⟨#[98]⟩ : ByteArray), .int .i64 3]) (ok := fun _ => True) (okp := fun _ => True) ?hr ?hp (fun _ hk => hk) trivial (Below.refl _ _) (Nat.le_refl _) (by simp) ?_; (case hd => rfl); (case hg => rfl); (case hr => first | (go_simp; done) | (go_simp; rfl)); (case hp => exact (Reps.c2 (show Kd.M k74 _ _ _ (⟨(⟨#[97]⟩ : ByteArray), 5⟩ : S74) [.string (⟨#[97]⟩ : ByteArray), .int .i64 5] from (k74_mkM _ _ _ (⟨(⟨#[97]⟩ : ByteArray), 5⟩ : S74) )) (Reps.c2 (show Kd.M k74 _ _ _ (⟨(⟨#[98]⟩ : ByteArray), 3⟩ : S74) [.string (⟨#[98]⟩ : ByteArray), .int .i64 3] from (k74_mkM _ _ _ (⟨(⟨#[98]⟩ : ByteArray), 3⟩ : S74) )) (Reps.none _ _)))); intro v272 w93 ho94 hb hg_ hnew_; clear hg_ hnew_; (first | rw [← Ny271.out] at ho94 | (simp only [Int.reduceToNat] at ho94; rw [← Ny271.out] at ho94)); have n0_ := A_ (Kd.R_lower ho94 (bz_ bw_)); have n1_ := A_ (bs_ bw_ hb); clear HB; have HO273 := n0_; have HB := n1_; clear n0_ n1_; clear hb ho94; obtain ⟨Ao95, co95, eo95⟩ := Kd.R_slice HO273.out; subst eo95) | ((with_reducible refine gate_callee (f := 10) rfl ?_); refine goesL_ (some 10) rfl rfl Try.func10 (by kernel_rfl) rfl #[.int .i64 4, .slice Ao95 y271.length co95] rfl (by (try simp only [List.map_toArray, List.map_cons, List.map_nil]); first | done | rfl | (simp only [List.length_drop, List.length_take]; rfl)) ?_; (with_reducible refine (waterfall_Split.calls k 4 _ _ y271 t274 t275 _ ?side1 ?side2 A1.out).mono ?_); (case side1 => repeat (first | exact (Kd.R_reads' HO273.out).2.2 | (with_reducible refine ca_ ?_ _) | (with_reducible refine cn_ ?_ _) | (with_reducible refine cd_ ?_))); (case side2 => exact (Kd.R_reads' HO273.out).2.1); rintro e w96 ⟨v276, rfl, ho0, hb⟩; refine ⟨_, rfl, ?_⟩; have n0_ := A_ (Kd.R_below (by (with_reducible repeat (first | apply Kd.R_alloc | apply Kd.R_drewN | apply Kd.R_drew)); exact HO273.out) hb); have n1_ := A_ (Kd.R_lower ho0 (bz_ bw_)); have n2_ := A_ (bs_ bw_ hb); clear HO273; clear HB; have HO273 := n0_; have HO277 := n1_; have HB := n2_; clear n0_ n1_ n2_; (try clear hb); (try clear hb2); (try clear hk); (try clear hi); (try clear ho0)) | ((with_reducible refine gate_dst (N := 15) rfl ?_); (try (refine gate_guard (by rfl) ?_; dsimp only)); refine Kd.R_lit k74 _ 74 ?hg (N := 15) ?hd (xs := ([(⟨(⟨#[97]⟩ : ByteArray), 5⟩ : S74)] : List (S74))) (inner := [.string (⟨#[97]⟩ : ByteArray), .int .i64 5]) (ok := fun _ => True) (okp := fun _ => True) ?hr ?hp (fun _ hk => hk) trivial (Below.refl _ _) (Nat.le_refl _) (by simp) ?_; (case hd => rfl); (case hg => rfl); (case hr => first | (go_simp; done) | (go_simp; rfl)); (case hp => exact (Reps.c2 (show Kd.M k74 _ _ _ (⟨(⟨#[97]⟩ : ByteArray), 5⟩ : S74) [.string (⟨#[97]⟩ : ByteArray), .int .i64 5] from (k74_mkM _ _ _ (⟨(⟨#[97]⟩ : ByteArray), 5⟩ : S74) )) (Reps.none _ _))); intro v279 w97 ho98 hb hg_ hnew_; clear hg_ hnew_; (first | rw [← Ny278.out] at ho98 | (simp only [Int.reduceToNat] at ho98; rw [← Ny278.out] at ho98)); have n0_ := A_ (Kd.R_elder' (by (with_reducible repeat (first | apply Kd.R_alloc | apply Kd.R_drewN | apply Kd.R_drew)); exact HO273.out) (Kd.R_base ho98) hb); have n1_ := A_ (Kd.R_below (by (with_reducible repeat (first | apply Kd.R_alloc | apply Kd.R_drewN | apply Kd.R_drew)); exact HO277.out) hb); have n2_ := A_ (Kd.R_lower (Kd.R_new' ho98 (Kd.R_lt (by (with_reducible repeat (first | apply Kd.R_alloc | apply Kd.R_drewN | apply Kd.R_drew)); exact HO273.out))) (bz_ bw_)); have n3_ := A_ (bs_ bw_ hb); clear HO273; clear HO277; clear HB; have HO273 := n0_; have HO277 := n1_; have HO280 := n2_; have HB := n3_; clear n0_ n1_ n2_ n3_; clear hb ho98; obtain ⟨Ao99, co99, eo99⟩ := Kd.R_slice HO280.out; subst eo99) | ((with_reducible refine gate_dst (N := 18) rfl ?_); (try (refine gate_guard (by rfl) ?_; dsimp only)); refine Kd.R_lit k74 _ 74 ?hg (N := 18) ?hd (xs := ([(⟨(⟨#[97]⟩ : ByteArray), 10⟩ : S74)] : List (S74))) (inner := [.string (⟨#[97]⟩ : ByteArray), .int .i64 10]) (ok := fun _ => True) (okp := fun _ => True) ?hr ?hp (fun _ hk => hk) trivial (Below.refl _ _) (Nat.le_refl _) (by simp) ?_; (case hd => rfl); (case hg => rfl); (case hr => first | (go_simp; done) | (go_simp; rfl)); (case hp => exact (Reps.c2 (show Kd.M k74 _ _ _ (⟨(⟨#[97]⟩ : ByteArray), 10⟩ : S74) [.string (⟨#[97]⟩ : ByteArray), .int .i64 10] from (k74_mkM _ _ _ (⟨(⟨#[97]⟩ : ByteArray), 10⟩ : S74) )) (Reps.none _ _))); intro v282 w100 ho101 hb hg_ hnew_; clear hg_ hnew_; (first | rw [← Ny281.out] at ho101 | (simp only [Int.reduceToNat] at ho101; rw [← Ny281.out] at ho101)); have n0_ := A_ (Kd.R_elder' (by (with_reducible repeat (first | apply Kd.R_alloc | apply Kd.R_drewN | apply Kd.R_drew)); exact HO273.out) (Kd.R_base ho101) hb); have n1_ := A_ (Kd.R_below (by (with_reducible repeat (first | apply Kd.R_alloc | apply Kd.R_drewN | apply Kd.R_drew)); exact HO277.out) hb); have n2_ := A_ (Kd.R_elder' (by (with_reducible repeat (first | apply Kd.R_alloc | apply Kd.R_drewN | apply Kd.R_drew)); exact HO280.out) (Kd.R_base ho101) hb); have n3_ := A_ (Kd.R_lower (Kd.R_new' (Kd.R_new' ho101 (Kd.R_lt (by (with_reducible repeat (first | apply Kd.R_alloc | apply Kd.R_drewN | apply Kd.R_drew)); exact HO273.out))) (Kd.R_lt (by (with_reducible repeat (first | apply Kd.R_alloc | apply Kd.R_drewN | apply Kd.R_drew)); exact HO280.out))) (bz_ bw_)); have n4_ := A_ (bs_ bw_ hb); clear HO273; clear HO277; clear HO280; clear HB; have HO273 := n0_; have HO277 := n1_; have HO280 := n2_; have HO283 := n3_; have HB := n4_; clear n0_ n1_ n2_ n3_ n4_; clear hb ho101; obtain ⟨Ao102, co102, eo102⟩ := Kd.R_slice HO283.out; subst eo102) | ((with_reducible refine gate_dst (N := 20) rfl ?_); (try (refine gate_guard (by rfl) ?_; dsimp only)); refine Kd.N_lit k35 _ 35 ?hg (N' := 20) ?hd (xs := ([(⟨(⟨#[120]⟩ : ByteArray), y278⟩ : S35), (⟨(⟨#[121]⟩ : ByteArray), y281⟩ : S35)] : List (S35))) (inner := [.string (⟨#[120]⟩ : ByteArray), .slice Ao99 y278.length co99, .string (⟨#[121]⟩ : ByteArray), .slice Ao102 y281.length co102]) (ok := (fun k_ => some k_ ≠ (.slice Ao95 y271.length co95 : Value).ownBlock ∧ some k_ ≠ (v276 : Value).ownBlock)) (okp := (fun k_ => some k_ ≠ (.slice Ao95 y271.length co95 : Value).ownBlock ∧ some k_ ≠ (v276 : Value).ownBlock)) ?hr ?hp (fun _ hk => hk) ((show ∀ k_, w100.heap.size ≤ k_ → (fun k_ => some k_ ≠ (.slice Ao95 y271.length co95 : Value).ownBlock ∧ some k_ ≠ (v276 : Value).ownBlock) k_ from fun k_ hk => ⟨Kd.fresh' (Kd.R_lt (by (with_reducible repeat (first | apply Kd.R_alloc | apply Kd.R_drewN | apply Kd.R_drew)); exact HO273.out)) k_ hk, Kd.fresh' (Kd.R_lt (by (with_reducible repeat (first | apply Kd.R_alloc | apply Kd.R_drewN | apply Kd.R_drew)); exact HO277.out)) k_ hk⟩) _ (Nat.le_refl _)) (Below.refl _ _) (Nat.le_refl _) (by simp) ?_; (case hd => rfl); (case hg => rfl); (case hr => first | (go_simp; done) | (go_simp; rfl)); (case hp => exact (Reps.c2 (show Kd.FK k35 _ _ (⟨(⟨#[120]⟩ : ByteArray), y278⟩ : S35) [.string (⟨#[120]⟩ : ByteArray), .slice Ao99 y278.length co99] from (k35_mkF _ _ (⟨(⟨#[120]⟩ : ByteArray), y278⟩ : S35) (Kd.R_reads' (Kd.R_mono (ok' := (fun k_ => some k_ ≠ (.slice Ao95 y271.length co95 : Value).ownBlock ∧ some k_ ≠ (v276 : Value).ownBlock)) (Kd.R_apart' (HO280.out) (Kd.R_typed HO277.out) (by decide)) (fun k_ hk => ⟨hk.1.1.2, hk.2⟩))).2.1 (Kd.R_F (Kd.R_mono (ok' := (fun k_ => some k_ ≠ (.slice Ao95 y271.length co95 : Value).ownBlock ∧ some k_ ≠ (v276 : Value).ownBlock)) (Kd.R_apart' (HO280.out) (Kd.R_typed HO277.out) (by decide)) (fun k_ hk => ⟨hk.1.1.2, hk.2⟩))))) (Reps.c2 (show Kd.FK k35 _ _ (⟨(⟨#[121]⟩ : ByteArray), y281⟩ : S35) [.string (⟨#[121]⟩ : ByteArray), .slice Ao102 y281.length co102] from (k35_mkF _ _ (⟨(⟨#[121]⟩ : ByteArray), y281⟩ : S35) (Kd.R_reads' (Kd.R_mono (ok' := (fun k_ => some k_ ≠ (.slice Ao95 y271.length co95 : Value).ownBlock ∧ some k_ ≠ (v276 : Value).ownBlock)) (Kd.R_apart' (HO283.out) (Kd.R_typed HO277.out) (by decide)) (fun k_ hk => ⟨hk.1.1.2, hk.2⟩))).2.1 (Kd.R_F (Kd.R_mono (ok' := (fun k_ => some k_ ≠ (.slice Ao95 y271.length co95 : Value).ownBlock ∧ some k_ ≠ (v276 : Value).ownBlock)) (Kd.R_apart' (HO283.out) (Kd.R_typed HO277.out) (by decide)) (fun k_ hk => ⟨hk.1.1.2, hk.2⟩))))) (Reps.none _ _)))); intro v285 w103 ho104 hb hg_ hnew_; clear hg_ hnew_; (first | rw [← Ny284.out] at ho104 | (simp only [Int.reduceToNat] at ho104; rw [← Ny284.out] at ho104)); have n0_ := A_ (Kd.R_below (by (with_reducible repeat (first | apply Kd.R_alloc | apply Kd.R_drewN | apply Kd.R_drew)); exact HO273.out) hb); have n1_ := A_ (Kd.R_below (by (with_reducible repeat (first | apply Kd.R_alloc | apply Kd.R_drewN | apply Kd.R_drew)); exact HO277.out) hb); have n2_ := A_ (Kd.N_lower ho104 (bz_ bw_)); have n3_ := A_ (bs_ bw_ hb); clear HO273; clear HO277; clear HB; clear HO280; clear HO283; have HO273 := n0_; have HO277 := n1_; have HO286 := n2_; have HB := n3_; clear n0_ n1_ n2_ n3_; clear hb ho104; obtain ⟨Ao105, co105, eo105⟩ := Kd.N_slice HO286.out; subst eo105) | ((with_reducible refine gate_callee (f := 17) rfl ?_); refine goesL_ (some 21) rfl rfl Try.func17 (by kernel_rfl) rfl #[.int .i64 7, .slice Ao105 y284.length co105] rfl (by (try simp only [List.map_toArray, List.map_cons, List.map_nil]); first | done | rfl | (simp only [List.length_drop, List.length_take]; rfl)) ?_; (with_reducible refine (waterfall_Run.calls k 7 _ _ y284 t287 t288 t289 _ ?side1 ?side2 A2.out).mono ?_); (case side1 => repeat (first | exact (Kd.N_reads' HO286.out).2.2 | (with_reducible refine ca_ ?_ _) | (with_reducible refine cn_ ?_ _) | (with_reducible refine cd_ ?_))); (case side2 => exact (Kd.N_reads' HO286.out).2.1); rintro e w106 ⟨v290, rfl, ho0, hb⟩; refine ⟨_, rfl, ?_⟩; have n0_ := A_ (Kd.R_below (by (with_reducible repeat (first | apply Kd.R_alloc | apply Kd.R_drewN | apply Kd.R_drew)); exact HO273.out) hb); have n1_ := A_ (Kd.R_below (by (with_reducible repeat (first | apply Kd.R_alloc | apply Kd.R_drewN | apply Kd.R_drew)); exact HO277.out) hb); have n2_ := A_ (Kd.N_elder' (by (with_reducible repeat (first | apply Kd.N_alloc | apply Kd.N_drewN | apply Kd.N_drew)); exact HO286.out) (Kd.R_base ho0) hb); have n3_ := A_ (Kd.R_lower ho0 (bz_ bw_)); have n4_ := A_ (bs_ bw_ hb); clear HO273; clear HO277; clear HO286; clear HB; have HO273 := n0_; have HO277 := n1_; have HO286 := n2_; have HO291 := n3_; have HB := n4_; clear n0_ n1_ n2_ n3_ n4_; (try clear hb); (try clear hb2); (try clear hk); (try clear hi); (try clear ho0); obtain ⟨Ao107, co107, eo107⟩ := Kd.R_slice HO277.out; subst eo107; have p292 : 0 ≤ (0 : Int) := (by omega); have q292 : 0 < (t274.length : Int) := od_ (by first | (with_reducible assumption) | assumption); obtain ⟨ad292, e292, hx292_0⟩ := Kd.at_int (Kd.R_reads' HO277.out).2.2 0 p292 q292; cases e292; have qi292 : (0 < t274.length) = True := eq_true (by omega); (try rw [show ((0 : Int)).toNat = 0 from rfl] at hx292_0); (try rw [Addr.add_zero'] at hx292_0); replace p292 := eq_true p292; replace q292 := eq_true q292; have p293 : 0 ≤ (1 : Int) := (by omega); have q293 : 1 < (t274.length : Int) := od_ (by first | (with_reducible assumption) | assumption); obtain ⟨ad293, e293, hx293_0⟩ := Kd.at_int (Kd.R_reads' HO277.out).2.2 1 p293 q293; obtain rfl : ad292 = ad293 := (by injection e293); (try simp only [show (1 : Int).toNat = 1 from rfl, Nat.reduceMul, Nat.reduceEqDiff, Go.Addr.add, ↓reduceIte] at hx293_0); have qi293 : (1 < t274.length) = True := eq_true (by omega); (try rw [show ((1 : Int)).toNat = 1 from rfl] at hx293_0); replace p293 := eq_true p293; replace q293 := eq_true q293))
       go_ret
       exact ⟨by first | rfl | (simp [errW_none, errW_some] <;> rfl) | (simp [*, errW_none, errW_some] <;> rfl), bw_⟩
     ·
      rw [if_neg c7] at H
      exact absurd H (by simp)
    ·
     rw [if_neg c6] at H
     have c6b0 : ((rd t274 0) == 3) = false := q4_ c6
     have c6b1 : ((rd t274 0) != 3) = true := q2_ c6
     obtain rfl := Option.some.inj H
     go_enter Try.func12, Try.ntmps12
     go_wp2_with (first | ((with_reducible refine gate_dst (N := 9) rfl ?_); (try (refine gate_guard (by rfl) ?_; dsimp only)); refine Kd.R_lit k74 _ 74 ?hg (N := 9) ?hd (xs := ([(⟨(⟨#[97]⟩ : ByteArray), 5⟩ : S74), (⟨(⟨#[98]⟩ : ByteArray), 3⟩ : S74)] : List (S74))) (inner := [.string (⟨#[97]⟩ : ByteArray), .int .i64 5, .string (⟨#[98]⟩ : ByteArray), .int .i64 3]) (ok := fun _ => True) (okp := fun _ => True) ?hr ?hp (fun _ hk => hk) trivial (Below.refl _ _) (Nat.le_refl _) (by simp) ?_; (case hd => rfl); (case hg => rfl); (case hr => first | (go_simp; done) | (go_simp; rfl)); (case hp => exact (Reps.c2 (show Kd.M k74 _ _ _ (⟨(⟨#[97]⟩ : ByteArray), 5⟩ : S74) [.string (⟨#[97]⟩ : ByteArray), .int .i64 5] from (k74_mkM _ _ _ (⟨(⟨#[97]⟩ : ByteArray), 5⟩ : S74) )) (Reps.c2 (show Kd.M k74 _ _ _ (⟨(⟨#[98]⟩ : ByteArray), 3⟩ : S74) [.string (⟨#[98]⟩ : ByteArray), .int .i64 3] from (k74_mkM _ _ _ (⟨(⟨#[98]⟩ : ByteArray), 3⟩ : S74) )) (Reps.none _ _)))); intro v272 w108 ho109 hb hg_ hnew_; clear hg_ hnew_; (first | rw [← Ny271.out] at ho109 | (simp only [Int.reduceToNat] at ho109; rw [← Ny271.out] at ho109)); have n0_ := A_ (Kd.R_lower ho109 (bz_ bw_)); have n1_ := A_ (bs_ bw_ hb); clear HB; have HO273 := n0_; have HB := n1_; clear n0_ n1_; clear hb ho109; obtain ⟨Ao110, co110, eo110⟩ := Kd.R_slice HO273.out; subst eo110) | ((with_reducible refine gate_callee (f := 10) rfl ?_); refine goesL_ (some 10) rfl rfl Try.func10 (by kernel_rfl) rfl #[.int .i64 4, .slice Ao110 y271.length co110] rfl (by (try simp only [List.map_toArray, List.map_cons, List.map_nil]); first | done | rfl | (simp only [List.length_drop, List.length_take]; rfl)) ?_; (with_reducible refine (waterfall_Split.calls k 4 _ _ y271 t274 t275 _ ?side1 ?side2 A1.out).mono ?_); (case side1 => repeat (first | exact (Kd.R_reads' HO273.out).2.2 | (with_reducible refine ca_ ?_ _) | (with_reducible refine cn_ ?_ _) | (with_reducible refine cd_ ?_))); (case side2 => exact (Kd.R_reads' HO273.out).2.1); rintro e w111 ⟨v276, rfl, ho0, hb⟩; refine ⟨_, rfl, ?_⟩; have n0_ := A_ (Kd.R_below (by (with_reducible repeat (first | apply Kd.R_alloc | apply Kd.R_drewN | apply Kd.R_drew)); exact HO273.out) hb); have n1_ := A_ (Kd.R_lower ho0 (bz_ bw_)); have n2_ := A_ (bs_ bw_ hb); clear HO273; clear HB; have HO273 := n0_; have HO277 := n1_; have HB := n2_; clear n0_ n1_ n2_; (try clear hb); (try clear hb2); (try clear hk); (try clear hi); (try clear ho0)) | ((with_reducible refine gate_dst (N := 15) rfl ?_); (try (refine gate_guard (by rfl) ?_; dsimp only)); refine Kd.R_lit k74 _ 74 ?hg (N := 15) ?hd (xs := ([(⟨(⟨#[97]⟩ : ByteArray), 5⟩ : S74)] : List (S74))) (inner := [.string (⟨#[97]⟩ : ByteArray), .int .i64 5]) (ok := fun _ => True) (okp := fun _ => True) ?hr ?hp (fun _ hk => hk) trivial (Below.refl _ _) (Nat.le_refl _) (by simp) ?_; (case hd => rfl); (case hg => rfl); (case hr => first | (go_simp; done) | (go_simp; rfl)); (case hp => exact (Reps.c2 (show Kd.M k74 _ _ _ (⟨(⟨#[97]⟩ : ByteArray), 5⟩ : S74) [.string (⟨#[97]⟩ : ByteArray), .int .i64 5] from (k74_mkM _ _ _ (⟨(⟨#[97]⟩ : ByteArray), 5⟩ : S74) )) (Reps.none _ _))); intro v279 w112 ho113 hb hg_ hnew_; clear hg_ hnew_; (first | rw [← Ny278.out] at ho113 | (simp only [Int.reduceToNat] at ho113; rw [← Ny278.out] at ho113)); have n0_ := A_ (Kd.R_elder' (by (with_reducible repeat (first | apply Kd.R_alloc | apply Kd.R_drewN | apply Kd.R_drew)); exact HO273.out) (Kd.R_base ho113) hb); have n1_ := A_ (Kd.R_below (by (with_reducible repeat (first | apply Kd.R_alloc | apply Kd.R_drewN | apply Kd.R_drew)); exact HO277.out) hb); have n2_ := A_ (Kd.R_lower (Kd.R_new' ho113 (Kd.R_lt (by (with_reducible repeat (first | apply Kd.R_alloc | apply Kd.R_drewN | apply Kd.R_drew)); exact HO273.out))) (bz_ bw_)); have n3_ := A_ (bs_ bw_ hb); clear HO273; clear HO277; clear HB; have HO273 := n0_; have HO277 := n1_; have HO280 := n2_; have HB := n3_; clear n0_ n1_ n2_ n3_; clear hb ho113; obtain ⟨Ao114, co114, eo114⟩ := Kd.R_slice HO280.out; subst eo114) | ((with_reducible refine gate_dst (N := 18) rfl ?_); (try (refine gate_guard (by rfl) ?_; dsimp only)); refine Kd.R_lit k74 _ 74 ?hg (N := 18) ?hd (xs := ([(⟨(⟨#[97]⟩ : ByteArray), 10⟩ : S74)] : List (S74))) (inner := [.string (⟨#[97]⟩ : ByteArray), .int .i64 10]) (ok := fun _ => True) (okp := fun _ => True) ?hr ?hp (fun _ hk => hk) trivial (Below.refl _ _) (Nat.le_refl _) (by simp) ?_; (case hd => rfl); (case hg => rfl); (case hr => first | (go_simp; done) | (go_simp; rfl)); (case hp => exact (Reps.c2 (show Kd.M k74 _ _ _ (⟨(⟨#[97]⟩ : ByteArray), 10⟩ : S74) [.string (⟨#[97]⟩ : ByteArray), .int .i64 10] from (k74_mkM _ _ _ (⟨(⟨#[97]⟩ : ByteArray), 10⟩ : S74) )) (Reps.none _ _))); intro v282 w115 ho116 hb hg_ hnew_; clear hg_ hnew_; (first | rw [← Ny281.out] at ho116 | (simp only [Int.reduceToNat] at ho116; rw [← Ny281.out] at ho116)); have n0_ := A_ (Kd.R_elder' (by (with_reducible repeat (first | apply Kd.R_alloc | apply Kd.R_drewN | apply Kd.R_drew)); exact HO273.out) (Kd.R_base ho116) hb); have n1_ := A_ (Kd.R_below (by (with_reducible repeat (first | apply Kd.R_alloc | apply Kd.R_drewN | apply Kd.R_drew)); exact HO277.out) hb); have n2_ := A_ (Kd.R_elder' (by (with_reducible repeat (first | apply Kd.R_alloc | apply Kd.R_drewN | apply Kd.R_drew)); exact HO280.out) (Kd.R_base ho116) hb); have n3_ := A_ (Kd.R_lower (Kd.R_new' (Kd.R_new' ho116 (Kd.R_lt (by (with_reducible repeat (first | apply Kd.R_alloc | apply Kd.R_drewN | apply Kd.R_drew)); exact HO273.out))) (Kd.R_lt (by (with_reducible repeat (first | apply Kd.R_alloc | apply Kd.R_drewN | apply Kd.R_drew)); exact HO280.out))) (bz_ bw_)); have n4_ := A_ (bs_ bw_ hb); clear HO273; clear HO277; clear HO280; clear HB; have HO273 := n0_; have HO277 := n1_; have HO280 := n2_; have HO283 := n3_; have HB := n4_; clear n0_ n1_ n2_ n3_ n4_; clear hb ho116; obtain ⟨Ao117, co117, eo117⟩ := Kd.R_slice HO283.out; subst eo117) | ((with_reducible refine gate_dst (N := 20) rfl ?_); (try (refine gate_guard (by rfl) ?_; dsimp only)); refine Kd.N_lit k35 _ 35 ?hg (N' := 20) ?hd (xs := ([(⟨(⟨#[120]⟩ : ByteArray), y278⟩ : S35), (⟨(⟨#[121]⟩ : ByteArray), y281⟩ : S35)] : List (S35))) (inner := [.string (⟨#[120]⟩ : ByteArray), .slice Ao114 y278.length co114, .string (⟨#[121]⟩ : ByteArray), .slice Ao117 y281.length co117]) (ok := (fun k_ => some k_ ≠ (.slice Ao110 y271.length co110 : Value).ownBlock ∧ some k_ ≠ (v276 : Value).ownBlock)) (okp := (fun k_ => some k_ ≠ (.slice Ao110 y271.length co110 : Value).ownBlock ∧ some k_ ≠ (v276 : Value).ownBlock)) ?hr ?hp (fun _ hk => hk) ((show ∀ k_, w115.heap.size ≤ k_ → (fun k_ => some k_ ≠ (.slice Ao110 y271.length co110 : Value).ownBlock ∧ some k_ ≠ (v276 : Value).ownBlock) k_ from fun k_ hk => ⟨Kd.fresh' (Kd.R_lt (by (with_reducible repeat (first | apply Kd.R_alloc | apply Kd.R_drewN | apply Kd.R_drew)); exact HO273.out)) k_ hk, Kd.fresh' (Kd.R_lt (by (with_reducible repeat (first | apply Kd.R_alloc | apply Kd.R_drewN | apply Kd.R_drew)); exact HO277.out)) k_ hk⟩) _ (Nat.le_refl _)) (Below.refl _ _) (Nat.le_refl _) (by simp) ?_; (case hd => rfl); (case hg => rfl); (case hr => first | (go_simp; done) | (go_simp; rfl)); (case hp => exact (Reps.c2 (show Kd.FK k35 _ _ (⟨(⟨#[120]⟩ : ByteArray), y278⟩ : S35) [.string (⟨#[120]⟩ : ByteArray), .slice Ao114 y278.length co114] from (k35_mkF _ _ (⟨(⟨#[120]⟩ : ByteArray), y278⟩ : S35) (Kd.R_reads' (Kd.R_mono (ok' := (fun k_ => some k_ ≠ (.slice Ao110 y271.length co110 : Value).ownBlock ∧ some k_ ≠ (v276 : Value).ownBlock)) (Kd.R_apart' (HO280.out) (Kd.R_typed HO277.out) (by decide)) (fun k_ hk => ⟨hk.1.1.2, hk.2⟩))).2.1 (Kd.R_F (Kd.R_mono (ok' := (fun k_ => some k_ ≠ (.slice Ao110 y271.length co110 : Value).ownBlock ∧ some k_ ≠ (v276 : Value).ownBlock)) (Kd.R_apart' (HO280.out) (Kd.R_typed HO277.out) (by decide)) (fun k_ hk => ⟨hk.1.1.2, hk.2⟩))))) (Reps.c2 (show Kd.FK k35 _ _ (⟨(⟨#[121]⟩ : ByteArray), y281⟩ : S35) [.string (⟨#[121]⟩ : ByteArray), .slice Ao117 y281.length co117] from (k35_mkF _ _ (⟨(⟨#[121]⟩ : ByteArray), y281⟩ : S35) (Kd.R_reads' (Kd.R_mono (ok' := (fun k_ => some k_ ≠ (.slice Ao110 y271.length co110 : Value).ownBlock ∧ some k_ ≠ (v276 : Value).ownBlock)) (Kd.R_apart' (HO283.out) (Kd.R_typed HO277.out) (by decide)) (fun k_ hk => ⟨hk.1.1.2, hk.2⟩))).2.1 (Kd.R_F (Kd.R_mono (ok' := (fun k_ => some k_ ≠ (.slice Ao110 y271.length co110 : Value).ownBlock ∧ some k_ ≠ (v276 : Value).ownBlock)) (Kd.R_apart' (HO283.out) (Kd.R_typed HO277.out) (by decide)) (fun k_ hk => ⟨hk.1.1.2, hk.2⟩))))) (Reps.none _ _)))); intro v285 w118 ho119 hb hg_ hnew_; clear hg_ hnew_; (first | rw [← Ny284.out] at ho119 | (simp only [Int.reduceToNat] at ho119; rw [← Ny284.out] at ho119)); have n0_ := A_ (Kd.R_below (by (with_reducible repeat (first | apply Kd.R_alloc | apply Kd.R_drewN | apply Kd.R_drew)); exact HO273.out) hb); have n1_ := A_ (Kd.R_below (by (with_reducible repeat (first | apply Kd.R_alloc | apply Kd.R_drewN | apply Kd.R_drew)); exact HO277.out) hb); have n2_ := A_ (Kd.N_lower ho119 (bz_ bw_)); have n3_ := A_ (bs_ bw_ hb); clear HO273; clear HO277; clear HB; clear HO280; clear HO283; have HO273 := n0_; have HO277 := n1_; have HO286 := n2_; have HB := n3_; clear n0_ n1_ n2_ n3_; clear hb ho119; obtain ⟨Ao120, co120, eo120⟩ := Kd.N_slice HO286.out; subst eo120) | ((with_reducible refine gate_callee (f := 17) rfl ?_); refine goesL_ (some 21) rfl rfl Try.func17 (by kernel_rfl) rfl #[.int .i64 7, .slice Ao120 y284.length co120] rfl (by (try simp only [List.map_toArray, List.map_cons, List.map_nil]); first | done | rfl | (simp only [List.length_drop, List.length_take]; rfl)) ?_; (with_reducible refine (waterfall_Run.calls k 7 _ _ y284 t287 t288 t289 _ ?side1 ?side2 A2.out).mono ?_); (case side1 => repeat (first | exact (Kd.N_reads' HO286.out).2.2 | (with_reducible refine ca_ ?_ _) | (with_reducible refine cn_ ?_ _) | (with_reducible refine cd_ ?_))); (case side2 => exact (Kd.N_reads' HO286.out).2.1); rintro e w121 ⟨v290, rfl, ho0, hb⟩; refine ⟨_, rfl, ?_⟩; have n0_ := A_ (Kd.R_below (by (with_reducible repeat (first | apply Kd.R_alloc | apply Kd.R_drewN | apply Kd.R_drew)); exact HO273.out) hb); have n1_ := A_ (Kd.R_below (by (with_reducible repeat (first | apply Kd.R_alloc | apply Kd.R_drewN | apply Kd.R_drew)); exact HO277.out) hb); have n2_ := A_ (Kd.N_elder' (by (with_reducible repeat (first | apply Kd.N_alloc | apply Kd.N_drewN | apply Kd.N_drew)); exact HO286.out) (Kd.R_base ho0) hb); have n3_ := A_ (Kd.R_lower ho0 (bz_ bw_)); have n4_ := A_ (bs_ bw_ hb); clear HO273; clear HO277; clear HO286; clear HB; have HO273 := n0_; have HO277 := n1_; have HO286 := n2_; have HO291 := n3_; have HB := n4_; clear n0_ n1_ n2_ n3_ n4_; (try clear hb); (try clear hb2); (try clear hk); (try clear hi); (try clear ho0); obtain ⟨Ao122, co122, eo122⟩ := Kd.R_slice HO277.out; subst eo122; have p292 : 0 ≤ (0 : Int) := (by omega); have q292 : 0 < (t274.length : Int) := od_ (by first | (with_reducible assumption) | assumption); obtain ⟨ad292, e292, hx292_0⟩ := Kd.at_int (Kd.R_reads' HO277.out).2.2 0 p292 q292; cases e292; have qi292 : (0 < t274.length) = True := eq_true (by omega); (try rw [show ((0 : Int)).toNat = 0 from rfl] at hx292_0); (try rw [Addr.add_zero'] at hx292_0); replace p292 := eq_true p292; replace q292 := eq_true q292))
     go_ret
     exact ⟨by first | rfl | (simp [errW_none, errW_some] <;> rfl) | (simp [*, errW_none, errW_some] <;> rfl), bw_⟩
   ·
    rw [if_neg c5] at H
    exact absurd H (by simp)
  ·
   rw [if_neg c4] at H
   have c4b0 : ((t274.length : Int) == 2) = false := q4_ c4
   have c4b1 : ((t274.length : Int) != 2) = true := q2_ c4
   obtain rfl := Option.some.inj H
   go_enter Try.func12, Try.ntmps12
   go_wp2_with (first | ((with_reducible refine gate_dst (N := 9) rfl ?_); (try (refine gate_guard (by rfl) ?_; dsimp only)); refine Kd.R_lit k74 _ 74 ?hg (N := 9) ?hd (xs := ([(⟨(⟨#[97]⟩ : ByteArray), 5⟩ : S74), (⟨(⟨#[98]⟩ : ByteArray), 3⟩ : S74)] : List (S74))) (inner := [.string (⟨#[97]⟩ : ByteArray), .int .i64 5, .string (⟨#[98]⟩ : ByteArray), .int .i64 3]) (ok := fun _ => True) (okp := fun _ => True) ?hr ?hp (fun _ hk => hk) trivial (Below.refl _ _) (Nat.le_refl _) (by simp) ?_; (case hd => rfl); (case hg => rfl); (case hr => first | (go_simp; done) | (go_simp; rfl)); (case hp => exact (Reps.c2 (show Kd.M k74 _ _ _ (⟨(⟨#[97]⟩ : ByteArray), 5⟩ : S74) [.string (⟨#[97]⟩ : ByteArray), .int .i64 5] from (k74_mkM _ _ _ (⟨(⟨#[97]⟩ : ByteArray), 5⟩ : S74) )) (Reps.c2 (show Kd.M k74 _ _ _ (⟨(⟨#[98]⟩ : ByteArray), 3⟩ : S74) [.string (⟨#[98]⟩ : ByteArray), .int .i64 3] from (k74_mkM _ _ _ (⟨(⟨#[98]⟩ : ByteArray), 3⟩ : S74) )) (Reps.none _ _)))); intro v272 w123 ho124 hb hg_ hnew_; clear hg_ hnew_; (first | rw [← Ny271.out] at ho124 | (simp only [Int.reduceToNat] at ho124; rw [← Ny271.out] at ho124)); have n0_ := A_ (Kd.R_lower ho124 (bz_ bw_)); have n1_ := A_ (bs_ bw_ hb); clear HB; have HO273 := n0_; have HB := n1_; clear n0_ n1_; clear hb ho124; obtain ⟨Ao125, co125, eo125⟩ := Kd.R_slice HO273.out; subst eo125) | ((with_reducible refine gate_callee (f := 10) rfl ?_); refine goesL_ (some 10) rfl rfl Try.func10 (by kernel_rfl) rfl #[.int .i64 4, .slice Ao125 y271.length co125] rfl (by (try simp only [List.map_toArray, List.map_cons, List.map_nil]); first | done | rfl | (simp only [List.length_drop, List.length_take]; rfl)) ?_; (with_reducible refine (waterfall_Split.calls k 4 _ _ y271 t274 t275 _ ?side1 ?side2 A1.out).mono ?_); (case side1 => repeat (first | exact (Kd.R_reads' HO273.out).2.2 | (with_reducible refine ca_ ?_ _) | (with_reducible refine cn_ ?_ _) | (with_reducible refine cd_ ?_))); (case side2 => exact (Kd.R_reads' HO273.out).2.1); rintro e w126 ⟨v276, rfl, ho0, hb⟩; refine ⟨_, rfl, ?_⟩; have n0_ := A_ (Kd.R_below (by (with_reducible repeat (first | apply Kd.R_alloc | apply Kd.R_drewN | apply Kd.R_drew)); exact HO273.out) hb); have n1_ := A_ (Kd.R_lower ho0 (bz_ bw_)); have n2_ := A_ (bs_ bw_ hb); clear HO273; clear HB; have HO273 := n0_; have HO277 := n1_; have HB := n2_; clear n0_ n1_ n2_; (try clear hb); (try clear hb2); (try clear hk); (try clear hi); (try clear ho0)) | ((with_reducible refine gate_dst (N := 15) rfl ?_); (try (refine gate_guard (by rfl) ?_; dsimp only)); refine Kd.R_lit k74 _ 74 ?hg (N := 15) ?hd (xs := ([(⟨(⟨#[97]⟩ : ByteArray), 5⟩ : S74)] : List (S74))) (inner := [.string (⟨#[97]⟩ : ByteArray), .int .i64 5]) (ok := fun _ => True) (okp := fun _ => True) ?hr ?hp (fun _ hk => hk) trivial (Below.refl _ _) (Nat.le_refl _) (by simp) ?_; (case hd => rfl); (case hg => rfl); (case hr => first | (go_simp; done) | (go_simp; rfl)); (case hp => exact (Reps.c2 (show Kd.M k74 _ _ _ (⟨(⟨#[97]⟩ : ByteArray), 5⟩ : S74) [.string (⟨#[97]⟩ : ByteArray), .int .i64 5] from (k74_mkM _ _ _ (⟨(⟨#[97]⟩ : ByteArray), 5⟩ : S74) )) (Reps.none _ _))); intro v279 w127 ho128 hb hg_ hnew_; clear hg_ hnew_; (first | rw [← Ny278.out] at ho128 | (simp only [Int.reduceToNat] at ho128; rw [← Ny278.out] at ho128)); have n0_ := A_ (Kd.R_elder' (by (with_reducible repeat (first | apply Kd.R_alloc | apply Kd.R_drewN | apply Kd.R_drew)); exact HO273.out) (Kd.R_base ho128) hb); have n1_ := A_ (Kd.R_below (by (with_reducible repeat (first | apply Kd.R_alloc | apply Kd.R_drewN | apply Kd.R_drew)); exact HO277.out) hb); have n2_ := A_ (Kd.R_lower (Kd.R_new' ho128 (Kd.R_lt (by (with_reducible repeat (first | apply Kd.R_alloc | apply Kd.R_drewN | apply Kd.R_drew)); exact HO273.out))) (bz_ bw_)); have n3_ := A_ (bs_ bw_ hb); clear HO273; clear HO277; clear HB; have HO273 := n0_; have HO277 := n1_; have HO280 := n2_; have HB := n3_; clear n0_ n1_ n2_ n3_; clear hb ho128; obtain ⟨Ao129, co129, eo129⟩ := Kd.R_slice HO280.out; subst eo129) | ((with_reducible refine gate_dst (N := 18) rfl ?_); (try (refine gate_guard (by rfl) ?_; dsimp only)); refine Kd.R_lit k74 _ 74 ?hg (N := 18) ?hd (xs := ([(⟨(⟨#[97]⟩ : ByteArray), 10⟩ : S74)] : List (S74))) (inner := [.string (⟨#[97]⟩ : ByteArray), .int .i64 10]) (ok := fun _ => True) (okp := fun _ => True) ?hr ?hp (fun _ hk => hk) trivial (Below.refl _ _) (Nat.le_refl _) (by simp) ?_; (case hd => rfl); (case hg => rfl); (case hr => first | (go_simp; done) | (go_simp; rfl)); (case hp => exact (Reps.c2 (show Kd.M k74 _ _ _ (⟨(⟨#[97]⟩ : ByteArray), 10⟩ : S74) [.string (⟨#[97]⟩ : ByteArray), .int .i64 10] from (k74_mkM _ _ _ (⟨(⟨#[97]⟩ : ByteArray), 10⟩ : S74) )) (Reps.none _ _))); intro v282 w130 ho131 hb hg_ hnew_; clear hg_ hnew_; (first | rw [← Ny281.out] at ho131 | (simp only [Int.reduceToNat] at ho131; rw [← Ny281.out] at ho131)); have n0_ := A_ (Kd.R_elder' (by (with_reducible repeat (first | apply Kd.R_alloc | apply Kd.R_drewN | apply Kd.R_drew)); exact HO273.out) (Kd.R_base ho131) hb); have n1_ := A_ (Kd.R_below (by (with_reducible repeat (first | apply Kd.R_alloc | apply Kd.R_drewN | apply Kd.R_drew)); exact HO277.out) hb); have n2_ := A_ (Kd.R_elder' (by (with_reducible repeat (first | apply Kd.R_alloc | apply Kd.R_drewN | apply Kd.R_drew)); exact HO280.out) (Kd.R_base ho131) hb); have n3_ := A_ (Kd.R_lower (Kd.R_new' (Kd.R_new' ho131 (Kd.R_lt (by (with_reducible repeat (first | apply Kd.R_alloc | apply Kd.R_drewN | apply Kd.R_drew)); exact HO273.out))) (Kd.R_lt (by (with_reducible repeat (first | apply Kd.R_alloc | apply Kd.R_drewN | apply Kd.R_drew)); exact HO280.out))) (bz_ bw_)); have n4_ := A_ (bs_ bw_ hb); clear HO273; clear HO277; clear HO280; clear HB; have HO273 := n0_; have HO277 := n1_; have HO280 := n2_; have HO283 := n3_; have HB := n4_; clear n0_ n1_ n2_ n3_ n4_; clear hb ho131; obtain ⟨Ao132, co132, eo132⟩ := Kd.R_slice HO283.out; subst eo132) | ((with_reducible refine gate_dst (N := 20) rfl ?_); (try (refine gate_guard (by rfl) ?_; dsimp only)); refine Kd.N_lit k35 _ 35 ?hg (N' := 20) ?hd (xs := ([(⟨(⟨#[120]⟩ : ByteArray), y278⟩ : S35), (⟨(⟨#[121]⟩ : ByteArray), y281⟩ : S35)] : List (S35))) (inner := [.string (⟨#[120]⟩ : ByteArray), .slice Ao129 y278.length co129, .string (⟨#[121]⟩ : ByteArray), .slice Ao132 y281.length co132]) (ok := (fun k_ => some k_ ≠ (.slice Ao125 y271.length co125 : Value).ownBlock ∧ some k_ ≠ (v276 : Value).ownBlock)) (okp := (fun k_ => some k_ ≠ (.slice Ao125 y271.length co125 : Value).ownBlock ∧ some k_ ≠ (v276 : Value).ownBlock)) ?hr ?hp (fun _ hk => hk) ((show ∀ k_, w130.heap.size ≤ k_ → (fun k_ => some k_ ≠ (.slice Ao125 y271.length co125 : Value).ownBlock ∧ some k_ ≠ (v276 : Value).ownBlock) k_ from fun k_ hk => ⟨Kd.fresh' (Kd.R_lt (by (with_reducible repeat (first | apply Kd.R_alloc | apply Kd.R_drewN | apply Kd.R_drew)); exact HO273.out)) k_ hk, Kd.fresh' (Kd.R_lt (by (with_reducible repeat (first | apply Kd.R_alloc | apply Kd.R_drewN | apply Kd.R_drew)); exact HO277.out)) k_ hk⟩) _ (Nat.le_refl _)) (Below.refl _ _) (Nat.le_refl _) (by simp) ?_; (case hd => rfl); (case hg => rfl); (case hr => first | (go_simp; done) | (go_simp; rfl)); (case hp => exact (Reps.c2 (show Kd.FK k35 _ _ (⟨(⟨#[120]⟩ : ByteArray), y278⟩ : S35) [.string (⟨#[120]⟩ : ByteArray), .slice Ao129 y278.length co129] from (k35_mkF _ _ (⟨(⟨#[120]⟩ : ByteArray), y278⟩ : S35) (Kd.R_reads' (Kd.R_mono (ok' := (fun k_ => some k_ ≠ (.slice Ao125 y271.length co125 : Value).ownBlock ∧ some k_ ≠ (v276 : Value).ownBlock)) (Kd.R_apart' (HO280.out) (Kd.R_typed HO277.out) (by decide)) (fun k_ hk => ⟨hk.1.1.2, hk.2⟩))).2.1 (Kd.R_F (Kd.R_mono (ok' := (fun k_ => some k_ ≠ (.slice Ao125 y271.length co125 : Value).ownBlock ∧ some k_ ≠ (v276 : Value).ownBlock)) (Kd.R_apart' (HO280.out) (Kd.R_typed HO277.out) (by decide)) (fun k_ hk => ⟨hk.1.1.2, hk.2⟩))))) (Reps.c2 (show Kd.FK k35 _ _ (⟨(⟨#[121]⟩ : ByteArray), y281⟩ : S35) [.string (⟨#[121]⟩ : ByteArray), .slice Ao132 y281.length co132] from (k35_mkF _ _ (⟨(⟨#[121]⟩ : ByteArray), y281⟩ : S35) (Kd.R_reads' (Kd.R_mono (ok' := (fun k_ => some k_ ≠ (.slice Ao125 y271.length co125 : Value).ownBlock ∧ some k_ ≠ (v276 : Value).ownBlock)) (Kd.R_apart' (HO283.out) (Kd.R_typed HO277.out) (by decide)) (fun k_ hk => ⟨hk.1.1.2, hk.2⟩))).2.1 (Kd.R_F (Kd.R_mono (ok' := (fun k_ => some k_ ≠ (.slice Ao125 y271.length co125 : Value).ownBlock ∧ some k_ ≠ (v276 : Value).ownBlock)) (Kd.R_apart' (HO283.out) (Kd.R_typed HO277.out) (by decide)) (fun k_ hk => ⟨hk.1.1.2, hk.2⟩))))) (Reps.none _ _)))); intro v285 w133 ho134 hb hg_ hnew_; clear hg_ hnew_; (first | rw [← Ny284.out] at ho134 | (simp only [Int.reduceToNat] at ho134; rw [← Ny284.out] at ho134)); have n0_ := A_ (Kd.R_below (by (with_reducible repeat (first | apply Kd.R_alloc | apply Kd.R_drewN | apply Kd.R_drew)); exact HO273.out) hb); have n1_ := A_ (Kd.R_below (by (with_reducible repeat (first | apply Kd.R_alloc | apply Kd.R_drewN | apply Kd.R_drew)); exact HO277.out) hb); have n2_ := A_ (Kd.N_lower ho134 (bz_ bw_)); have n3_ := A_ (bs_ bw_ hb); clear HO273; clear HO277; clear HB; clear HO280; clear HO283; have HO273 := n0_; have HO277 := n1_; have HO286 := n2_; have HB := n3_; clear n0_ n1_ n2_ n3_; clear hb ho134; obtain ⟨Ao135, co135, eo135⟩ := Kd.N_slice HO286.out; subst eo135) | ((with_reducible refine gate_callee (f := 17) rfl ?_); refine goesL_ (some 21) rfl rfl Try.func17 (by kernel_rfl) rfl #[.int .i64 7, .slice Ao135 y284.length co135] rfl (by (try simp only [List.map_toArray, List.map_cons, List.map_nil]); first | done | rfl | (simp only [List.length_drop, List.length_take]; rfl)) ?_; (with_reducible refine (waterfall_Run.calls k 7 _ _ y284 t287 t288 t289 _ ?side1 ?side2 A2.out).mono ?_); (case side1 => repeat (first | exact (Kd.N_reads' HO286.out).2.2 | (with_reducible refine ca_ ?_ _) | (with_reducible refine cn_ ?_ _) | (with_reducible refine cd_ ?_))); (case side2 => exact (Kd.N_reads' HO286.out).2.1); rintro e w136 ⟨v290, rfl, ho0, hb⟩; refine ⟨_, rfl, ?_⟩; have n0_ := A_ (Kd.R_below (by (with_reducible repeat (first | apply Kd.R_alloc | apply Kd.R_drewN | apply Kd.R_drew)); exact HO273.out) hb); have n1_ := A_ (Kd.R_below (by (with_reducible repeat (first | apply Kd.R_alloc | apply Kd.R_drewN | apply Kd.R_drew)); exact HO277.out) hb); have n2_ := A_ (Kd.N_elder' (by (with_reducible repeat (first | apply Kd.N_alloc | apply Kd.N_drewN | apply Kd.N_drew)); exact HO286.out) (Kd.R_base ho0) hb); have n3_ := A_ (Kd.R_lower ho0 (bz_ bw_)); have n4_ := A_ (bs_ bw_ hb); clear HO273; clear HO277; clear HO286; clear HB; have HO273 := n0_; have HO277 := n1_; have HO286 := n2_; have HO291 := n3_; have HB := n4_; clear n0_ n1_ n2_ n3_ n4_; (try clear hb); (try clear hb2); (try clear hk); (try clear hi); (try clear ho0); obtain ⟨Ao137, co137, eo137⟩ := Kd.R_slice HO277.out; subst eo137))
   go_ret
   exact ⟨by first | rfl | (simp [errW_none, errW_some] <;> rfl) | (simp [*, errW_none, errW_some] <;> rfl), bw_⟩
 ·
  rw [if_neg c3] at H
  have c3b0 : (t275 == 0) = false := q4_ c3
  have c3b1 : (t275 != 0) = true := q2_ c3
  obtain rfl := Option.some.inj H
  go_enter Try.func12, Try.ntmps12
  go_wp2_with (first | ((with_reducible refine gate_dst (N := 9) rfl ?_); (try (refine gate_guard (by rfl) ?_; dsimp only)); refine Kd.R_lit k74 _ 74 ?hg (N := 9) ?hd (xs := ([(⟨(⟨#[97]⟩ : ByteArray), 5⟩ : S74), (⟨(⟨#[98]⟩ : ByteArray), 3⟩ : S74)] : List (S74))) (inner := [.string (⟨#[97]⟩ : ByteArray), .int .i64 5, .string (⟨#[98]⟩ : ByteArray), .int .i64 3]) (ok := fun _ => True) (okp := fun _ => True) ?hr ?hp (fun _ hk => hk) trivial (Below.refl _ _) (Nat.le_refl _) (by simp) ?_; (case hd => rfl); (case hg => rfl); (case hr => first | (go_simp; done) | (go_simp; rfl)); (case hp => exact (Reps.c2 (show Kd.M k74 _ _ _ (⟨(⟨#[97]⟩ : ByteArray), 5⟩ : S74) [.string (⟨#[97]⟩ : ByteArray), .int .i64 5] from (k74_mkM _ _ _ (⟨(⟨#[97]⟩ : ByteArray), 5⟩ : S74) )) (Reps.c2 (show Kd.M k74 _ _ _ (⟨(⟨#[98]⟩ : ByteArray), 3⟩ : S74) [.string (⟨#[98]⟩ : ByteArray), .int .i64 3] from (k74_mkM _ _ _ (⟨(⟨#[98]⟩ : ByteArray), 3⟩ : S74) )) (Reps.none _ _)))); intro v272 w138 ho139 hb hg_ hnew_; clear hg_ hnew_; (first | rw [← Ny271.out] at ho139 | (simp only [Int.reduceToNat] at ho139; rw [← Ny271.out] at ho139)); have n0_ := A_ (Kd.R_lower ho139 (bz_ bw_)); have n1_ := A_ (bs_ bw_ hb); clear HB; have HO273 := n0_; have HB := n1_; clear n0_ n1_; clear hb ho139; obtain ⟨Ao140, co140, eo140⟩ := Kd.R_slice HO273.out; subst eo140) | ((with_reducible refine gate_callee (f := 10) rfl ?_); refine goesL_ (some 10) rfl rfl Try.func10 (by kernel_rfl) rfl #[.int .i64 4, .slice Ao140 y271.length co140] rfl (by (try simp only [List.map_toArray, List.map_cons, List.map_nil]); first | done | rfl | (simp only [List.length_drop, List.length_take]; rfl)) ?_; (with_reducible refine (waterfall_Split.calls k 4 _ _ y271 t274 t275 _ ?side1 ?side2 A1.out).mono ?_); (case side1 => repeat (first | exact (Kd.R_reads' HO273.out).2.2 | (with_reducible refine ca_ ?_ _) | (with_reducible refine cn_ ?_ _) | (with_reducible refine cd_ ?_))); (case side2 => exact (Kd.R_reads' HO273.out).2.1); rintro e w141 ⟨v276, rfl, ho0, hb⟩; refine ⟨_, rfl, ?_⟩; have n0_ := A_ (Kd.R_below (by (with_reducible repeat (first | apply Kd.R_alloc | apply Kd.R_drewN | apply Kd.R_drew)); exact HO273.out) hb); have n1_ := A_ (Kd.R_lower ho0 (bz_ bw_)); have n2_ := A_ (bs_ bw_ hb); clear HO273; clear HB; have HO273 := n0_; have HO277 := n1_; have HB := n2_; clear n0_ n1_ n2_; (try clear hb); (try clear hb2); (try clear hk); (try clear hi); (try clear ho0)) | ((with_reducible refine gate_dst (N := 15) rfl ?_); (try (refine gate_guard (by rfl) ?_; dsimp only)); refine Kd.R_lit k74 _ 74 ?hg (N := 15) ?hd (xs := ([(⟨(⟨#[97]⟩ : ByteArray), 5⟩ : S74)] : List (S74))) (inner := [.string (⟨#[97]⟩ : ByteArray), .int .i64 5]) (ok := fun _ => True) (okp := fun _ => True) ?hr ?hp (fun _ hk => hk) trivial (Below.refl _ _) (Nat.le_refl _) (by simp) ?_; (case hd => rfl); (case hg => rfl); (case hr => first | (go_simp; done) | (go_simp; rfl)); (case hp => exact (Reps.c2 (show Kd.M k74 _ _ _ (⟨(⟨#[97]⟩ : ByteArray), 5⟩ : S74) [.string (⟨#[97]⟩ : ByteArray), .int .i64 5] from (k74_mkM _ _ _ (⟨(⟨#[97]⟩ : ByteArray), 5⟩ : S74) )) (Reps.none _ _))); intro v279 w142 ho143 hb hg_ hnew_; clear hg_ hnew_; (first | rw [← Ny278.out] at ho143 | (simp only [Int.reduceToNat] at ho143; rw [← Ny278.out] at ho143)); have n0_ := A_ (Kd.R_elder' (by (with_reducible repeat (first | apply Kd.R_alloc | apply Kd.R_drewN | apply Kd.R_drew)); exact HO273.out) (Kd.R_base ho143) hb); have n1_ := A_ (Kd.R_below (by (with_reducible repeat (first | apply Kd.R_alloc | apply Kd.R_drewN | apply Kd.R_drew)); exact HO277.out) hb); have n2_ := A_ (Kd.R_lower (Kd.R_new' ho143 (Kd.R_lt (by (with_reducible repeat (first | apply Kd.R_alloc | apply Kd.R_drewN | apply Kd.R_drew)); exact HO273.out))) (bz_ bw_)); have n3_ := A_ (bs_ bw_ hb); clear HO273; clear HO277; clear HB; have HO273 := n0_; have HO277 := n1_; have HO280 := n2_; have HB := n3_; clear n0_ n1_ n2_ n3_; clear hb ho143; obtain ⟨Ao144, co144, eo144⟩ := Kd.R_slice HO280.out; subst eo144) | ((with_reducible refine gate_dst (N := 18) rfl ?_); (try (refine gate_guard (by rfl) ?_; dsimp only)); refine Kd.R_lit k74 _ 74 ?hg (N := 18) ?hd (xs := ([(⟨(⟨#[97]⟩ : ByteArray), 10⟩ : S74)] : List (S74))) (inner := [.string (⟨#[97]⟩ : ByteArray), .int .i64 10]) (ok := fun _ => True) (okp := fun _ => True) ?hr ?hp (fun _ hk => hk) trivial (Below.refl _ _) (Nat.le_refl _) (by simp) ?_; (case hd => rfl); (case hg => rfl); (case hr => first | (go_simp; done) | (go_simp; rfl)); (case hp => exact (Reps.c2 (show Kd.M k74 _ _ _ (⟨(⟨#[97]⟩ : ByteArray), 10⟩ : S74) [.string (⟨#[97]⟩ : ByteArray), .int .i64 10] from (k74_mkM _ _ _ (⟨(⟨#[97]⟩ : ByteArray), 10⟩ : S74) )) (Reps.none _ _))); intro v282 w145 ho146 hb hg_ hnew_; clear hg_ hnew_; (first | rw [← Ny281.out] at ho146 | (simp only [Int.reduceToNat] at ho146; rw [← Ny281.out] at ho146)); have n0_ := A_ (Kd.R_elder' (by (with_reducible repeat (first | apply Kd.R_alloc | apply Kd.R_drewN | apply Kd.R_drew)); exact HO273.out) (Kd.R_base ho146) hb); have n1_ := A_ (Kd.R_below (by (with_reducible repeat (first | apply Kd.R_alloc | apply Kd.R_drewN | apply Kd.R_drew)); exact HO277.out) hb); have n2_ := A_ (Kd.R_elder' (by (with_reducible repeat (first | apply Kd.R_alloc | apply Kd.R_drewN | apply Kd.R_drew)); exact HO280.out) (Kd.R_base ho146) hb); have n3_ := A_ (Kd.R_lower (Kd.R_new' (Kd.R_new' ho146 (Kd.R_lt (by (with_reducible repeat (first | apply Kd.R_alloc | apply Kd.R_drewN | apply Kd.R_drew)); exact HO273.out))) (Kd.R_lt (by (with_reducible repeat (first | apply Kd.R_alloc | apply Kd.R_drewN | apply Kd.R_drew)); exact HO280.out))) (bz_ bw_)); have n4_ := A_ (bs_ bw_ hb); clear HO273; clear HO277; clear HO280; clear HB; have HO273 := n0_; have HO277 := n1_; have HO280 := n2_; have HO283 := n3_; have HB := n4_; clear n0_ n1_ n2_ n3_ n4_; clear hb ho146; obtain ⟨Ao147, co147, eo147⟩ := Kd.R_slice HO283.out; subst eo147) | ((with_reducible refine gate_dst (N := 20) rfl ?_); (try (refine gate_guard (by rfl) ?_; dsimp only)); refine Kd.N_lit k35 _ 35 ?hg (N' := 20) ?hd (xs := ([(⟨(⟨#[120]⟩ : ByteArray), y278⟩ : S35), (⟨(⟨#[121]⟩ : ByteArray), y281⟩ : S35)] : List (S35))) (inner := [.string (⟨#[120]⟩ : ByteArray), .slice Ao144 y278.length co144, .string (⟨#[121]⟩ : ByteArray), .slice Ao147 y281.length co147]) (ok := (fun k_ => some k_ ≠ (.slice Ao140 y271.length co140 : Value).ownBlock ∧ some k_ ≠ (v276 : Value).ownBlock)) (okp := (fun k_ => some k_ ≠ (.slice Ao140 y271.length co140 : Value).ownBlock ∧ some k_ ≠ (v276 : Value).ownBlock)) ?hr ?hp (fun _ hk => hk) ((show ∀ k_, w145.heap.size ≤ k_ → (fun k_ => some k_ ≠ (.slice Ao140 y271.length co140 : Value).ownBlock ∧ some k_ ≠ (v276 : Value).ownBlock) k_ from fun k_ hk => ⟨Kd.fresh' (Kd.R_lt (by (with_reducible repeat (first | apply Kd.R_alloc | apply Kd.R_drewN | apply Kd.R_drew)); exact HO273.out)) k_ hk, Kd.fresh' (Kd.R_lt (by (with_reducible repeat (first | apply Kd.R_alloc | apply Kd.R_drewN | apply Kd.R_drew)); exact HO277.out)) k_ hk⟩) _ (Nat.le_refl _)) (Below.refl _ _) (Nat.le_refl _) (by simp) ?_; (case hd => rfl); (case hg => rfl); (case hr => first | (go_simp; done) | (go_simp; rfl)); (case hp => exact (Reps.c2 (show Kd.FK k35 _ _ (⟨(⟨#[120]⟩ : ByteArray), y278⟩ : S35) [.string (⟨#[120]⟩ : ByteArray), .slice Ao144 y278.length co144] from (k35_mkF _ _ (⟨(⟨#[120]⟩ : ByteArray), y278⟩ : S35) (Kd.R_reads' (Kd.R_mono (ok' := (fun k_ => some k_ ≠ (.slice Ao140 y271.length co140 : Value).ownBlock ∧ some k_ ≠ (v276 : Value).ownBlock)) (Kd.R_apart' (HO280.out) (Kd.R_typed HO277.out) (by decide)) (fun k_ hk => ⟨hk.1.1.2, hk.2⟩))).2.1 (Kd.R_F (Kd.R_mono (ok' := (fun k_ => some k_ ≠ (.slice Ao140 y271.length co140 : Value).ownBlock ∧ some k_ ≠ (v276 : Value).ownBlock)) (Kd.R_apart' (HO280.out) (Kd.R_typed HO277.out) (by decide)) (fun k_ hk => ⟨hk.1.1.2, hk.2⟩))))) (Reps.c2 (show Kd.FK k35 _ _ (⟨(⟨#[121]⟩ : ByteArray), y281⟩ : S35) [.string (⟨#[121]⟩ : ByteArray), .slice Ao147 y281.length co147] from (k35_mkF _ _ (⟨(⟨#[121]⟩ : ByteArray), y281⟩ : S35) (Kd.R_reads' (Kd.R_mono (ok' := (fun k_ => some k_ ≠ (.slice Ao140 y271.length co140 : Value).ownBlock ∧ some k_ ≠ (v276 : Value).ownBlock)) (Kd.R_apart' (HO283.out) (Kd.R_typed HO277.out) (by decide)) (fun k_ hk => ⟨hk.1.1.2, hk.2⟩))).2.1 (Kd.R_F (Kd.R_mono (ok' := (fun k_ => some k_ ≠ (.slice Ao140 y271.length co140 : Value).ownBlock ∧ some k_ ≠ (v276 : Value).ownBlock)) (Kd.R_apart' (HO283.out) (Kd.R_typed HO277.out) (by decide)) (fun k_ hk => ⟨hk.1.1.2, hk.2⟩))))) (Reps.none _ _)))); intro v285 w148 ho149 hb hg_ hnew_; clear hg_ hnew_; (first | rw [← Ny284.out] at ho149 | (simp only [Int.reduceToNat] at ho149; rw [← Ny284.out] at ho149)); have n0_ := A_ (Kd.R_below (by (with_reducible repeat (first | apply Kd.R_alloc | apply Kd.R_drewN | apply Kd.R_drew)); exact HO273.out) hb); have n1_ := A_ (Kd.R_below (by (with_reducible repeat (first | apply Kd.R_alloc | apply Kd.R_drewN | apply Kd.R_drew)); exact HO277.out) hb); have n2_ := A_ (Kd.N_lower ho149 (bz_ bw_)); have n3_ := A_ (bs_ bw_ hb); clear HO273; clear HO277; clear HB; clear HO280; clear HO283; have HO273 := n0_; have HO277 := n1_; have HO286 := n2_; have HB := n3_; clear n0_ n1_ n2_ n3_; clear hb ho149; obtain ⟨Ao150, co150, eo150⟩ := Kd.N_slice HO286.out; subst eo150) | ((with_reducible refine gate_callee (f := 17) rfl ?_); refine goesL_ (some 21) rfl rfl Try.func17 (by kernel_rfl) rfl #[.int .i64 7, .slice Ao150 y284.length co150] rfl (by (try simp only [List.map_toArray, List.map_cons, List.map_nil]); first | done | rfl | (simp only [List.length_drop, List.length_take]; rfl)) ?_; (with_reducible refine (waterfall_Run.calls k 7 _ _ y284 t287 t288 t289 _ ?side1 ?side2 A2.out).mono ?_); (case side1 => repeat (first | exact (Kd.N_reads' HO286.out).2.2 | (with_reducible refine ca_ ?_ _) | (with_reducible refine cn_ ?_ _) | (with_reducible refine cd_ ?_))); (case side2 => exact (Kd.N_reads' HO286.out).2.1); rintro e w151 ⟨v290, rfl, ho0, hb⟩; refine ⟨_, rfl, ?_⟩; have n0_ := A_ (Kd.R_below (by (with_reducible repeat (first | apply Kd.R_alloc | apply Kd.R_drewN | apply Kd.R_drew)); exact HO273.out) hb); have n1_ := A_ (Kd.R_below (by (with_reducible repeat (first | apply Kd.R_alloc | apply Kd.R_drewN | apply Kd.R_drew)); exact HO277.out) hb); have n2_ := A_ (Kd.N_elder' (by (with_reducible repeat (first | apply Kd.N_alloc | apply Kd.N_drewN | apply Kd.N_drew)); exact HO286.out) (Kd.R_base ho0) hb); have n3_ := A_ (Kd.R_lower ho0 (bz_ bw_)); have n4_ := A_ (bs_ bw_ hb); clear HO273; clear HO277; clear HO286; clear HB; have HO273 := n0_; have HO277 := n1_; have HO286 := n2_; have HO291 := n3_; have HB := n4_; clear n0_ n1_ n2_ n3_ n4_; (try clear hb); (try clear hb2); (try clear hk); (try clear hi); (try clear ho0)))
  go_ret
  exact ⟨by first | rfl | (simp [errW_none, errW_some] <;> rfl) | (simp [*, errW_none, errW_some] <;> rfl), bw_⟩
end Go.Proofs.Ytfbkgfffalppmaa.Wf
end
section
namespace Go.Proofs.Ytfbkgfffalppmaa.Wf
open Go.RowKit Go.Proofs.YtfbkgfffalppmaaW.PrintWords Go.Proofs.YtfbkgfffalppmaaW.PrintLast Go.Proofs.YtfbkgfffalppmaaW.PrintMore
attribute [local go_sem] max2_int min2_int max_two min_two max_three min_three max_four min_four   -- for this text's walks alone
set_option linter.unusedVariables false
set_option linter.unusedSimpArgs false
attribute [local go_sem] run_add64_any
end Go.Proofs.Ytfbkgfffalppmaa.Wf
end
section
namespace Go.Proofs.Ytfbkgfffalppmaa.Wp
set_option linter.unusedSimpArgs false
set_option linter.unusedVariables false
open Go Go.RowKit Go.Proofs.Ytfbkgfffalppmaa.Wf Go.Proofs.YtfbkgfffalppmaaW.PrintWords
theorem kS : waterfall_Split.f 60 4 [(⟨(⟨#[97]⟩ : ByteArray), 5⟩ : S74), (⟨(⟨#[98]⟩ : ByteArray), 3⟩ : S74)] = some ([3, 1], 0) := by kernel_rfl
theorem kT1 : waterfall_below.tw_layer [(⟨(⟨#[120]⟩ : ByteArray), [(⟨(⟨#[97]⟩ : ByteArray), 5⟩ : S74)]⟩ : S35), (⟨(⟨#[121]⟩ : ByteArray), [(⟨(⟨#[97]⟩ : ByteArray), 10⟩ : S74)]⟩ : S35)] = false := by
  unfold waterfall_below.tw_layer
  simp only [ByteArray.toList_eq]
  decide +kernel
theorem kT2 (s : ByteArray) (n : Int) : waterfall_below.tw_part [(⟨s, n⟩ : S74)] = false := by
  unfold waterfall_below.tw_part
  simp
theorem kC : waterfall_Check.f 60 [(⟨(⟨#[120]⟩ : ByteArray), [(⟨(⟨#[97]⟩ : ByteArray), 5⟩ : S74)]⟩ : S35), (⟨(⟨#[121]⟩ : ByteArray), [(⟨(⟨#[97]⟩ : ByteArray), 10⟩ : S74)]⟩ : S35)] = some 0 := by
  unfold waterfall_Check.f
  rw [kT1]
  simp only [List.any_cons, List.any_nil, kT2, Bool.or_false]
  kernel_rfl
theorem kR : waterfall_Run.f 60 7 [(⟨(⟨#[120]⟩ : ByteArray), [(⟨(⟨#[97]⟩ : ByteArray), 5⟩ : S74)]⟩ : S35), (⟨(⟨#[121]⟩ : ByteArray), [(⟨(⟨#[97]⟩ : ByteArray), 10⟩ : S74)]⟩ : S35)] = some ([(⟨⟨#[120]⟩, ⟨#[97]⟩, 5⟩ : S52), ⟨⟨#[121]⟩, ⟨#[97]⟩, 2⟩], 0, 0) := by
  unfold waterfall_Run.f
  rw [kC]
  kernel_rfl
theorem known_60 : clevislaw28_known.f 60 = some true := by
  unfold clevislaw28_known.f
  rw [kS, Option.bind_some, kR, Option.bind_some]
  simp [rd, rd_T52, ByteArray.toList_eq]
theorem known_f (e : Nat) : clevislaw28_known.f (60 + e) = some true := by
  induction e with
  | zero => exact known_60
  | succ e ih => exact clevislaw28_known.mono (60 + e) _ ih
end Go.Proofs.Ytfbkgfffalppmaa.Wp
end
section
namespace Go.Proofs.Ytfbkgfffalppmaa.Wf
open Go.RowKit Go.Proofs.YtfbkgfffalppmaaW.PrintWords Go.Proofs.YtfbkgfffalppmaaW.PrintLast Go.Proofs.YtfbkgfffalppmaaW.PrintMore
attribute [local go_sem] max2_int min2_int max_two min_two max_three min_three max_four min_four   -- for this text's walks alone
set_option linter.unusedVariables false
set_option linter.unusedSimpArgs false
attribute [local go_sem] run_add64_any
mutual
def clevislaw28_To.l0 : Nat → List (S28) → List (S35) → List (S28) → Int → Option ((List (S35)) × (List (S28)))
 | 0, _, _, _, _ => none
 | k + 1, x0, x4, x5, x6 => if x6 < (x0.length : Int) then (clevislaw28_To.j1 k x0 x4 x5 x6 (decide (x6 < 70))) else (clevislaw28_To.j1 k x0 x4 x5 x6 false)
def clevislaw28_To.j1 : Nat → List (S28) → List (S35) → List (S28) → Int → Bool → Option ((List (S35)) × (List (S28)))
 | 0, _, _, _, _, _ => none
 | k + 1, x0, x4, x5, x6, x18 => if x18 = true then (if 0 ≤ x6 then (if x6 < (x0.length : Int) then (clevislaw28_To.l1 k x0 x4 x5 x6 0 ((rd_T28 x0 x6).f0) ([] : List (S74)) ((rd_T28 x0 x6).f0) ([] : List (S41))) else (none)) else (none)) else (some (x4, x5))
def clevislaw28_To.l1 : Nat → List (S28) → List (S35) → List (S28) → Int → Int → ByteArray → List (S74) → ByteArray → List (S41) → Option ((List (S35)) × (List (S28)))
 | 0, _, _, _, _, _, _, _, _, _ => none
 | k + 1, x0, x4, x5, x6, x9, x308000, x308001, x309000, x309001 => if 0 ≤ x6 then (if x6 < (x0.length : Int) then (if x9 < (((rd_T28 x0 x6).f1).length : Int) then (if x9 < 70 then (if 0 ≤ x9 then (if x308001.length < 5864062014805 then (if x309001.length < 5864062014805 then (clevislaw28_To.l1 k x0 x4 x5 x6 (wrap64 (x9 + 1)) x308000 (x308001 ++ [(⟨(rd_T41 ((rd_T28 x0 x6).f1) x9).f0, (rd_T41 ((rd_T28 x0 x6).f1) x9).f1⟩ : S74)]) x309000 (x309001 ++ [(⟨(rd_T41 ((rd_T28 x0 x6).f1) x9).f0, (rd_T41 ((rd_T28 x0 x6).f1) x9).f1⟩ : S41)])) else (none)) else (none)) else (none)) else (if x4.length < 3518437208883 then (if x5.length < 3518437208883 then (clevislaw28_To.l0 k x0 (x4 ++ [(⟨x308000, x308001⟩ : S35)]) (x5 ++ [(⟨x309000, x309001⟩ : S28)]) (wrap64 (x6 + 1))) else (none)) else (none))) else (if x4.length < 3518437208883 then (if x5.length < 3518437208883 then (clevislaw28_To.l0 k x0 (x4 ++ [(⟨x308000, x308001⟩ : S35)]) (x5 ++ [(⟨x309000, x309001⟩ : S28)]) (wrap64 (x6 + 1))) else (none)) else (none))) else (none)) else (none)
end
def clevislaw28_To.f (k : Nat) (l0 : List (S28)) : Option ((List (S35)) × (List (S28))) := clevislaw28_To.l0 k l0 ([] : List (S35)) ([] : List (S28)) 0
set_option maxHeartbeats 8000000 in
set_option maxRecDepth 100000 in
theorem clevislaw28_To.calls (k : Nat) (A0 : Option Addr) (c0 : Nat) (l0 : List (S28)) (r1 : List (S35)) (r2 : List (S28)) (w : World) (hr0 : Kd.C k28 w A0 l0.length l0) (hc0 : l0.length ≤ c0) (h : clevislaw28_To.f k l0 = some (r1, r2)) :
  Calls Try.prog 9 #[.slice A0 l0.length c0] w fun e w' => ∃ v0_ v1_ : Value, e = .returned (.tuple #[v0_, v1_]) ∧ Kd.S k35 35 w' w.heap.size (fun _ => True) v0_ r1 ∧ Kd.S k28 28 w' w.heap.size (fun _ => True) v1_ r2 ∧ Below w.heap.size w w' := by
 have hu35 := Try.underlying35
 have hu28 := Try.underlying28
 have hu41 := Try.underlying41
 have hu74 := Try.underlying74
 have HR0 := A_ hr0
 have HC0 := A_ hc0
 clear hr0 hc0
 have HB := A_ (Below.refl w.heap.size w)
 have H : (clevislaw28_To.l0 k l0 ([] : List (S35)) ([] : List (S28)) 0) = some (r1, r2) := h
 clear h
 have H' := A_ H
 clear H
 go_enter Try.func9, Try.ntmps9
 go_wp2
 (try simp only [Act.put, sA_, sZ_, sS_])
 go_loopg [4, 5, 6] k (fun kq v4 v5 v6 w' => ∃ (x4_1 : List (S35)) (x5_1 : List (S28)) (x6_1 : Int), v6 = .int .i64 x6_1 ∧ Aside0 (clevislaw28_To.l0 kq l0 x4_1 x5_1 x6_1 = some (r1, r2)) ∧ Aside0 (kq ≤ k) ∧ Aside0 (Kd.S k35 35 w' w.heap.size (fun _ => True) v4 x4_1) ∧ Aside0 (Kd.S k28 28 w' w.heap.size (fun _ => True) v5 x5_1) ∧ Aside0 (Below w.heap.size w w'))
 case atStart => exact ⟨(([] : List (S35))), (([] : List (S28))), (0), (by first | rfl | (simp; done) | (simp [*]; done)), H', ⟨Nat.le_refl _⟩, ⟨by first | exact Kd.S_nil _ _ _ _ _ | exact Kd.N_nil _ _ _ _ _ | exact Kd.V_nil _ _ _ _ _ | exact Kd.Q_nil _ _ _ _ _ | exact Kd.R_nil _ _ _ _ _⟩, ⟨by first | exact Kd.S_nil _ _ _ _ _ | exact Kd.N_nil _ _ _ _ _ | exact Kd.V_nil _ _ _ _ _ | exact Kd.Q_nil _ _ _ _ _ | exact Kd.R_nil _ _ _ _ _⟩, ⟨bw_⟩⟩
 case round =>
  clear H'
  obtain ⟨x4_1, x5_1, x6_1, rfl, HA, HK1, HO_4, HO_5, HB⟩ := hrel
  cases gk with
  | zero => exact absurd HA.out (by simp [clevislaw28_To.l0])
  | succ k1 =>
   have H := HA.out
   clear HA
   simp only [clevislaw28_To.l0] at H
   have HC2 := A_ H
   clear H
   go_upto_region 4 with (fail)
   go_cut [18] (fun v18 wc => ∃ (kq : Nat) (x18_1 : Bool), v18 = .bool x18_1 ∧ Aside0 (clevislaw28_To.j1 kq l0 x4_1 x5_1 x6_1 x18_1 = some (r1, r2)) ∧ Aside0 (kq ≤ k1) ∧ Aside0 (Kd.S k35 35 wc w.heap.size (fun _ => True) u4 x4_1) ∧ Aside0 (Kd.S k28 28 wc w.heap.size (fun _ => True) u5 x5_1) ∧ Aside0 (Below w.heap.size w wc))
   case first =>
    have H := HC2.out
    clear HC2
    by_cases c3 : x6_1 < (l0.length : Int)
    ·
     rw [if_pos c3] at H
     have c3b0 : decide (x6_1 < (l0.length : Int)) = true := decide_eq_true c3
     clear c3
     (first | rw [c3b0] | (simp only [i64_w, i32_w]; rw [c3b0]) | skip)
     have H' := A_ H
     clear H
     go_wp2
     go_meet
     case rel => exact ⟨_, (decide (x6_1 < 70)), (by first | rfl | (simp; done) | (simp [*]; done)), H', ⟨by have := HK1.out; first | omega | exact Nat.le_refl _⟩, ⟨by (with_reducible repeat (first | apply Kd.S_alloc | apply Kd.S_drewN | apply Kd.S_drew)); exact HO_4.out⟩, ⟨by (with_reducible repeat (first | apply Kd.S_alloc | apply Kd.S_drewN | apply Kd.S_drew)); exact HO_5.out⟩, ⟨bw_⟩⟩
    ·
     rw [if_neg c3] at H
     have c3b0 : decide (x6_1 < (l0.length : Int)) = false := decide_eq_false c3
     clear c3
     (first | rw [c3b0] | (simp only [i64_w, i32_w]; rw [c3b0]) | skip)
     have H' := A_ H
     clear H
     go_wp2
     go_meet
     case rel => exact ⟨_, (false), (by first | rfl | (simp; done) | (simp [*]; done)), H', ⟨by have := HK1.out; first | omega | exact Nat.le_refl _⟩, ⟨by (with_reducible repeat (first | apply Kd.S_alloc | apply Kd.S_drewN | apply Kd.S_drew)); exact HO_4.out⟩, ⟨by (with_reducible repeat (first | apply Kd.S_alloc | apply Kd.S_drewN | apply Kd.S_drew)); exact HO_5.out⟩, ⟨bw_⟩⟩
   case rest =>
    clear HC2
    try clear p2
    try clear c3
    try clear c3b0
    obtain ⟨kq, x18_1, rfl, HA, HJ1, HO_4, HO_5, HB⟩ := hcut
    cases kq with
    | zero => exact absurd HA.out (by simp [clevislaw28_To.j1])
    | succ kj1 =>
     have H := HA.out
     clear HA
     simp only [clevislaw28_To.j1] at H
     by_cases c4 : x18_1 = true
     ·
      subst c4
      have H1 : (if 0 ≤ x6_1 then (if x6_1 < (l0.length : Int) then (clevislaw28_To.l1 kj1 l0 x4_1 x5_1 x6_1 0 ((rd_T28 l0 x6_1).f0) ([] : List (S74)) ((rd_T28 l0 x6_1).f0) ([] : List (S41))) else (none)) else (none)) = some (r1, r2) := by rw [if_pos rfl] at H; exact H
      clear H
      have H := H1
      clear H1
      by_cases c5 : 0 ≤ x6_1
      ·
       rw [if_pos c5] at H
       have c5b0 : decide (0 ≤ x6_1) = true := decide_eq_true c5
       clear c5
       by_cases c6 : x6_1 < (l0.length : Int)
       ·
        rw [if_pos c6] at H
        have c6b0 : decide (x6_1 < (l0.length : Int)) = true := decide_eq_true c6
        clear c6
        have H' := A_ H
        clear H
        have p101 : 0 ≤ (x6_1 : Int) := od_ (by first | (with_reducible assumption) | assumption)
        have q101 : x6_1 < (l0.length : Int) := od_ (by first | (with_reducible assumption) | assumption)
        obtain ⟨ad101, A101_1, c101_1, e101, hx101_0, hx101_1, hl101_1, hi101_1⟩ := at_T28 HR0.out x6_1 p101 q101
        cases e101
        replace hx101_0 := (HB.out.cell (World.block_lt_of_cell? w _ hx101_0)).trans hx101_0
        replace hx101_1 := (HB.out.cell (World.block_lt_of_cell? w _ hx101_1)).trans hx101_1
        have HR101_1 := A_ hi101_1
        have HC101_1 := A_ hl101_1
        clear hi101_1 hl101_1
        replace p101 := eq_true p101
        replace q101 := eq_true q101
        go_wp2_with (first | ((with_reducible refine gate_dst (N := 7) rfl ?_); refine box_event ?hg (N := 7) ?hd (cs := #[.string (⟨#[]⟩ : ByteArray), .slice none 0 0]) (t := 35) ?hr ?_; (case hd => rfl); (case hg => rfl); (case hr => first | (go_simp; done) | (go_simp; rfl)); intro gb307 hg w7 hbox hb; have n0_ := A_ (Kd.S_below (Kd.S_elderB (by (with_reducible repeat (first | apply Kd.S_alloc | apply Kd.S_drewN | apply Kd.S_drew)); exact HO_4.out) gb307 (Nat.le_of_eq hg.symm)) hb); have n1_ := A_ (Kd.S_below (by (with_reducible repeat (first | apply Kd.S_alloc | apply Kd.S_drewN | apply Kd.S_drew)); exact HO_5.out) hb); have n2_ := A_ (bs_ bw_ hb); have n3_ := A_ (hbox); have n4_ := A_ ((by rw [hg]; exact (bz_ bw_) : w.heap.size ≤ gb307)); have n5_ := A_ ((by rw [hg]; exact (bz_ bw_) : w.heap.size ≤ gb307)); clear HO_4; clear HO_5; clear HB; have HO_4 := n0_; have HO_5 := n1_; have HB := n2_; have BK307 := n3_; have GW307 := n4_; have GE307 := n5_; clear n0_ n1_ n2_ n3_ n4_ n5_; clear hb hbox hg; have hcz8_0 : w7.cell? ⟨gb307, 0, none⟩ = some (.string (⟨#[]⟩ : ByteArray)) := (bc_ BK307.out 0).trans rfl; have hcz8_1 : w7.cell? ⟨gb307, 1, none⟩ = some (.slice none 0 0) := (bc_ BK307.out 1).trans rfl; have hfz8_0 := bf_ BK307.out 0; have hfz8_1 := bf_ BK307.out 1; have p102 : 0 ≤ (x6_1 : Int) := od_ (by first | (with_reducible assumption) | assumption); have q102 : x6_1 < (l0.length : Int) := od_ (by first | (with_reducible assumption) | assumption); obtain ⟨ad102, A102_1, c102_1, e102, hx102_0, hx102_1, hl102_1, hi102_1⟩ := at_T28 HR0.out x6_1 p102 q102; obtain rfl : ad101 = ad102 := (by injection e102); have hn102_0 : ad101.block ≠ gb307 := nl_ (Nat.lt_of_lt_of_le (by have := World.block_lt_of_cell? _ _ hx102_0; first | rwa [add_block] at this | exact this) GW307.out); have hn102_1 : ad101.block ≠ gb307 := nl_ (Nat.lt_of_lt_of_le (by have := World.block_lt_of_cell? _ _ hx102_0; first | rwa [add_block] at this | exact this) GW307.out); replace hx102_0 := (HB.out.cell (World.block_lt_of_cell? w _ hx102_0)).trans hx102_0; replace hx102_1 := (HB.out.cell (World.block_lt_of_cell? w _ hx102_1)).trans hx102_1; have HR102_1 := A_ hi102_1; have HC102_1 := A_ hl102_1; clear hi102_1 hl102_1; replace hx102_0 := (cell_far (p := ⟨gb307, 0, none⟩) (by first | (rw [add_block]; exact hn102_0) | (show (Addr.add _ _).block ≠ _; rw [add_block]; exact hn102_0) | exact hn102_0) (.string ((rd_T28 l0 x6_1).f0))).trans hx102_0; replace hx102_1 := (cell_far (p := ⟨gb307, 0, none⟩) (by first | (rw [add_block]; exact hn102_0) | (show (Addr.add _ _).block ≠ _; rw [add_block]; exact hn102_0) | exact hn102_0) (.string ((rd_T28 l0 x6_1).f0))).trans hx102_1; replace hx102_0 := (cell_far (p := ⟨gb307, 1, none⟩) (by first | (rw [add_block]; exact hn102_1) | (show (Addr.add _ _).block ≠ _; rw [add_block]; exact hn102_1) | exact hn102_1) (.slice none 0 0)).trans hx102_0; replace hx102_1 := (cell_far (p := ⟨gb307, 1, none⟩) (by first | (rw [add_block]; exact hn102_1) | (show (Addr.add _ _).block ≠ _; rw [add_block]; exact hn102_1) | exact hn102_1) (.slice none 0 0)).trans hx102_1; clear hn102_0; clear hn102_1; replace p102 := eq_true p102; replace q102 := eq_true q102) | ((with_reducible refine gate_dst (N := 8) rfl ?_); refine box_event ?hg (N := 8) ?hd (cs := #[.string (⟨#[]⟩ : ByteArray), .slice none 0 0]) (t := 28) ?hr ?_; (case hd => rfl); (case hg => rfl); (case hr => first | (go_simp; done) | (go_simp; rfl)); intro gb308 hg w9 hbox hb; have n0_ := A_ (Kd.S_below (by (with_reducible repeat (first | apply Kd.S_alloc | apply Kd.S_drewN | apply Kd.S_drew)); exact (Kd.S_mono (Kd.S_far (p := ⟨gb307, 1, none⟩) (Kd.S_far (p := ⟨gb307, 0, none⟩) (Kd.S_mono HO_4.out (fun k_ hk => (⟨hk, hk.2⟩ : _ ∧ k_ ≠ gb307))) (fun _ hk => hk.2) (.string ((rd_T28 l0 x6_1).f0))) (fun _ hk => hk.2) (.slice none 0 0)) (fun _ h_ => h_.1))) hb); have n1_ := A_ (Kd.S_below (Kd.S_elderB (by (with_reducible repeat (first | apply Kd.S_alloc | apply Kd.S_drewN | apply Kd.S_drew)); exact (Kd.S_mono (Kd.S_far (p := ⟨gb307, 1, none⟩) (Kd.S_far (p := ⟨gb307, 0, none⟩) (Kd.S_types HO_5.out BK307.out (by decide)) (fun _ hk => hk.2) (.string ((rd_T28 l0 x6_1).f0))) (fun _ hk => hk.2) (.slice none 0 0)) (fun _ h_ => h_.1))) gb308 (Nat.le_of_eq hg.symm)) hb); have n2_ := A_ (blk_below (g := gb307) (o := .cells #[.string ((rd_T28 l0 x6_1).f0), .slice none 0 0] 35 (0, 0)) (by (with_reducible repeat (first | refine bn_ ?_ _ | refine bd_ ?_ | refine ba_ ?_ _)); refine bp_ (cs := #[.string ((rd_T28 l0 x6_1).f0), .slice none 0 0]) ?_ 1 _ rfl; (with_reducible repeat (first | refine bn_ ?_ _ | refine bd_ ?_ | refine ba_ ?_ _)); refine bp_ (cs := #[.string (⟨#[]⟩ : ByteArray), .slice none 0 0]) ?_ 0 _ rfl; (with_reducible repeat (first | refine bn_ ?_ _ | refine bd_ ?_ | refine ba_ ?_ _)); exact BK307.out) hb); have n3_ := A_ (bs_ bw_ hb); have n4_ := A_ (hbox); have n5_ := A_ ((by rw [hg]; exact (bz_ bw_) : w.heap.size ≤ gb308)); have n6_ := A_ ((by rw [hg]; exact (bz_ bw_) : w.heap.size ≤ gb308)); have n7_ := A_ ((by rw [hg]; exact nl_ (blk_lt (g := gb307) (o := .cells #[.string ((rd_T28 l0 x6_1).f0), .slice none 0 0] 35 (0, 0)) (by (with_reducible repeat (first | refine bn_ ?_ _ | refine bd_ ?_ | refine ba_ ?_ _)); refine bp_ (cs := #[.string ((rd_T28 l0 x6_1).f0), .slice none 0 0]) ?_ 1 _ rfl; (with_reducible repeat (first | refine bn_ ?_ _ | refine bd_ ?_ | refine ba_ ?_ _)); refine bp_ (cs := #[.string (⟨#[]⟩ : ByteArray), .slice none 0 0]) ?_ 0 _ rfl; (with_reducible repeat (first | refine bn_ ?_ _ | refine bd_ ?_ | refine ba_ ?_ _)); exact BK307.out)) : gb307 ≠ gb308)); have n8_ := A_ ((by rw [hg]; exact ng_ (blk_lt (g := gb307) (o := .cells #[.string ((rd_T28 l0 x6_1).f0), .slice none 0 0] 35 (0, 0)) (by (with_reducible repeat (first | refine bn_ ?_ _ | refine bd_ ?_ | refine ba_ ?_ _)); refine bp_ (cs := #[.string ((rd_T28 l0 x6_1).f0), .slice none 0 0]) ?_ 1 _ rfl; (with_reducible repeat (first | refine bn_ ?_ _ | refine bd_ ?_ | refine ba_ ?_ _)); refine bp_ (cs := #[.string (⟨#[]⟩ : ByteArray), .slice none 0 0]) ?_ 0 _ rfl; (with_reducible repeat (first | refine bn_ ?_ _ | refine bd_ ?_ | refine ba_ ?_ _)); exact BK307.out)) : gb308 ≠ gb307)); clear HO_4; clear HO_5; clear BK307; clear HB; have HO_4 := n0_; have HO_5 := n1_; have BK307 := n2_; have HB := n3_; have BK308 := n4_; have GW308 := n5_; have GE308 := n6_; have NB307_308 := n7_; have NB308_307 := n8_; clear n0_ n1_ n2_ n3_ n4_ n5_ n6_ n7_ n8_; clear hb hbox hg; have hnb10 := NB308_307.out; have hnc10 := NB307_308.out; have hcz11_0 : w9.cell? ⟨gb308, 0, none⟩ = some (.string (⟨#[]⟩ : ByteArray)) := (bc_ BK308.out 0).trans rfl; have hcz11_1 : w9.cell? ⟨gb308, 1, none⟩ = some (.slice none 0 0) := (bc_ BK308.out 1).trans rfl; have hfz11_0 := bf_ BK308.out 0; have hfz11_1 := bf_ BK308.out 1))
        (try simp only [Act.put, sA_, sZ_, sS_])
        go_loopg [9] kj1 (fun kq v9 w' => ∃ (x9_3 : Int) (x308001_3 : List (S74)) (x309001_3 : List (S41)) (u308001 : Value) (u309001 : Value), v9 = .int .i64 x9_3 ∧ Aside0 (clevislaw28_To.l1 kq l0 x4_1 x5_1 x6_1 x9_3 ((rd_T28 l0 x6_1).f0) x308001_3 ((rd_T28 l0 x6_1).f0) x309001_3 = some (r1, r2)) ∧ Aside0 (kq ≤ kj1) ∧ Aside0 (Kd.S k35 35 w' w.heap.size (fun k_ => some k_ ≠ (u308001 : Value).ownBlock ∧ k_ ≠ gb307) u4 x4_1) ∧ Aside0 (Kd.S k28 28 w' w.heap.size (fun k_ => some k_ ≠ (u309001 : Value).ownBlock ∧ k_ ≠ gb308) u5 x5_1) ∧ Aside0 (Kd.R k74 74 w' w.heap.size (fun _ => True) u308001 x308001_3) ∧ Aside0 (Kd.R k41 41 w' w.heap.size (fun _ => True) u309001 x309001_3) ∧ Aside0 (w'.heap[gb307]? = some (.cells #[.string ((rd_T28 l0 x6_1).f0), u308001] 35 (0, 0))) ∧ Aside0 (w'.heap[gb308]? = some (.cells #[.string ((rd_T28 l0 x6_1).f0), u309001] 28 (0, 0))) ∧ Aside0 (Below w.heap.size w w'))
        case atStart => exact ⟨(0), (([] : List (S74))), (([] : List (S41))), (.slice none 0 0), (.slice none 0 0), (by first | rfl | (simp; done) | (simp [*]; done)), H', ⟨Nat.le_refl _⟩, ⟨by (with_reducible repeat (first | apply Kd.S_alloc | apply Kd.S_drewN | apply Kd.S_drew)); exact Kd.S_mono (Kd.S_far (p := ⟨gb308, 1, none⟩) (Kd.S_far (p := ⟨gb308, 0, none⟩) (Kd.S_types HO_4.out BK308.out (by decide)) (fun _ hk => hk.2) (.string ((rd_T28 l0 x6_1).f0))) (fun _ hk => hk.2) (.slice none 0 0)) (fun _ hk => ⟨(by simp [Value.ownBlock]), hk.1.2⟩)⟩, ⟨by (with_reducible repeat (first | apply Kd.S_alloc | apply Kd.S_drewN | apply Kd.S_drew)); exact Kd.S_mono (Kd.S_far (p := ⟨gb308, 1, none⟩) (Kd.S_far (p := ⟨gb308, 0, none⟩) (Kd.S_mono HO_5.out (fun k_ hk => (⟨hk, hk.2⟩ : _ ∧ k_ ≠ gb308))) (fun _ hk => hk.2) (.string ((rd_T28 l0 x6_1).f0))) (fun _ hk => hk.2) (.slice none 0 0)) (fun _ hk => ⟨(by simp [Value.ownBlock]), hk.1.2⟩)⟩, ⟨by first | exact Kd.R_nil _ _ _ _ _ | exact Kd.N_nil _ _ _ _ _ | exact Kd.V_nil _ _ _ _ _ | exact Kd.Q_nil _ _ _ _ _ | exact Kd.S_nil _ _ _ _ _⟩, ⟨by first | exact Kd.R_nil _ _ _ _ _ | exact Kd.N_nil _ _ _ _ _ | exact Kd.V_nil _ _ _ _ _ | exact Kd.Q_nil _ _ _ _ _ | exact Kd.S_nil _ _ _ _ _⟩, ⟨bk_⟩, ⟨by (with_reducible repeat (first | refine bn_ ?_ _ | refine bd_ ?_ | refine ba_ ?_ _)); refine bp_ (cs := #[.string ((rd_T28 l0 x6_1).f0), .slice none 0 0]) ?_ 1 _ rfl; (with_reducible repeat (first | refine bn_ ?_ _ | refine bd_ ?_ | refine ba_ ?_ _)); refine bp_ (cs := #[.string (⟨#[]⟩ : ByteArray), .slice none 0 0]) ?_ 0 _ rfl; (with_reducible repeat (first | refine bn_ ?_ _ | refine bd_ ?_ | refine ba_ ?_ _)); exact BK308.out⟩, ⟨bw_⟩⟩
        case round =>
         clear H'
         try clear c1
         try clear p1
         try clear q1
         try clear hx1
         try clear p2
         try clear c3
         try clear c3b0
         try clear c4
         try clear c5
         try clear c5b0
         try clear c6
         try clear c6b0
         try clear c9
         try clear c10
         try clear p10
         try clear q10
         try clear hx10
         try clear hcz11_0
         try clear hcz11_1
         try clear hcz8_0
         try clear hcz8_1
         try clear hfz11_0
         try clear hfz11_1
         try clear hfz8_0
         try clear hfz8_1
         try clear hx101_0
         try clear hx101_1
         try clear hx102_0
         try clear hx102_1
         try clear p101
         try clear p102
         try clear p2
         try clear q101
         try clear q102
         obtain ⟨x9_3, x308001_3, x309001_3, u308001, u309001, rfl, HA, HK3, HO_4, HO_5, HO_308001, HO_309001, BK307, BK308, HB⟩ := hrel
         cases gk with
         | zero => exact absurd HA.out (by simp [clevislaw28_To.l1])
         | succ k3 =>
          have H := HA.out
          clear HA
          simp only [clevislaw28_To.l1] at H
          by_cases c12 : 0 ≤ x6_1
          ·
           rw [if_pos c12] at H
           have c12b0 : decide (0 ≤ x6_1) = true := decide_eq_true c12
           clear c12
           by_cases c13 : x6_1 < (l0.length : Int)
           ·
            rw [if_pos c13] at H
            have c13b0 : decide (x6_1 < (l0.length : Int)) = true := decide_eq_true c13
            clear c13
            by_cases c14 : x9_3 < (((rd_T28 l0 x6_1).f1).length : Int)
            ·
             rw [if_pos c14] at H
             have c14b0 : decide (x9_3 < (((rd_T28 l0 x6_1).f1).length : Int)) = true := decide_eq_true c14
             clear c14
             by_cases c15 : x9_3 < 70
             ·
              rw [if_pos c15] at H
              have c15b0 : decide (x9_3 < 70) = true := decide_eq_true c15
              clear c15
              by_cases c16 : 0 ≤ x9_3
              ·
               rw [if_pos c16] at H
               have c16b0 : decide (0 ≤ x9_3) = true := decide_eq_true c16
               clear c16
               by_cases c17 : x308001_3.length < 5864062014805
               ·
                rw [if_pos c17] at H
                have LMc17 := A_ c17
                clear c17
                obtain ⟨y106, hy106⟩ : ∃ y_ : List (S74), y_ = (x308001_3 ++ [(⟨(rd_T41 ((rd_T28 l0 x6_1).f1) x9_3).f0, (rd_T41 ((rd_T28 l0 x6_1).f1) x9_3).f1⟩ : S74)]) := ⟨_, rfl⟩
                replace H : (if x309001_3.length < 5864062014805 then (clevislaw28_To.l1 k3 l0 x4_1 x5_1 x6_1 (wrap64 (x9_3 + 1)) ((rd_T28 l0 x6_1).f0) y106 ((rd_T28 l0 x6_1).f0) (x309001_3 ++ [(⟨(rd_T41 ((rd_T28 l0 x6_1).f1) x9_3).f0, (rd_T41 ((rd_T28 l0 x6_1).f1) x9_3).f1⟩ : S41)])) else (none)) = some (r1, r2) := by first | (rw [hy106]; with_reducible exact H) | (have H2_ := (Option.bind_some _ _).symm.trans H; rw [hy106]; with_reducible exact H2_) | (have H2_ := (Option.bind_some _ _).symm.trans H; with_reducible exact H2_) | with_reducible exact H | (rw [hy106]; exact H) | exact H
                have Ny106 := A_ hy106
                clear hy106
                by_cases c18 : x309001_3.length < 5864062014805
                ·
                 rw [if_pos c18] at H
                 have LMc18 := A_ c18
                 clear c18
                 obtain ⟨y109, hy109⟩ : ∃ y_ : List (S41), y_ = (x309001_3 ++ [(⟨(rd_T41 ((rd_T28 l0 x6_1).f1) x9_3).f0, (rd_T41 ((rd_T28 l0 x6_1).f1) x9_3).f1⟩ : S41)]) := ⟨_, rfl⟩
                 replace H : (clevislaw28_To.l1 k3 l0 x4_1 x5_1 x6_1 (wrap64 (x9_3 + 1)) ((rd_T28 l0 x6_1).f0) y106 ((rd_T28 l0 x6_1).f0) y109) = some (r1, r2) := by first | (rw [hy109]; with_reducible exact H) | (have H2_ := (Option.bind_some _ _).symm.trans H; rw [hy109]; with_reducible exact H2_) | (have H2_ := (Option.bind_some _ _).symm.trans H; with_reducible exact H2_) | with_reducible exact H | (rw [hy109]; exact H) | exact H
                 have Ny109 := A_ hy109
                 clear hy109
                 have H' := A_ H
                 clear H
                 have p103 : 0 ≤ (x6_1 : Int) := od_ (by first | (with_reducible assumption) | assumption)
                 have q103 : x6_1 < (l0.length : Int) := od_ (by first | (with_reducible assumption) | assumption)
                 obtain ⟨ad103, A103_1, c103_1, e103, hx103_0, hx103_1, hl103_1, hi103_1⟩ := at_T28 HR0.out x6_1 p103 q103
                 obtain rfl : ad101 = ad103 := (by injection e103)
                 replace hx103_0 := (HB.out.cell (World.block_lt_of_cell? w _ hx103_0)).trans hx103_0
                 replace hx103_1 := (HB.out.cell (World.block_lt_of_cell? w _ hx103_1)).trans hx103_1
                 have HR103_1 := A_ hi103_1
                 have HC103_1 := A_ hl103_1
                 clear hi103_1 hl103_1
                 replace p103 := eq_true p103
                 replace q103 := eq_true q103
                 have p104 : 0 ≤ (x6_1 : Int) := od_ (by first | (with_reducible assumption) | assumption)
                 have q104 : x6_1 < (l0.length : Int) := od_ (by first | (with_reducible assumption) | assumption)
                 obtain ⟨ad104, A104_1, c104_1, e104, hx104_0, hx104_1, hl104_1, hi104_1⟩ := at_T28 HR0.out x6_1 p104 q104
                 obtain rfl : ad101 = ad104 := (by injection e104)
                 replace hx104_0 := (HB.out.cell (World.block_lt_of_cell? w _ hx104_0)).trans hx104_0
                 replace hx104_1 := (HB.out.cell (World.block_lt_of_cell? w _ hx104_1)).trans hx104_1
                 have HR104_1 := A_ hi104_1
                 have HC104_1 := A_ hl104_1
                 clear hi104_1 hl104_1
                 replace p104 := eq_true p104
                 replace q104 := eq_true q104
                 have ea_ := Option.some.inj (hx103_1.symm.trans hx104_1)
                 injection ea_ with ea_ en_ ec_
                 subst ea_
                 subst ec_
                 clear en_
                 have p105 : 0 ≤ (x9_3 : Int) := od_ (by first | (with_reducible assumption) | assumption)
                 have q105 : x9_3 < (((rd_T28 l0 x6_1).f1).length : Int) := od_ (by first | (with_reducible assumption) | assumption)
                 obtain ⟨ad105, e105, hx105_0, hx105_1⟩ := at_T41 HR104_1.out x9_3 p105 q105
                 cases e105
                 replace hx105_0 := (HB.out.cell (World.block_lt_of_cell? w _ hx105_0)).trans hx105_0
                 replace hx105_1 := (HB.out.cell (World.block_lt_of_cell? w _ hx105_1)).trans hx105_1
                 replace p105 := eq_true p105
                 replace q105 := eq_true q105
                 go_wp2_with (first | ((with_reducible refine gate_dst (N := 10) rfl ?_); refine box_event ?hg (N := 10) ?hd (cs := #[.string (⟨#[]⟩ : ByteArray), .int .i64 0]) (t := 41) ?hr ?_; (case hd => rfl); (case hg => rfl); (case hr => first | (go_simp; done) | (go_simp; rfl)); intro gb310 hg w19 hbox hb; have n0_ := A_ (Kd.S_below (by (with_reducible repeat (first | apply Kd.S_alloc | apply Kd.S_drewN | apply Kd.S_drew)); exact HO_4.out) hb); have n1_ := A_ (Kd.S_below (Kd.S_elderB (by (with_reducible repeat (first | apply Kd.S_alloc | apply Kd.S_drewN | apply Kd.S_drew)); exact HO_5.out) gb310 (Nat.le_of_eq hg.symm)) hb); have n2_ := A_ (Kd.R_below (by (with_reducible repeat (first | apply Kd.R_alloc | apply Kd.R_drewN | apply Kd.R_drew)); exact HO_308001.out) hb); have n3_ := A_ (Kd.R_below (Kd.R_elderB (by (with_reducible repeat (first | apply Kd.R_alloc | apply Kd.R_drewN | apply Kd.R_drew)); exact HO_309001.out) gb310 (Nat.le_of_eq hg.symm)) hb); have n4_ := A_ (kb_ BK307 hb); have n5_ := A_ (kb_ BK308 hb); have n6_ := A_ (bs_ bw_ hb); have n7_ := A_ (hbox); have n8_ := A_ ((by rw [hg]; exact (bz_ bw_) : w.heap.size ≤ gb310)); have n9_ := A_ ((by rw [hg]; exact (bz_ bw_) : w.heap.size ≤ gb310)); have n10_ := A_ ((by rw [hg]; exact nl_ (lt_ BK307) : gb307 ≠ gb310)); have n11_ := A_ ((by rw [hg]; exact ng_ (lt_ BK307) : gb310 ≠ gb307)); have n12_ := A_ ((by rw [hg]; exact nl_ (lt_ BK308) : gb308 ≠ gb310)); have n13_ := A_ ((by rw [hg]; exact ng_ (lt_ BK308) : gb310 ≠ gb308)); clear HO_4; clear HO_5; clear HO_308001; clear HO_309001; clear BK307; clear BK308; clear HB; have HO_4 := n0_; have HO_5 := n1_; have HO_308001 := n2_; have HO_309001 := n3_; have BK307 := n4_; have BK308 := n5_; have HB := n6_; have BK310 := n7_; have GW310 := n8_; have GE310 := n9_; have NB307_310 := n10_; have NB310_307 := n11_; have NB308_310 := n12_; have NB310_308 := n13_; clear n0_ n1_ n2_ n3_ n4_ n5_ n6_ n7_ n8_ n9_ n10_ n11_ n12_ n13_; clear hb hbox hg; have hnb20 := NB310_307.out; have hnc20 := NB307_310.out; have hnb21 := NB310_308.out; have hnc21 := NB308_310.out; have hcz22_0 : w19.cell? ⟨gb310, 0, none⟩ = some (.string (⟨#[]⟩ : ByteArray)) := (bc_ BK310.out 0).trans rfl; have hcz22_1 : w19.cell? ⟨gb310, 1, none⟩ = some (.int .i64 0) := (bc_ BK310.out 1).trans rfl; have hfz22_0 := bf_ BK310.out 0; have hfz22_1 := bf_ BK310.out 1; have hnb23 := NB307_308.out; have hnc23 := NB308_307.out; have hcz24_0 : w19.cell? ⟨gb307, 0, none⟩ = some (.string ((rd_T28 l0 x6_1).f0)) := (bc_ BK307.out 0).trans rfl; have hcz24_1 : w19.cell? ⟨gb307, 1, none⟩ = some (u308001) := (bc_ BK307.out 1).trans rfl; have hfz24_0 := bf_ BK307.out 0; have hfz24_1 := bf_ BK307.out 1) | ((with_reducible refine gate_builtin (b := .append) (xs := #[.tmp 56, .tmp 62]) rfl ?_); at_builtin; refine Kd.R_append k74 (w0 := w) w.heap.size rfl (.tmp 56) (.tmp 62) 33 74 (.agg #[(.string ⟨#[]⟩), (.int .i64 0)]) 24 rfl Try.underlying33 info74 rfl (by decide) (by omega) u308001 x308001_3 (⟨(rd_T41 ((rd_T28 l0 x6_1).f1) x9_3).f0, (rd_T41 ((rd_T28 l0 x6_1).f1) x9_3).f1⟩ : S74) [.string ((rd_T41 ((rd_T28 l0 x6_1).f1) x9_3).f0), .int .i64 ((rd_T41 ((rd_T28 l0 x6_1).f1) x9_3).f1)] (fun _ => True) (fun _ => False) rfl (by first | (go_simp; done) | (go_simp; rfl)) ?aP (fun _ hk => hk.elim) ?aF ?aO ?aB ?aS ?aL ?_; (case aP => exact k74_mkM _ _ _ (⟨(rd_T41 ((rd_T28 l0 x6_1).f1) x9_3).f0, (rd_T41 ((rd_T28 l0 x6_1).f1) x9_3).f1⟩ : S74)); (case aB => exact bw_); (case aF => exact (fun _ _ => trivial)); (case aO => exact (by (with_reducible repeat (first | apply Kd.R_alloc | apply Kd.R_drewN | apply Kd.R_drew)); exact Kd.R_mono (Kd.R_far (p := ⟨gb310, 1, none⟩) (Kd.R_far (p := ⟨gb310, 0, none⟩) (Kd.R_types HO_308001.out BK310.out (by decide)) (fun _ hk => hk.2) (.string ((rd_T41 ((rd_T28 l0 x6_1).f1) x9_3).f0))) (fun _ hk => hk.2) (.int .i64 ((rd_T41 ((rd_T28 l0 x6_1).f1) x9_3).f1))) (fun _ hk => trivial))); (case aS => exact (bz_ bw_)); (case aL => have := LMc17.out; omega); intro v107 w25 ho hb hg hat; rw [← Ny106.out] at ho; have n0_ := A_ (Kd.S_after (ok := (fun k_ => k_ ≠ gb307)) (by (with_reducible repeat (first | apply Kd.S_alloc | apply Kd.S_drewN | apply Kd.S_drew)); exact Kd.S_mono (Kd.S_far (p := ⟨gb310, 1, none⟩) (Kd.S_far (p := ⟨gb310, 0, none⟩) (Kd.S_types HO_4.out BK310.out (by decide)) (fun _ hk => hk.2) (.string ((rd_T41 ((rd_T28 l0 x6_1).f1) x9_3).f0))) (fun _ hk => hk.2) (.int .i64 ((rd_T41 ((rd_T28 l0 x6_1).f1) x9_3).f1))) (fun _ hk => ⟨hk.1.2, hk.1.1⟩)) hg hat); have n1_ := A_ (Kd.S_over' (by (with_reducible repeat (first | apply Kd.S_alloc | apply Kd.S_drewN | apply Kd.S_drew)); exact (Kd.S_mono (Kd.S_far (p := ⟨gb310, 1, none⟩) (Kd.S_far (p := ⟨gb310, 0, none⟩) (Kd.S_mono HO_5.out (fun k_ hk => (⟨hk, hk.2⟩ : _ ∧ k_ ≠ gb310))) (fun _ hk => hk.2) (.string ((rd_T41 ((rd_T28 l0 x6_1).f1) x9_3).f0))) (fun _ hk => hk.2) (.int .i64 ((rd_T41 ((rd_T28 l0 x6_1).f1) x9_3).f1))) (fun _ h_ => h_.1))) (Kd.R_typed (by (with_reducible repeat (first | apply Kd.R_alloc | apply Kd.R_drewN | apply Kd.R_drew)); exact (Kd.R_mono (Kd.R_far (p := ⟨gb310, 1, none⟩) (Kd.R_far (p := ⟨gb310, 0, none⟩) (Kd.R_types HO_308001.out BK310.out (by decide)) (fun _ hk => hk.2) (.string ((rd_T41 ((rd_T28 l0 x6_1).f1) x9_3).f0))) (fun _ hk => hk.2) (.int .i64 ((rd_T41 ((rd_T28 l0 x6_1).f1) x9_3).f1))) (fun _ h_ => h_.1)))) (by decide) hg); have n2_ := A_ (Kd.R_over' (by (with_reducible repeat (first | apply Kd.R_alloc | apply Kd.R_drewN | apply Kd.R_drew)); exact (Kd.R_mono (Kd.R_far (p := ⟨gb310, 1, none⟩) (Kd.R_far (p := ⟨gb310, 0, none⟩) (Kd.R_mono HO_309001.out (fun k_ hk => (⟨hk, hk.2⟩ : _ ∧ k_ ≠ gb310))) (fun _ hk => hk.2) (.string ((rd_T41 ((rd_T28 l0 x6_1).f1) x9_3).f0))) (fun _ hk => hk.2) (.int .i64 ((rd_T41 ((rd_T28 l0 x6_1).f1) x9_3).f1))) (fun _ h_ => h_.1))) (Kd.R_typed (by (with_reducible repeat (first | apply Kd.R_alloc | apply Kd.R_drewN | apply Kd.R_drew)); exact (Kd.R_mono (Kd.R_far (p := ⟨gb310, 1, none⟩) (Kd.R_far (p := ⟨gb310, 0, none⟩) (Kd.R_types HO_308001.out BK310.out (by decide)) (fun _ hk => hk.2) (.string ((rd_T41 ((rd_T28 l0 x6_1).f1) x9_3).f0))) (fun _ hk => hk.2) (.int .i64 ((rd_T41 ((rd_T28 l0 x6_1).f1) x9_3).f1))) (fun _ h_ => h_.1)))) (by decide) hg); have n3_ := A_ (blk_grown (g := gb307) (o := .cells #[.string ((rd_T28 l0 x6_1).f0), u308001] 35 (0, 0)) bk_ hg (Kd.R_ne HO_308001.out BK307.out (by decide))); have n4_ := A_ (blk_grown (g := gb308) (o := .cells #[.string ((rd_T28 l0 x6_1).f0), u309001] 28 (0, 0)) bk_ hg (Kd.R_ne HO_308001.out BK308.out (by decide))); have n5_ := A_ (blk_grown (g := gb310) (o := .cells #[.string ((rd_T41 ((rd_T28 l0 x6_1).f1) x9_3).f0), .int .i64 ((rd_T41 ((rd_T28 l0 x6_1).f1) x9_3).f1)] 41 (0, 0)) (by (with_reducible repeat (first | refine bn_ ?_ _ | refine bd_ ?_ | refine ba_ ?_ _)); refine bp_ (cs := #[.string ((rd_T41 ((rd_T28 l0 x6_1).f1) x9_3).f0), .int .i64 0]) ?_ 1 _ rfl; (with_reducible repeat (first | refine bn_ ?_ _ | refine bd_ ?_ | refine ba_ ?_ _)); refine bp_ (cs := #[.string (⟨#[]⟩ : ByteArray), .int .i64 0]) ?_ 0 _ rfl; (with_reducible repeat (first | refine bn_ ?_ _ | refine bd_ ?_ | refine ba_ ?_ _)); exact BK310.out) hg (Kd.R_ne HO_308001.out BK310.out (by decide))); have n6_ := A_ (hb); have n7_ := A_ (ho); clear HO_4; clear HO_5; clear HO_309001; clear BK307; clear BK308; clear BK310; clear HB; clear HO_308001; have HO_4 := n0_; have HO_5 := n1_; have HO_309001 := n2_; have BK307 := n3_; have BK308 := n4_; have BK310 := n5_; have HB := n6_; have HO108 := n7_; clear n0_ n1_ n2_ n3_ n4_ n5_ n6_ n7_; clear ho hb hg hat; obtain ⟨Ao26, co26, eo26⟩ := Kd.R_slice HO108.out; subst eo26; have hcz27_0 : w25.cell? ⟨gb307, 0, none⟩ = some (.string ((rd_T28 l0 x6_1).f0)) := (bc_ BK307.out 0).trans rfl; have hcz27_1 : w25.cell? ⟨gb307, 1, none⟩ = some (u308001) := (bc_ BK307.out 1).trans rfl; have hfz27_0 := bf_ BK307.out 0; have hfz27_1 := bf_ BK307.out 1; have hcz28_0 : w25.cell? ⟨gb308, 0, none⟩ = some (.string ((rd_T28 l0 x6_1).f0)) := (bc_ BK308.out 0).trans rfl; have hcz28_1 : w25.cell? ⟨gb308, 1, none⟩ = some (u309001) := (bc_ BK308.out 1).trans rfl; have hfz28_0 := bf_ BK308.out 0; have hfz28_1 := bf_ BK308.out 1; have hcz29_0 : w25.cell? ⟨gb310, 0, none⟩ = some (.string ((rd_T41 ((rd_T28 l0 x6_1).f1) x9_3).f0)) := (bc_ BK310.out 0).trans rfl; have hcz29_1 : w25.cell? ⟨gb310, 1, none⟩ = some (.int .i64 ((rd_T41 ((rd_T28 l0 x6_1).f1) x9_3).f1)) := (bc_ BK310.out 1).trans rfl; have hfz29_0 := bf_ BK310.out 0; have hfz29_1 := bf_ BK310.out 1) | ((with_reducible refine gate_builtin (b := .append) (xs := #[.tmp 66, .tmp 68]) rfl ?_); at_builtin; refine Kd.R_append k41 (w0 := w) w.heap.size rfl (.tmp 66) (.tmp 68) 22 41 (.agg #[(.string ⟨#[]⟩), (.int .i64 0)]) 24 rfl Try.underlying22 info41 rfl (by decide) (by omega) u309001 x309001_3 (⟨(rd_T41 ((rd_T28 l0 x6_1).f1) x9_3).f0, (rd_T41 ((rd_T28 l0 x6_1).f1) x9_3).f1⟩ : S41) [.string ((rd_T41 ((rd_T28 l0 x6_1).f1) x9_3).f0), .int .i64 ((rd_T41 ((rd_T28 l0 x6_1).f1) x9_3).f1)] (fun k_ => k_ ≠ gb310) (fun _ => False) rfl (by first | (go_simp; done) | (go_simp; rfl)) ?aP (fun _ hk => hk.elim) ?aF ?aO ?aB ?aS ?aL ?_; (case aP => exact k41_mkM _ _ _ (⟨(rd_T41 ((rd_T28 l0 x6_1).f1) x9_3).f0, (rd_T41 ((rd_T28 l0 x6_1).f1) x9_3).f1⟩ : S41)); (case aB => exact bw_); (case aF => exact (fun k_ hk => Kd.freshB (g := gb310) (o := .cells #[.string ((rd_T41 ((rd_T28 l0 x6_1).f1) x9_3).f0), .int .i64 ((rd_T41 ((rd_T28 l0 x6_1).f1) x9_3).f1)] 41 (0, 0)) bk_ k_ hk)); (case aO => exact (by (with_reducible repeat (first | apply Kd.R_alloc | apply Kd.R_drewN | apply Kd.R_drew)); exact Kd.R_mono (Kd.R_far (p := ⟨gb307, 1, none⟩) (Kd.R_types HO_309001.out BK307.out (by decide)) (fun _ hk => hk.2) (.slice Ao26 y106.length co26)) (fun _ hk => hk.1.2))); (case aS => exact (bz_ bw_)); (case aL => have := LMc18.out; omega); intro v110 w30 ho hb hg hat; rw [← Ny109.out] at ho; have n0_ := A_ (Kd.S_over' (by (with_reducible repeat (first | apply Kd.S_alloc | apply Kd.S_drewN | apply Kd.S_drew)); exact (Kd.S_mono (Kd.S_far (p := ⟨gb307, 1, none⟩) (Kd.S_mono HO_4.out (fun k_ hk => (⟨hk, hk.1⟩ : _ ∧ k_ ≠ gb307))) (fun _ hk => hk.2) (.slice Ao26 y106.length co26)) (fun _ h_ => h_.1))) (Kd.R_typed (by (with_reducible repeat (first | apply Kd.R_alloc | apply Kd.R_drewN | apply Kd.R_drew)); exact (Kd.R_mono (Kd.R_far (p := ⟨gb307, 1, none⟩) (Kd.R_types HO_309001.out BK307.out (by decide)) (fun _ hk => hk.2) (.slice Ao26 y106.length co26)) (fun _ h_ => h_.1)))) (by decide) hg); have n1_ := A_ (Kd.S_after (ok := (fun k_ => k_ ≠ gb308 ∧ k_ ≠ gb310)) (by (with_reducible repeat (first | apply Kd.S_alloc | apply Kd.S_drewN | apply Kd.S_drew)); exact Kd.S_mono (Kd.S_far (p := ⟨gb307, 1, none⟩) (Kd.S_types HO_5.out BK307.out (by decide)) (fun _ hk => hk.2) (.slice Ao26 y106.length co26)) (fun _ hk => ⟨⟨hk.1.1.2, hk.1.2⟩, hk.1.1.1⟩)) hg hat); have n2_ := A_ (blk_grown (g := gb307) (o := .cells #[.string ((rd_T28 l0 x6_1).f0), .slice Ao26 y106.length co26] 35 (0, 0)) (by (with_reducible repeat (first | refine bn_ ?_ _ | refine bd_ ?_ | refine ba_ ?_ _)); refine bp_ (cs := #[.string ((rd_T28 l0 x6_1).f0), u308001]) ?_ 1 _ rfl; (with_reducible repeat (first | refine bn_ ?_ _ | refine bd_ ?_ | refine ba_ ?_ _)); exact BK307.out) hg (Kd.R_ne HO_309001.out BK307.out (by decide))); have n3_ := A_ (blk_grown (g := gb308) (o := .cells #[.string ((rd_T28 l0 x6_1).f0), u309001] 28 (0, 0)) bk_ hg (Kd.R_ne HO_309001.out BK308.out (by decide))); have n4_ := A_ (blk_grown (g := gb310) (o := .cells #[.string ((rd_T41 ((rd_T28 l0 x6_1).f1) x9_3).f0), .int .i64 ((rd_T41 ((rd_T28 l0 x6_1).f1) x9_3).f1)] 41 (0, 0)) bk_ hg (Kd.R_away HO_309001.out (fun _ hk => hk.2))); have n5_ := A_ (Kd.R_over' (by (with_reducible repeat (first | apply Kd.R_alloc | apply Kd.R_drewN | apply Kd.R_drew)); exact (Kd.R_mono (Kd.R_far (p := ⟨gb307, 1, none⟩) (Kd.R_types HO108.out BK307.out (by decide)) (fun _ hk => hk.2) (.slice Ao26 y106.length co26)) (fun _ h_ => h_.1))) (Kd.R_typed (by (with_reducible repeat (first | apply Kd.R_alloc | apply Kd.R_drewN | apply Kd.R_drew)); exact (Kd.R_mono (Kd.R_far (p := ⟨gb307, 1, none⟩) (Kd.R_types HO_309001.out BK307.out (by decide)) (fun _ hk => hk.2) (.slice Ao26 y106.length co26)) (fun _ h_ => h_.1)))) (by decide) hg); have n6_ := A_ (hb); have n7_ := A_ (ho); clear HO_4; clear HO_5; clear BK307; clear BK308; clear BK310; clear HO108; clear HB; clear HO_309001; have HO_4 := n0_; have HO_5 := n1_; have BK307 := n2_; have BK308 := n3_; have BK310 := n4_; have HO108 := n5_; have HB := n6_; have HO111 := n7_; clear n0_ n1_ n2_ n3_ n4_ n5_ n6_ n7_; clear ho hb hg hat; obtain ⟨Ao31, co31, eo31⟩ := Kd.R_slice HO111.out; subst eo31; have hcz32_0 : w30.cell? ⟨gb308, 0, none⟩ = some (.string ((rd_T28 l0 x6_1).f0)) := (bc_ BK308.out 0).trans rfl; have hcz32_1 : w30.cell? ⟨gb308, 1, none⟩ = some (u309001) := (bc_ BK308.out 1).trans rfl; have hfz32_0 := bf_ BK308.out 0; have hfz32_1 := bf_ BK308.out 1))
                 go_roundg k3
                 case measure => have := HK1.out; have := HJ1.out; have := HK3.out; omega
                 case rel => exact ⟨(wrap64 (x9_3 + 1)), (y106), (y109), (.slice Ao26 y106.length co26), (.slice Ao31 y109.length co31), (by first | rfl | (simp; done) | (simp [*]; done)), H', ⟨by have := HK1.out; have := HJ1.out; have := HK3.out; omega⟩, ⟨by (with_reducible repeat (first | apply Kd.S_alloc | apply Kd.S_drewN | apply Kd.S_drew)); exact Kd.S_mono (Kd.S_far (p := ⟨gb308, 1, none⟩) (Kd.S_types HO_4.out BK308.out (by decide)) (fun _ hk => hk.2) (.slice Ao31 y109.length co31)) (fun _ hk => ⟨hk.1.2, hk.1.1⟩)⟩, ⟨by (with_reducible repeat (first | apply Kd.S_alloc | apply Kd.S_drewN | apply Kd.S_drew)); exact Kd.S_mono (Kd.S_far (p := ⟨gb308, 1, none⟩) (Kd.S_mono HO_5.out (fun k_ hk => (⟨hk, hk.1.1⟩ : _ ∧ k_ ≠ gb308))) (fun _ hk => hk.2) (.slice Ao31 y109.length co31)) (fun _ hk => ⟨hk.1.2, hk.1.1.1⟩)⟩, ⟨by (with_reducible repeat (first | apply Kd.R_alloc | apply Kd.R_drewN | apply Kd.R_drew)); exact Kd.R_mono (Kd.R_far (p := ⟨gb308, 1, none⟩) (Kd.R_types HO108.out BK308.out (by decide)) (fun _ hk => hk.2) (.slice Ao31 y109.length co31)) (fun _ hk => trivial)⟩, ⟨by (with_reducible repeat (first | apply Kd.R_alloc | apply Kd.R_drewN | apply Kd.R_drew)); exact Kd.R_mono (Kd.R_far (p := ⟨gb308, 1, none⟩) (Kd.R_types HO111.out BK308.out (by decide)) (fun _ hk => hk.2) (.slice Ao31 y109.length co31)) (fun _ hk => trivial)⟩, ⟨bk_⟩, ⟨by (with_reducible repeat (first | refine bn_ ?_ _ | refine bd_ ?_ | refine ba_ ?_ _)); refine bp_ (cs := #[.string ((rd_T28 l0 x6_1).f0), u309001]) ?_ 1 _ rfl; (with_reducible repeat (first | refine bn_ ?_ _ | refine bd_ ?_ | refine ba_ ?_ _)); exact BK308.out⟩, ⟨bw_⟩⟩
                ·
                 rw [if_neg c18] at H
                 exact absurd H (by simp)
               ·
                rw [if_neg c17] at H
                exact absurd H (by simp)
              ·
               rw [if_neg c16] at H
               exact absurd H (by simp)
             ·
              rw [if_neg c15] at H
              have c15b0 : decide (x9_3 < 70) = false := decide_eq_false c15
              clear c15
              by_cases c33 : x4_1.length < 3518437208883
              ·
               rw [if_pos c33] at H
               have LMc33 := A_ c33
               clear c33
               obtain ⟨y112, hy112⟩ : ∃ y_ : List (S35), y_ = (x4_1 ++ [(⟨((rd_T28 l0 x6_1).f0), x308001_3⟩ : S35)]) := ⟨_, rfl⟩
               replace H : (if x5_1.length < 3518437208883 then (clevislaw28_To.l0 k3 l0 y112 (x5_1 ++ [(⟨((rd_T28 l0 x6_1).f0), x309001_3⟩ : S28)]) (wrap64 (x6_1 + 1))) else (none)) = some (r1, r2) := by first | (rw [hy112]; with_reducible exact H) | (have H2_ := (Option.bind_some _ _).symm.trans H; rw [hy112]; with_reducible exact H2_) | (have H2_ := (Option.bind_some _ _).symm.trans H; with_reducible exact H2_) | with_reducible exact H | (rw [hy112]; exact H) | exact H
               have Ny112 := A_ hy112
               clear hy112
               by_cases c34 : x5_1.length < 3518437208883
               ·
                rw [if_pos c34] at H
                have LMc34 := A_ c34
                clear c34
                obtain ⟨y115, hy115⟩ : ∃ y_ : List (S28), y_ = (x5_1 ++ [(⟨((rd_T28 l0 x6_1).f0), x309001_3⟩ : S28)]) := ⟨_, rfl⟩
                replace H : (clevislaw28_To.l0 k3 l0 y112 y115 (wrap64 (x6_1 + 1))) = some (r1, r2) := by first | (rw [hy115]; with_reducible exact H) | (have H2_ := (Option.bind_some _ _).symm.trans H; rw [hy115]; with_reducible exact H2_) | (have H2_ := (Option.bind_some _ _).symm.trans H; with_reducible exact H2_) | with_reducible exact H | (rw [hy115]; exact H) | exact H
                have Ny115 := A_ hy115
                clear hy115
                have H' := A_ H
                clear H
                have p103 : 0 ≤ (x6_1 : Int) := od_ (by first | (with_reducible assumption) | assumption)
                have q103 : x6_1 < (l0.length : Int) := od_ (by first | (with_reducible assumption) | assumption)
                obtain ⟨ad103, A103_1, c103_1, e103, hx103_0, hx103_1, hl103_1, hi103_1⟩ := at_T28 HR0.out x6_1 p103 q103
                obtain rfl : ad101 = ad103 := (by injection e103)
                replace hx103_0 := (HB.out.cell (World.block_lt_of_cell? w _ hx103_0)).trans hx103_0
                replace hx103_1 := (HB.out.cell (World.block_lt_of_cell? w _ hx103_1)).trans hx103_1
                have HR103_1 := A_ hi103_1
                have HC103_1 := A_ hl103_1
                clear hi103_1 hl103_1
                replace p103 := eq_true p103
                replace q103 := eq_true q103
                have hnb35 := NB307_308.out
                have hnc35 := NB308_307.out
                have hcz36_0 : wr.cell? ⟨gb307, 0, none⟩ = some (.string ((rd_T28 l0 x6_1).f0)) := (bc_ BK307.out 0).trans rfl
                have hcz36_1 : wr.cell? ⟨gb307, 1, none⟩ = some (u308001) := (bc_ BK307.out 1).trans rfl
                have hfz36_0 := bf_ BK307.out 0
                have hfz36_1 := bf_ BK307.out 1
                obtain ⟨Ao38, co38, eo38⟩ := Kd.R_slice HO_308001.out
                subst eo38
                go_wp2_with (first | ((with_reducible refine gate_builtin (b := .append) (xs := #[.tmp 71, .tmp 73]) rfl ?_); at_builtin; refine Kd.S_append k35 (w0 := w) w.heap.size rfl (.tmp 71) (.tmp 73) 23 35 (.agg #[(.string ⟨#[]⟩), (.slice none 0 0)]) 40 rfl Try.underlying23 info35 rfl (by decide) (by omega) u4 x4_1 (⟨((rd_T28 l0 x6_1).f0), x308001_3⟩ : S35) [.string ((rd_T28 l0 x6_1).f0), .slice Ao38 x308001_3.length co38] (fun k_ => k_ ≠ gb307) (fun k_ => some k_ = (.slice Ao38 x308001_3.length co38 : Value).ownBlock) rfl rfl ?aP (fun k_ hk_ => ((Kd.R_mono (ok' := fun k_ => ((fun k_ => k_ ≠ gb307)) k_ ∧ some k_ ≠ (u4 : Value).ownBlock) (Kd.R_types (Kd.R_apart' (HO_308001.out) (Kd.S_typed HO_4.out) (by decide)) BK307.out (by decide)) (fun k_ hk => ⟨hk.2, hk.1.2⟩))).1 k_ hk_.symm) ?aF ?aO ?aB ?aS ?aL ?_; (case aP => exact k35_mkM _ _ _ (⟨((rd_T28 l0 x6_1).f0), x308001_3⟩ : S35) (Kd.R_mono (Kd.R_tight rfl (Kd.R_mono (ok' := fun k_ => ((fun k_ => k_ ≠ gb307)) k_ ∧ some k_ ≠ (u4 : Value).ownBlock) (Kd.R_types (Kd.R_apart' (HO_308001.out) (Kd.S_typed HO_4.out) (by decide)) BK307.out (by decide)) (fun k_ hk => ⟨hk.2, hk.1.2⟩))) (fun _ h_ => h_))); (case aB => exact bw_); (case aF => exact (fun k_ hk => Kd.freshB (g := gb307) (o := .cells #[.string ((rd_T28 l0 x6_1).f0), .slice Ao38 x308001_3.length co38] 35 (0, 0)) bk_ k_ hk)); (case aO => exact (by (with_reducible repeat (first | apply Kd.S_alloc | apply Kd.S_drewN | apply Kd.S_drew)); exact Kd.S_mono HO_4.out (fun k_ hk => ⟨hk.2, fun e_ => hk.1 e_⟩))); (case aS => exact (bz_ bw_)); (case aL => have := LMc33.out; omega); intro v113 w37 ho hb hg hat; rw [← Ny112.out] at ho; have n0_ := A_ (Kd.S_over' (by (with_reducible repeat (first | apply Kd.S_alloc | apply Kd.S_drewN | apply Kd.S_drew)); exact HO_5.out) (Kd.S_typed (by (with_reducible repeat (first | apply Kd.S_alloc | apply Kd.S_drewN | apply Kd.S_drew)); exact HO_4.out)) (by decide) hg); have n1_ := A_ (Kd.R_over' (by (with_reducible repeat (first | apply Kd.R_alloc | apply Kd.R_drewN | apply Kd.R_drew)); exact HO_309001.out) (Kd.S_typed (by (with_reducible repeat (first | apply Kd.S_alloc | apply Kd.S_drewN | apply Kd.S_drew)); exact HO_4.out)) (by decide) hg); have n2_ := A_ (blk_grown (g := gb307) (o := .cells #[.string ((rd_T28 l0 x6_1).f0), .slice Ao38 x308001_3.length co38] 35 (0, 0)) bk_ hg (Kd.S_away HO_4.out (fun _ hk => hk.2))); have n3_ := A_ (blk_grown (g := gb308) (o := .cells #[.string ((rd_T28 l0 x6_1).f0), u309001] 28 (0, 0)) bk_ hg (Kd.S_ne HO_4.out BK308.out (by decide))); have n4_ := A_ (hb); have n5_ := A_ (ho); clear HO_5; clear HO_309001; clear BK307; clear BK308; clear HB; clear HO_4; clear HO_308001; have HO_5 := n0_; have HO_309001 := n1_; have BK307 := n2_; have BK308 := n3_; have HB := n4_; have HO114 := n5_; clear n0_ n1_ n2_ n3_ n4_ n5_; clear ho hb hg hat; have hcz39_0 : w37.cell? ⟨gb308, 0, none⟩ = some (.string ((rd_T28 l0 x6_1).f0)) := (bc_ BK308.out 0).trans rfl; have hcz39_1 : w37.cell? ⟨gb308, 1, none⟩ = some (u309001) := (bc_ BK308.out 1).trans rfl; have hfz39_0 := bf_ BK308.out 0; have hfz39_1 := bf_ BK308.out 1; obtain ⟨Ao41, co41, eo41⟩ := Kd.R_slice HO_309001.out; subst eo41) | ((with_reducible refine gate_builtin (b := .append) (xs := #[.tmp 75, .tmp 77]) rfl ?_); at_builtin; refine Kd.S_append k28 (w0 := w) w.heap.size rfl (.tmp 75) (.tmp 77) 24 28 (.agg #[(.string ⟨#[]⟩), (.slice none 0 0)]) 40 rfl Try.underlying24 info28 rfl (by decide) (by omega) u5 x5_1 (⟨((rd_T28 l0 x6_1).f0), x309001_3⟩ : S28) [.string ((rd_T28 l0 x6_1).f0), .slice Ao41 x309001_3.length co41] (fun k_ => k_ ≠ gb308) (fun k_ => some k_ = (.slice Ao41 x309001_3.length co41 : Value).ownBlock) rfl rfl ?aP (fun k_ hk_ => ((Kd.R_mono (ok' := fun k_ => ((fun k_ => k_ ≠ gb308)) k_ ∧ some k_ ≠ (u5 : Value).ownBlock) (Kd.R_types (Kd.R_apart' (HO_309001.out) (Kd.S_typed HO_5.out) (by decide)) BK308.out (by decide)) (fun k_ hk => ⟨hk.2, hk.1.2⟩))).1 k_ hk_.symm) ?aF ?aO ?aB ?aS ?aL ?_; (case aP => exact k28_mkM _ _ _ (⟨((rd_T28 l0 x6_1).f0), x309001_3⟩ : S28) (Kd.R_mono (Kd.R_tight rfl (Kd.R_mono (ok' := fun k_ => ((fun k_ => k_ ≠ gb308)) k_ ∧ some k_ ≠ (u5 : Value).ownBlock) (Kd.R_types (Kd.R_apart' (HO_309001.out) (Kd.S_typed HO_5.out) (by decide)) BK308.out (by decide)) (fun k_ hk => ⟨hk.2, hk.1.2⟩))) (fun _ h_ => h_))); (case aB => exact bw_); (case aF => exact (fun k_ hk => Kd.freshB (g := gb308) (o := .cells #[.string ((rd_T28 l0 x6_1).f0), .slice Ao41 x309001_3.length co41] 28 (0, 0)) bk_ k_ hk)); (case aO => exact (by (with_reducible repeat (first | apply Kd.S_alloc | apply Kd.S_drewN | apply Kd.S_drew)); exact Kd.S_mono HO_5.out (fun k_ hk => ⟨hk.2, fun e_ => hk.1 e_⟩))); (case aS => exact (bz_ bw_)); (case aL => have := LMc34.out; omega); intro v116 w40 ho hb hg hat; rw [← Ny115.out] at ho; have n0_ := A_ (blk_grown (g := gb307) (o := .cells #[.string ((rd_T28 l0 x6_1).f0), .slice Ao38 x308001_3.length co38] 35 (0, 0)) bk_ hg (Kd.S_ne HO_5.out BK307.out (by decide))); have n1_ := A_ (blk_grown (g := gb308) (o := .cells #[.string ((rd_T28 l0 x6_1).f0), .slice Ao41 x309001_3.length co41] 28 (0, 0)) bk_ hg (Kd.S_away HO_5.out (fun _ hk => hk.2))); have n2_ := A_ (Kd.S_over' (by (with_reducible repeat (first | apply Kd.S_alloc | apply Kd.S_drewN | apply Kd.S_drew)); exact HO114.out) (Kd.S_typed (by (with_reducible repeat (first | apply Kd.S_alloc | apply Kd.S_drewN | apply Kd.S_drew)); exact HO_5.out)) (by decide) hg); have n3_ := A_ (hb); have n4_ := A_ (ho); clear BK307; clear BK308; clear HO114; clear HB; clear HO_5; clear HO_309001; have BK307 := n0_; have BK308 := n1_; have HO114 := n2_; have HB := n3_; have HO117 := n4_; clear n0_ n1_ n2_ n3_ n4_; clear ho hb hg hat))
                go_roundg k3
                case measure => have := HK1.out; have := HJ1.out; have := HK3.out; omega
                case rel => exact ⟨(y112), (y115), (wrap64 (x6_1 + 1)), (by first | rfl | (simp; done) | (simp [*]; done)), H', ⟨by have := HK1.out; have := HJ1.out; have := HK3.out; omega⟩, ⟨by (with_reducible repeat (first | apply Kd.S_alloc | apply Kd.S_drewN | apply Kd.S_drew)); exact Kd.S_mono HO114.out (fun _ hk => trivial)⟩, ⟨by (with_reducible repeat (first | apply Kd.S_alloc | apply Kd.S_drewN | apply Kd.S_drew)); exact Kd.S_mono HO117.out (fun _ hk => trivial)⟩, ⟨bw_⟩⟩
               ·
                rw [if_neg c34] at H
                exact absurd H (by simp)
              ·
               rw [if_neg c33] at H
               exact absurd H (by simp)
            ·
             rw [if_neg c14] at H
             have c14b0 : decide (x9_3 < (((rd_T28 l0 x6_1).f1).length : Int)) = false := decide_eq_false c14
             clear c14
             by_cases c42 : x4_1.length < 3518437208883
             ·
              rw [if_pos c42] at H
              have LMc42 := A_ c42
              clear c42
              obtain ⟨y118, hy118⟩ : ∃ y_ : List (S35), y_ = (x4_1 ++ [(⟨((rd_T28 l0 x6_1).f0), x308001_3⟩ : S35)]) := ⟨_, rfl⟩
              replace H : (if x5_1.length < 3518437208883 then (clevislaw28_To.l0 k3 l0 y118 (x5_1 ++ [(⟨((rd_T28 l0 x6_1).f0), x309001_3⟩ : S28)]) (wrap64 (x6_1 + 1))) else (none)) = some (r1, r2) := by first | (rw [hy118]; with_reducible exact H) | (have H2_ := (Option.bind_some _ _).symm.trans H; rw [hy118]; with_reducible exact H2_) | (have H2_ := (Option.bind_some _ _).symm.trans H; with_reducible exact H2_) | with_reducible exact H | (rw [hy118]; exact H) | exact H
              have Ny118 := A_ hy118
              clear hy118
              by_cases c43 : x5_1.length < 3518437208883
              ·
               rw [if_pos c43] at H
               have LMc43 := A_ c43
               clear c43
               obtain ⟨y121, hy121⟩ : ∃ y_ : List (S28), y_ = (x5_1 ++ [(⟨((rd_T28 l0 x6_1).f0), x309001_3⟩ : S28)]) := ⟨_, rfl⟩
               replace H : (clevislaw28_To.l0 k3 l0 y118 y121 (wrap64 (x6_1 + 1))) = some (r1, r2) := by first | (rw [hy121]; with_reducible exact H) | (have H2_ := (Option.bind_some _ _).symm.trans H; rw [hy121]; with_reducible exact H2_) | (have H2_ := (Option.bind_some _ _).symm.trans H; with_reducible exact H2_) | with_reducible exact H | (rw [hy121]; exact H) | exact H
               have Ny121 := A_ hy121
               clear hy121
               have H' := A_ H
               clear H
               have p103 : 0 ≤ (x6_1 : Int) := od_ (by first | (with_reducible assumption) | assumption)
               have q103 : x6_1 < (l0.length : Int) := od_ (by first | (with_reducible assumption) | assumption)
               obtain ⟨ad103, A103_1, c103_1, e103, hx103_0, hx103_1, hl103_1, hi103_1⟩ := at_T28 HR0.out x6_1 p103 q103
               obtain rfl : ad101 = ad103 := (by injection e103)
               replace hx103_0 := (HB.out.cell (World.block_lt_of_cell? w _ hx103_0)).trans hx103_0
               replace hx103_1 := (HB.out.cell (World.block_lt_of_cell? w _ hx103_1)).trans hx103_1
               have HR103_1 := A_ hi103_1
               have HC103_1 := A_ hl103_1
               clear hi103_1 hl103_1
               replace p103 := eq_true p103
               replace q103 := eq_true q103
               have hnb44 := NB307_308.out
               have hnc44 := NB308_307.out
               have hcz45_0 : wr.cell? ⟨gb307, 0, none⟩ = some (.string ((rd_T28 l0 x6_1).f0)) := (bc_ BK307.out 0).trans rfl
               have hcz45_1 : wr.cell? ⟨gb307, 1, none⟩ = some (u308001) := (bc_ BK307.out 1).trans rfl
               have hfz45_0 := bf_ BK307.out 0
               have hfz45_1 := bf_ BK307.out 1
               obtain ⟨Ao47, co47, eo47⟩ := Kd.R_slice HO_308001.out
               subst eo47
               go_wp2_with (first | ((with_reducible refine gate_builtin (b := .append) (xs := #[.tmp 71, .tmp 73]) rfl ?_); at_builtin; refine Kd.S_append k35 (w0 := w) w.heap.size rfl (.tmp 71) (.tmp 73) 23 35 (.agg #[(.string ⟨#[]⟩), (.slice none 0 0)]) 40 rfl Try.underlying23 info35 rfl (by decide) (by omega) u4 x4_1 (⟨((rd_T28 l0 x6_1).f0), x308001_3⟩ : S35) [.string ((rd_T28 l0 x6_1).f0), .slice Ao47 x308001_3.length co47] (fun k_ => k_ ≠ gb307) (fun k_ => some k_ = (.slice Ao47 x308001_3.length co47 : Value).ownBlock) rfl rfl ?aP (fun k_ hk_ => ((Kd.R_mono (ok' := fun k_ => ((fun k_ => k_ ≠ gb307)) k_ ∧ some k_ ≠ (u4 : Value).ownBlock) (Kd.R_types (Kd.R_apart' (HO_308001.out) (Kd.S_typed HO_4.out) (by decide)) BK307.out (by decide)) (fun k_ hk => ⟨hk.2, hk.1.2⟩))).1 k_ hk_.symm) ?aF ?aO ?aB ?aS ?aL ?_; (case aP => exact k35_mkM _ _ _ (⟨((rd_T28 l0 x6_1).f0), x308001_3⟩ : S35) (Kd.R_mono (Kd.R_tight rfl (Kd.R_mono (ok' := fun k_ => ((fun k_ => k_ ≠ gb307)) k_ ∧ some k_ ≠ (u4 : Value).ownBlock) (Kd.R_types (Kd.R_apart' (HO_308001.out) (Kd.S_typed HO_4.out) (by decide)) BK307.out (by decide)) (fun k_ hk => ⟨hk.2, hk.1.2⟩))) (fun _ h_ => h_))); (case aB => exact bw_); (case aF => exact (fun k_ hk => Kd.freshB (g := gb307) (o := .cells #[.string ((rd_T28 l0 x6_1).f0), .slice Ao47 x308001_3.length co47] 35 (0, 0)) bk_ k_ hk)); (case aO => exact (by (with_reducible repeat (first | apply Kd.S_alloc | apply Kd.S_drewN | apply Kd.S_drew)); exact Kd.S_mono HO_4.out (fun k_ hk => ⟨hk.2, fun e_ => hk.1 e_⟩))); (case aS => exact (bz_ bw_)); (case aL => have := LMc42.out; omega); intro v119 w46 ho hb hg hat; rw [← Ny118.out] at ho; have n0_ := A_ (Kd.S_over' (by (with_reducible repeat (first | apply Kd.S_alloc | apply Kd.S_drewN | apply Kd.S_drew)); exact HO_5.out) (Kd.S_typed (by (with_reducible repeat (first | apply Kd.S_alloc | apply Kd.S_drewN | apply Kd.S_drew)); exact HO_4.out)) (by decide) hg); have n1_ := A_ (Kd.R_over' (by (with_reducible repeat (first | apply Kd.R_alloc | apply Kd.R_drewN | apply Kd.R_drew)); exact HO_309001.out) (Kd.S_typed (by (with_reducible repeat (first | apply Kd.S_alloc | apply Kd.S_drewN | apply Kd.S_drew)); exact HO_4.out)) (by decide) hg); have n2_ := A_ (blk_grown (g := gb307) (o := .cells #[.string ((rd_T28 l0 x6_1).f0), .slice Ao47 x308001_3.length co47] 35 (0, 0)) bk_ hg (Kd.S_away HO_4.out (fun _ hk => hk.2))); have n3_ := A_ (blk_grown (g := gb308) (o := .cells #[.string ((rd_T28 l0 x6_1).f0), u309001] 28 (0, 0)) bk_ hg (Kd.S_ne HO_4.out BK308.out (by decide))); have n4_ := A_ (hb); have n5_ := A_ (ho); clear HO_5; clear HO_309001; clear BK307; clear BK308; clear HB; clear HO_4; clear HO_308001; have HO_5 := n0_; have HO_309001 := n1_; have BK307 := n2_; have BK308 := n3_; have HB := n4_; have HO120 := n5_; clear n0_ n1_ n2_ n3_ n4_ n5_; clear ho hb hg hat; have hcz48_0 : w46.cell? ⟨gb308, 0, none⟩ = some (.string ((rd_T28 l0 x6_1).f0)) := (bc_ BK308.out 0).trans rfl; have hcz48_1 : w46.cell? ⟨gb308, 1, none⟩ = some (u309001) := (bc_ BK308.out 1).trans rfl; have hfz48_0 := bf_ BK308.out 0; have hfz48_1 := bf_ BK308.out 1; obtain ⟨Ao50, co50, eo50⟩ := Kd.R_slice HO_309001.out; subst eo50) | ((with_reducible refine gate_builtin (b := .append) (xs := #[.tmp 75, .tmp 77]) rfl ?_); at_builtin; refine Kd.S_append k28 (w0 := w) w.heap.size rfl (.tmp 75) (.tmp 77) 24 28 (.agg #[(.string ⟨#[]⟩), (.slice none 0 0)]) 40 rfl Try.underlying24 info28 rfl (by decide) (by omega) u5 x5_1 (⟨((rd_T28 l0 x6_1).f0), x309001_3⟩ : S28) [.string ((rd_T28 l0 x6_1).f0), .slice Ao50 x309001_3.length co50] (fun k_ => k_ ≠ gb308) (fun k_ => some k_ = (.slice Ao50 x309001_3.length co50 : Value).ownBlock) rfl rfl ?aP (fun k_ hk_ => ((Kd.R_mono (ok' := fun k_ => ((fun k_ => k_ ≠ gb308)) k_ ∧ some k_ ≠ (u5 : Value).ownBlock) (Kd.R_types (Kd.R_apart' (HO_309001.out) (Kd.S_typed HO_5.out) (by decide)) BK308.out (by decide)) (fun k_ hk => ⟨hk.2, hk.1.2⟩))).1 k_ hk_.symm) ?aF ?aO ?aB ?aS ?aL ?_; (case aP => exact k28_mkM _ _ _ (⟨((rd_T28 l0 x6_1).f0), x309001_3⟩ : S28) (Kd.R_mono (Kd.R_tight rfl (Kd.R_mono (ok' := fun k_ => ((fun k_ => k_ ≠ gb308)) k_ ∧ some k_ ≠ (u5 : Value).ownBlock) (Kd.R_types (Kd.R_apart' (HO_309001.out) (Kd.S_typed HO_5.out) (by decide)) BK308.out (by decide)) (fun k_ hk => ⟨hk.2, hk.1.2⟩))) (fun _ h_ => h_))); (case aB => exact bw_); (case aF => exact (fun k_ hk => Kd.freshB (g := gb308) (o := .cells #[.string ((rd_T28 l0 x6_1).f0), .slice Ao50 x309001_3.length co50] 28 (0, 0)) bk_ k_ hk)); (case aO => exact (by (with_reducible repeat (first | apply Kd.S_alloc | apply Kd.S_drewN | apply Kd.S_drew)); exact Kd.S_mono HO_5.out (fun k_ hk => ⟨hk.2, fun e_ => hk.1 e_⟩))); (case aS => exact (bz_ bw_)); (case aL => have := LMc43.out; omega); intro v122 w49 ho hb hg hat; rw [← Ny121.out] at ho; have n0_ := A_ (blk_grown (g := gb307) (o := .cells #[.string ((rd_T28 l0 x6_1).f0), .slice Ao47 x308001_3.length co47] 35 (0, 0)) bk_ hg (Kd.S_ne HO_5.out BK307.out (by decide))); have n1_ := A_ (blk_grown (g := gb308) (o := .cells #[.string ((rd_T28 l0 x6_1).f0), .slice Ao50 x309001_3.length co50] 28 (0, 0)) bk_ hg (Kd.S_away HO_5.out (fun _ hk => hk.2))); have n2_ := A_ (Kd.S_over' (by (with_reducible repeat (first | apply Kd.S_alloc | apply Kd.S_drewN | apply Kd.S_drew)); exact HO120.out) (Kd.S_typed (by (with_reducible repeat (first | apply Kd.S_alloc | apply Kd.S_drewN | apply Kd.S_drew)); exact HO_5.out)) (by decide) hg); have n3_ := A_ (hb); have n4_ := A_ (ho); clear BK307; clear BK308; clear HO120; clear HB; clear HO_5; clear HO_309001; have BK307 := n0_; have BK308 := n1_; have HO120 := n2_; have HB := n3_; have HO123 := n4_; clear n0_ n1_ n2_ n3_ n4_; clear ho hb hg hat))
               go_roundg k3
               case measure => have := HK1.out; have := HJ1.out; have := HK3.out; omega
               case rel => exact ⟨(y118), (y121), (wrap64 (x6_1 + 1)), (by first | rfl | (simp; done) | (simp [*]; done)), H', ⟨by have := HK1.out; have := HJ1.out; have := HK3.out; omega⟩, ⟨by (with_reducible repeat (first | apply Kd.S_alloc | apply Kd.S_drewN | apply Kd.S_drew)); exact Kd.S_mono HO120.out (fun _ hk => trivial)⟩, ⟨by (with_reducible repeat (first | apply Kd.S_alloc | apply Kd.S_drewN | apply Kd.S_drew)); exact Kd.S_mono HO123.out (fun _ hk => trivial)⟩, ⟨bw_⟩⟩
              ·
               rw [if_neg c43] at H
               exact absurd H (by simp)
             ·
              rw [if_neg c42] at H
              exact absurd H (by simp)
           ·
            rw [if_neg c13] at H
            exact absurd H (by simp)
          ·
           rw [if_neg c12] at H
           exact absurd H (by simp)
       ·
        rw [if_neg c6] at H
        exact absurd H (by simp)
      ·
       rw [if_neg c5] at H
       exact absurd H (by simp)
     ·
      replace c4 := Bool.eq_false_iff.mpr c4
      subst c4
      have H1 : (some (x4_1, x5_1)) = some (r1, r2) := by rw [if_neg (show ¬ (false = true) by decide)] at H; exact H
      clear H
      have H := H1
      clear H1
      simp only [Option.some.injEq, Prod.mk.injEq] at H
      obtain ⟨rfl, rfl⟩ := H
      go_wp2
      go_ret2
      exact ⟨_, _, by first | rfl | (simp [errW_none, errW_some] <;> rfl) | (simp [*, errW_none, errW_some] <;> rfl), by (with_reducible repeat (first | apply Kd.S_alloc | apply Kd.S_drewN | apply Kd.S_drew)); exact HO_4.out, by (with_reducible repeat (first | apply Kd.S_alloc | apply Kd.S_drewN | apply Kd.S_drew)); exact HO_5.out, bw_⟩
end Go.Proofs.Ytfbkgfffalppmaa.Wf
end
section
namespace Go.Proofs.Ytfbkgfffalppmaa.Wf
open Go.RowKit Go.Proofs.YtfbkgfffalppmaaW.PrintWords Go.Proofs.YtfbkgfffalppmaaW.PrintLast Go.Proofs.YtfbkgfffalppmaaW.PrintMore
attribute [local go_sem] max2_int min2_int max_two min_two max_three min_three max_four min_four   -- for this text's walks alone
set_option linter.unusedVariables false
set_option linter.unusedSimpArgs false
attribute [local go_sem] run_add64_any
end Go.Proofs.Ytfbkgfffalppmaa.Wf
end
section
namespace Go.Proofs.Ytfbkgfffalppmaa.Wf
open Go.RowKit Go.Proofs.YtfbkgfffalppmaaW.PrintWords Go.Proofs.YtfbkgfffalppmaaW.PrintLast Go.Proofs.YtfbkgfffalppmaaW.PrintMore
attribute [local go_sem] max2_int min2_int max_two min_two max_three min_three max_four min_four   -- for this text's walks alone
set_option linter.unusedVariables false
set_option linter.unusedSimpArgs false
attribute [local go_sem] run_add64_any
end Go.Proofs.Ytfbkgfffalppmaa.Wf
end
section
namespace Go.Proofs.Ytfbkgfffalppmaa.Wf
open Go.RowKit Go.Proofs.YtfbkgfffalppmaaW.PrintWords Go.Proofs.YtfbkgfffalppmaaW.PrintLast Go.Proofs.YtfbkgfffalppmaaW.PrintMore
attribute [local go_sem] max2_int min2_int max_two min_two max_three min_three max_four min_four   -- for this text's walks alone
set_option linter.unusedVariables false
set_option linter.unusedSimpArgs false
attribute [local go_sem] run_add64_any
end Go.Proofs.Ytfbkgfffalppmaa.Wf
end
section
namespace Go.Proofs.Ytfbkgfffalppmaa.Wf
open Go.RowKit Go.Proofs.YtfbkgfffalppmaaW.PrintWords Go.Proofs.YtfbkgfffalppmaaW.PrintLast Go.Proofs.YtfbkgfffalppmaaW.PrintMore
attribute [local go_sem] max2_int min2_int max_two min_two max_three min_three max_four min_four   -- for this text's walks alone
set_option linter.unusedVariables false
set_option linter.unusedSimpArgs false
attribute [local go_sem] run_add64_any
end Go.Proofs.Ytfbkgfffalppmaa.Wf
end
