/- Texts of this seat, put together (Ze11). -/
import Derived.Test.YtcbpmmcpidfllaaProg
import Derived.Below
import Derived.Deep.Draws
import Derived.Deep.AppendLies
import Derived.Maps.AppendAt
import Derived.OwnWalk
import Derived.Laws.BytesArg
import Derived.Laws.MakeOwn
import Derived.Laws.OwnMore
import Derived.Deep.OwnRows
import Derived.Tactics
import Derived.Lib.ConvBytes
import Derived.Laws.Slices
import Derived.WalkKit
import Derived.KernelRfl
import Derived.RowKit3
import Derived.Deep.LoopGhost
import Derived.Deep.QuietTactic
import Derived.BigQuiet
import Derived.WideLaws
import Derived.Deep.DeepCutAuto
import Derived.Deep.CutBlock
import Derived.Deep.RegionHeld3
import Derived.Laws.Rows
import Derived.Lib.AppendStr
import Derived.ArgAppend
import Derived.Laws.IdiomCopy
import Derived.OrdersHeld
import Derived.Laws.BitsLemmas
import Derived.RowKit
import Derived.Laws.Externs
import Derived.WalkSpells
import Derived.WalkLawsBesides
import Derived.RegionTactic
import Derived.ChangeAlike
import Derived.BigRegion
import Derived.Test.YtcbpmmcpidfllaaZe0
import Derived.Test.YtcbpmmcpidfllaaZe1
import Derived.Test.YtcbpmmcpidfllaaZe2
import Derived.Test.YtcbpmmcpidfllaaZe9
import Derived.Test.YtcbpmmcpidfllaaZe10
section
namespace Go.Proofs.Ytcbpmmcpidfllaa.Ro
open Go.RowKit Go.Proofs.YtcbpmmcpidfllaaW.PrintWords Go.Proofs.YtcbpmmcpidfllaaW.PrintLast Go.Proofs.YtcbpmmcpidfllaaW.PrintMore
attribute [local go_sem] max2_int min2_int max_two min_two max_three min_three max_four min_four   -- for this text's walks alone
set_option linter.unusedVariables false
set_option linter.unusedSimpArgs false
def errW : Option Int → Value
 | none => .nilIface
 | some c => .iface 0 (.int .i64 c)
theorem errW_none : errW none = .nilIface := rfl
theorem errW_some (c : Int) : errW (some c) = .iface 0 (.int .i64 c) := rfl
theorem conv_V (W : World) (e : TypeId) (s : ByteArray) (hs : s.size ≤ 9223372036854775807) : Kd.V (Kd.int .u8) e (Lib.bytesWorld W e s) W.heap.size (fun k => W.heap.size ≤ k) (.slice (some ⟨W.heap.size, 0, none⟩) s.size (grownCap W s.size 0 e)) (bytesOf s) := by
 refine ⟨some ⟨W.heap.size, 0, none⟩, grownCap W s.size 0 e, by rw [bytesOf_length], by rw [bytesOf_length]; exact grownCap_ge _ _ _ _, ?_⟩
 intro W' hW
 have hb : W'.heap[W.heap.size]? = (Lib.bytesWorld W e s).heap[W.heap.size]? := hW _ (Nat.le_refl _) (by rw [Lib.bytesWorld_size]; omega)
 have hr := bytes_reads W e s hs
 rw [bytesOf_length]
 refine Kd.C_of_reads (enc := Value.int .u8) (d := (0 : Int)) (readsInt_of.1 ⟨hr.1, hr.2.1, fun hn => ?_⟩)
 obtain ⟨ad, ea, hc⟩ := hr.2.2 hn
 injection ea with ea
 subst ea
 refine ⟨_, rfl, fun j hj => ?_⟩
 have := hc j hj
 rw [add_plain] at this ⊢
 simpa only [World.cell?, hb] using this
section
variable {P : Program} {ops : Array Oper} {Q : Exit → Act → World → Prop} {rest : List Oper} {o : Oper} {a : Act}
theorem conv_event {w0 W : World} (base : Nat) (e : TypeId) (hgd : o.guard = none) {N : Tmp} (_hN : o.dst = some N) (s : ByteArray) (hm : s.size ≤ 9223372036854775807)
  (hrun : (execOp a.eval o).run P W = .ok (.value (.slice (some ⟨W.heap.size, 0, none⟩) s.size (grownCap W s.size 0 e))) (Lib.bytesWorld W e s)) (HB : Below base w0 W) (hbase : base ≤ W.heap.size)
  (h : ∀ v1 w1, Kd.V (Kd.int .u8) e w1 W.heap.size (fun k => W.heap.size ≤ k) v1 (bytesOf s) → Below base w0 w1 → W.grownBy w1 none → True → wpList P ops Q rest (a.put o.dst v1) w1) : wpList P ops Q (o :: rest) a W :=
 Kd.event_run hgd hrun (h _ _ (conv_V W e s hm) (bytes_below HB hbase e s) (grown_of_below (bytes_below (Below.refl _ _) (Nat.le_refl _) e s) none) trivial)
end
theorem info3 : (Try.prog.info? 3).map (fun i => (i.zero, i.size, i.bytes)) = some (some (.int .i64 0), 1, 8) := by kernel_rfl
theorem info9 : (Try.prog.info? 9).map (fun i => (i.zero, i.size, i.bytes)) = some (some (.string ⟨#[]⟩), 1, 16) := by kernel_rfl
structure S63 where
 f0 : ByteArray
 f1 : Int
def z63 : S63 := ⟨(⟨#[]⟩ : ByteArray), (0 : Int)⟩
def k63 : Kd S63 := Kd.iso (Kd.pair Kd.string (Kd.int .i64)) (fun x : S63 => (x.f0, x.f1))
theorem k63_open {w : World} {x : S63} {cs : List Value} (h : k63.K w x cs) : cs = [.string x.f0, .int .i64 x.f1] := by
 obtain ⟨_, _, rfl, rfl, rfl⟩ := h
 exact rfl
theorem k63_mk (w : World) (x : S63)  : k63.K w x [.string x.f0, .int .i64 x.f1] := ⟨[.string x.f0], [.int .i64 x.f1], rfl, rfl, rfl⟩
def rd_T63 (xs : List S63) (i : Int) : S63 := xs.getD i.toNat z63
theorem at_T63 {w : World} {A : Option Addr} {n : Nat} {xs : List S63} (h : Kd.C k63 w A n xs) (i : Int) (h0 : 0 ≤ i) (h1 : i < n) : ∃ ad , A = some ad ∧ w.cell? (ad.add (i.toNat * 2)) = some (.string (rd_T63 xs i).f0) ∧ w.cell? ⟨(ad.add (i.toNat * 2)).block, (ad.add (i.toNat * 2)).off + 1, none⟩ = some (.int .i64 (rd_T63 xs i).f1) := by
 obtain ⟨ad, c, e, _, hK, hc0⟩ := Kd.C_get h z63 i h0 h1
 have hc : ∀ j u, c[j]? = some u → w.cell? (ad.add (i.toNat * 2 + j)) = some u := hc0
 obtain rfl := k63_open hK
 exact ⟨ad, e, hc 0 _ rfl, by rw [← add_field _ _ 1 (by omega)]; exact hc 1 _ rfl⟩
end Go.Proofs.Ytcbpmmcpidfllaa.Ro
end
section
namespace Go.Proofs.Ytcbpmmcpidfllaa.Ro
open Go.RowKit Go.Proofs.YtcbpmmcpidfllaaW.PrintWords Go.Proofs.YtcbpmmcpidfllaaW.PrintLast Go.Proofs.YtcbpmmcpidfllaaW.PrintMore
attribute [local go_sem] max2_int min2_int max_two min_two max_three min_three max_four min_four   -- for this text's walks alone
set_option linter.unusedVariables false
set_option linter.unusedSimpArgs false
def clevisref02_digit.f (a0 : Int) : Option (Bool) := if a0 ≥ 48 then (some (decide (a0 ≤ 57))) else (some false)
set_option maxHeartbeats 8000000 in
set_option maxRecDepth 100000 in
theorem clevisref02_digit.calls (a0 : Int) (r : Bool) (w : World) (h : clevisref02_digit.f a0 = some r) :
  Calls Try.prog 41 #[.int .u8 a0] w fun e w' => e = .returned (.bool r) ∧ Drawn0 w w' := by
 have H : (if a0 ≥ 48 then (some (decide (a0 ≤ 57))) else (some false)) = some r := h
 clear h
 by_cases c2 : a0 ≥ 48
 ·
  rw [if_pos c2] at H
  have c2b0 : decide (48 ≤ a0) = true := decide_eq_true c2
  clear c2
  obtain rfl := Option.some.inj H
  go_enter Try.func41, Try.ntmps41
  go_wp2
  go_ret
  exact ⟨by first | rfl | (simp; done) | (simp [*]; done), by repeat (first | exact Drawn0.refl _ | apply Drawn0.step)⟩
 ·
  rw [if_neg c2] at H
  have c2b0 : decide (48 ≤ a0) = false := decide_eq_false c2
  clear c2
  obtain rfl := Option.some.inj H
  go_enter Try.func41, Try.ntmps41
  go_wp2
  go_ret
  exact ⟨by first | rfl | (simp; done) | (simp [*]; done), by repeat (first | exact Drawn0.refl _ | apply Drawn0.step)⟩
end Go.Proofs.Ytcbpmmcpidfllaa.Ro
end
section
namespace Go.Proofs.Ytcbpmmcpidfllaa.Ro
open Go.RowKit Go.Proofs.YtcbpmmcpidfllaaW.PrintWords Go.Proofs.YtcbpmmcpidfllaaW.PrintLast Go.Proofs.YtcbpmmcpidfllaaW.PrintMore
attribute [local go_sem] max2_int min2_int max_two min_two max_three min_three max_four min_four   -- for this text's walks alone
set_option linter.unusedVariables false
set_option linter.unusedSimpArgs false
def clevisref02_letter.f (a0 : Int) (a1 : Int) : Option (Bool) := if a0 ≥ a1 then (some (decide (a0 ≤ ((a1 + 25) % 256)))) else (some false)
set_option maxHeartbeats 8000000 in
set_option maxRecDepth 100000 in
theorem clevisref02_letter.calls (a0 : Int) (a1 : Int) (r : Bool) (w : World) (h : clevisref02_letter.f a0 a1 = some r) :
  Calls Try.prog 43 #[.int .u8 a0, .int .u8 a1] w fun e w' => e = .returned (.bool r) ∧ Drawn0 w w' := by
 have H : (if a0 ≥ a1 then (some (decide (a0 ≤ ((a1 + 25) % 256)))) else (some false)) = some r := h
 clear h
 by_cases c3 : a0 ≥ a1
 ·
  rw [if_pos c3] at H
  have c3b0 : decide (a1 ≤ a0) = true := decide_eq_true c3
  clear c3
  obtain rfl := Option.some.inj H
  go_enter Try.func43, Try.ntmps43
  go_wp2
  go_ret
  exact ⟨by first | rfl | (simp; done) | (simp [*]; done), by repeat (first | exact Drawn0.refl _ | apply Drawn0.step)⟩
 ·
  rw [if_neg c3] at H
  have c3b0 : decide (a1 ≤ a0) = false := decide_eq_false c3
  clear c3
  obtain rfl := Option.some.inj H
  go_enter Try.func43, Try.ntmps43
  go_wp2
  go_ret
  exact ⟨by first | rfl | (simp; done) | (simp [*]; done), by repeat (first | exact Drawn0.refl _ | apply Drawn0.step)⟩
end Go.Proofs.Ytcbpmmcpidfllaa.Ro
end
section
namespace Go.Proofs.Ytcbpmmcpidfllaa.Ro
open Go.RowKit Go.Proofs.YtcbpmmcpidfllaaW.PrintWords Go.Proofs.YtcbpmmcpidfllaaW.PrintLast Go.Proofs.YtcbpmmcpidfllaaW.PrintMore
attribute [local go_sem] max2_int min2_int max_two min_two max_three min_three max_four min_four   -- for this text's walks alone
set_option linter.unusedVariables false
set_option linter.unusedSimpArgs false
mutual
def clevisref02_Digit.l0 : Nat → ByteArray → List Int → Int → Option (Int)
 | 0, _, _, _ => none
 | k + 1, x0, x3, x4 => if x4 < 11 then (if 0 ≤ x4 then (if x4 < (x0.size : Int) then ((clevisref02_letter.f (bt x0 x4) 65).bind fun t117 => (if t117 = true then ((some (([wrap64 (Int.tdiv (wrap64 ((wrap64 (bt x0 x4)) - 55)) 10), Int.tmod (wrap64 ((wrap64 (bt x0 x4)) - 55)) 10] : List Int) : List Int)).bind fun y118 => (if x3.length + y118.length < 17592186044416 then (clevisref02_Digit.l0 k x0 (x3 ++ y118) (wrap64 (x4 + 1))) else (none))) else ((clevisref02_digit.f (bt x0 x4)).bind fun t124 => (if t124 = true then (if x4 ≥ 2 then (if x3.length < 17592186044416 then (clevisref02_Digit.l0 k x0 (x3 ++ [wrap64 ((wrap64 (bt x0 x4)) - 48)]) (wrap64 (x4 + 1))) else (none)) else (some (-1))) else (some (-1)))))) else (none)) else (none)) else (clevisref02_Digit.l1 k x3 0 0)
def clevisref02_Digit.l1 : Nat → List Int → Int → Int → Option (Int)
 | 0, _, _, _ => none
 | k + 1, x3, x6, x7 => if x7 < (x3.length : Int) then (if 0 ≤ x7 then (if (Int.tmod (wrap64 ((x3.length : Int) - x7)) 2) = 1 then (if (wrap64 (2 * (rd x3 x7))) > 9 then (clevisref02_Digit.l1 k x3 (wrap64 (x6 + (wrap64 ((wrap64 (2 * (rd x3 x7))) - 9)))) (wrap64 (x7 + 1))) else (clevisref02_Digit.l1 k x3 (wrap64 (x6 + (wrap64 (2 * (rd x3 x7))))) (wrap64 (x7 + 1)))) else (clevisref02_Digit.l1 k x3 (wrap64 (x6 + (rd x3 x7))) (wrap64 (x7 + 1)))) else (none)) else (clevisref02_Digit.l2 k x6 0)
def clevisref02_Digit.l2 : Nat → Int → Int → Option (Int)
 | 0, _, _ => none
 | k + 1, x6, x9 => if x9 < 10 then (if (Int.tmod (wrap64 (x6 + x9)) 10) = 0 then (some x9) else (clevisref02_Digit.l2 k x6 (wrap64 (x9 + 1)))) else (some (-1))
end
def clevisref02_Digit.f (k : Nat) (a0 : ByteArray) : Option (Int) := if (a0.size : Int) = 11 then (clevisref02_Digit.l0 k a0 ([] : List Int) 0) else (some (-1))
theorem clevisref02_Digit.mono_l : ∀ k, (∀ y0 y1 y2, LeO (clevisref02_Digit.l0 k y0 y1 y2) (clevisref02_Digit.l0 (k + 1) y0 y1 y2)) ∧ (∀ y0 y1 y2, LeO (clevisref02_Digit.l1 k y0 y1 y2) (clevisref02_Digit.l1 (k + 1) y0 y1 y2)) ∧ (∀ y0 y1, LeO (clevisref02_Digit.l2 k y0 y1) (clevisref02_Digit.l2 (k + 1) y0 y1))
 | 0 => ⟨fun _ _ _ r h => by simp [clevisref02_Digit.l0] at h, fun _ _ _ r h => by simp [clevisref02_Digit.l1] at h, fun _ _ r h => by simp [clevisref02_Digit.l2] at h⟩
 | k + 1 => by
  obtain ⟨ih0, ih1, ih2⟩ := clevisref02_Digit.mono_l k
  refine ⟨?_, ?_, ?_⟩
  ·
   intro y0 y1 y2
   unfold clevisref02_Digit.l0
   repeat' first
   | (with_reducible exact ih0 _ _ _)
   | (with_reducible exact ih1 _ _ _)
   | (with_reducible exact ih2 _ _)
   | (with_reducible exact LeO.refl _)
   | (with_reducible exact LeO.none _)
   | (with_reducible refine LeO.ite ?_ ?_)
   | (with_reducible refine LeO.bind ?_ (fun _ => ?_))
   | exact ih0 _ _ _
   | exact ih1 _ _ _
   | exact ih2 _ _
   | exact LeO.none _
   | refine LeO.ite ?_ ?_
   | refine LeO.bind ?_ (fun _ => ?_)
  ·
   intro y0 y1 y2
   unfold clevisref02_Digit.l1
   repeat' first
   | (with_reducible exact ih0 _ _ _)
   | (with_reducible exact ih1 _ _ _)
   | (with_reducible exact ih2 _ _)
   | (with_reducible exact LeO.refl _)
   | (with_reducible exact LeO.none _)
   | (with_reducible refine LeO.ite ?_ ?_)
   | (with_reducible refine LeO.bind ?_ (fun _ => ?_))
   | exact ih0 _ _ _
   | exact ih1 _ _ _
   | exact ih2 _ _
   | exact LeO.none _
   | refine LeO.ite ?_ ?_
   | refine LeO.bind ?_ (fun _ => ?_)
  ·
   intro y0 y1
   unfold clevisref02_Digit.l2
   repeat' first
   | (with_reducible exact ih0 _ _ _)
   | (with_reducible exact ih1 _ _ _)
   | (with_reducible exact ih2 _ _)
   | (with_reducible exact LeO.refl _)
   | (with_reducible exact LeO.none _)
   | (with_reducible refine LeO.ite ?_ ?_)
   | (with_reducible refine LeO.bind ?_ (fun _ => ?_))
   | exact ih0 _ _ _
   | exact ih1 _ _ _
   | exact ih2 _ _
   | exact LeO.none _
   | refine LeO.ite ?_ ?_
   | refine LeO.bind ?_ (fun _ => ?_)
theorem clevisref02_Digit.mono : ∀ a0 k, LeO (clevisref02_Digit.f k a0) (clevisref02_Digit.f (k + 1) a0) := by
 intro a0 k
 obtain ⟨ih0, ih1, ih2⟩ := clevisref02_Digit.mono_l k
 unfold clevisref02_Digit.f
 repeat' first
   | (with_reducible exact ih0 _ _ _)
   | (with_reducible exact ih1 _ _ _)
   | (with_reducible exact ih2 _ _)
   | (with_reducible exact LeO.refl _)
   | (with_reducible exact LeO.none _)
   | (with_reducible refine LeO.ite ?_ ?_)
   | (with_reducible refine LeO.bind ?_ (fun _ => ?_))
   | exact ih0 _ _ _
   | exact ih1 _ _ _
   | exact ih2 _ _
   | exact LeO.none _
   | refine LeO.ite ?_ ?_
   | refine LeO.bind ?_ (fun _ => ?_)
set_option maxHeartbeats 8000000 in
set_option maxRecDepth 100000 in
theorem clevisref02_Digit.calls (k : Nat) (a0 : ByteArray) (r : Int) (w : World) (h : clevisref02_Digit.f k a0 = some r) :
  Calls Try.prog 42 #[.string a0] w fun e w' => e = .returned (.int .i64 r) ∧ Below w.heap.size w w' := by
 have HB := A_ (Below.refl w.heap.size w)
 have H : (if (a0.size : Int) = 11 then (clevisref02_Digit.l0 k a0 ([] : List Int) 0) else (some (-1))) = some r := h
 clear h
 by_cases c2 : (a0.size : Int) = 11
 ·
  rw [if_pos c2] at H
  have c2b0 : ((a0.size : Int) == 11) = true := q1_ c2
  have c2b1 : ((a0.size : Int) != 11) = false := q3_ c2
  clear c2
  have H' := A_ H
  clear H
  go_enter Try.func42, Try.ntmps42
  go_wp2
  (try simp only [Act.put, sA_, sZ_, sS_])
  go_loopg [3, 4] k (fun kq v3 v4 w' => ∃ (x3_1 : List Int) (x4_1 : Int), v4 = .int .i64 x4_1 ∧ Aside0 (clevisref02_Digit.l0 kq a0 x3_1 x4_1 = some r) ∧ Aside0 (kq ≤ k) ∧ Aside0 (Kd.R (Kd.int .i64) 3 w' w.heap.size (fun _ => True) v3 x3_1) ∧ Aside0 (Below w.heap.size w w'))
  case atStart => exact ⟨(([] : List Int)), (0), (by first | rfl | (simp; done) | (simp [*]; done)), H', ⟨Nat.le_refl _⟩, ⟨by first | exact Kd.R_nil _ _ _ _ _ | exact Kd.N_nil _ _ _ _ _ | exact Kd.V_nil _ _ _ _ _ | exact Kd.Q_nil _ _ _ _ _ | exact Kd.S_nil _ _ _ _ _⟩, ⟨bw_⟩⟩
  case round =>
   clear H'
   try clear c2
   try clear c2b0
   try clear c2b1
   try clear p2
   obtain ⟨x3_1, x4_1, rfl, HA, HK1, HO_3, HB⟩ := hrel
   cases gk with
   | zero => exact absurd HA.out (by simp [clevisref02_Digit.l0])
   | succ k1 =>
    have H := HA.out
    clear HA
    simp only [clevisref02_Digit.l0] at H
    by_cases c3 : x4_1 < 11
    ·
     rw [if_pos c3] at H
     have c3b0 : decide (x4_1 < 11) = true := decide_eq_true c3
     clear c3
     by_cases c4 : 0 ≤ x4_1
     ·
      rw [if_pos c4] at H
      have c4b0 : decide (0 ≤ x4_1) = true := decide_eq_true c4
      clear c4
      by_cases c5 : x4_1 < (a0.size : Int)
      ·
       rw [if_pos c5] at H
       have c5b0 : decide (x4_1 < (a0.size : Int)) = true := decide_eq_true c5
       clear c5
       replace H := os_ H
       obtain ⟨t117, A70, H⟩ := H
       replace H : (if t117 = true then ((some (([wrap64 (Int.tdiv (wrap64 ((wrap64 (bt a0 x4_1)) - 55)) 10), Int.tmod (wrap64 ((wrap64 (bt a0 x4_1)) - 55)) 10] : List Int) : List Int)).bind fun y118 => (if x3_1.length + y118.length < 17592186044416 then (clevisref02_Digit.l0 k1 a0 (x3_1 ++ y118) (wrap64 (x4_1 + 1))) else (none))) else ((clevisref02_digit.f (bt a0 x4_1)).bind fun t124 => (if t124 = true then (if x4_1 ≥ 2 then (if x3_1.length < 17592186044416 then (clevisref02_Digit.l0 k1 a0 (x3_1 ++ [wrap64 ((wrap64 (bt a0 x4_1)) - 48)]) (wrap64 (x4_1 + 1))) else (none)) else (some (-1))) else (some (-1))))) = some r := H
       have A7 := A_ A70
       clear A70
       by_cases c8 : t117 = true
       ·
        subst c8
        have H1 : ((some (([wrap64 (Int.tdiv (wrap64 ((wrap64 (bt a0 x4_1)) - 55)) 10), Int.tmod (wrap64 ((wrap64 (bt a0 x4_1)) - 55)) 10] : List Int) : List Int)).bind fun y118 => (if x3_1.length + y118.length < 17592186044416 then (clevisref02_Digit.l0 k1 a0 (x3_1 ++ y118) (wrap64 (x4_1 + 1))) else (none))) = some r := by rw [if_pos rfl] at H; exact H
        clear H
        have H := H1
        clear H1
        obtain ⟨y118, hy118⟩ : ∃ y_ : List Int, y_ = (([wrap64 (Int.tdiv (wrap64 ((wrap64 (bt a0 x4_1)) - 55)) 10), Int.tmod (wrap64 ((wrap64 (bt a0 x4_1)) - 55)) 10] : List Int)) := ⟨_, rfl⟩
        replace H : (if x3_1.length + y118.length < 17592186044416 then (clevisref02_Digit.l0 k1 a0 (x3_1 ++ y118) (wrap64 (x4_1 + 1))) else (none)) = some r := by first | (rw [hy118]; with_reducible exact H) | (have H2_ := (Option.bind_some _ _).symm.trans H; rw [hy118]; with_reducible exact H2_) | (have H2_ := (Option.bind_some _ _).symm.trans H; with_reducible exact H2_) | with_reducible exact H | (rw [hy118]; exact H) | exact H
        have Ny118 := A_ hy118
        clear hy118
        by_cases c10 : x3_1.length + y118.length < 17592186044416
        ·
         rw [if_pos c10] at H
         have LMc10 := A_ c10
         clear c10
         obtain ⟨y121, hy121⟩ : ∃ y_ : List Int, y_ = (x3_1 ++ y118) := ⟨_, rfl⟩
         replace H : (clevisref02_Digit.l0 k1 a0 y121 (wrap64 (x4_1 + 1))) = some r := by first | (rw [hy121]; with_reducible exact H) | (have H2_ := (Option.bind_some _ _).symm.trans H; rw [hy121]; with_reducible exact H2_) | (have H2_ := (Option.bind_some _ _).symm.trans H; with_reducible exact H2_) | with_reducible exact H | (rw [hy121]; exact H) | exact H
         have Ny121 := A_ hy121
         clear hy121
         have H' := A_ H
         clear H
         have p6 : 0 ≤ (x4_1 : Int) := od_ (by first | (with_reducible assumption) | assumption)
         have q6 : x4_1 < (a0.size : Int) := od_ (by first | (with_reducible assumption) | assumption)
         have hx6 := bt_at a0 x4_1
         replace p6 := eq_true p6
         replace q6 := eq_true q6
         go_wp2_with (first | ((with_reducible refine gate_callee (f := 43) rfl ?_); refine goesL_ (some 21) rfl rfl Try.func43 (by kernel_rfl) rfl #[.int .u8 (bt a0 x4_1), .int .u8 65] rfl (by (try simp only [List.map_toArray, List.map_cons, List.map_nil]); first | done | rfl | (simp only [List.length_drop, List.length_take]; rfl)) ?_; (with_reducible refine (clevisref02_letter.calls (bt a0 x4_1) 65 true _ A7.out).mono ?_); rintro e w' ⟨rfl, ⟨nd, rfl⟩⟩; refine ⟨_, rfl, ?_⟩; have p9 : 0 ≤ (x4_1 : Int) := od_ (by first | (with_reducible assumption) | assumption); have q9 : x4_1 < (a0.size : Int) := od_ (by first | (with_reducible assumption) | assumption); have hx9 := bt_at a0 x4_1; replace p9 := eq_true p9; replace q9 := eq_true q9) | ((with_reducible refine gate_dst (N := 32) rfl ?_); refine Kd.R_lit (Kd.int .i64) _ 3 ?hg (N := 32) ?hd (xs := ([wrap64 (Int.tdiv (wrap64 ((wrap64 (bt a0 x4_1)) - 55)) 10), Int.tmod (wrap64 ((wrap64 (bt a0 x4_1)) - 55)) 10] : List Int)) (inner := [.int .i64 (wrap64 (Int.tdiv (wrap64 ((wrap64 (bt a0 x4_1)) - 55)) 10)), .int .i64 (Int.tmod (wrap64 ((wrap64 (bt a0 x4_1)) - 55)) 10)]) (ok := fun _ => True) (okp := fun _ => True) ?hr ?hp (fun _ hk => hk) trivial (Below.refl _ _) (Nat.le_refl _) (by simp) ?_; (case hd => rfl); (case hg => rfl); (case hr => first | (go_simp; done) | (go_simp; rfl)); (case hp => exact (Reps.one (show Kd.M (Kd.int .i64) _ _ _ (wrap64 (Int.tdiv (wrap64 ((wrap64 (bt a0 x4_1)) - 55)) 10)) [.int .i64 (wrap64 (Int.tdiv (wrap64 ((wrap64 (bt a0 x4_1)) - 55)) 10))] from rfl) (Reps.one (show Kd.M (Kd.int .i64) _ _ _ (Int.tmod (wrap64 ((wrap64 (bt a0 x4_1)) - 55)) 10) [.int .i64 (Int.tmod (wrap64 ((wrap64 (bt a0 x4_1)) - 55)) 10)] from rfl) (Reps.none _ _)))); intro v119 w11 ho12 hb hg_ hnew_; clear hg_ hnew_; (first | rw [← Ny118.out] at ho12 | (simp only [Int.reduceToNat] at ho12; rw [← Ny118.out] at ho12)); have n0_ := A_ (Kd.R_elder' (by (with_reducible repeat (first | apply Kd.R_alloc | apply Kd.R_drewN | apply Kd.R_drew)); exact HO_3.out) (Kd.R_base ho12) hb); have n1_ := A_ (Kd.R_lower (Kd.R_new' ho12 (Kd.R_lt (by (with_reducible repeat (first | apply Kd.R_alloc | apply Kd.R_drewN | apply Kd.R_drew)); exact HO_3.out))) (bz_ bw_)); have n2_ := A_ (bs_ bw_ hb); clear HO_3; clear HB; have HO_3 := n0_; have HO120 := n1_; have HB := n2_; clear n0_ n1_ n2_; clear hb ho12; obtain ⟨Ao14, co14, eo14⟩ := Kd.R_slice HO120.out; subst eo14) | ((with_reducible refine gate_builtin (b := .append) (xs := #[.tmp 27, .tmp 32]) rfl ?_); at_builtin; refine Kd.R_append_rows (Kd.int .i64) (w0 := w) w.heap.size rfl (.tmp 27) (.tmp 32) 37 3 (.int .i64 0) 8 rfl Try.underlying37 info3 rfl (by decide) (by omega) u3 x3_1 y118 _ _ _ (fun k_ => some k_ ≠ (.slice Ao14 y118.length co14 : Value).ownBlock) (fun _ => False) rfl rfl ?aO ?aR (fun _ _ h => h) (fun _ h => h.elim) ?aF ?aB ?aS ?aL ?_; (case aR => repeat (first | exact (Kd.R_reads' HO120.out).2.2 | (with_reducible refine ca_ ?_ _) | (with_reducible refine cn_ ?_ _) | (with_reducible refine cd_ ?_))); (case aB => exact bw_); (case aF => exact (fun k_ hk => Kd.fresh' (Kd.R_lt (by (with_reducible repeat (first | apply Kd.R_alloc | apply Kd.R_drewN | apply Kd.R_drew)); exact HO120.out)) k_ hk)); (case aO => exact (by (with_reducible repeat (first | apply Kd.R_alloc | apply Kd.R_drewN | apply Kd.R_drew)); exact Kd.R_mono HO_3.out (fun _ hk => hk.2))); (case aS => exact (bz_ bw_)); (case aL => have := LMc10.out; omega); intro v122 w13 ho hb hg hat; rw [← Ny121.out] at ho; have n0_ := A_ (Kd.R_after (ok := (fun _ => True)) (by (with_reducible repeat (first | apply Kd.R_alloc | apply Kd.R_drewN | apply Kd.R_drew)); exact HO120.out) hg hat); have n1_ := A_ (hb); have n2_ := A_ (ho); clear HO120; clear HB; clear HO_3; have HO120 := n0_; have HB := n1_; have HO123 := n2_; clear n0_ n1_ n2_; clear ho hb hg hat))
         go_roundg k1
         case measure => have := HK1.out; omega
         case rel => exact ⟨(y121), (wrap64 (x4_1 + 1)), (by first | rfl | (simp; done) | (simp [*]; done)), H', ⟨by have := HK1.out; omega⟩, ⟨by (with_reducible repeat (first | apply Kd.R_alloc | apply Kd.R_drewN | apply Kd.R_drew)); exact Kd.R_mono HO123.out (fun _ hk => trivial)⟩, ⟨bw_⟩⟩
        ·
         rw [if_neg c10] at H
         exact absurd H (by simp)
       ·
        replace c8 := Bool.eq_false_iff.mpr c8
        subst c8
        have H1 : ((clevisref02_digit.f (bt a0 x4_1)).bind fun t124 => (if t124 = true then (if x4_1 ≥ 2 then (if x3_1.length < 17592186044416 then (clevisref02_Digit.l0 k1 a0 (x3_1 ++ [wrap64 ((wrap64 (bt a0 x4_1)) - 48)]) (wrap64 (x4_1 + 1))) else (none)) else (some (-1))) else (some (-1)))) = some r := by rw [if_neg (show ¬ (false = true) by decide)] at H; exact H
        clear H
        have H := H1
        clear H1
        replace H := os_ H
        obtain ⟨t124, A160, H⟩ := H
        replace H : (if t124 = true then (if x4_1 ≥ 2 then (if x3_1.length < 17592186044416 then (clevisref02_Digit.l0 k1 a0 (x3_1 ++ [wrap64 ((wrap64 (bt a0 x4_1)) - 48)]) (wrap64 (x4_1 + 1))) else (none)) else (some (-1))) else (some (-1))) = some r := H
        have A16 := A_ A160
        clear A160
        by_cases c17 : t124 = true
        ·
         subst c17
         have H1 : (if x4_1 ≥ 2 then (if x3_1.length < 17592186044416 then (clevisref02_Digit.l0 k1 a0 (x3_1 ++ [wrap64 ((wrap64 (bt a0 x4_1)) - 48)]) (wrap64 (x4_1 + 1))) else (none)) else (some (-1))) = some r := by rw [if_pos rfl] at H; exact H
         clear H
         have H := H1
         clear H1
         by_cases c18 : x4_1 ≥ 2
         ·
          rw [if_pos c18] at H
          have c18b0 : decide (2 ≤ x4_1) = true := decide_eq_true c18
          clear c18
          by_cases c20 : x3_1.length < 17592186044416
          ·
           rw [if_pos c20] at H
           have LMc20 := A_ c20
           clear c20
           obtain ⟨y125, hy125⟩ : ∃ y_ : List Int, y_ = (x3_1 ++ [wrap64 ((wrap64 (bt a0 x4_1)) - 48)]) := ⟨_, rfl⟩
           replace H : (clevisref02_Digit.l0 k1 a0 y125 (wrap64 (x4_1 + 1))) = some r := by first | (rw [hy125]; with_reducible exact H) | (have H2_ := (Option.bind_some _ _).symm.trans H; rw [hy125]; with_reducible exact H2_) | (have H2_ := (Option.bind_some _ _).symm.trans H; with_reducible exact H2_) | with_reducible exact H | (rw [hy125]; exact H) | exact H
           have Ny125 := A_ hy125
           clear hy125
           have H' := A_ H
           clear H
           have p6 : 0 ≤ (x4_1 : Int) := od_ (by first | (with_reducible assumption) | assumption)
           have q6 : x4_1 < (a0.size : Int) := od_ (by first | (with_reducible assumption) | assumption)
           have hx6 := bt_at a0 x4_1
           replace p6 := eq_true p6
           replace q6 := eq_true q6
           go_wp2_with (first | ((with_reducible refine gate_callee (f := 43) rfl ?_); refine goesL_ (some 21) rfl rfl Try.func43 (by kernel_rfl) rfl #[.int .u8 (bt a0 x4_1), .int .u8 65] rfl (by (try simp only [List.map_toArray, List.map_cons, List.map_nil]); first | done | rfl | (simp only [List.length_drop, List.length_take]; rfl)) ?_; (with_reducible refine (clevisref02_letter.calls (bt a0 x4_1) 65 false _ A7.out).mono ?_); rintro e w' ⟨rfl, ⟨nd, rfl⟩⟩; refine ⟨_, rfl, ?_⟩; have p15 : 0 ≤ (x4_1 : Int) := od_ (by first | (with_reducible assumption) | assumption); have q15 : x4_1 < (a0.size : Int) := od_ (by first | (with_reducible assumption) | assumption); have hx15 := bt_at a0 x4_1; replace p15 := eq_true p15; replace q15 := eq_true q15) | ((with_reducible refine gate_callee (f := 41) rfl ?_); refine goesL_ (some 38) rfl rfl Try.func41 (by kernel_rfl) rfl #[.int .u8 (bt a0 x4_1)] rfl (by (try simp only [List.map_toArray, List.map_cons, List.map_nil]); first | done | rfl | (simp only [List.length_drop, List.length_take]; rfl)) ?_; (with_reducible refine (clevisref02_digit.calls (bt a0 x4_1) true _ A16.out).mono ?_); rintro e w' ⟨rfl, ⟨nd, rfl⟩⟩; refine ⟨_, rfl, ?_⟩; have p19 : 0 ≤ (x4_1 : Int) := od_ (by first | (with_reducible assumption) | assumption); have q19 : x4_1 < (a0.size : Int) := od_ (by first | (with_reducible assumption) | assumption); have hx19 := bt_at a0 x4_1; replace p19 := eq_true p19; replace q19 := eq_true q19) | ((with_reducible refine gate_builtin (b := .append) (xs := #[.tmp 43, .tmp 49]) rfl ?_); at_builtin; refine Kd.R_append (Kd.int .i64) (w0 := w) w.heap.size rfl (.tmp 43) (.tmp 49) 37 3 (.int .i64 0) 8 rfl Try.underlying37 info3 rfl (by decide) (by omega) u3 x3_1 (wrap64 ((wrap64 (bt a0 x4_1)) - 48)) [.int .i64 (wrap64 ((wrap64 (bt a0 x4_1)) - 48))] (fun _ => True) (fun _ => False) rfl rfl ?aP (fun _ hk => hk.elim) ?aF ?aO ?aB ?aS ?aL ?_; (case aP => exact rfl); (case aB => exact bw_); (case aF => exact (fun _ _ => trivial)); (case aO => exact (by (with_reducible repeat (first | apply Kd.R_alloc | apply Kd.R_drewN | apply Kd.R_drew)); exact HO_3.out)); (case aS => exact (bz_ bw_)); (case aL => have := LMc20.out; omega); intro v126 w21 ho hb hg hat; rw [← Ny125.out] at ho; have n0_ := A_ (hb); have n1_ := A_ (ho); clear HB; clear HO_3; have HB := n0_; have HO127 := n1_; clear n0_ n1_; clear ho hb hg hat))
           go_roundg k1
           case measure => have := HK1.out; omega
           case rel => exact ⟨(y125), (wrap64 (x4_1 + 1)), (by first | rfl | (simp; done) | (simp [*]; done)), H', ⟨by have := HK1.out; omega⟩, ⟨by (with_reducible repeat (first | apply Kd.R_alloc | apply Kd.R_drewN | apply Kd.R_drew)); exact HO127.out⟩, ⟨bw_⟩⟩
          ·
           rw [if_neg c20] at H
           exact absurd H (by simp)
         ·
          rw [if_neg c18] at H
          have c18b0 : decide (2 ≤ x4_1) = false := decide_eq_false c18
          clear c18
          obtain rfl := Option.some.inj H
          have p6 : 0 ≤ (x4_1 : Int) := od_ (by first | (with_reducible assumption) | assumption)
          have q6 : x4_1 < (a0.size : Int) := od_ (by first | (with_reducible assumption) | assumption)
          have hx6 := bt_at a0 x4_1
          replace p6 := eq_true p6
          replace q6 := eq_true q6
          go_wp2_with (first | ((with_reducible refine gate_callee (f := 43) rfl ?_); refine goesL_ (some 21) rfl rfl Try.func43 (by kernel_rfl) rfl #[.int .u8 (bt a0 x4_1), .int .u8 65] rfl (by (try simp only [List.map_toArray, List.map_cons, List.map_nil]); first | done | rfl | (simp only [List.length_drop, List.length_take]; rfl)) ?_; (with_reducible refine (clevisref02_letter.calls (bt a0 x4_1) 65 false _ A7.out).mono ?_); rintro e w' ⟨rfl, ⟨nd, rfl⟩⟩; refine ⟨_, rfl, ?_⟩; have p15 : 0 ≤ (x4_1 : Int) := od_ (by first | (with_reducible assumption) | assumption); have q15 : x4_1 < (a0.size : Int) := od_ (by first | (with_reducible assumption) | assumption); have hx15 := bt_at a0 x4_1; replace p15 := eq_true p15; replace q15 := eq_true q15) | ((with_reducible refine gate_callee (f := 41) rfl ?_); refine goesL_ (some 38) rfl rfl Try.func41 (by kernel_rfl) rfl #[.int .u8 (bt a0 x4_1)] rfl (by (try simp only [List.map_toArray, List.map_cons, List.map_nil]); first | done | rfl | (simp only [List.length_drop, List.length_take]; rfl)) ?_; (with_reducible refine (clevisref02_digit.calls (bt a0 x4_1) true _ A16.out).mono ?_); rintro e w' ⟨rfl, ⟨nd, rfl⟩⟩; refine ⟨_, rfl, ?_⟩))
          go_ret
          exact ⟨by first | rfl | (simp [errW_none, errW_some] <;> rfl) | (simp [*, errW_none, errW_some] <;> rfl), bw_⟩
        ·
         replace c17 := Bool.eq_false_iff.mpr c17
         subst c17
         have H1 : (some (-1)) = some r := by rw [if_neg (show ¬ (false = true) by decide)] at H; exact H
         clear H
         have H := H1
         clear H1
         obtain rfl := Option.some.inj H
         have p6 : 0 ≤ (x4_1 : Int) := od_ (by first | (with_reducible assumption) | assumption)
         have q6 : x4_1 < (a0.size : Int) := od_ (by first | (with_reducible assumption) | assumption)
         have hx6 := bt_at a0 x4_1
         replace p6 := eq_true p6
         replace q6 := eq_true q6
         go_wp2_with (first | ((with_reducible refine gate_callee (f := 43) rfl ?_); refine goesL_ (some 21) rfl rfl Try.func43 (by kernel_rfl) rfl #[.int .u8 (bt a0 x4_1), .int .u8 65] rfl (by (try simp only [List.map_toArray, List.map_cons, List.map_nil]); first | done | rfl | (simp only [List.length_drop, List.length_take]; rfl)) ?_; (with_reducible refine (clevisref02_letter.calls (bt a0 x4_1) 65 false _ A7.out).mono ?_); rintro e w' ⟨rfl, ⟨nd, rfl⟩⟩; refine ⟨_, rfl, ?_⟩; have p15 : 0 ≤ (x4_1 : Int) := od_ (by first | (with_reducible assumption) | assumption); have q15 : x4_1 < (a0.size : Int) := od_ (by first | (with_reducible assumption) | assumption); have hx15 := bt_at a0 x4_1; replace p15 := eq_true p15; replace q15 := eq_true q15) | ((with_reducible refine gate_callee (f := 41) rfl ?_); refine goesL_ (some 38) rfl rfl Try.func41 (by kernel_rfl) rfl #[.int .u8 (bt a0 x4_1)] rfl (by (try simp only [List.map_toArray, List.map_cons, List.map_nil]); first | done | rfl | (simp only [List.length_drop, List.length_take]; rfl)) ?_; (with_reducible refine (clevisref02_digit.calls (bt a0 x4_1) false _ A16.out).mono ?_); rintro e w' ⟨rfl, ⟨nd, rfl⟩⟩; refine ⟨_, rfl, ?_⟩))
         go_ret
         exact ⟨by first | rfl | (simp [errW_none, errW_some] <;> rfl) | (simp [*, errW_none, errW_some] <;> rfl), bw_⟩
      ·
       rw [if_neg c5] at H
       exact absurd H (by simp)
     ·
      rw [if_neg c4] at H
      exact absurd H (by simp)
    ·
     rw [if_neg c3] at H
     have c3b0 : decide (x4_1 < 11) = false := decide_eq_false c3
     clear c3
     have H' := A_ H
     clear H
     go_wp2
     (try simp only [Act.put, sA_, sZ_, sS_])
     go_loopg [6, 7] k1 (fun kq v6 v7 w' => ∃ (x6_2 : Int) (x7_2 : Int), v6 = .int .i64 x6_2 ∧ v7 = .int .i64 x7_2 ∧ Aside0 (clevisref02_Digit.l1 kq x3_1 x6_2 x7_2 = some r) ∧ Aside0 (kq ≤ k1) ∧ Aside0 (Kd.R (Kd.int .i64) 3 w' w.heap.size (fun _ => True) u3 x3_1) ∧ Aside0 (Below w.heap.size w w'))
     case atStart => exact ⟨(0), (0), (by first | rfl | (simp; done) | (simp [*]; done)), (by first | rfl | (simp; done) | (simp [*]; done)), H', ⟨Nat.le_refl _⟩, ⟨by (with_reducible repeat (first | apply Kd.R_alloc | apply Kd.R_drewN | apply Kd.R_drew)); exact HO_3.out⟩, ⟨bw_⟩⟩
     case round =>
      clear H'
      try clear c1
      try clear p1
      try clear q1
      try clear hx1
      try clear c2
      try clear c2b0
      try clear c2b1
      try clear p2
      try clear c3
      try clear c3b0
      try clear c4
      try clear c4b0
      try clear c5
      try clear c5b0
      try clear p6
      try clear q6
      try clear hx6
      try clear c8
      try clear p9
      try clear q9
      try clear hx9
      try clear c10
      try clear p15
      try clear q15
      try clear hx15
      try clear c17
      try clear c18
      try clear c18b0
      try clear p19
      try clear q19
      try clear hx19
      try clear c20
      try clear p15
      try clear p19
      try clear p2
      try clear p6
      try clear p9
      try clear q15
      try clear q19
      try clear q6
      try clear q9
      obtain ⟨x6_2, x7_2, rfl, rfl, HA, HK2, HO_3, HB⟩ := hrel
      cases gk with
      | zero => exact absurd HA.out (by simp [clevisref02_Digit.l1])
      | succ k2 =>
       have H := HA.out
       clear HA
       simp only [clevisref02_Digit.l1] at H
       by_cases c22 : x7_2 < (x3_1.length : Int)
       ·
        rw [if_pos c22] at H
        have c22b0 : decide (x7_2 < (x3_1.length : Int)) = true := decide_eq_true c22
        clear c22
        by_cases c23 : 0 ≤ x7_2
        ·
         rw [if_pos c23] at H
         have c23b0 : decide (0 ≤ x7_2) = true := decide_eq_true c23
         clear c23
         by_cases c24 : (Int.tmod (wrap64 ((x3_1.length : Int) - x7_2)) 2) = 1
         ·
          rw [if_pos c24] at H
          have c24b0 : ((Int.tmod (wrap64 ((x3_1.length : Int) - x7_2)) 2) == 1) = true := q1_ c24
          have c24b1 : ((Int.tmod (wrap64 ((x3_1.length : Int) - x7_2)) 2) != 1) = false := q3_ c24
          clear c24
          by_cases c25 : (wrap64 (2 * (rd x3_1 x7_2))) > 9
          ·
           rw [if_pos c25] at H
           have c25b0 : decide (9 < (wrap64 (2 * (rd x3_1 x7_2)))) = true := decide_eq_true c25
           clear c25
           have H' := A_ H
           clear H
           obtain ⟨Ao26, co26, eo26⟩ := Kd.R_slice HO_3.out
           subst eo26
           have p128 : 0 ≤ (x7_2 : Int) := od_ (by first | (with_reducible assumption) | assumption)
           have q128 : x7_2 < (x3_1.length : Int) := od_ (by first | (with_reducible assumption) | assumption)
           obtain ⟨ad128, e128, hx128_0⟩ := Kd.at_int (Kd.R_reads' HO_3.out).2.2 x7_2 p128 q128
           cases e128
           replace p128 := eq_true p128
           replace q128 := eq_true q128
           go_wp2
           go_roundg k2
           case measure => have := HK1.out; have := HK2.out; omega
           case rel => exact ⟨(wrap64 (x6_2 + (wrap64 ((wrap64 (2 * (rd x3_1 x7_2))) - 9)))), (wrap64 (x7_2 + 1)), (by first | rfl | (simp; done) | (simp [*]; done)), (by first | rfl | (simp; done) | (simp [*]; done)), H', ⟨by have := HK1.out; have := HK2.out; omega⟩, ⟨by (with_reducible repeat (first | apply Kd.R_alloc | apply Kd.R_drewN | apply Kd.R_drew)); exact HO_3.out⟩, ⟨bw_⟩⟩
          ·
           rw [if_neg c25] at H
           have c25b0 : decide (9 < (wrap64 (2 * (rd x3_1 x7_2)))) = false := decide_eq_false c25
           clear c25
           have H' := A_ H
           clear H
           obtain ⟨Ao27, co27, eo27⟩ := Kd.R_slice HO_3.out
           subst eo27
           have p128 : 0 ≤ (x7_2 : Int) := od_ (by first | (with_reducible assumption) | assumption)
           have q128 : x7_2 < (x3_1.length : Int) := od_ (by first | (with_reducible assumption) | assumption)
           obtain ⟨ad128, e128, hx128_0⟩ := Kd.at_int (Kd.R_reads' HO_3.out).2.2 x7_2 p128 q128
           cases e128
           replace p128 := eq_true p128
           replace q128 := eq_true q128
           go_wp2
           go_roundg k2
           case measure => have := HK1.out; have := HK2.out; omega
           case rel => exact ⟨(wrap64 (x6_2 + (wrap64 (2 * (rd x3_1 x7_2))))), (wrap64 (x7_2 + 1)), (by first | rfl | (simp; done) | (simp [*]; done)), (by first | rfl | (simp; done) | (simp [*]; done)), H', ⟨by have := HK1.out; have := HK2.out; omega⟩, ⟨by (with_reducible repeat (first | apply Kd.R_alloc | apply Kd.R_drewN | apply Kd.R_drew)); exact HO_3.out⟩, ⟨bw_⟩⟩
         ·
          rw [if_neg c24] at H
          have c24b0 : ((Int.tmod (wrap64 ((x3_1.length : Int) - x7_2)) 2) == 1) = false := q4_ c24
          have c24b1 : ((Int.tmod (wrap64 ((x3_1.length : Int) - x7_2)) 2) != 1) = true := q2_ c24
          have H' := A_ H
          clear H
          obtain ⟨Ao28, co28, eo28⟩ := Kd.R_slice HO_3.out
          subst eo28
          have p128 : 0 ≤ (x7_2 : Int) := od_ (by first | (with_reducible assumption) | assumption)
          have q128 : x7_2 < (x3_1.length : Int) := od_ (by first | (with_reducible assumption) | assumption)
          obtain ⟨ad128, e128, hx128_0⟩ := Kd.at_int (Kd.R_reads' HO_3.out).2.2 x7_2 p128 q128
          cases e128
          replace p128 := eq_true p128
          replace q128 := eq_true q128
          go_wp2
          go_roundg k2
          case measure => have := HK1.out; have := HK2.out; omega
          case rel => exact ⟨(wrap64 (x6_2 + (rd x3_1 x7_2))), (wrap64 (x7_2 + 1)), (by first | rfl | (simp; done) | (simp [*]; done)), (by first | rfl | (simp; done) | (simp [*]; done)), H', ⟨by have := HK1.out; have := HK2.out; omega⟩, ⟨by (with_reducible repeat (first | apply Kd.R_alloc | apply Kd.R_drewN | apply Kd.R_drew)); exact HO_3.out⟩, ⟨bw_⟩⟩
        ·
         rw [if_neg c23] at H
         exact absurd H (by simp)
       ·
        rw [if_neg c22] at H
        have c22b0 : decide (x7_2 < (x3_1.length : Int)) = false := decide_eq_false c22
        clear c22
        have H' := A_ H
        clear H
        obtain ⟨Ao29, co29, eo29⟩ := Kd.R_slice HO_3.out
        subst eo29
        go_wp2
        (try simp only [Act.put, sA_, sZ_, sS_])
        go_loopg [9] k2 (fun kq v9 w' => ∃ (x9_3 : Int), v9 = .int .i64 x9_3 ∧ Aside0 (clevisref02_Digit.l2 kq x6_2 x9_3 = some r) ∧ Aside0 (kq ≤ k2) ∧ Aside0 (Below w.heap.size w w'))
        case atStart => exact ⟨(0), (by first | rfl | (simp; done) | (simp [*]; done)), H', ⟨Nat.le_refl _⟩, ⟨bw_⟩⟩
        case round =>
         clear H'
         try clear c1
         try clear p1
         try clear q1
         try clear hx1
         try clear c2
         try clear c2b0
         try clear c2b1
         try clear p2
         try clear c3
         try clear c3b0
         try clear c4
         try clear c4b0
         try clear c5
         try clear c5b0
         try clear p6
         try clear q6
         try clear hx6
         try clear c8
         try clear p9
         try clear q9
         try clear hx9
         try clear c10
         try clear p12
         try clear q12
         try clear hx12
         try clear p15
         try clear q15
         try clear hx15
         try clear c17
         try clear c18
         try clear c18b0
         try clear p19
         try clear q19
         try clear hx19
         try clear c20
         try clear c22
         try clear c22b0
         try clear c23
         try clear c23b0
         try clear c24
         try clear c24b0
         try clear c24b1
         try clear c25
         try clear c25b0
         try clear hx128_0
         try clear p1
         try clear p128
         try clear p15
         try clear p19
         try clear p2
         try clear p6
         try clear p9
         try clear q1
         try clear q128
         try clear q15
         try clear q19
         try clear q6
         try clear q9
         obtain ⟨x9_3, rfl, HA, HK3, HB⟩ := hrel
         cases gk with
         | zero => exact absurd HA.out (by simp [clevisref02_Digit.l2])
         | succ k3 =>
          have H := HA.out
          clear HA
          simp only [clevisref02_Digit.l2] at H
          by_cases c30 : x9_3 < 10
          ·
           rw [if_pos c30] at H
           have c30b0 : decide (x9_3 < 10) = true := decide_eq_true c30
           clear c30
           by_cases c31 : (Int.tmod (wrap64 (x6_2 + x9_3)) 10) = 0
           ·
            rw [if_pos c31] at H
            have c31b0 : ((Int.tmod (wrap64 (x6_2 + x9_3)) 10) == 0) = true := q1_ c31
            have c31b1 : ((Int.tmod (wrap64 (x6_2 + x9_3)) 10) != 0) = false := q3_ c31
            clear c31
            obtain rfl := Option.some.inj H
            go_wp2
            go_ret
            exact ⟨by first | rfl | (simp [errW_none, errW_some] <;> rfl) | (simp [*, errW_none, errW_some] <;> rfl), bw_⟩
           ·
            rw [if_neg c31] at H
            have c31b0 : ((Int.tmod (wrap64 (x6_2 + x9_3)) 10) == 0) = false := q4_ c31
            have c31b1 : ((Int.tmod (wrap64 (x6_2 + x9_3)) 10) != 0) = true := q2_ c31
            have H' := A_ H
            clear H
            go_wp2
            go_roundg k3
            case measure => have := HK1.out; have := HK2.out; have := HK3.out; omega
            case rel => exact ⟨(wrap64 (x9_3 + 1)), (by first | rfl | (simp; done) | (simp [*]; done)), H', ⟨by have := HK1.out; have := HK2.out; have := HK3.out; omega⟩, ⟨bw_⟩⟩
          ·
           rw [if_neg c30] at H
           have c30b0 : decide (x9_3 < 10) = false := decide_eq_false c30
           clear c30
           obtain rfl := Option.some.inj H
           go_wp2
           go_ret
           exact ⟨by first | rfl | (simp [errW_none, errW_some] <;> rfl) | (simp [*, errW_none, errW_some] <;> rfl), bw_⟩
 ·
  rw [if_neg c2] at H
  have c2b0 : ((a0.size : Int) == 11) = false := q4_ c2
  have c2b1 : ((a0.size : Int) != 11) = true := q2_ c2
  obtain rfl := Option.some.inj H
  go_enter Try.func42, Try.ntmps42
  go_wp2
  go_ret
  exact ⟨by first | rfl | (simp [errW_none, errW_some] <;> rfl) | (simp [*, errW_none, errW_some] <;> rfl), bw_⟩
end Go.Proofs.Ytcbpmmcpidfllaa.Ro
end
section
namespace Go.Proofs.Ytcbpmmcpidfllaa.Ro
open Go.RowKit Go.Proofs.YtcbpmmcpidfllaaW.PrintWords Go.Proofs.YtcbpmmcpidfllaaW.PrintLast Go.Proofs.YtcbpmmcpidfllaaW.PrintMore
attribute [local go_sem] max2_int min2_int max_two min_two max_three min_three max_four min_four   -- for this text's walks alone
set_option linter.unusedVariables false
set_option linter.unusedSimpArgs false
def clevisref02_Isin.j0 : Nat → ByteArray → Bool → Option (Int)
 | 0, _, _ => none
 | k + 1, x0, x17 => if x17 = true then (some 3) else (if 0 ≤ 11 then (if 11 ≤ (x0.size : Int) then ((clevisref02_Digit.f k (x0.extract 0 11)).bind fun t131 => (if 11 < (x0.size : Int) then (if t131 = (wrap64 ((wrap64 (bt x0 11)) - 48)) then (some 0) else (some 11)) else (none))) else (none)) else (none))
def clevisref02_Isin.f (k : Nat) (a0 : ByteArray) : Option (Int) := if (a0.size : Int) = 12 then (if 11 < (a0.size : Int) then ((clevisref02_digit.f (bt a0 11)).bind fun t129 => (if t129 = true then (if 0 ≤ 11 then (if 11 ≤ (a0.size : Int) then ((clevisref02_Digit.f k (a0.extract 0 11)).bind fun t130 => (clevisref02_Isin.j0 k a0 (decide (t130 < 0)))) else (none)) else (none)) else (clevisref02_Isin.j0 k a0 true))) else (none)) else (clevisref02_Isin.j0 k a0 true)
def clevisref02_Isin.T3 : Bool × List (List Nat × List Nat) := (true, [([], []), ([0], [0]), ([1], [1]), ([], []), ([3], [3]), ([4], [4]), ([5], [5]), ([2, 6], [2, 6])])
def clevisref02_Isin.B3 : List Nat := [0, 1, 3, 0, 8, 24, 56, 127]
theorem clevisref02_Isin.tab3 : rtab .any (opsOf Try.f30 3) = clevisref02_Isin.T3 := by kernel_rfl
theorem clevisref02_Isin.bits3 : waitsOk clevisref02_Isin.T3.2 clevisref02_Isin.B3 = true := by kernel_rfl
set_option maxHeartbeats 8000000 in
set_option maxRecDepth 100000 in
theorem clevisref02_Isin.calls (k : Nat) (a0 : ByteArray) (r : Int) (w : World) (h : clevisref02_Isin.f k a0 = some r) :
  Calls Try.prog 30 #[.string a0] w fun e w' => e = .returned (.int .i64 r) ∧ Below w.heap.size w w' := by
 have HB := A_ (Below.refl w.heap.size w)
 have H : (if (a0.size : Int) = 12 then (if 11 < (a0.size : Int) then ((clevisref02_digit.f (bt a0 11)).bind fun t129 => (if t129 = true then (if 0 ≤ 11 then (if 11 ≤ (a0.size : Int) then ((clevisref02_Digit.f k (a0.extract 0 11)).bind fun t130 => (clevisref02_Isin.j0 k a0 (decide (t130 < 0)))) else (none)) else (none)) else (clevisref02_Isin.j0 k a0 true))) else (none)) else (clevisref02_Isin.j0 k a0 true)) = some r := h
 clear h
 have HC2 := A_ H
 clear H
 go_enter Try.func30, Try.ntmps30
 go_upto_region 1 with (fail)
 go_cut [17] (fun v17 wc => ∃ (kq : Nat) (x17_1 : Bool), v17 = .bool x17_1 ∧ Aside0 (clevisref02_Isin.j0 kq a0 x17_1 = some r) ∧ Aside0 (kq ≤ k) ∧ Aside0 (Below w.heap.size w wc))
 case first =>
  have H := HC2.out
  clear HC2
  by_cases c3 : (a0.size : Int) = 12
  ·
   rw [if_pos c3] at H
   have c3b0 : ((a0.size : Int) == 12) = true := q1_ c3
   have c3b1 : ((a0.size : Int) != 12) = false := q3_ c3
   clear c3
   (first | rw [c3b0] | (simp only [i64_w, i32_w]; rw [c3b0]) | skip)
   by_cases c4 : 11 < (a0.size : Int)
   ·
    rw [if_pos c4] at H
    have c4b0 : decide (11 < (a0.size : Int)) = true := decide_eq_true c4
    have c4b1 : decide (11 < a0.size) = true := decide_eq_true (by omega)
    clear c4
    replace H := os_ H
    obtain ⟨t129, A60, H⟩ := H
    replace H : (if t129 = true then (if 0 ≤ 11 then (if 11 ≤ (a0.size : Int) then ((clevisref02_Digit.f k (a0.extract 0 11)).bind fun t130 => (clevisref02_Isin.j0 k a0 (decide (t130 < 0)))) else (none)) else (none)) else (clevisref02_Isin.j0 k a0 true)) = some r := H
    have A6 := A_ A60
    clear A60
    by_cases c7 : t129 = true
    ·
     subst c7
     have H1 : (if 0 ≤ 11 then (if 11 ≤ (a0.size : Int) then ((clevisref02_Digit.f k (a0.extract 0 11)).bind fun t130 => (clevisref02_Isin.j0 k a0 (decide (t130 < 0)))) else (none)) else (none)) = some r := by rw [if_pos rfl] at H; exact H
     clear H
     have H := H1
     clear H1
     by_cases c8 : 0 ≤ 11
     ·
      rw [if_pos c8] at H
      have c8b0 := eq_true c8
      have c8b1 : decide (0 ≤ 11) = true := decide_eq_true c8
      clear c8
      by_cases c9 : 11 ≤ (a0.size : Int)
      ·
       rw [if_pos c9] at H
       have c9b0 := eq_true c9
       have c9b1 : decide (11 ≤ (a0.size : Int)) = true := decide_eq_true c9
       clear c9
       replace H := os_ H
       obtain ⟨t130, A100, H⟩ := H
       replace H : (clevisref02_Isin.j0 k a0 (decide (t130 < 0))) = some r := H
       have A10 := A_ A100
       clear A100
       have H' := A_ H
       clear H
       have p5 : 0 ≤ (11 : Int) := (by omega)
       have q5 : 11 < a0.size := (by have : (11 : Int) < (a0.size : Int) := od_ (by first | (with_reducible assumption) | assumption); omega)
       have hx5 : ∀ h : 11 < a0.size, ((a0[11]'h).toNat : Int) = bt a0 11 := bt_at a0 11
       clear p5
       have qi5 : (11 < (a0.size : Int)) = True := eq_true (od_ (by first | (with_reducible assumption) | assumption))
       replace q5 := eq_true q5
       go_wp2_with (first | (go_at_call 41; (with_reducible refine (clevisref02_digit.calls (bt a0 11) true _ A6.out).mono ?_); rintro e w' ⟨rfl, ⟨nd, rfl⟩⟩) | (go_at_call 42; (with_reducible refine (clevisref02_Digit.calls k (a0.extract 0 11) t130 _ A10.out).mono ?_); rintro e w11 ⟨rfl, hb⟩; have n0_ := A_ (bs_ bw_ hb); clear HB; have HB := n0_; clear n0_; (try clear hb); (try clear hb2); (try clear hk); (try clear hi)))
       go_meet
       case rel => exact ⟨_, (decide (t130 < 0)), (by first | rfl | (simp; done) | (simp [*]; done)), H', ⟨by first | omega | exact Nat.le_refl _⟩, ⟨bw_⟩⟩
      ·
       rw [if_neg c9] at H
       exact absurd H (by simp)
     ·
      rw [if_neg c8] at H
      exact absurd H (by simp)
    ·
     replace c7 := Bool.eq_false_iff.mpr c7
     subst c7
     have H1 : (clevisref02_Isin.j0 k a0 true) = some r := by rw [if_neg (show ¬ (false = true) by decide)] at H; exact H
     clear H
     have H := H1
     clear H1
     have H' := A_ H
     clear H
     have p5 : 0 ≤ (11 : Int) := (by omega)
     have q5 : 11 < a0.size := (by have : (11 : Int) < (a0.size : Int) := od_ (by first | (with_reducible assumption) | assumption); omega)
     have hx5 : ∀ h : 11 < a0.size, ((a0[11]'h).toNat : Int) = bt a0 11 := bt_at a0 11
     clear p5
     have qi5 : (11 < (a0.size : Int)) = True := eq_true (od_ (by first | (with_reducible assumption) | assumption))
     replace q5 := eq_true q5
     go_wp2_with (first | (go_at_call 41; (with_reducible refine (clevisref02_digit.calls (bt a0 11) false _ A6.out).mono ?_); rintro e w' ⟨rfl, ⟨nd, rfl⟩⟩))
     go_meet
     case rel => exact ⟨_, (true), (by first | rfl | (simp; done) | (simp [*]; done)), H', ⟨by first | omega | exact Nat.le_refl _⟩, ⟨bw_⟩⟩
   ·
    rw [if_neg c4] at H
    exact absurd H (by simp)
  ·
   rw [if_neg c3] at H
   have c3b0 : ((a0.size : Int) == 12) = false := q4_ c3
   have c3b1 : ((a0.size : Int) != 12) = true := q2_ c3
   (first | rw [c3b0] | (simp only [i64_w, i32_w]; rw [c3b0]) | skip)
   have H' := A_ H
   clear H
   go_wp2
   go_meet
   case rel => exact ⟨_, (true), (by first | rfl | (simp; done) | (simp [*]; done)), H', ⟨by first | omega | exact Nat.le_refl _⟩, ⟨bw_⟩⟩
 case rest =>
  clear HC2
  try clear p2
  try clear c3
  try clear c3b0
  try clear c3b1
  try clear c4
  try clear c4b0
  try clear c4b1
  try clear p5
  try clear q5
  try clear hx5
  try clear qi5
  try clear c7
  try clear c8
  try clear c8b0
  try clear c8b1
  try clear c9
  try clear c9b0
  try clear c9b1
  try clear p5
  try clear q5
  obtain ⟨kq, x17_1, rfl, HA, HJ1, HB⟩ := hcut
  cases kq with
  | zero => exact absurd HA.out (by simp [clevisref02_Isin.j0])
  | succ kj1 =>
   have H := HA.out
   clear HA
   simp only [clevisref02_Isin.j0] at H
   by_cases c12 : x17_1 = true
   ·
    subst c12
    have H1 : (some 3) = some r := by rw [if_pos rfl] at H; exact H
    clear H
    have H := H1
    clear H1
    obtain rfl := Option.some.inj H
    go_wp2
    go_ret
    exact ⟨by first | rfl | (simp [errW_none, errW_some] <;> rfl) | (simp [*, errW_none, errW_some] <;> rfl), bw_⟩
   ·
    replace c12 := Bool.eq_false_iff.mpr c12
    subst c12
    have H1 : (if 0 ≤ 11 then (if 11 ≤ (a0.size : Int) then ((clevisref02_Digit.f kj1 (a0.extract 0 11)).bind fun t131 => (if 11 < (a0.size : Int) then (if t131 = (wrap64 ((wrap64 (bt a0 11)) - 48)) then (some 0) else (some 11)) else (none))) else (none)) else (none)) = some r := by rw [if_neg (show ¬ (false = true) by decide)] at H; exact H
    clear H
    have H := H1
    clear H1
    by_cases c13 : 0 ≤ 11
    ·
     rw [if_pos c13] at H
     have c13b0 := eq_true c13
     have c13b1 : decide (0 ≤ 11) = true := decide_eq_true c13
     clear c13
     by_cases c14 : 11 ≤ (a0.size : Int)
     ·
      rw [if_pos c14] at H
      have c14b0 := eq_true c14
      have c14b1 : decide (11 ≤ (a0.size : Int)) = true := decide_eq_true c14
      clear c14
      replace H := os_ H
      obtain ⟨t131, A150, H⟩ := H
      replace H : (if 11 < (a0.size : Int) then (if t131 = (wrap64 ((wrap64 (bt a0 11)) - 48)) then (some 0) else (some 11)) else (none)) = some r := H
      have A15 := A_ A150
      clear A150
      by_cases c16 : 11 < (a0.size : Int)
      ·
       rw [if_pos c16] at H
       have c16b0 : decide (11 < (a0.size : Int)) = true := decide_eq_true c16
       have c16b1 : decide (11 < a0.size) = true := decide_eq_true (by omega)
       clear c16
       by_cases c18 : t131 = (wrap64 ((wrap64 (bt a0 11)) - 48))
       ·
        rw [if_pos c18] at H
        have c18b0 : (t131 == (wrap64 ((wrap64 (bt a0 11)) - 48))) = true := q1_ c18
        have c18b1 : (t131 != (wrap64 ((wrap64 (bt a0 11)) - 48))) = false := q3_ c18
        clear c18
        obtain rfl := Option.some.inj H
        try go_wp2
        have n0_ := A_ (b1_ HB.out)
        clear HB
        have HB := n0_
        clear n0_
        have p17 : 0 ≤ (11 : Int) := (by omega)
        have q17 : 11 < a0.size := (by have : (11 : Int) < (a0.size : Int) := od_ (by first | (with_reducible assumption) | assumption); omega)
        have hx17 : ∀ h : 11 < a0.size, ((a0[11]'h).toNat : Int) = bt a0 11 := bt_at a0 11
        clear p17
        have qi17 : (11 < (a0.size : Int)) = True := eq_true (od_ (by first | (with_reducible assumption) | assumption))
        replace q17 := eq_true q17
        refine start_ (n := 8) (S := fun w' => True) (ds := []) #[false, false, false, false, false, false, false, false] (by kernel_rfl) rfl rfl trivial (fun hHeld => ?_); refine with_tabW clevisref02_Isin.tab3 clevisref02_Isin.bits3 (fun HT_ HW_ => ?_)
        generalize wc.drew = w19 at HB hHeld ⊢
        refine pure_ (i := 0) (N := some 18) (v := ?_) (a' := ?_) #[true, false, false, false, false, false, false, false] rfl rfl (any_of HT_.out (by kernel_rfl)) (fun _ _ _ h => h) (Or.inl ⟨by rfl, ?_⟩) ?_ ?_
        rotate_left
        ·
         intro w'
         go_simp
         with_reducible rfl
        rotate_left
        ·
         simp only [Act.put, sA_, sZ_, sS_, i64_w, i32_w]
         rfl
        refine pure_ (i := 1) (N := some 19) (v := ?_) (a' := ?_) #[true, true, false, false, false, false, false, false] rfl rfl (any_of HT_.out (by kernel_rfl)) (fun _ _ _ h => h) (Or.inl ⟨by rfl, ?_⟩) ?_ ?_
        rotate_left
        ·
         intro w'
         go_simp
         with_reducible rfl
        rotate_left
        ·
         simp only [Act.put, sA_, sZ_, sS_, i64_w, i32_w]
         rfl
        refine pure_ (i := 3) (N := some 21) (v := ?_) (a' := ?_) #[true, true, false, true, false, false, false, false] rfl rfl (any_of HT_.out (by kernel_rfl)) (fun _ _ _ h => h) (Or.inl ⟨by rfl, ?_⟩) ?_ ?_
        rotate_left
        ·
         intro w'
         go_simp
         with_reducible rfl
        rotate_left
        ·
         simp only [Act.put, sA_, sZ_, sS_, i64_w, i32_w]
         rfl
        refine take_ (i := 4) (N := some 22) (v := ?_) (a' := ?_) #[true, true, false, true, true, false, false, false] rfl rfl (take_ofW HT_.out HW_.out (by kernel_rfl)) (fun _ _ _ h => h) (Or.inl ⟨by rfl, ?_⟩) hHeld ?_ ?_
        rotate_left
        ·
         intro w' _
         go_simp
         with_reducible rfl
        rotate_left
        ·
         simp only [Act.put, sA_, sZ_, sS_, i64_w, i32_w]
         rfl
        refine pure_ (i := 5) (N := some 23) (v := ?_) (a' := ?_) #[true, true, false, true, true, true, false, false] rfl rfl (any_of HT_.out (by kernel_rfl)) (fun _ _ _ h => h) (Or.inl ⟨by rfl, ?_⟩) ?_ ?_
        rotate_left
        ·
         intro w'
         go_simp
         with_reducible rfl
        rotate_left
        ·
         simp only [Act.put, sA_, sZ_, sS_, i64_w, i32_w]
         rfl
        refine pure_ (i := 6) (N := some 24) (v := ?_) (a' := ?_) #[true, true, false, true, true, true, true, false] rfl rfl (any_of HT_.out (by kernel_rfl)) (fun _ _ _ h => h) (Or.inl ⟨by rfl, ?_⟩) ?_ ?_
        rotate_left
        ·
         intro w'
         go_simp
         with_reducible rfl
        rotate_left
        ·
         simp only [Act.put, sA_, sZ_, sS_, i64_w, i32_w]
         rfl
        refine one_ (i := 2) (N := some 20) #[true, true, true, true, true, true, true, false] rfl rfl (one_of HT_.out (by kernel_rfl)) (by decide) (fun K hK => ?_)
        refine goes_ Try.func42 (by kernel_rfl) rfl #[.string (a0.extract 0 11)] (by rfl) rfl rfl (by (try simp only [List.map_toArray, List.map_cons, List.map_nil]); first | done | rfl | (simp only [List.length_drop, List.length_take]; rfl)) ?_
        with_reducible refine (clevisref02_Digit.calls kj1 (a0.extract 0 11) t131 _ A15.out).mono ?_
        rintro e w20 ⟨rfl, hb⟩
        refine ⟨_, rfl, ?_⟩
        have n0_ := A_ (bs_ bw_ hb)
        clear HB
        have HB := n0_
        clear n0_
        (try clear hb)
        (try clear hb2)
        (try clear hk)
        (try clear hi)
        refine hK.out _ _ trivial (fun hHeld => ?_)
        clear hK K
        refine norm_ (a' := ?_) ?_ ?_
        rotate_left
        ·
         show Act.put _ (some 20) _ = _
         simp only [Act.put, sA_, sZ_, sS_, i64_w, i32_w]
         rfl
        refine pure_ (i := 7) (N := some 25) (v := ?_) (a' := ?_) #[true, true, true, true, true, true, true, true] rfl rfl (any_of HT_.out (by kernel_rfl)) (fun _ _ _ h => h) (Or.inl ⟨by rfl, ?_⟩) ?_ ?_
        rotate_left
        ·
         intro w'
         go_simp
         with_reducible rfl
        rotate_left
        ·
         simp only [Act.put, sA_, sZ_, sS_, i64_w, i32_w]
         rfl
        refine done_ (done_of HT_.out (by kernel_rfl)) ?_
        try go_wp2
        go_ret
        exact ⟨by first | rfl | (simp [errW_none, errW_some] <;> rfl) | (simp [*, errW_none, errW_some] <;> rfl), bw_⟩
       ·
        rw [if_neg c18] at H
        have c18b0 : (t131 == (wrap64 ((wrap64 (bt a0 11)) - 48))) = false := q4_ c18
        have c18b1 : (t131 != (wrap64 ((wrap64 (bt a0 11)) - 48))) = true := q2_ c18
        obtain rfl := Option.some.inj H
        try go_wp2
        have n0_ := A_ (b1_ HB.out)
        clear HB
        have HB := n0_
        clear n0_
        have p17 : 0 ≤ (11 : Int) := (by omega)
        have q17 : 11 < a0.size := (by have : (11 : Int) < (a0.size : Int) := od_ (by first | (with_reducible assumption) | assumption); omega)
        have hx17 : ∀ h : 11 < a0.size, ((a0[11]'h).toNat : Int) = bt a0 11 := bt_at a0 11
        clear p17
        have qi17 : (11 < (a0.size : Int)) = True := eq_true (od_ (by first | (with_reducible assumption) | assumption))
        replace q17 := eq_true q17
        refine start_ (n := 8) (S := fun w' => True) (ds := []) #[false, false, false, false, false, false, false, false] (by kernel_rfl) rfl rfl trivial (fun hHeld => ?_); refine with_tabW clevisref02_Isin.tab3 clevisref02_Isin.bits3 (fun HT_ HW_ => ?_)
        generalize wc.drew = w21 at HB hHeld ⊢
        refine pure_ (i := 0) (N := some 18) (v := ?_) (a' := ?_) #[true, false, false, false, false, false, false, false] rfl rfl (any_of HT_.out (by kernel_rfl)) (fun _ _ _ h => h) (Or.inl ⟨by rfl, ?_⟩) ?_ ?_
        rotate_left
        ·
         intro w'
         go_simp
         with_reducible rfl
        rotate_left
        ·
         simp only [Act.put, sA_, sZ_, sS_, i64_w, i32_w]
         rfl
        refine pure_ (i := 1) (N := some 19) (v := ?_) (a' := ?_) #[true, true, false, false, false, false, false, false] rfl rfl (any_of HT_.out (by kernel_rfl)) (fun _ _ _ h => h) (Or.inl ⟨by rfl, ?_⟩) ?_ ?_
        rotate_left
        ·
         intro w'
         go_simp
         with_reducible rfl
        rotate_left
        ·
         simp only [Act.put, sA_, sZ_, sS_, i64_w, i32_w]
         rfl
        refine pure_ (i := 3) (N := some 21) (v := ?_) (a' := ?_) #[true, true, false, true, false, false, false, false] rfl rfl (any_of HT_.out (by kernel_rfl)) (fun _ _ _ h => h) (Or.inl ⟨by rfl, ?_⟩) ?_ ?_
        rotate_left
        ·
         intro w'
         go_simp
         with_reducible rfl
        rotate_left
        ·
         simp only [Act.put, sA_, sZ_, sS_, i64_w, i32_w]
         rfl
        refine take_ (i := 4) (N := some 22) (v := ?_) (a' := ?_) #[true, true, false, true, true, false, false, false] rfl rfl (take_ofW HT_.out HW_.out (by kernel_rfl)) (fun _ _ _ h => h) (Or.inl ⟨by rfl, ?_⟩) hHeld ?_ ?_
        rotate_left
        ·
         intro w' _
         go_simp
         with_reducible rfl
        rotate_left
        ·
         simp only [Act.put, sA_, sZ_, sS_, i64_w, i32_w]
         rfl
        refine pure_ (i := 5) (N := some 23) (v := ?_) (a' := ?_) #[true, true, false, true, true, true, false, false] rfl rfl (any_of HT_.out (by kernel_rfl)) (fun _ _ _ h => h) (Or.inl ⟨by rfl, ?_⟩) ?_ ?_
        rotate_left
        ·
         intro w'
         go_simp
         with_reducible rfl
        rotate_left
        ·
         simp only [Act.put, sA_, sZ_, sS_, i64_w, i32_w]
         rfl
        refine pure_ (i := 6) (N := some 24) (v := ?_) (a' := ?_) #[true, true, false, true, true, true, true, false] rfl rfl (any_of HT_.out (by kernel_rfl)) (fun _ _ _ h => h) (Or.inl ⟨by rfl, ?_⟩) ?_ ?_
        rotate_left
        ·
         intro w'
         go_simp
         with_reducible rfl
        rotate_left
        ·
         simp only [Act.put, sA_, sZ_, sS_, i64_w, i32_w]
         rfl
        refine one_ (i := 2) (N := some 20) #[true, true, true, true, true, true, true, false] rfl rfl (one_of HT_.out (by kernel_rfl)) (by decide) (fun K hK => ?_)
        refine goes_ Try.func42 (by kernel_rfl) rfl #[.string (a0.extract 0 11)] (by rfl) rfl rfl (by (try simp only [List.map_toArray, List.map_cons, List.map_nil]); first | done | rfl | (simp only [List.length_drop, List.length_take]; rfl)) ?_
        with_reducible refine (clevisref02_Digit.calls kj1 (a0.extract 0 11) t131 _ A15.out).mono ?_
        rintro e w22 ⟨rfl, hb⟩
        refine ⟨_, rfl, ?_⟩
        have n0_ := A_ (bs_ bw_ hb)
        clear HB
        have HB := n0_
        clear n0_
        (try clear hb)
        (try clear hb2)
        (try clear hk)
        (try clear hi)
        refine hK.out _ _ trivial (fun hHeld => ?_)
        clear hK K
        refine norm_ (a' := ?_) ?_ ?_
        rotate_left
        ·
         show Act.put _ (some 20) _ = _
         simp only [Act.put, sA_, sZ_, sS_, i64_w, i32_w]
         rfl
        refine pure_ (i := 7) (N := some 25) (v := ?_) (a' := ?_) #[true, true, true, true, true, true, true, true] rfl rfl (any_of HT_.out (by kernel_rfl)) (fun _ _ _ h => h) (Or.inl ⟨by rfl, ?_⟩) ?_ ?_
        rotate_left
        ·
         intro w'
         go_simp
         with_reducible rfl
        rotate_left
        ·
         simp only [Act.put, sA_, sZ_, sS_, i64_w, i32_w]
         rfl
        refine done_ (done_of HT_.out (by kernel_rfl)) ?_
        try go_wp2
        go_ret
        exact ⟨by first | rfl | (simp [errW_none, errW_some] <;> rfl) | (simp [*, errW_none, errW_some] <;> rfl), bw_⟩
      ·
       rw [if_neg c16] at H
       exact absurd H (by simp)
     ·
      rw [if_neg c14] at H
      exact absurd H (by simp)
    ·
     rw [if_neg c13] at H
     exact absurd H (by simp)
end Go.Proofs.Ytcbpmmcpidfllaa.Ro
end
section
namespace Go.Proofs.Ytcbpmmcpidfllaa.Ro
open Go.RowKit Go.Proofs.YtcbpmmcpidfllaaW.PrintWords Go.Proofs.YtcbpmmcpidfllaaW.PrintLast Go.Proofs.YtcbpmmcpidfllaaW.PrintMore
attribute [local go_sem] max2_int min2_int max_two min_two max_three min_three max_four min_four   -- for this text's walks alone
set_option linter.unusedVariables false
set_option linter.unusedSimpArgs false
mutual
def clevisref02_Member.j0 : Nat → ByteArray → Bool → Option (Int)
 | 0, _, _ => none
 | k + 1, x0, x17 => if x17 = true then (some 3) else (clevisref02_Member.l0 k x0 0)
def clevisref02_Member.l0 : Nat → ByteArray → Int → Option (Int)
 | 0, _, _ => none
 | k + 1, x0, x3 => if x3 < (x0.size : Int) then (if 0 ≤ x3 then ((clevisref02_letter.f (bt x0 x3) 97).bind fun t133 => (if t133 = true then (clevisref02_Member.l0 k x0 (wrap64 (x3 + 1))) else ((clevisref02_digit.f (bt x0 x3)).bind fun t134 => (if t134 = true then (clevisref02_Member.l0 k x0 (wrap64 (x3 + 1))) else (some 3))))) else (none)) else (some 0)
end
def clevisref02_Member.f (k : Nat) (a0 : ByteArray) : Option (Int) := if (a0.size : Int) < 1 then (clevisref02_Member.j0 k a0 true) else (if (a0.size : Int) > 8 then (clevisref02_Member.j0 k a0 true) else (if 0 < (a0.size : Int) then ((clevisref02_letter.f (bt a0 0) 97).bind fun t132 => (clevisref02_Member.j0 k a0 (!t132))) else (none)))
theorem clevisref02_Member.mono_l : ∀ k, (∀ y0 y1, LeO (clevisref02_Member.j0 k y0 y1) (clevisref02_Member.j0 (k + 1) y0 y1)) ∧ (∀ y0 y1, LeO (clevisref02_Member.l0 k y0 y1) (clevisref02_Member.l0 (k + 1) y0 y1))
 | 0 => ⟨fun _ _ r h => by simp [clevisref02_Member.j0] at h, fun _ _ r h => by simp [clevisref02_Member.l0] at h⟩
 | k + 1 => by
  obtain ⟨ih0, ih1⟩ := clevisref02_Member.mono_l k
  refine ⟨?_, ?_⟩
  ·
   intro y0 y1
   unfold clevisref02_Member.j0
   repeat' first
   | (with_reducible exact ih0 _ _)
   | (with_reducible exact ih1 _ _)
   | (with_reducible exact LeO.refl _)
   | (with_reducible exact LeO.none _)
   | (with_reducible refine LeO.ite ?_ ?_)
   | (with_reducible refine LeO.bind ?_ (fun _ => ?_))
   | exact ih0 _ _
   | exact ih1 _ _
   | exact LeO.none _
   | refine LeO.ite ?_ ?_
   | refine LeO.bind ?_ (fun _ => ?_)
  ·
   intro y0 y1
   unfold clevisref02_Member.l0
   repeat' first
   | (with_reducible exact ih0 _ _)
   | (with_reducible exact ih1 _ _)
   | (with_reducible exact LeO.refl _)
   | (with_reducible exact LeO.none _)
   | (with_reducible refine LeO.ite ?_ ?_)
   | (with_reducible refine LeO.bind ?_ (fun _ => ?_))
   | exact ih0 _ _
   | exact ih1 _ _
   | exact LeO.none _
   | refine LeO.ite ?_ ?_
   | refine LeO.bind ?_ (fun _ => ?_)
theorem clevisref02_Member.mono : ∀ a0 k, LeO (clevisref02_Member.f k a0) (clevisref02_Member.f (k + 1) a0) := by
 intro a0 k
 obtain ⟨ih0, ih1⟩ := clevisref02_Member.mono_l k
 unfold clevisref02_Member.f
 repeat' first
   | (with_reducible exact ih0 _ _)
   | (with_reducible exact ih1 _ _)
   | (with_reducible exact LeO.refl _)
   | (with_reducible exact LeO.none _)
   | (with_reducible refine LeO.ite ?_ ?_)
   | (with_reducible refine LeO.bind ?_ (fun _ => ?_))
   | exact ih0 _ _
   | exact ih1 _ _
   | exact LeO.none _
   | refine LeO.ite ?_ ?_
   | refine LeO.bind ?_ (fun _ => ?_)
set_option maxHeartbeats 8000000 in
set_option maxRecDepth 100000 in
theorem clevisref02_Member.calls (k : Nat) (a0 : ByteArray) (r : Int) (w : World) (h : clevisref02_Member.f k a0 = some r) :
  Calls Try.prog 31 #[.string a0] w fun e w' => e = .returned (.int .i64 r) ∧ Drawn0 w w' := by
 have H : (if (a0.size : Int) < 1 then (clevisref02_Member.j0 k a0 true) else (if (a0.size : Int) > 8 then (clevisref02_Member.j0 k a0 true) else (if 0 < (a0.size : Int) then ((clevisref02_letter.f (bt a0 0) 97).bind fun t132 => (clevisref02_Member.j0 k a0 (!t132))) else (none)))) = some r := h
 clear h
 have HC2 := A_ H
 clear H
 go_enter Try.func31, Try.ntmps31
 go_upto_region 1 with (fail)
 go_cut [17] (fun v17 wc => ∃ (kq : Nat) (x17_1 : Bool), v17 = .bool x17_1 ∧ Aside0 (clevisref02_Member.j0 kq a0 x17_1 = some r) ∧ Aside0 (kq ≤ k) ∧ Drawn0 w wc)
 case first =>
  have H := HC2.out
  clear HC2
  by_cases c3 : (a0.size : Int) < 1
  ·
   rw [if_pos c3] at H
   have c3b0 : decide ((a0.size : Int) < 1) = true := decide_eq_true c3
   have c3b1 : decide (a0.size < 1) = true := decide_eq_true (by omega)
   clear c3
   (first | rw [c3b0] | (simp only [i64_w, i32_w]; rw [c3b0]) | skip)
   have H' := A_ H
   clear H
   go_wp2
   go_meet
   case rel => exact ⟨_, (true), (by first | rfl | (simp; done) | (simp [*]; done)), H', ⟨by first | omega | exact Nat.le_refl _⟩, by repeat (first | exact Drawn0.refl _ | apply Drawn0.step)⟩
  ·
   rw [if_neg c3] at H
   have c3b0 : decide ((a0.size : Int) < 1) = false := decide_eq_false c3
   have c3b1 : decide (a0.size < 1) = false := decide_eq_false (by omega)
   clear c3
   (first | rw [c3b0] | (simp only [i64_w, i32_w]; rw [c3b0]) | skip)
   by_cases c4 : (a0.size : Int) > 8
   ·
    rw [if_pos c4] at H
    have c4b0 : decide (8 < (a0.size : Int)) = true := decide_eq_true c4
    have c4b1 : decide (8 < a0.size) = true := decide_eq_true (by omega)
    clear c4
    have H' := A_ H
    clear H
    go_wp2
    go_meet
    case rel => exact ⟨_, (true), (by first | rfl | (simp; done) | (simp [*]; done)), H', ⟨by first | omega | exact Nat.le_refl _⟩, by repeat (first | exact Drawn0.refl _ | apply Drawn0.step)⟩
   ·
    rw [if_neg c4] at H
    have c4b0 : decide (8 < (a0.size : Int)) = false := decide_eq_false c4
    have c4b1 : decide (8 < a0.size) = false := decide_eq_false (by omega)
    clear c4
    by_cases c5 : 0 < (a0.size : Int)
    ·
     rw [if_pos c5] at H
     have c5b0 : decide (0 < (a0.size : Int)) = true := decide_eq_true c5
     have c5b1 : decide (0 < a0.size) = true := decide_eq_true (by omega)
     clear c5
     replace H := os_ H
     obtain ⟨t132, A70, H⟩ := H
     replace H : (clevisref02_Member.j0 k a0 (!t132)) = some r := H
     have A7 := A_ A70
     clear A70
     have H' := A_ H
     clear H
     have p6 : 0 ≤ (0 : Int) := (by omega)
     have q6 : 0 < a0.size := (by have : (0 : Int) < (a0.size : Int) := od_ (by first | (with_reducible assumption) | assumption); omega)
     have hx6 : ∀ h : 0 < a0.size, ((a0[0]'h).toNat : Int) = bt a0 0 := bt_at a0 0
     clear p6
     have qi6 : (0 < (a0.size : Int)) = True := eq_true (od_ (by first | (with_reducible assumption) | assumption))
     replace q6 := eq_true q6
     go_wp2_with (first | (go_at_call 43; (with_reducible refine (clevisref02_letter.calls (bt a0 0) 97 t132 _ A7.out).mono ?_); rintro e w' ⟨rfl, ⟨nd, rfl⟩⟩))
     go_meet
     case rel => exact ⟨_, (!t132), (by first | rfl | (simp; done) | (simp [*]; done)), H', ⟨by first | omega | exact Nat.le_refl _⟩, by repeat (first | exact Drawn0.refl _ | apply Drawn0.step)⟩
    ·
     rw [if_neg c5] at H
     exact absurd H (by simp)
 case rest =>
  clear HC2
  try clear p2
  try clear c3
  try clear c3b0
  try clear c3b1
  try clear c4
  try clear c4b0
  try clear c4b1
  try clear c5
  try clear c5b0
  try clear c5b1
  try clear p6
  try clear q6
  try clear hx6
  try clear qi6
  try clear p6
  try clear q6
  obtain ⟨kq, x17_1, rfl, HA, HJ1, ⟨mc1, rfl⟩⟩ := hcut
  cases kq with
  | zero => exact absurd HA.out (by simp [clevisref02_Member.j0])
  | succ kj1 =>
   have H := HA.out
   clear HA
   simp only [clevisref02_Member.j0] at H
   by_cases c8 : x17_1 = true
   ·
    subst c8
    have H1 : (some 3) = some r := by rw [if_pos rfl] at H; exact H
    clear H
    have H := H1
    clear H1
    obtain rfl := Option.some.inj H
    go_wp2
    go_ret
    exact ⟨by first | rfl | (simp; done) | (simp [*]; done), by repeat (first | exact Drawn0.refl _ | apply Drawn0.step)⟩
   ·
    replace c8 := Bool.eq_false_iff.mpr c8
    subst c8
    have H1 : (clevisref02_Member.l0 kj1 a0 0) = some r := by rw [if_neg (show ¬ (false = true) by decide)] at H; exact H
    clear H
    have H := H1
    clear H1
    have H' := A_ H
    clear H
    go_wp2
    (try simp only [Act.put, sA_, sZ_, sS_])
    go_loopg [3] kj1 (fun kq v3 w' => ∃ (x3_2 : Int), v3 = .int .i64 x3_2 ∧ Aside0 (clevisref02_Member.l0 kq a0 x3_2 = some r) ∧ Aside0 (kq ≤ kj1) ∧ Drawn0 w w')
    case atStart => exact ⟨(0), (by first | rfl | (simp; done) | (simp [*]; done)), H', ⟨Nat.le_refl _⟩, by repeat (first | exact Drawn0.refl _ | apply Drawn0.step)⟩
    case round =>
     clear H'
     try clear c1
     try clear p2
     try clear c3
     try clear c3b0
     try clear c3b1
     try clear c4
     try clear c4b0
     try clear c4b1
     try clear c5
     try clear c5b0
     try clear c5b1
     try clear p6
     try clear q6
     try clear hx6
     try clear qi6
     try clear c8
     try clear p2
     try clear p6
     try clear q6
     obtain ⟨x3_2, rfl, HA, HK2, ⟨m2, rfl⟩⟩ := hrel
     cases gk with
     | zero => exact absurd HA.out (by simp [clevisref02_Member.l0])
     | succ k2 =>
      have H := HA.out
      clear HA
      simp only [clevisref02_Member.l0] at H
      by_cases c9 : x3_2 < (a0.size : Int)
      ·
       rw [if_pos c9] at H
       have c9b0 : decide (x3_2 < (a0.size : Int)) = true := decide_eq_true c9
       clear c9
       by_cases c10 : 0 ≤ x3_2
       ·
        rw [if_pos c10] at H
        have c10b0 : decide (0 ≤ x3_2) = true := decide_eq_true c10
        clear c10
        replace H := os_ H
        obtain ⟨t133, A120, H⟩ := H
        replace H : (if t133 = true then (clevisref02_Member.l0 k2 a0 (wrap64 (x3_2 + 1))) else ((clevisref02_digit.f (bt a0 x3_2)).bind fun t134 => (if t134 = true then (clevisref02_Member.l0 k2 a0 (wrap64 (x3_2 + 1))) else (some 3)))) = some r := H
        have A12 := A_ A120
        clear A120
        by_cases c13 : t133 = true
        ·
         subst c13
         have H1 : (clevisref02_Member.l0 k2 a0 (wrap64 (x3_2 + 1))) = some r := by rw [if_pos rfl] at H; exact H
         clear H
         have H := H1
         clear H1
         have H' := A_ H
         clear H
         have p11 : 0 ≤ (x3_2 : Int) := od_ (by first | (with_reducible assumption) | assumption)
         have q11 : x3_2 < (a0.size : Int) := od_ (by first | (with_reducible assumption) | assumption)
         have hx11 := bt_at a0 x3_2
         replace p11 := eq_true p11
         replace q11 := eq_true q11
         go_wp2_with (first | ((with_reducible refine gate_callee (f := 43) rfl ?_); refine goesL_ (some 27) rfl rfl Try.func43 (by kernel_rfl) rfl #[.int .u8 (bt a0 x3_2), .int .u8 97] rfl (by (try simp only [List.map_toArray, List.map_cons, List.map_nil]); first | done | rfl | (simp only [List.length_drop, List.length_take]; rfl)) ?_; (with_reducible refine (clevisref02_letter.calls (bt a0 x3_2) 97 true _ A12.out).mono ?_); rintro e w' ⟨rfl, ⟨nd, rfl⟩⟩; refine ⟨_, rfl, ?_⟩))
         go_roundg k2
         case measure => have := HJ1.out; have := HK2.out; omega
         case rel => exact ⟨(wrap64 (x3_2 + 1)), (by first | rfl | (simp; done) | (simp [*]; done)), H', ⟨by have := HJ1.out; have := HK2.out; omega⟩, by repeat (first | exact Drawn0.refl _ | apply Drawn0.step)⟩
        ·
         replace c13 := Bool.eq_false_iff.mpr c13
         subst c13
         have H1 : ((clevisref02_digit.f (bt a0 x3_2)).bind fun t134 => (if t134 = true then (clevisref02_Member.l0 k2 a0 (wrap64 (x3_2 + 1))) else (some 3))) = some r := by rw [if_neg (show ¬ (false = true) by decide)] at H; exact H
         clear H
         have H := H1
         clear H1
         replace H := os_ H
         obtain ⟨t134, A150, H⟩ := H
         replace H : (if t134 = true then (clevisref02_Member.l0 k2 a0 (wrap64 (x3_2 + 1))) else (some 3)) = some r := H
         have A15 := A_ A150
         clear A150
         by_cases c16 : t134 = true
         ·
          subst c16
          have H1 : (clevisref02_Member.l0 k2 a0 (wrap64 (x3_2 + 1))) = some r := by rw [if_pos rfl] at H; exact H
          clear H
          have H := H1
          clear H1
          have H' := A_ H
          clear H
          have p11 : 0 ≤ (x3_2 : Int) := od_ (by first | (with_reducible assumption) | assumption)
          have q11 : x3_2 < (a0.size : Int) := od_ (by first | (with_reducible assumption) | assumption)
          have hx11 := bt_at a0 x3_2
          replace p11 := eq_true p11
          replace q11 := eq_true q11
          go_wp2_with (first | ((with_reducible refine gate_callee (f := 43) rfl ?_); refine goesL_ (some 27) rfl rfl Try.func43 (by kernel_rfl) rfl #[.int .u8 (bt a0 x3_2), .int .u8 97] rfl (by (try simp only [List.map_toArray, List.map_cons, List.map_nil]); first | done | rfl | (simp only [List.length_drop, List.length_take]; rfl)) ?_; (with_reducible refine (clevisref02_letter.calls (bt a0 x3_2) 97 false _ A12.out).mono ?_); rintro e w' ⟨rfl, ⟨nd, rfl⟩⟩; refine ⟨_, rfl, ?_⟩; have p14 : 0 ≤ (x3_2 : Int) := od_ (by first | (with_reducible assumption) | assumption); have q14 : x3_2 < (a0.size : Int) := od_ (by first | (with_reducible assumption) | assumption); have hx14 := bt_at a0 x3_2; replace p14 := eq_true p14; replace q14 := eq_true q14) | (go_at_call 41; (with_reducible refine (clevisref02_digit.calls (bt a0 x3_2) true _ A15.out).mono ?_); rintro e w' ⟨rfl, ⟨nd, rfl⟩⟩))
          go_roundg k2
          case measure => have := HJ1.out; have := HK2.out; omega
          case rel => exact ⟨(wrap64 (x3_2 + 1)), (by first | rfl | (simp; done) | (simp [*]; done)), H', ⟨by have := HJ1.out; have := HK2.out; omega⟩, by repeat (first | exact Drawn0.refl _ | apply Drawn0.step)⟩
         ·
          replace c16 := Bool.eq_false_iff.mpr c16
          subst c16
          have H1 : (some 3) = some r := by rw [if_neg (show ¬ (false = true) by decide)] at H; exact H
          clear H
          have H := H1
          clear H1
          obtain rfl := Option.some.inj H
          have p11 : 0 ≤ (x3_2 : Int) := od_ (by first | (with_reducible assumption) | assumption)
          have q11 : x3_2 < (a0.size : Int) := od_ (by first | (with_reducible assumption) | assumption)
          have hx11 := bt_at a0 x3_2
          replace p11 := eq_true p11
          replace q11 := eq_true q11
          go_wp2_with (first | ((with_reducible refine gate_callee (f := 43) rfl ?_); refine goesL_ (some 27) rfl rfl Try.func43 (by kernel_rfl) rfl #[.int .u8 (bt a0 x3_2), .int .u8 97] rfl (by (try simp only [List.map_toArray, List.map_cons, List.map_nil]); first | done | rfl | (simp only [List.length_drop, List.length_take]; rfl)) ?_; (with_reducible refine (clevisref02_letter.calls (bt a0 x3_2) 97 false _ A12.out).mono ?_); rintro e w' ⟨rfl, ⟨nd, rfl⟩⟩; refine ⟨_, rfl, ?_⟩; have p14 : 0 ≤ (x3_2 : Int) := od_ (by first | (with_reducible assumption) | assumption); have q14 : x3_2 < (a0.size : Int) := od_ (by first | (with_reducible assumption) | assumption); have hx14 := bt_at a0 x3_2; replace p14 := eq_true p14; replace q14 := eq_true q14) | (go_at_call 41; (with_reducible refine (clevisref02_digit.calls (bt a0 x3_2) false _ A15.out).mono ?_); rintro e w' ⟨rfl, ⟨nd, rfl⟩⟩))
          go_ret
          exact ⟨by first | rfl | (simp; done) | (simp [*]; done), by repeat (first | exact Drawn0.refl _ | apply Drawn0.step)⟩
       ·
        rw [if_neg c10] at H
        exact absurd H (by simp)
      ·
       rw [if_neg c9] at H
       have c9b0 : decide (x3_2 < (a0.size : Int)) = false := decide_eq_false c9
       clear c9
       obtain rfl := Option.some.inj H
       go_wp2
       go_ret
       exact ⟨by first | rfl | (simp; done) | (simp [*]; done), by repeat (first | exact Drawn0.refl _ | apply Drawn0.step)⟩
end Go.Proofs.Ytcbpmmcpidfllaa.Ro
end
section
namespace Go.Proofs.Ytcbpmmcpidfllaa.Ro
open Go.RowKit Go.Proofs.YtcbpmmcpidfllaaW.PrintWords Go.Proofs.YtcbpmmcpidfllaaW.PrintLast Go.Proofs.YtcbpmmcpidfllaaW.PrintMore
attribute [local go_sem] max2_int min2_int max_two min_two max_three min_three max_four min_four   -- for this text's walks alone
set_option linter.unusedVariables false
set_option linter.unusedSimpArgs false
def ident_digit.f (a0 : Int) : Option (Bool) := if a0 ≥ 48 then (some (decide (a0 ≤ 57))) else (some false)
set_option maxHeartbeats 8000000 in
set_option maxRecDepth 100000 in
theorem ident_digit.calls (a0 : Int) (r : Bool) (w : World) (h : ident_digit.f a0 = some r) :
  Calls Try.prog 64 #[.int .u8 a0] w fun e w' => e = .returned (.bool r) ∧ Drawn0 w w' := by
 have H : (if a0 ≥ 48 then (some (decide (a0 ≤ 57))) else (some false)) = some r := h
 clear h
 by_cases c2 : a0 ≥ 48
 ·
  rw [if_pos c2] at H
  have c2b0 : decide (48 ≤ a0) = true := decide_eq_true c2
  clear c2
  obtain rfl := Option.some.inj H
  go_enter Try.func64, Try.ntmps64
  go_wp2
  go_ret
  exact ⟨by first | rfl | (simp; done) | (simp [*]; done), by repeat (first | exact Drawn0.refl _ | apply Drawn0.step)⟩
 ·
  rw [if_neg c2] at H
  have c2b0 : decide (48 ≤ a0) = false := decide_eq_false c2
  clear c2
  obtain rfl := Option.some.inj H
  go_enter Try.func64, Try.ntmps64
  go_wp2
  go_ret
  exact ⟨by first | rfl | (simp; done) | (simp [*]; done), by repeat (first | exact Drawn0.refl _ | apply Drawn0.step)⟩
end Go.Proofs.Ytcbpmmcpidfllaa.Ro
end
section
namespace Go.Proofs.Ytcbpmmcpidfllaa.Ro
open Go.RowKit Go.Proofs.YtcbpmmcpidfllaaW.PrintWords Go.Proofs.YtcbpmmcpidfllaaW.PrintLast Go.Proofs.YtcbpmmcpidfllaaW.PrintMore
attribute [local go_sem] max2_int min2_int max_two min_two max_three min_three max_four min_four   -- for this text's walks alone
set_option linter.unusedVariables false
set_option linter.unusedSimpArgs false
def ident_great.f (a0 : Int) : Option (Bool) := if a0 ≥ 65 then (some (decide (a0 ≤ 90))) else (some false)
set_option maxHeartbeats 8000000 in
set_option maxRecDepth 100000 in
theorem ident_great.calls (a0 : Int) (r : Bool) (w : World) (h : ident_great.f a0 = some r) :
  Calls Try.prog 76 #[.int .u8 a0] w fun e w' => e = .returned (.bool r) ∧ Drawn0 w w' := by
 have H : (if a0 ≥ 65 then (some (decide (a0 ≤ 90))) else (some false)) = some r := h
 clear h
 by_cases c2 : a0 ≥ 65
 ·
  rw [if_pos c2] at H
  have c2b0 : decide (65 ≤ a0) = true := decide_eq_true c2
  clear c2
  obtain rfl := Option.some.inj H
  go_enter Try.func76, Try.ntmps76
  go_wp2
  go_ret
  exact ⟨by first | rfl | (simp; done) | (simp [*]; done), by repeat (first | exact Drawn0.refl _ | apply Drawn0.step)⟩
 ·
  rw [if_neg c2] at H
  have c2b0 : decide (65 ≤ a0) = false := decide_eq_false c2
  clear c2
  obtain rfl := Option.some.inj H
  go_enter Try.func76, Try.ntmps76
  go_wp2
  go_ret
  exact ⟨by first | rfl | (simp; done) | (simp [*]; done), by repeat (first | exact Drawn0.refl _ | apply Drawn0.step)⟩
end Go.Proofs.Ytcbpmmcpidfllaa.Ro
end
section
namespace Go.Proofs.Ytcbpmmcpidfllaa.Ro
open Go.RowKit Go.Proofs.YtcbpmmcpidfllaaW.PrintWords Go.Proofs.YtcbpmmcpidfllaaW.PrintLast Go.Proofs.YtcbpmmcpidfllaaW.PrintMore
attribute [local go_sem] max2_int min2_int max_two min_two max_three min_three max_four min_four   -- for this text's walks alone
set_option linter.unusedVariables false
set_option linter.unusedSimpArgs false
def ident_body.l0 : Nat → List Int → Int → Int → Option (Bool)
 | 0, _, _, _ => none
 | k + 1, x9, x10, x11 => if x11 < x10 then (if 0 ≤ x11 then (if x11 < (x9.length : Int) then ((ident_great.f (rd x9 x11)).bind fun t105 => (if t105 = true then (ident_body.l0 k x9 x10 (wrap64 (x11 + 1))) else (if x11 < 2 then (some false) else ((ident_digit.f (rd x9 x11)).bind fun t106 => (if t106 = true then (ident_body.l0 k x9 x10 (wrap64 (x11 + 1))) else (some false)))))) else (none)) else (none)) else (some true)
def ident_body.f (k : Nat) (a0 : ByteArray) : Option (Bool) := if (a0.size : Int) = 11 then (if a0.size ≤ 9223372036854775807 then ((some (bytesOf a0 : List Int)).bind fun y101 => (ident_body.l0 k y101 (y101.length : Int) 0)) else (none)) else (some false)
set_option maxHeartbeats 8000000 in
set_option maxRecDepth 100000 in
theorem ident_body.calls (k : Nat) (a0 : ByteArray) (r : Bool) (w : World) (h : ident_body.f k a0 = some r) :
  Calls Try.prog 72 #[.string a0] w fun e w' => e = .returned (.bool r) ∧ Below w.heap.size w w' := by
 have HB := A_ (Below.refl w.heap.size w)
 have H : (if (a0.size : Int) = 11 then (if a0.size ≤ 9223372036854775807 then ((some (bytesOf a0 : List Int)).bind fun y101 => (ident_body.l0 k y101 (y101.length : Int) 0)) else (none)) else (some false)) = some r := h
 clear h
 by_cases c2 : (a0.size : Int) = 11
 ·
  rw [if_pos c2] at H
  have c2b0 : ((a0.size : Int) == 11) = true := q1_ c2
  have c2b1 : ((a0.size : Int) != 11) = false := q3_ c2
  clear c2
  by_cases c3 : a0.size ≤ 9223372036854775807
  ·
   rw [if_pos c3] at H
   have c3b0 := eq_true c3
   have c3b1 : decide (a0.size ≤ 9223372036854775807) = true := decide_eq_true c3
   try have c3b2 : (9223372036854775807 < a0.size) = False := eq_false (Nat.not_lt.2 c3)
   clear c3
   obtain ⟨y101, hy101⟩ : ∃ y_ : List Int, y_ = (bytesOf a0) := ⟨_, rfl⟩
   replace H : (ident_body.l0 k y101 (y101.length : Int) 0) = some r := by first | (rw [hy101]; with_reducible exact H) | (have H2_ := (Option.bind_some _ _).symm.trans H; rw [hy101]; with_reducible exact H2_) | (have H2_ := (Option.bind_some _ _).symm.trans H; with_reducible exact H2_) | with_reducible exact H | (rw [hy101]; exact H) | exact H
   have Ny101 := A_ hy101
   clear hy101
   have H' := A_ H
   clear H
   go_enter Try.func72, Try.ntmps72
   go_wp2_with (first | ((with_reducible refine gate_dst (N := 9) rfl ?_); refine conv_event _ 5 ?hg (N := 9) ?hd a0 (od_ (by first | (with_reducible assumption) | assumption)) ?hr (Below.refl _ _) (Nat.le_refl _) ?_; (case hd => rfl); (case hg => rfl); (case hr => have kb_ := fun W_ => print_bytes (P := Try.prog) 9 116 5 Try.underlying9 Try.underlying116 Try.underlying5 a0 W_; first | (go_simp; done) | (go_simp; rfl)); intro v102 w4 ho5 hb hg_ hnew_; clear hg_ hnew_; (first | rw [← Ny101.out] at ho5 | (simp only [Int.reduceToNat] at ho5; rw [← Ny101.out] at ho5)); have n0_ := A_ (Kd.V_lower (vm_ (ok' := fun k_ => True) ho5 (fun k_ hk_ => trivial)) (bz_ bw_)); have n1_ := A_ (bs_ bw_ hb); clear HB; have HO103 := n0_; have HB := n1_; clear n0_ n1_; clear hb ho5; obtain ⟨Ao6, co6, eo6⟩ := Kd.V_slice HO103.out; subst eo6))
   (try simp only [Act.put, sA_, sZ_, sS_])
   go_loopg [11] k (fun kq v11 w' => ∃ (x11_1 : Int), v11 = .int .i64 x11_1 ∧ Aside0 (ident_body.l0 kq y101 (y101.length : Int) x11_1 = some r) ∧ Aside0 (kq ≤ k) ∧ Aside0 (Kd.V (Kd.int .u8) 5 w' w.heap.size (fun _ => True) (.slice Ao6 y101.length co6) y101) ∧ Aside0 (Below w.heap.size w w'))
   case atStart => exact ⟨(0), (by first | rfl | (simp; done) | (simp [*]; done)), H', ⟨Nat.le_refl _⟩, ⟨by (with_reducible repeat (first | apply va_ | apply vn_ | apply vd_)); exact HO103.out⟩, ⟨bw_⟩⟩
   case round =>
    clear H'
    try clear c2
    try clear c2b0
    try clear c2b1
    try clear p2
    try clear c3
    try clear c3b0
    try clear c3b1
    try clear c3b2
    obtain ⟨x11_1, rfl, HA, HK1, HO_9, HB⟩ := hrel
    cases gk with
    | zero => exact absurd HA.out (by simp [ident_body.l0])
    | succ k1 =>
     have H := HA.out
     clear HA
     simp only [ident_body.l0] at H
     by_cases c7 : x11_1 < (y101.length : Int)
     ·
      rw [if_pos c7] at H
      have c7b0 : decide (x11_1 < (y101.length : Int)) = true := decide_eq_true c7
      clear c7
      by_cases c8 : 0 ≤ x11_1
      ·
       rw [if_pos c8] at H
       have c8b0 : decide (0 ≤ x11_1) = true := decide_eq_true c8
       clear c8
       by_cases c9 : x11_1 < (y101.length : Int)
       ·
        rw [if_pos c9] at H
        have c9b0 : decide (x11_1 < (y101.length : Int)) = true := decide_eq_true c9
        clear c9
        replace H := os_ H
        obtain ⟨t105, A100, H⟩ := H
        replace H : (if t105 = true then (ident_body.l0 k1 y101 (y101.length : Int) (wrap64 (x11_1 + 1))) else (if x11_1 < 2 then (some false) else ((ident_digit.f (rd y101 x11_1)).bind fun t106 => (if t106 = true then (ident_body.l0 k1 y101 (y101.length : Int) (wrap64 (x11_1 + 1))) else (some false))))) = some r := H
        have A10 := A_ A100
        clear A100
        by_cases c11 : t105 = true
        ·
         subst c11
         have H1 : (ident_body.l0 k1 y101 (y101.length : Int) (wrap64 (x11_1 + 1))) = some r := by rw [if_pos rfl] at H; exact H
         clear H
         have H := H1
         clear H1
         have H' := A_ H
         clear H
         have p104 : 0 ≤ (x11_1 : Int) := od_ (by first | (with_reducible assumption) | assumption)
         have q104 : x11_1 < (y101.length : Int) := od_ (by first | (with_reducible assumption) | assumption)
         obtain ⟨ad104, e104, hx104_0⟩ := Kd.at_int (Kd.V_reads' HO_9.out).2.2 x11_1 p104 q104
         cases e104
         replace p104 := eq_true p104
         replace q104 := eq_true q104
         go_wp2_with (first | ((with_reducible refine gate_callee (f := 76) rfl ?_); refine goesL_ (some 17) rfl rfl Try.func76 (by kernel_rfl) rfl #[.int .u8 (rd y101 x11_1)] rfl (by (try simp only [List.map_toArray, List.map_cons, List.map_nil]); first | done | rfl | (simp only [List.length_drop, List.length_take]; rfl)) ?_; (with_reducible refine (ident_great.calls (rd y101 x11_1) true _ A10.out).mono ?_); rintro e w' ⟨rfl, ⟨nd, rfl⟩⟩; refine ⟨_, rfl, ?_⟩))
         go_roundg k1
         case measure => have := HK1.out; omega
         case rel => exact ⟨(wrap64 (x11_1 + 1)), (by first | rfl | (simp; done) | (simp [*]; done)), H', ⟨by have := HK1.out; omega⟩, ⟨by (with_reducible repeat (first | apply va_ | apply vn_ | apply vd_)); exact HO_9.out⟩, ⟨bw_⟩⟩
        ·
         replace c11 := Bool.eq_false_iff.mpr c11
         subst c11
         have H1 : (if x11_1 < 2 then (some false) else ((ident_digit.f (rd y101 x11_1)).bind fun t106 => (if t106 = true then (ident_body.l0 k1 y101 (y101.length : Int) (wrap64 (x11_1 + 1))) else (some false)))) = some r := by rw [if_neg (show ¬ (false = true) by decide)] at H; exact H
         clear H
         have H := H1
         clear H1
         by_cases c12 : x11_1 < 2
         ·
          rw [if_pos c12] at H
          have c12b0 : decide (x11_1 < 2) = true := decide_eq_true c12
          clear c12
          obtain rfl := Option.some.inj H
          have p104 : 0 ≤ (x11_1 : Int) := od_ (by first | (with_reducible assumption) | assumption)
          have q104 : x11_1 < (y101.length : Int) := od_ (by first | (with_reducible assumption) | assumption)
          obtain ⟨ad104, e104, hx104_0⟩ := Kd.at_int (Kd.V_reads' HO_9.out).2.2 x11_1 p104 q104
          cases e104
          replace p104 := eq_true p104
          replace q104 := eq_true q104
          go_wp2_with (first | ((with_reducible refine gate_callee (f := 76) rfl ?_); refine goesL_ (some 17) rfl rfl Try.func76 (by kernel_rfl) rfl #[.int .u8 (rd y101 x11_1)] rfl (by (try simp only [List.map_toArray, List.map_cons, List.map_nil]); first | done | rfl | (simp only [List.length_drop, List.length_take]; rfl)) ?_; (with_reducible refine (ident_great.calls (rd y101 x11_1) false _ A10.out).mono ?_); rintro e w' ⟨rfl, ⟨nd, rfl⟩⟩; refine ⟨_, rfl, ?_⟩))
          go_ret
          exact ⟨by first | rfl | (simp [errW_none, errW_some] <;> rfl) | (simp [*, errW_none, errW_some] <;> rfl), bw_⟩
         ·
          rw [if_neg c12] at H
          have c12b0 : decide (x11_1 < 2) = false := decide_eq_false c12
          clear c12
          replace H := os_ H
          obtain ⟨t106, A130, H⟩ := H
          replace H : (if t106 = true then (ident_body.l0 k1 y101 (y101.length : Int) (wrap64 (x11_1 + 1))) else (some false)) = some r := H
          have A13 := A_ A130
          clear A130
          by_cases c14 : t106 = true
          ·
           subst c14
           have H1 : (ident_body.l0 k1 y101 (y101.length : Int) (wrap64 (x11_1 + 1))) = some r := by rw [if_pos rfl] at H; exact H
           clear H
           have H := H1
           clear H1
           have H' := A_ H
           clear H
           have p104 : 0 ≤ (x11_1 : Int) := od_ (by first | (with_reducible assumption) | assumption)
           have q104 : x11_1 < (y101.length : Int) := od_ (by first | (with_reducible assumption) | assumption)
           obtain ⟨ad104, e104, hx104_0⟩ := Kd.at_int (Kd.V_reads' HO_9.out).2.2 x11_1 p104 q104
           cases e104
           replace p104 := eq_true p104
           replace q104 := eq_true q104
           go_wp2_with (first | ((with_reducible refine gate_callee (f := 76) rfl ?_); refine goesL_ (some 17) rfl rfl Try.func76 (by kernel_rfl) rfl #[.int .u8 (rd y101 x11_1)] rfl (by (try simp only [List.map_toArray, List.map_cons, List.map_nil]); first | done | rfl | (simp only [List.length_drop, List.length_take]; rfl)) ?_; (with_reducible refine (ident_great.calls (rd y101 x11_1) false _ A10.out).mono ?_); rintro e w' ⟨rfl, ⟨nd, rfl⟩⟩; refine ⟨_, rfl, ?_⟩) | (go_at_call 64; (with_reducible refine (ident_digit.calls (rd y101 x11_1) true _ A13.out).mono ?_); rintro e w' ⟨rfl, ⟨nd, rfl⟩⟩))
           go_roundg k1
           case measure => have := HK1.out; omega
           case rel => exact ⟨(wrap64 (x11_1 + 1)), (by first | rfl | (simp; done) | (simp [*]; done)), H', ⟨by have := HK1.out; omega⟩, ⟨by (with_reducible repeat (first | apply va_ | apply vn_ | apply vd_)); exact HO_9.out⟩, ⟨bw_⟩⟩
          ·
           replace c14 := Bool.eq_false_iff.mpr c14
           subst c14
           have H1 : (some false) = some r := by rw [if_neg (show ¬ (false = true) by decide)] at H; exact H
           clear H
           have H := H1
           clear H1
           obtain rfl := Option.some.inj H
           have p104 : 0 ≤ (x11_1 : Int) := od_ (by first | (with_reducible assumption) | assumption)
           have q104 : x11_1 < (y101.length : Int) := od_ (by first | (with_reducible assumption) | assumption)
           obtain ⟨ad104, e104, hx104_0⟩ := Kd.at_int (Kd.V_reads' HO_9.out).2.2 x11_1 p104 q104
           cases e104
           replace p104 := eq_true p104
           replace q104 := eq_true q104
           go_wp2_with (first | ((with_reducible refine gate_callee (f := 76) rfl ?_); refine goesL_ (some 17) rfl rfl Try.func76 (by kernel_rfl) rfl #[.int .u8 (rd y101 x11_1)] rfl (by (try simp only [List.map_toArray, List.map_cons, List.map_nil]); first | done | rfl | (simp only [List.length_drop, List.length_take]; rfl)) ?_; (with_reducible refine (ident_great.calls (rd y101 x11_1) false _ A10.out).mono ?_); rintro e w' ⟨rfl, ⟨nd, rfl⟩⟩; refine ⟨_, rfl, ?_⟩) | (go_at_call 64; (with_reducible refine (ident_digit.calls (rd y101 x11_1) false _ A13.out).mono ?_); rintro e w' ⟨rfl, ⟨nd, rfl⟩⟩))
           go_ret
           exact ⟨by first | rfl | (simp [errW_none, errW_some] <;> rfl) | (simp [*, errW_none, errW_some] <;> rfl), bw_⟩
       ·
        rw [if_neg c9] at H
        exact absurd H (by simp)
      ·
       rw [if_neg c8] at H
       exact absurd H (by simp)
     ·
      rw [if_neg c7] at H
      have c7b0 : decide (x11_1 < (y101.length : Int)) = false := decide_eq_false c7
      clear c7
      obtain rfl := Option.some.inj H
      go_wp2
      go_ret
      exact ⟨by first | rfl | (simp [errW_none, errW_some] <;> rfl) | (simp [*, errW_none, errW_some] <;> rfl), bw_⟩
  ·
   rw [if_neg c3] at H
   exact absurd H (by simp)
 ·
  rw [if_neg c2] at H
  have c2b0 : ((a0.size : Int) == 11) = false := q4_ c2
  have c2b1 : ((a0.size : Int) != 11) = true := q2_ c2
  obtain rfl := Option.some.inj H
  go_enter Try.func72, Try.ntmps72
  go_wp2
  go_ret
  exact ⟨by first | rfl | (simp [errW_none, errW_some] <;> rfl) | (simp [*, errW_none, errW_some] <;> rfl), bw_⟩
end Go.Proofs.Ytcbpmmcpidfllaa.Ro
end
section
namespace Go.Proofs.Ytcbpmmcpidfllaa.Ro
open Go.RowKit Go.Proofs.YtcbpmmcpidfllaaW.PrintWords Go.Proofs.YtcbpmmcpidfllaaW.PrintLast Go.Proofs.YtcbpmmcpidfllaaW.PrintMore
attribute [local go_sem] max2_int min2_int max_two min_two max_three min_three max_four min_four   -- for this text's walks alone
set_option linter.unusedVariables false
set_option linter.unusedSimpArgs false
def ident_Digit.f (a0 : ByteArray) : Option (Int × Int) := (ident_body.f 20 a0).bind fun b => if b = true then some (Ja.ckB (Ja.sumW (Ja.D a0 a0.size)), 0) else some (0, 3)
theorem ident_Digit.size {a0 : ByteArray} (h : ident_body.f 20 a0 = some true) : a0.size = 11 := by
 unfold ident_body.f at h
 by_cases e : (a0.size : Int) = 11
 ·
  omega
 ·
  rw [if_neg e] at h
  exact absurd h (by simp)
theorem ident_Digit.calls (a0 : ByteArray) (r1 : Int) (r2 : Int) (w : World) (h : ident_Digit.f a0 = some (r1, r2)) :
  Calls Try.prog 65 #[.string a0] w fun e w' => e = .returned (.tuple #[.int .u8 r1, .int .i64 r2]) ∧ Below w.heap.size w w' := by
 unfold ident_Digit.f at h
 obtain ⟨b, hb, h⟩ := os_ h
 cases b with
 | true =>
  rw [if_pos rfl] at h
  simp only [Option.some.injEq, Prod.mk.injEq] at h
  obtain ⟨rfl, rfl⟩ := h
  exact Ja.digit_ok a0 (by have := ident_Digit.size hb; omega) (fun w => ident_body.calls 20 a0 true w hb) w
 | false =>
  simp only [Bool.false_eq_true, if_false, Option.some.injEq, Prod.mk.injEq] at h
  obtain ⟨rfl, rfl⟩ := h
  exact Ja.digit_bad a0 (fun w => ident_body.calls 20 a0 false w hb) w
end Go.Proofs.Ytcbpmmcpidfllaa.Ro
end
section
namespace Go.Proofs.Ytcbpmmcpidfllaa.Ro
open Go.RowKit Go.Proofs.YtcbpmmcpidfllaaW.PrintWords Go.Proofs.YtcbpmmcpidfllaaW.PrintLast Go.Proofs.YtcbpmmcpidfllaaW.PrintMore
attribute [local go_sem] max2_int min2_int max_two min_two max_three min_three max_four min_four   -- for this text's walks alone
set_option linter.unusedVariables false
set_option linter.unusedSimpArgs false
def ident_Isin.j0 : Nat → ByteArray → Bool → Option (Int)
 | 0, _, _ => none
 | k + 1, x0, x13 => if x13 = true then (some 3) else (if 0 ≤ 11 then (if 11 ≤ (x0.size : Int) then ((ident_Digit.f (x0.extract 0 11)).bind fun bt108 => (if bt108.2 = 0 then (if 11 < (x0.size : Int) then (if bt108.1 = (bt x0 11) then (some 0) else (some 11)) else (none)) else (some bt108.2))) else (none)) else (none))
def ident_Isin.f (k : Nat) (a0 : ByteArray) : Option (Int) := if (a0.size : Int) = 12 then (if 11 < (a0.size : Int) then ((ident_digit.f (bt a0 11)).bind fun t107 => (ident_Isin.j0 k a0 (!t107))) else (none)) else (ident_Isin.j0 k a0 true)
set_option maxHeartbeats 8000000 in
set_option maxRecDepth 100000 in
theorem ident_Isin.calls (k : Nat) (a0 : ByteArray) (r : Int) (w : World) (h : ident_Isin.f k a0 = some r) :
  Calls Try.prog 53 #[.string a0] w fun e w' => e = .returned (.int .i64 r) ∧ Below w.heap.size w w' := by
 have HB := A_ (Below.refl w.heap.size w)
 have H : (if (a0.size : Int) = 12 then (if 11 < (a0.size : Int) then ((ident_digit.f (bt a0 11)).bind fun t107 => (ident_Isin.j0 k a0 (!t107))) else (none)) else (ident_Isin.j0 k a0 true)) = some r := h
 clear h
 have HC2 := A_ H
 clear H
 go_enter Try.func53, Try.ntmps53
 go_upto_region 1 with (fail)
 go_cut [13] (fun v13 wc => ∃ (kq : Nat) (x13_1 : Bool), v13 = .bool x13_1 ∧ Aside0 (ident_Isin.j0 kq a0 x13_1 = some r) ∧ Aside0 (kq ≤ k) ∧ Aside0 (Below w.heap.size w wc))
 case first =>
  have H := HC2.out
  clear HC2
  by_cases c3 : (a0.size : Int) = 12
  ·
   rw [if_pos c3] at H
   have c3b0 : ((a0.size : Int) == 12) = true := q1_ c3
   have c3b1 : ((a0.size : Int) != 12) = false := q3_ c3
   clear c3
   (first | rw [c3b0] | (simp only [i64_w, i32_w]; rw [c3b0]) | skip)
   by_cases c4 : 11 < (a0.size : Int)
   ·
    rw [if_pos c4] at H
    have c4b0 : decide (11 < (a0.size : Int)) = true := decide_eq_true c4
    have c4b1 : decide (11 < a0.size) = true := decide_eq_true (by omega)
    clear c4
    replace H := os_ H
    obtain ⟨t107, A60, H⟩ := H
    replace H : (ident_Isin.j0 k a0 (!t107)) = some r := H
    have A6 := A_ A60
    clear A60
    have H' := A_ H
    clear H
    have p5 : 0 ≤ (11 : Int) := (by omega)
    have q5 : 11 < a0.size := (by have : (11 : Int) < (a0.size : Int) := od_ (by first | (with_reducible assumption) | assumption); omega)
    have hx5 : ∀ h : 11 < a0.size, ((a0[11]'h).toNat : Int) = bt a0 11 := bt_at a0 11
    clear p5
    have qi5 : (11 < (a0.size : Int)) = True := eq_true (od_ (by first | (with_reducible assumption) | assumption))
    replace q5 := eq_true q5
    go_wp2_with (first | (go_at_call 64; (with_reducible refine (ident_digit.calls (bt a0 11) t107 _ A6.out).mono ?_); rintro e w' ⟨rfl, ⟨nd, rfl⟩⟩))
    go_meet
    case rel => exact ⟨_, (!t107), (by first | rfl | (simp; done) | (simp [*]; done)), H', ⟨by first | omega | exact Nat.le_refl _⟩, ⟨bw_⟩⟩
   ·
    rw [if_neg c4] at H
    exact absurd H (by simp)
  ·
   rw [if_neg c3] at H
   have c3b0 : ((a0.size : Int) == 12) = false := q4_ c3
   have c3b1 : ((a0.size : Int) != 12) = true := q2_ c3
   (first | rw [c3b0] | (simp only [i64_w, i32_w]; rw [c3b0]) | skip)
   have H' := A_ H
   clear H
   go_wp2
   go_meet
   case rel => exact ⟨_, (true), (by first | rfl | (simp; done) | (simp [*]; done)), H', ⟨by first | omega | exact Nat.le_refl _⟩, ⟨bw_⟩⟩
 case rest =>
  clear HC2
  try clear p2
  try clear c3
  try clear c3b0
  try clear c3b1
  try clear c4
  try clear c4b0
  try clear c4b1
  try clear c5
  try clear p5
  try clear q5
  try clear hx5
  try clear qi5
  try clear p5
  try clear q5
  obtain ⟨kq, x13_1, rfl, HA, HJ1, HB⟩ := hcut
  cases kq with
  | zero => exact absurd HA.out (by simp [ident_Isin.j0])
  | succ kj1 =>
   have H := HA.out
   clear HA
   simp only [ident_Isin.j0] at H
   by_cases c7 : x13_1 = true
   ·
    subst c7
    have H1 : (some 3) = some r := by rw [if_pos rfl] at H; exact H
    clear H
    have H := H1
    clear H1
    obtain rfl := Option.some.inj H
    go_wp2
    go_ret
    exact ⟨by first | rfl | (simp [errW_none, errW_some] <;> rfl) | (simp [*, errW_none, errW_some] <;> rfl), bw_⟩
   ·
    replace c7 := Bool.eq_false_iff.mpr c7
    subst c7
    have H1 : (if 0 ≤ 11 then (if 11 ≤ (a0.size : Int) then ((ident_Digit.f (a0.extract 0 11)).bind fun bt108 => (if bt108.2 = 0 then (if 11 < (a0.size : Int) then (if bt108.1 = (bt a0 11) then (some 0) else (some 11)) else (none)) else (some bt108.2))) else (none)) else (none)) = some r := by rw [if_neg (show ¬ (false = true) by decide)] at H; exact H
    clear H
    have H := H1
    clear H1
    by_cases c8 : 0 ≤ 11
    ·
     rw [if_pos c8] at H
     have c8b0 := eq_true c8
     have c8b1 : decide (0 ≤ 11) = true := decide_eq_true c8
     clear c8
     by_cases c9 : 11 ≤ (a0.size : Int)
     ·
      rw [if_pos c9] at H
      have c9b0 := eq_true c9
      have c9b1 : decide (11 ≤ (a0.size : Int)) = true := decide_eq_true c9
      clear c9
      replace H := os_ H
      obtain ⟨⟨t108, t109⟩, A100, H⟩ := H
      replace H : (if t109 = 0 then (if 11 < (a0.size : Int) then (if t108 = (bt a0 11) then (some 0) else (some 11)) else (none)) else (some t109)) = some r := H
      have A10 := A_ A100
      clear A100
      by_cases c11 : t109 = 0
      ·
       rw [if_pos c11] at H
       have c11b0 : (t109 == 0) = true := q1_ c11
       have c11b1 : (t109 != 0) = false := q3_ c11
       clear c11
       by_cases c12 : 11 < (a0.size : Int)
       ·
        rw [if_pos c12] at H
        have c12b0 : decide (11 < (a0.size : Int)) = true := decide_eq_true c12
        have c12b1 : decide (11 < a0.size) = true := decide_eq_true (by omega)
        clear c12
        by_cases c14 : t108 = (bt a0 11)
        ·
         rw [if_pos c14] at H
         have c14b0 : (t108 == (bt a0 11)) = true := q1_ c14
         have c14b1 : (t108 != (bt a0 11)) = false := q3_ c14
         clear c14
         obtain rfl := Option.some.inj H
         go_wp2_with (first | ((with_reducible refine gate_callee (f := 65) rfl ?_); refine goesL_ (some 17) rfl rfl Try.func65 (by kernel_rfl) rfl #[.string (a0.extract 0 11)] rfl (by (try simp only [List.map_toArray, List.map_cons, List.map_nil]); first | done | rfl | (simp only [List.length_drop, List.length_take]; rfl)) ?_; (with_reducible refine (ident_Digit.calls (a0.extract 0 11) t108 t109 _ A10.out).mono ?_); rintro e w15 ⟨rfl, hb⟩; refine ⟨_, rfl, ?_⟩; have n0_ := A_ (bs_ bw_ hb); clear HB; have HB := n0_; clear n0_; (try clear hb); (try clear hb2); (try clear hk); (try clear hi); have p13 : 0 ≤ (11 : Int) := (by omega); have q13 : 11 < a0.size := (by have : (11 : Int) < (a0.size : Int) := od_ (by first | (with_reducible assumption) | assumption); omega); have hx13 : ∀ h : 11 < a0.size, ((a0[11]'h).toNat : Int) = bt a0 11 := bt_at a0 11; clear p13; have qi13 : (11 < (a0.size : Int)) = True := eq_true (od_ (by first | (with_reducible assumption) | assumption)); replace q13 := eq_true q13))
         go_ret
         exact ⟨by first | rfl | (simp [errW_none, errW_some] <;> rfl) | (simp [*, errW_none, errW_some] <;> rfl), bw_⟩
        ·
         rw [if_neg c14] at H
         have c14b0 : (t108 == (bt a0 11)) = false := q4_ c14
         have c14b1 : (t108 != (bt a0 11)) = true := q2_ c14
         obtain rfl := Option.some.inj H
         go_wp2_with (first | ((with_reducible refine gate_callee (f := 65) rfl ?_); refine goesL_ (some 17) rfl rfl Try.func65 (by kernel_rfl) rfl #[.string (a0.extract 0 11)] rfl (by (try simp only [List.map_toArray, List.map_cons, List.map_nil]); first | done | rfl | (simp only [List.length_drop, List.length_take]; rfl)) ?_; (with_reducible refine (ident_Digit.calls (a0.extract 0 11) t108 t109 _ A10.out).mono ?_); rintro e w16 ⟨rfl, hb⟩; refine ⟨_, rfl, ?_⟩; have n0_ := A_ (bs_ bw_ hb); clear HB; have HB := n0_; clear n0_; (try clear hb); (try clear hb2); (try clear hk); (try clear hi); have p13 : 0 ≤ (11 : Int) := (by omega); have q13 : 11 < a0.size := (by have : (11 : Int) < (a0.size : Int) := od_ (by first | (with_reducible assumption) | assumption); omega); have hx13 : ∀ h : 11 < a0.size, ((a0[11]'h).toNat : Int) = bt a0 11 := bt_at a0 11; clear p13; have qi13 : (11 < (a0.size : Int)) = True := eq_true (od_ (by first | (with_reducible assumption) | assumption)); replace q13 := eq_true q13))
         go_ret
         exact ⟨by first | rfl | (simp [errW_none, errW_some] <;> rfl) | (simp [*, errW_none, errW_some] <;> rfl), bw_⟩
       ·
        rw [if_neg c12] at H
        exact absurd H (by simp)
      ·
       rw [if_neg c11] at H
       have c11b0 : (t109 == 0) = false := q4_ c11
       have c11b1 : (t109 != 0) = true := q2_ c11
       obtain rfl := Option.some.inj H
       go_wp2_with (first | ((with_reducible refine gate_callee (f := 65) rfl ?_); refine goesL_ (some 17) rfl rfl Try.func65 (by kernel_rfl) rfl #[.string (a0.extract 0 11)] rfl (by (try simp only [List.map_toArray, List.map_cons, List.map_nil]); first | done | rfl | (simp only [List.length_drop, List.length_take]; rfl)) ?_; (with_reducible refine (ident_Digit.calls (a0.extract 0 11) t108 t109 _ A10.out).mono ?_); rintro e w17 ⟨rfl, hb⟩; refine ⟨_, rfl, ?_⟩; have n0_ := A_ (bs_ bw_ hb); clear HB; have HB := n0_; clear n0_; (try clear hb); (try clear hb2); (try clear hk); (try clear hi)))
       go_ret
       exact ⟨by first | rfl | (simp [errW_none, errW_some] <;> rfl) | (simp [*, errW_none, errW_some] <;> rfl), bw_⟩
     ·
      rw [if_neg c9] at H
      exact absurd H (by simp)
    ·
     rw [if_neg c8] at H
     exact absurd H (by simp)
end Go.Proofs.Ytcbpmmcpidfllaa.Ro
end
section
namespace Go.Proofs.Ytcbpmmcpidfllaa.Ro
open Go.RowKit Go.Proofs.YtcbpmmcpidfllaaW.PrintWords Go.Proofs.YtcbpmmcpidfllaaW.PrintLast Go.Proofs.YtcbpmmcpidfllaaW.PrintMore
attribute [local go_sem] max2_int min2_int max_two min_two max_three min_three max_four min_four   -- for this text's walks alone
set_option linter.unusedVariables false
set_option linter.unusedSimpArgs false
def ident_small.f (a0 : Int) : Option (Bool) := if a0 ≥ 97 then (some (decide (a0 ≤ 122))) else (some false)
set_option maxHeartbeats 8000000 in
set_option maxRecDepth 100000 in
theorem ident_small.calls (a0 : Int) (r : Bool) (w : World) (h : ident_small.f a0 = some r) :
  Calls Try.prog 66 #[.int .u8 a0] w fun e w' => e = .returned (.bool r) ∧ Drawn0 w w' := by
 have H : (if a0 ≥ 97 then (some (decide (a0 ≤ 122))) else (some false)) = some r := h
 clear h
 by_cases c2 : a0 ≥ 97
 ·
  rw [if_pos c2] at H
  have c2b0 : decide (97 ≤ a0) = true := decide_eq_true c2
  clear c2
  obtain rfl := Option.some.inj H
  go_enter Try.func66, Try.ntmps66
  go_wp2
  go_ret
  exact ⟨by first | rfl | (simp; done) | (simp [*]; done), by repeat (first | exact Drawn0.refl _ | apply Drawn0.step)⟩
 ·
  rw [if_neg c2] at H
  have c2b0 : decide (97 ≤ a0) = false := decide_eq_false c2
  clear c2
  obtain rfl := Option.some.inj H
  go_enter Try.func66, Try.ntmps66
  go_wp2
  go_ret
  exact ⟨by first | rfl | (simp; done) | (simp [*]; done), by repeat (first | exact Drawn0.refl _ | apply Drawn0.step)⟩
end Go.Proofs.Ytcbpmmcpidfllaa.Ro
end
section
namespace Go.Proofs.Ytcbpmmcpidfllaa.Ro
open Go.RowKit Go.Proofs.YtcbpmmcpidfllaaW.PrintWords Go.Proofs.YtcbpmmcpidfllaaW.PrintLast Go.Proofs.YtcbpmmcpidfllaaW.PrintMore
attribute [local go_sem] max2_int min2_int max_two min_two max_three min_three max_four min_four   -- for this text's walks alone
set_option linter.unusedVariables false
set_option linter.unusedSimpArgs false
mutual
def ident_Member.j0 : Nat → ByteArray → Bool → Option (Int)
 | 0, _, _ => none
 | k + 1, x0, x17 => if x17 = true then (some 3) else (if x0.size ≤ 9223372036854775807 then ((some (bytesOf x0 : List Int)).bind fun y111 => (ident_Member.l0 k y111 (y111.length : Int) 0)) else (none))
def ident_Member.l0 : Nat → List Int → Int → Int → Option (Int)
 | 0, _, _, _ => none
 | k + 1, x19, x20, x21 => if x21 < x20 then (if 0 ≤ x21 then (if x21 < (x19.length : Int) then ((ident_small.f (rd x19 x21)).bind fun t115 => (if t115 = true then (ident_Member.l0 k x19 x20 (wrap64 (x21 + 1))) else ((ident_digit.f (rd x19 x21)).bind fun t116 => (if t116 = true then (ident_Member.l0 k x19 x20 (wrap64 (x21 + 1))) else (some 3))))) else (none)) else (none)) else (some 0)
end
def ident_Member.f (k : Nat) (a0 : ByteArray) : Option (Int) := if a0.toList = ([] : List UInt8) then (ident_Member.j0 k a0 true) else (if (a0.size : Int) > 8 then (ident_Member.j0 k a0 true) else (if 0 < (a0.size : Int) then ((ident_small.f (bt a0 0)).bind fun t110 => (ident_Member.j0 k a0 (!t110))) else (none)))
theorem ident_Member.mono_l : ∀ k, (∀ y0 y1, LeO (ident_Member.j0 k y0 y1) (ident_Member.j0 (k + 1) y0 y1)) ∧ (∀ y0 y1 y2, LeO (ident_Member.l0 k y0 y1 y2) (ident_Member.l0 (k + 1) y0 y1 y2))
 | 0 => ⟨fun _ _ r h => by simp [ident_Member.j0] at h, fun _ _ _ r h => by simp [ident_Member.l0] at h⟩
 | k + 1 => by
  obtain ⟨ih0, ih1⟩ := ident_Member.mono_l k
  refine ⟨?_, ?_⟩
  ·
   intro y0 y1
   unfold ident_Member.j0
   repeat' first
   | (with_reducible exact ih0 _ _)
   | (with_reducible exact ih1 _ _ _)
   | (with_reducible exact LeO.refl _)
   | (with_reducible exact LeO.none _)
   | (with_reducible refine LeO.ite ?_ ?_)
   | (with_reducible refine LeO.bind ?_ (fun _ => ?_))
   | exact ih0 _ _
   | exact ih1 _ _ _
   | exact LeO.none _
   | refine LeO.ite ?_ ?_
   | refine LeO.bind ?_ (fun _ => ?_)
  ·
   intro y0 y1 y2
   unfold ident_Member.l0
   repeat' first
   | (with_reducible exact ih0 _ _)
   | (with_reducible exact ih1 _ _ _)
   | (with_reducible exact LeO.refl _)
   | (with_reducible exact LeO.none _)
   | (with_reducible refine LeO.ite ?_ ?_)
   | (with_reducible refine LeO.bind ?_ (fun _ => ?_))
   | exact ih0 _ _
   | exact ih1 _ _ _
   | exact LeO.none _
   | refine LeO.ite ?_ ?_
   | refine LeO.bind ?_ (fun _ => ?_)
theorem ident_Member.mono : ∀ a0 k, LeO (ident_Member.f k a0) (ident_Member.f (k + 1) a0) := by
 intro a0 k
 obtain ⟨ih0, ih1⟩ := ident_Member.mono_l k
 unfold ident_Member.f
 repeat' first
   | (with_reducible exact ih0 _ _)
   | (with_reducible exact ih1 _ _ _)
   | (with_reducible exact LeO.refl _)
   | (with_reducible exact LeO.none _)
   | (with_reducible refine LeO.ite ?_ ?_)
   | (with_reducible refine LeO.bind ?_ (fun _ => ?_))
   | exact ih0 _ _
   | exact ih1 _ _ _
   | exact LeO.none _
   | refine LeO.ite ?_ ?_
   | refine LeO.bind ?_ (fun _ => ?_)
set_option maxHeartbeats 8000000 in
set_option maxRecDepth 100000 in
theorem ident_Member.calls (k : Nat) (a0 : ByteArray) (r : Int) (w : World) (h : ident_Member.f k a0 = some r) :
  Calls Try.prog 54 #[.string a0] w fun e w' => e = .returned (.int .i64 r) ∧ Below w.heap.size w w' := by
 have HB := A_ (Below.refl w.heap.size w)
 have H : (if a0.toList = ([] : List UInt8) then (ident_Member.j0 k a0 true) else (if (a0.size : Int) > 8 then (ident_Member.j0 k a0 true) else (if 0 < (a0.size : Int) then ((ident_small.f (bt a0 0)).bind fun t110 => (ident_Member.j0 k a0 (!t110))) else (none)))) = some r := h
 clear h
 have HC2 := A_ H
 clear H
 go_enter Try.func54, Try.ntmps54
 go_upto_region 1 with (fail)
 go_cut [17] (fun v17 wc => ∃ (kq : Nat) (x17_1 : Bool), v17 = .bool x17_1 ∧ Aside0 (ident_Member.j0 kq a0 x17_1 = some r) ∧ Aside0 (kq ≤ k) ∧ Aside0 (Below w.heap.size w wc))
 case first =>
  have H := HC2.out
  clear HC2
  by_cases c3 : a0.toList = ([] : List UInt8)
  ·
   rw [if_pos c3] at H
   have c3b0 : (a0.toList == ([] : List UInt8)) = true := q1_ c3
   have c3b1 : (a0.toList != ([] : List UInt8)) = false := q3_ c3
   clear c3
   (first | rw [c3b0] | (simp only [i64_w, i32_w]; rw [c3b0]) | skip)
   have H' := A_ H
   clear H
   go_wp2
   go_meet
   case rel => exact ⟨_, (true), (by first | rfl | (simp; done) | (simp [*]; done)), H', ⟨by first | omega | exact Nat.le_refl _⟩, ⟨bw_⟩⟩
  ·
   rw [if_neg c3] at H
   have c3b0 : (a0.toList == ([] : List UInt8)) = false := q4_ c3
   have c3b1 : (a0.toList != ([] : List UInt8)) = true := q2_ c3
   (first | rw [c3b0] | (simp only [i64_w, i32_w]; rw [c3b0]) | skip)
   by_cases c4 : (a0.size : Int) > 8
   ·
    rw [if_pos c4] at H
    have c4b0 : decide (8 < (a0.size : Int)) = true := decide_eq_true c4
    have c4b1 : decide (8 < a0.size) = true := decide_eq_true (by omega)
    clear c4
    have H' := A_ H
    clear H
    go_wp2
    go_meet
    case rel => exact ⟨_, (true), (by first | rfl | (simp; done) | (simp [*]; done)), H', ⟨by first | omega | exact Nat.le_refl _⟩, ⟨bw_⟩⟩
   ·
    rw [if_neg c4] at H
    have c4b0 : decide (8 < (a0.size : Int)) = false := decide_eq_false c4
    have c4b1 : decide (8 < a0.size) = false := decide_eq_false (by omega)
    clear c4
    by_cases c5 : 0 < (a0.size : Int)
    ·
     rw [if_pos c5] at H
     have c5b0 : decide (0 < (a0.size : Int)) = true := decide_eq_true c5
     have c5b1 : decide (0 < a0.size) = true := decide_eq_true (by omega)
     clear c5
     replace H := os_ H
     obtain ⟨t110, A70, H⟩ := H
     replace H : (ident_Member.j0 k a0 (!t110)) = some r := H
     have A7 := A_ A70
     clear A70
     have H' := A_ H
     clear H
     have p6 : 0 ≤ (0 : Int) := (by omega)
     have q6 : 0 < a0.size := (by have : (0 : Int) < (a0.size : Int) := od_ (by first | (with_reducible assumption) | assumption); omega)
     have hx6 : ∀ h : 0 < a0.size, ((a0[0]'h).toNat : Int) = bt a0 0 := bt_at a0 0
     clear p6
     have qi6 : (0 < (a0.size : Int)) = True := eq_true (od_ (by first | (with_reducible assumption) | assumption))
     replace q6 := eq_true q6
     go_wp2_with (first | (go_at_call 66; (with_reducible refine (ident_small.calls (bt a0 0) t110 _ A7.out).mono ?_); rintro e w' ⟨rfl, ⟨nd, rfl⟩⟩))
     go_meet
     case rel => exact ⟨_, (!t110), (by first | rfl | (simp; done) | (simp [*]; done)), H', ⟨by first | omega | exact Nat.le_refl _⟩, ⟨bw_⟩⟩
    ·
     rw [if_neg c5] at H
     exact absurd H (by simp)
 case rest =>
  clear HC2
  try clear p2
  try clear c3
  try clear c3b0
  try clear c3b1
  try clear c4
  try clear c4b0
  try clear c4b1
  try clear c5
  try clear c5b0
  try clear c5b1
  try clear p6
  try clear q6
  try clear hx6
  try clear qi6
  try clear p6
  try clear q6
  obtain ⟨kq, x17_1, rfl, HA, HJ1, HB⟩ := hcut
  cases kq with
  | zero => exact absurd HA.out (by simp [ident_Member.j0])
  | succ kj1 =>
   have H := HA.out
   clear HA
   simp only [ident_Member.j0] at H
   by_cases c8 : x17_1 = true
   ·
    subst c8
    have H1 : (some 3) = some r := by rw [if_pos rfl] at H; exact H
    clear H
    have H := H1
    clear H1
    obtain rfl := Option.some.inj H
    go_wp2
    go_ret
    exact ⟨by first | rfl | (simp [errW_none, errW_some] <;> rfl) | (simp [*, errW_none, errW_some] <;> rfl), bw_⟩
   ·
    replace c8 := Bool.eq_false_iff.mpr c8
    subst c8
    have H1 : (if a0.size ≤ 9223372036854775807 then ((some (bytesOf a0 : List Int)).bind fun y111 => (ident_Member.l0 kj1 y111 (y111.length : Int) 0)) else (none)) = some r := by rw [if_neg (show ¬ (false = true) by decide)] at H; exact H
    clear H
    have H := H1
    clear H1
    by_cases c9 : a0.size ≤ 9223372036854775807
    ·
     rw [if_pos c9] at H
     have c9b0 := eq_true c9
     have c9b1 : decide (a0.size ≤ 9223372036854775807) = true := decide_eq_true c9
     try have c9b2 : (9223372036854775807 < a0.size) = False := eq_false (Nat.not_lt.2 c9)
     clear c9
     obtain ⟨y111, hy111⟩ : ∃ y_ : List Int, y_ = (bytesOf a0) := ⟨_, rfl⟩
     replace H : (ident_Member.l0 kj1 y111 (y111.length : Int) 0) = some r := by first | (rw [hy111]; with_reducible exact H) | (have H2_ := (Option.bind_some _ _).symm.trans H; rw [hy111]; with_reducible exact H2_) | (have H2_ := (Option.bind_some _ _).symm.trans H; with_reducible exact H2_) | with_reducible exact H | (rw [hy111]; exact H) | exact H
     have Ny111 := A_ hy111
     clear hy111
     have H' := A_ H
     clear H
     go_wp2_with (first | ((with_reducible refine gate_dst (N := 19) rfl ?_); (try (refine gate_guard (by rfl) ?_; dsimp only)); refine conv_event _ 5 ?hg (N := 19) ?hd a0 (od_ (by first | (with_reducible assumption) | assumption)) ?hr (Below.refl _ _) (Nat.le_refl _) ?_; (case hd => rfl); (case hg => rfl); (case hr => have kb_ := fun W_ => print_bytes (P := Try.prog) 9 116 5 Try.underlying9 Try.underlying116 Try.underlying5 a0 W_; first | (go_simp; done) | (go_simp; rfl)); intro v112 w10 ho11 hb hg_ hnew_; clear hg_ hnew_; (first | rw [← Ny111.out] at ho11 | (simp only [Int.reduceToNat] at ho11; rw [← Ny111.out] at ho11)); have n0_ := A_ (Kd.V_lower (vm_ (ok' := fun k_ => True) ho11 (fun k_ hk_ => trivial)) (bz_ bw_)); have n1_ := A_ (bs_ bw_ hb); clear HB; have HO113 := n0_; have HB := n1_; clear n0_ n1_; clear hb ho11; obtain ⟨Ao12, co12, eo12⟩ := Kd.V_slice HO113.out; subst eo12))
     (try simp only [Act.put, sA_, sZ_, sS_])
     go_loopg [21] kj1 (fun kq v21 w' => ∃ (x21_2 : Int), v21 = .int .i64 x21_2 ∧ Aside0 (ident_Member.l0 kq y111 (y111.length : Int) x21_2 = some r) ∧ Aside0 (kq ≤ kj1) ∧ Aside0 (Kd.V (Kd.int .u8) 5 w' w.heap.size (fun _ => True) (.slice Ao12 y111.length co12) y111) ∧ Aside0 (Below w.heap.size w w'))
     case atStart => exact ⟨(0), (by first | rfl | (simp; done) | (simp [*]; done)), H', ⟨Nat.le_refl _⟩, ⟨by (with_reducible repeat (first | apply va_ | apply vn_ | apply vd_)); exact HO113.out⟩, ⟨bw_⟩⟩
     case round =>
      clear H'
      try clear p2
      try clear c3
      try clear c3b0
      try clear c3b1
      try clear c4
      try clear c4b0
      try clear c4b1
      try clear c5
      try clear c5b0
      try clear c5b1
      try clear p6
      try clear q6
      try clear hx6
      try clear qi6
      try clear c8
      try clear c9
      try clear c9b0
      try clear c9b1
      try clear c9b2
      try clear p2
      try clear p6
      try clear q6
      obtain ⟨x21_2, rfl, HA, HK2, HO_19, HB⟩ := hrel
      cases gk with
      | zero => exact absurd HA.out (by simp [ident_Member.l0])
      | succ k2 =>
       have H := HA.out
       clear HA
       simp only [ident_Member.l0] at H
       by_cases c13 : x21_2 < (y111.length : Int)
       ·
        rw [if_pos c13] at H
        have c13b0 : decide (x21_2 < (y111.length : Int)) = true := decide_eq_true c13
        clear c13
        by_cases c14 : 0 ≤ x21_2
        ·
         rw [if_pos c14] at H
         have c14b0 : decide (0 ≤ x21_2) = true := decide_eq_true c14
         clear c14
         by_cases c15 : x21_2 < (y111.length : Int)
         ·
          rw [if_pos c15] at H
          have c15b0 : decide (x21_2 < (y111.length : Int)) = true := decide_eq_true c15
          clear c15
          replace H := os_ H
          obtain ⟨t115, A160, H⟩ := H
          replace H : (if t115 = true then (ident_Member.l0 k2 y111 (y111.length : Int) (wrap64 (x21_2 + 1))) else ((ident_digit.f (rd y111 x21_2)).bind fun t116 => (if t116 = true then (ident_Member.l0 k2 y111 (y111.length : Int) (wrap64 (x21_2 + 1))) else (some 3)))) = some r := H
          have A16 := A_ A160
          clear A160
          by_cases c17 : t115 = true
          ·
           subst c17
           have H1 : (ident_Member.l0 k2 y111 (y111.length : Int) (wrap64 (x21_2 + 1))) = some r := by rw [if_pos rfl] at H; exact H
           clear H
           have H := H1
           clear H1
           have H' := A_ H
           clear H
           have p114 : 0 ≤ (x21_2 : Int) := od_ (by first | (with_reducible assumption) | assumption)
           have q114 : x21_2 < (y111.length : Int) := od_ (by first | (with_reducible assumption) | assumption)
           obtain ⟨ad114, e114, hx114_0⟩ := Kd.at_int (Kd.V_reads' HO_19.out).2.2 x21_2 p114 q114
           cases e114
           replace p114 := eq_true p114
           replace q114 := eq_true q114
           go_wp2_with (first | ((with_reducible refine gate_callee (f := 66) rfl ?_); refine goesL_ (some 26) rfl rfl Try.func66 (by kernel_rfl) rfl #[.int .u8 (rd y111 x21_2)] rfl (by (try simp only [List.map_toArray, List.map_cons, List.map_nil]); first | done | rfl | (simp only [List.length_drop, List.length_take]; rfl)) ?_; (with_reducible refine (ident_small.calls (rd y111 x21_2) true _ A16.out).mono ?_); rintro e w' ⟨rfl, ⟨nd, rfl⟩⟩; refine ⟨_, rfl, ?_⟩))
           go_roundg k2
           case measure => have := HJ1.out; have := HK2.out; omega
           case rel => exact ⟨(wrap64 (x21_2 + 1)), (by first | rfl | (simp; done) | (simp [*]; done)), H', ⟨by have := HJ1.out; have := HK2.out; omega⟩, ⟨by (with_reducible repeat (first | apply va_ | apply vn_ | apply vd_)); exact HO_19.out⟩, ⟨bw_⟩⟩
          ·
           replace c17 := Bool.eq_false_iff.mpr c17
           subst c17
           have H1 : ((ident_digit.f (rd y111 x21_2)).bind fun t116 => (if t116 = true then (ident_Member.l0 k2 y111 (y111.length : Int) (wrap64 (x21_2 + 1))) else (some 3))) = some r := by rw [if_neg (show ¬ (false = true) by decide)] at H; exact H
           clear H
           have H := H1
           clear H1
           replace H := os_ H
           obtain ⟨t116, A180, H⟩ := H
           replace H : (if t116 = true then (ident_Member.l0 k2 y111 (y111.length : Int) (wrap64 (x21_2 + 1))) else (some 3)) = some r := H
           have A18 := A_ A180
           clear A180
           by_cases c19 : t116 = true
           ·
            subst c19
            have H1 : (ident_Member.l0 k2 y111 (y111.length : Int) (wrap64 (x21_2 + 1))) = some r := by rw [if_pos rfl] at H; exact H
            clear H
            have H := H1
            clear H1
            have H' := A_ H
            clear H
            have p114 : 0 ≤ (x21_2 : Int) := od_ (by first | (with_reducible assumption) | assumption)
            have q114 : x21_2 < (y111.length : Int) := od_ (by first | (with_reducible assumption) | assumption)
            obtain ⟨ad114, e114, hx114_0⟩ := Kd.at_int (Kd.V_reads' HO_19.out).2.2 x21_2 p114 q114
            cases e114
            replace p114 := eq_true p114
            replace q114 := eq_true q114
            go_wp2_with (first | ((with_reducible refine gate_callee (f := 66) rfl ?_); refine goesL_ (some 26) rfl rfl Try.func66 (by kernel_rfl) rfl #[.int .u8 (rd y111 x21_2)] rfl (by (try simp only [List.map_toArray, List.map_cons, List.map_nil]); first | done | rfl | (simp only [List.length_drop, List.length_take]; rfl)) ?_; (with_reducible refine (ident_small.calls (rd y111 x21_2) false _ A16.out).mono ?_); rintro e w' ⟨rfl, ⟨nd, rfl⟩⟩; refine ⟨_, rfl, ?_⟩) | (go_at_call 64; (with_reducible refine (ident_digit.calls (rd y111 x21_2) true _ A18.out).mono ?_); rintro e w' ⟨rfl, ⟨nd, rfl⟩⟩))
            go_roundg k2
            case measure => have := HJ1.out; have := HK2.out; omega
            case rel => exact ⟨(wrap64 (x21_2 + 1)), (by first | rfl | (simp; done) | (simp [*]; done)), H', ⟨by have := HJ1.out; have := HK2.out; omega⟩, ⟨by (with_reducible repeat (first | apply va_ | apply vn_ | apply vd_)); exact HO_19.out⟩, ⟨bw_⟩⟩
           ·
            replace c19 := Bool.eq_false_iff.mpr c19
            subst c19
            have H1 : (some 3) = some r := by rw [if_neg (show ¬ (false = true) by decide)] at H; exact H
            clear H
            have H := H1
            clear H1
            obtain rfl := Option.some.inj H
            have p114 : 0 ≤ (x21_2 : Int) := od_ (by first | (with_reducible assumption) | assumption)
            have q114 : x21_2 < (y111.length : Int) := od_ (by first | (with_reducible assumption) | assumption)
            obtain ⟨ad114, e114, hx114_0⟩ := Kd.at_int (Kd.V_reads' HO_19.out).2.2 x21_2 p114 q114
            cases e114
            replace p114 := eq_true p114
            replace q114 := eq_true q114
            go_wp2_with (first | ((with_reducible refine gate_callee (f := 66) rfl ?_); refine goesL_ (some 26) rfl rfl Try.func66 (by kernel_rfl) rfl #[.int .u8 (rd y111 x21_2)] rfl (by (try simp only [List.map_toArray, List.map_cons, List.map_nil]); first | done | rfl | (simp only [List.length_drop, List.length_take]; rfl)) ?_; (with_reducible refine (ident_small.calls (rd y111 x21_2) false _ A16.out).mono ?_); rintro e w' ⟨rfl, ⟨nd, rfl⟩⟩; refine ⟨_, rfl, ?_⟩) | (go_at_call 64; (with_reducible refine (ident_digit.calls (rd y111 x21_2) false _ A18.out).mono ?_); rintro e w' ⟨rfl, ⟨nd, rfl⟩⟩))
            go_ret
            exact ⟨by first | rfl | (simp [errW_none, errW_some] <;> rfl) | (simp [*, errW_none, errW_some] <;> rfl), bw_⟩
         ·
          rw [if_neg c15] at H
          exact absurd H (by simp)
        ·
         rw [if_neg c14] at H
         exact absurd H (by simp)
       ·
        rw [if_neg c13] at H
        have c13b0 : decide (x21_2 < (y111.length : Int)) = false := decide_eq_false c13
        clear c13
        obtain rfl := Option.some.inj H
        go_wp2
        go_ret
        exact ⟨by first | rfl | (simp [errW_none, errW_some] <;> rfl) | (simp [*, errW_none, errW_some] <;> rfl), bw_⟩
    ·
     rw [if_neg c9] at H
     exact absurd H (by simp)
end Go.Proofs.Ytcbpmmcpidfllaa.Ro
end
section
namespace Go.Proofs.Ytcbpmmcpidfllaa.Ip
set_option linter.unusedSimpArgs false
set_option linter.unusedVariables false
open Go Go.RowKit Go.Proofs.YtcbpmmcpidfllaaW.PrintWords Go.Proofs.YtcbpmmcpidfllaaW.PrintLast Go.Proofs.YtcbpmmcpidfllaaW.PrintMore Go.Proofs.Ytcbpmmcpidfllaa.Ja Go.Proofs.Ytcbpmmcpidfllaa.Jb Go.Proofs.Ytcbpmmcpidfllaa.Ro
theorem great_f (c : Int) : ident_great.f c = some (isG c) := by
  unfold ident_great.f isG
  by_cases h : c ≥ 65
  · rw [if_pos h]; simp [h]
  · rw [if_neg h]; simp; omega
theorem digit_f (c : Int) : ident_digit.f c = some (isD c) := by
  unfold ident_digit.f isD
  by_cases h : c ≥ 48
  · rw [if_pos h]; simp [h]
  · rw [if_neg h]; simp; omega
theorem letter_f (c : Int) : clevisref02_letter.f c 65 = some (isG c) := by
  unfold clevisref02_letter.f isG
  by_cases h : c ≥ 65
  · rw [if_pos h]; simp [h]
  · rw [if_neg h]; simp; omega
theorem rdigit_f (c : Int) : clevisref02_digit.f c = some (isD c) := by
  unfold clevisref02_digit.f isD
  by_cases h : c ≥ 48
  · rw [if_pos h]; simp [h]
  · rw [if_neg h]; simp; omega
def allOk (s : ByteArray) : Nat → Nat → Bool
  | _, 0 => true
  | i, n + 1 => okAt i (bt s i) && allOk s (i + 1) n
theorem rd_bytes (s : ByteArray) (i : Nat) : rd (bytesOf s) i = bt s i := by
  simp only [rd, bytesOf, bt, Int.toNat_natCast]
  by_cases h : i < s.size
  · rw [dif_pos h, List.getD_eq_getElem?_getD, List.getElem?_map]
    have h' : i < s.data.toList.length := by simpa using h
    rw [List.getElem?_eq_getElem h']
    rfl
  · rw [dif_neg h, List.getD_eq_getElem?_getD, List.getElem?_map]
    have h' : s.data.toList.length ≤ i := by simpa using h
    rw [List.getElem?_eq_none h']
    rfl
theorem bytes_length (s : ByteArray) : (bytesOf s).length = s.size := by simp [bytesOf]
theorem body_l0 (s : ByteArray) (h11 : s.size = 11) (k : Nat) : ∀ n i : Nat, i + n = 11 → ident_body.l0 (n + 1 + k) (bytesOf s) 11 i = some (allOk s i n)
  | 0, i, h => by
    rw [show 0 + 1 + k = k + 1 by omega, ident_body.l0, if_neg (by omega)]
    rfl
  | n + 1, i, h => by
    have hw : wrap64 ((i : Int) + 1) = ((i + 1 : Nat) : Int) := by unfold wrap64; omega
    have ih := body_l0 s h11 k n (i + 1) (by omega)
    rw [show n + 1 + 1 + k = (n + 1 + k) + 1 by omega, ident_body.l0, if_pos (by omega), if_pos (by omega), if_pos (by rw [bytes_length]; omega)]
    simp only [rd_bytes, great_f, digit_f, Option.bind_some, hw, ih, allOk, okAt]
    cases isG (bt s i) <;> cases isD (bt s i) <;> by_cases h2 : (i : Int) < 2 <;> simp [h2] <;> omega
theorem body_f (s : ByteArray) (h11 : s.size = 11) : ident_body.f 20 s = some (allOk s 0 11) := by
  have h := body_l0 s h11 8 11 0 (by omega)
  unfold ident_body.f
  rw [if_pos (by omega), if_pos (by omega)]
  simp only [Option.bind_some, bytes_length, h11]
  exact h
theorem body_f' (s : ByteArray) (h : s.size ≠ 11) : ident_body.f 20 s = some false := by
  unfold ident_body.f
  rw [if_neg (by omega)]
theorem ref_l2 (f : Int) (h0 : 0 ≤ f) (h1 : f ≤ 1000) (k : Nat) (r : Nat) (hr : (r : Int) = (10 - f % 10) % 10) : ∀ n c : Nat, c + n = r → clevisref02_Digit.l2 (n + 1 + k) f c = some (r : Int)
  | 0, c, h => by
    rw [show 0 + 1 + k = k + 1 by omega, clevisref02_Digit.l2, if_pos (by omega), w64 (by omega), Int.tmod_eq_emod_of_nonneg (by omega), if_pos (by omega)]
    simp; omega
  | n + 1, c, h => by
    have hw : wrap64 ((c : Int) + 1) = ((c + 1 : Nat) : Int) := by unfold wrap64; omega
    rw [show n + 1 + 1 + k = (n + 1 + k) + 1 by omega, clevisref02_Digit.l2, if_pos (by omega), w64 (n := f + c) (by omega), Int.tmod_eq_emod_of_nonneg (by omega), if_neg (by omega), hw]
    exact ref_l2 f h0 h1 k r hr n (c + 1) (by omega)
theorem rd_nat (xs : List Int) (i : Nat) (h : i < xs.length) : rd xs i = xs[i] := by simp [rd, List.getD_eq_getElem?_getD, List.getElem?_eq_getElem h]
theorem F_range : ∀ xs : List Int, dig xs → 0 ≤ F xs ∧ F xs ≤ 9 * xs.length
  | [], _ => by simp [F]
  | x :: xs, h => by
    have h1 := wt_range (j := xs.length) (h x (by simp))
    have h2 := F_range xs (fun y hy => h y (by simp [hy]))
    simp only [F, List.length_cons]
    omega
theorem ref_l1 (xs : List Int) (hd : dig xs) (hl : xs.length ≤ 50) (k : Nat) : ∀ (n i : Nat) (sum : Int), i + n = xs.length → 0 ≤ sum → sum ≤ 9 * i → clevisref02_Digit.l1 (n + 1 + k) xs sum i = clevisref02_Digit.l2 k (sum + F (xs.drop i)) 0
  | 0, i, sum, h, _, _ => by
    rw [show 0 + 1 + k = k + 1 by omega, clevisref02_Digit.l1, if_neg (by omega), List.drop_of_length_le (by omega)]
    simp [F]
  | n + 1, i, sum, h, h0, h1 => by
    have hi : i < xs.length := by omega
    have hw : wrap64 ((i : Int) + 1) = ((i + 1 : Nat) : Int) := by unfold wrap64; omega
    have hx := hd xs[i] (List.getElem_mem hi)
    have hwt := wt_range (j := (xs.drop (i + 1)).length) hx
    have ih := ref_l1 xs hd hl k n (i + 1) (sum + wt (xs.drop (i + 1)).length xs[i]) (by omega) (by omega) (by push_cast; omega)
    have hF : F (xs.drop i) = wt (xs.drop (i + 1)).length xs[i] + F (xs.drop (i + 1)) := by rw [List.drop_eq_getElem_cons hi, F]
    rw [show n + 1 + 1 + k = (n + 1 + k) + 1 by omega, clevisref02_Digit.l1, if_pos (by omega), if_pos (by omega)]
    rw [w64 (n := (xs.length : Int) - i) (by omega), Int.tmod_eq_emod_of_nonneg (by omega), rd_nat xs i hi, w64 (n := 2 * xs[i]) (by omega), w64 (n := 2 * xs[i] - 9) (by omega), hw]
    rw [hF, ← Int.add_assoc, ← ih]
    have hln : (xs.drop (i + 1)).length = xs.length - (i + 1) := List.length_drop
    rw [hln] at hwt ⊢
    unfold wt at hwt ⊢
    by_cases hp : ((xs.length : Int) - i) % 2 = 1
    · rw [if_pos hp]
      have hp2 : (xs.length - (i + 1)) % 2 = 0 := by omega
      rw [if_pos hp2] at hwt ⊢
      by_cases h9 : 2 * xs[i] > 9
      · rw [if_pos h9]
        rw [if_pos h9] at hwt ⊢
        rw [w64 (by omega)]
      · rw [if_neg h9]
        rw [if_neg h9] at hwt ⊢
        rw [w64 (by omega)]
    · rw [if_neg hp]
      have hp2 : ¬ (xs.length - (i + 1)) % 2 = 0 := by omega
      rw [if_neg hp2] at hwt ⊢
      rw [w64 (by omega)]
theorem ref_l0 (s : ByteArray) (h11 : s.size = 11) (k : Nat) : ∀ (n i : Nat) (acc : List Int), i + n = 11 → acc.length ≤ 2 * i → clevisref02_Digit.l0 (n + 1 + k) s acc i = if allOk s i n = true then clevisref02_Digit.l1 k (acc ++ row s i n) 0 0 else some (-1)
  | 0, i, acc, h, _ => by
    rw [show 0 + 1 + k = k + 1 by omega, clevisref02_Digit.l0, if_neg (by omega)]
    simp [allOk, row]
  | n + 1, i, acc, h, ha => by
    have hw : wrap64 ((i : Int) + 1) = ((i + 1 : Nat) : Int) := by unfold wrap64; omega
    have hr := bt_range s i
    have ih := fun acc' => ref_l0 s h11 k n (i + 1) acc' (by omega)
    rw [show n + 1 + 1 + k = (n + 1 + k) + 1 by omega, clevisref02_Digit.l0, if_pos (by omega), if_pos (by omega), if_pos (by omega)]
    simp only [letter_f, rdigit_f, Option.bind_some, hw, row]
    by_cases hg : isG (bt s i) = true
    · have h1 : 65 ≤ bt s i ∧ bt s i ≤ 90 := by simpa [isG] using hg
      have he : ed (bt s i) = [(bt s i - 55) / 10, (bt s i - 55) % 10] := by unfold ed; rw [if_pos hg]
      have hA : allOk s i (n + 1) = allOk s (i + 1) n := by simp [allOk, okAt, hg]
      rw [if_pos hg, w64 (n := bt s i) (by omega), w64 (n := bt s i - 55) (by omega), Int.tdiv_eq_ediv_of_nonneg (by omega), Int.tmod_eq_emod_of_nonneg (by omega), w64 (by omega), if_pos (by simp; omega), ih _ (by simp; omega), he, hA, List.append_assoc]
    · rw [if_neg hg]
      by_cases hd : isD (bt s i) = true
      · have h1 : 48 ≤ bt s i ∧ bt s i ≤ 57 := by simpa [isD] using hd
        have he : ed (bt s i) = [bt s i - 48] := by unfold ed; rw [if_neg hg]
        rw [if_pos hd]
        by_cases h2 : 2 ≤ i
        · have hA : allOk s i (n + 1) = allOk s (i + 1) n := by simp [allOk, okAt, hd, h2]
          rw [if_pos (by omega), if_pos (by omega), w64 (n := bt s i) (by omega), w64 (by omega), ih _ (by simp; omega), he, hA, List.append_assoc]
        · have hA : allOk s i (n + 1) = false := by simp [allOk, okAt, hg, h2]
          rw [if_neg (by omega), hA]
          simp
      · have hA : allOk s i (n + 1) = false := by simp [allOk, okAt, hg, hd]
        rw [if_neg hd, hA]
        simp
def okS (s : ByteArray) : Bool := decide (s.size = 11) && allOk s 0 11
def chk (s : ByteArray) : Int := (10 - F (row s 0 11) % 10) % 10
theorem allOk_at (s : ByteArray) : ∀ n i, allOk s i n = true → ∀ j, i ≤ j → j < i + n → okAt j (bt s j) = true
  | 0, i, _, j, h1, h2 => by omega
  | n + 1, i, h, j, h1, h2 => by
    simp only [allOk, Bool.and_eq_true] at h
    by_cases e : j = i
    · subst e; exact h.1
    · exact allOk_at s n (i + 1) h.2 j (by omega) (by omega)
theorem chk_range (s : ByteArray) : 0 ≤ chk s ∧ chk s ≤ 9 := by unfold chk; omega
theorem iDigit (s : ByteArray) : ident_Digit.f s = some (if okS s = true then (48 + chk s, 0) else (0, 3)) := by
  unfold ident_Digit.f
  by_cases h : s.size = 11
  · rw [body_f s h]
    cases hk : allOk s 0 11 with
    | true =>
      have e : okS s = true := by simp [okS, h, hk]
      simp only [Option.bind_some, e, if_true]
      rw [ckB_row s h (fun i hi => allOk_at s 11 0 hk i (Nat.zero_le _) (by omega))]
      rfl
    | false =>
      have e : okS s = false := by simp [okS, h, hk]
      simp [e]
  · rw [body_f' s h]
    have e : okS s = false := by simp [okS, h]
    simp [e]
theorem rDigit60 (s : ByteArray) : clevisref02_Digit.f 60 s = some (if okS s = true then chk s else -1) := by
  unfold clevisref02_Digit.f
  by_cases h : s.size = 11
  · rw [if_pos (by omega)]
    have h0 := ref_l0 s h 48 11 0 [] (by omega) (by simp)
    rw [show 11 + 1 + 48 = 60 by omega] at h0
    refine h0.trans ?_
    cases hk : allOk s 0 11 with
    | true =>
      have e : okS s = true := by simp [okS, h, hk]
      have hd := row_dig s (fun i hi => allOk_at s 11 0 hk i (Nat.zero_le _) (by omega)) 11 0 (by omega)
      have hl := row_length s 11 0
      have hF := F_range _ hd
      have h1 := ref_l1 (row s 0 11) hd (by omega) (47 - (row s 0 11).length) (row s 0 11).length 0 0 (by omega) (Int.le_refl _) (by omega)
      rw [show (row s 0 11).length + 1 + (47 - (row s 0 11).length) = 48 by omega] at h1
      simp only [if_true, List.nil_append, e]
      refine h1.trans ?_
      simp only [List.drop_zero, Int.zero_add]
      obtain ⟨r, hr⟩ := Int.eq_ofNat_of_zero_le (chk_range s).1
      have hr9 := (chk_range s).2
      rw [hr] at hr9 ⊢
      have h2 := ref_l2 (F (row s 0 11)) hF.1 (by omega) (47 - (row s 0 11).length - r - 1) r (by rw [← hr]; rfl) r 0 (by omega)
      rw [show r + 1 + (47 - (row s 0 11).length - r - 1) = 47 - (row s 0 11).length by omega] at h2
      exact h2
    | false =>
      have e : okS s = false := by simp [okS, h, hk]
      simp [e]
  · rw [if_neg (by omega)]
    have e : okS s = false := by simp [okS, h]
    simp [e]
theorem rDigit (s : ByteArray) (k : Nat) (hk : 60 ≤ k) : clevisref02_Digit.f k s = some (if okS s = true then chk s else -1) :=
  at_rounds (g := fun k => clevisref02_Digit.f k s) (fun k => clevisref02_Digit.mono s k) hk (rDigit60 s)
def isinE (s : ByteArray) : Int := if s.size = 12 ∧ isD (bt s 11) = true ∧ okS (s.extract 0 11) = true then (if 48 + chk (s.extract 0 11) = bt s 11 then 0 else 11) else 3
theorem iIsin (s : ByteArray) (k : Nat) : ident_Isin.f (k + 1) s = some (isinE s) := by
  unfold ident_Isin.f isinE
  by_cases h : s.size = 12
  · rw [if_pos (by omega), if_pos (by omega), digit_f]
    simp only [Option.bind_some, ident_Isin.j0]
    cases hd : isD (bt s 11) with
    | true =>
      simp only [Bool.not_true, Bool.false_eq_true, if_false]
      rw [if_pos (by omega), if_pos (by omega), iDigit]
      cases ho : okS (s.extract 0 11) with
      | true =>
        simp only [Option.bind_some, if_true, h, and_self]
        rw [if_pos (by omega)]
        split <;> rfl
      | false => simp
    | false => simp
  · rw [if_neg (by omega)]
    simp [ident_Isin.j0, h]
theorem rIsin (s : ByteArray) (k : Nat) (hk : 61 ≤ k) : clevisref02_Isin.f k s = some (isinE s) := by
  obtain ⟨k, rfl⟩ : ∃ j, k = j + 1 := ⟨k - 1, by omega⟩
  unfold clevisref02_Isin.f isinE
  by_cases h : s.size = 12
  · have hr := bt_range s 11
    rw [if_pos (by omega), if_pos (by omega), rdigit_f]
    simp only [Option.bind_some, clevisref02_Isin.j0]
    cases hd : isD (bt s 11) with
    | true =>
      simp only [if_true]
      rw [if_pos (by omega), if_pos (by omega), rDigit _ _ (by omega), rDigit _ _ (by omega)]
      have hc := chk_range (s.extract 0 11)
      cases ho : okS (s.extract 0 11) with
      | true =>
        have e : decide (chk (s.extract 0 11) < 0) = false := by simp; omega
        simp only [Option.bind_some, if_true, h, and_self, e, Bool.false_eq_true, if_false]
        rw [if_pos (by omega), if_pos (by omega), if_pos (by omega), w64 (n := bt s 11) (by omega), w64 (by omega)]
        by_cases q : 48 + chk (s.extract 0 11) = bt s 11
        · rw [if_pos q, if_pos (by omega)]
        · rw [if_neg q, if_neg (by omega)]
      | false => simp
    | false => simp
  · rw [if_neg (by omega)]
    simp [clevisref02_Isin.j0, h]
theorem tl (s : ByteArray) : s.toList = s.data.toList := ByteArray.toList_eq s
def isS (c : Int) : Bool := decide (97 ≤ c) && decide (c ≤ 122)
theorem small_f (c : Int) : ident_small.f c = some (isS c) := by
  unfold ident_small.f isS
  by_cases h : c ≥ 97
  · rw [if_pos h]; simp [h]
  · rw [if_neg h]; simp; omega
theorem letter97_f (c : Int) : clevisref02_letter.f c 97 = some (isS c) := by
  unfold clevisref02_letter.f isS
  by_cases h : c ≥ 97
  · rw [if_pos h]; simp [h]
  · rw [if_neg h]; simp; omega
def memE (s : ByteArray) : Nat → Nat → Int
  | _, 0 => 0
  | i, n + 1 => if isS (bt s i) = true then memE s (i + 1) n else if isD (bt s i) = true then memE s (i + 1) n else 3
theorem mem_l0 (s : ByteArray) (hs : s.size ≤ 8) (k : Nat) : ∀ n i : Nat, i + n = s.size → ident_Member.l0 (n + 1 + k) (bytesOf s) (s.size : Int) i = some (memE s i n)
  | 0, i, h => by
    rw [show 0 + 1 + k = k + 1 by omega, ident_Member.l0, if_neg (by omega)]
    rfl
  | n + 1, i, h => by
    have hw : wrap64 ((i : Int) + 1) = ((i + 1 : Nat) : Int) := by unfold wrap64; omega
    have ih := mem_l0 s hs k n (i + 1) (by omega)
    rw [show n + 1 + 1 + k = (n + 1 + k) + 1 by omega, ident_Member.l0, if_pos (by omega), if_pos (by omega), if_pos (by rw [bytesOf_length]; omega)]
    simp only [rd_bytesOf, small_f, digit_f, Option.bind_some, hw, ih, memE]
    split
    · rfl
    · split <;> rfl
theorem mem_r0 (s : ByteArray) (hs : s.size ≤ 8) (k : Nat) : ∀ n i : Nat, i + n = s.size → clevisref02_Member.l0 (n + 1 + k) s i = some (memE s i n)
  | 0, i, h => by
    rw [show 0 + 1 + k = k + 1 by omega, clevisref02_Member.l0, if_neg (by omega)]
    rfl
  | n + 1, i, h => by
    have hw : wrap64 ((i : Int) + 1) = ((i + 1 : Nat) : Int) := by unfold wrap64; omega
    have ih := mem_r0 s hs k n (i + 1) (by omega)
    rw [show n + 1 + 1 + k = (n + 1 + k) + 1 by omega, clevisref02_Member.l0, if_pos (by omega), if_pos (by omega)]
    simp only [letter97_f, rdigit_f, Option.bind_some, hw, ih, memE]
    split
    · rfl
    · split <;> rfl
def memN (s : ByteArray) : Int := if s.size < 1 ∨ 8 < s.size then 3 else if isS (bt s 0) = true then memE s 0 s.size else 3
theorem iMember (s : ByteArray) : ident_Member.f 70 s = some (memN s) := by
  unfold ident_Member.f memN
  by_cases h0 : s.size < 1
  · have e : s.toList = [] := by
      have : s = ⟨#[]⟩ := by
        obtain ⟨d⟩ := s
        have h' : d.size = 0 := by have : d.size < 1 := h0; omega
        rw [Array.eq_empty_of_size_eq_zero h']
      rw [this, tl]
    rw [if_pos e]
    simp [ident_Member.j0, h0]
  · have e : ¬ s.toList = [] := by
      intro e
      rw [tl] at e
      have : s.data.toList.length = s.size := rfl
      rw [e] at this
      simp at this
      omega
    rw [if_neg e]
    by_cases h8 : 8 < s.size
    · rw [if_pos (by omega)]
      simp [ident_Member.j0, h8]
    · rw [if_neg (by omega), if_pos (by omega), small_f]
      have hl := mem_l0 s (by omega) (68 - s.size) s.size 0 (by omega)
      rw [show s.size + 1 + (68 - s.size) = 69 by omega] at hl
      have e2 : ¬ (s.size < 1 ∨ 8 < s.size) := by omega
      simp only [Option.bind_some, ident_Member.j0, e2, if_false]
      cases hS : isS (bt s 0) with
      | true =>
        simp only [Bool.not_true, Bool.false_eq_true, if_false, if_true]
        rw [if_pos (by omega)]
        simp only [Option.bind_some, bytesOf_length]
        exact hl
      | false => simp
theorem rMember (s : ByteArray) : clevisref02_Member.f 70 s = some (memN s) := by
  unfold clevisref02_Member.f memN
  by_cases h0 : s.size < 1
  · rw [if_pos (by omega)]
    simp [clevisref02_Member.j0, h0]
  · rw [if_neg (by omega)]
    by_cases h8 : 8 < s.size
    · rw [if_pos (by omega)]
      simp [clevisref02_Member.j0, h8]
    · rw [if_neg (by omega), if_pos (by omega), letter97_f]
      have hl := mem_r0 s (by omega) (68 - s.size) s.size 0 (by omega)
      rw [show s.size + 1 + (68 - s.size) = 69 by omega] at hl
      have e2 : ¬ (s.size < 1 ∨ 8 < s.size) := by omega
      simp only [Option.bind_some, clevisref02_Member.j0, e2, if_false]
      cases hS : isS (bt s 0) with
      | true =>
        simp only [Bool.not_true, Bool.false_eq_true, if_false, if_true]
        exact hl
      | false => simp
theorem iMember' (s : ByteArray) (k : Nat) (hk : 70 ≤ k) : ident_Member.f k s = some (memN s) := at_rounds (g := fun k => ident_Member.f k s) (fun k => ident_Member.mono s k) hk (iMember s)
theorem rMember' (s : ByteArray) (k : Nat) (hk : 70 ≤ k) : clevisref02_Member.f k s = some (memN s) := at_rounds (g := fun k => clevisref02_Member.f k s) (fun k => clevisref02_Member.mono s k) hk (rMember s)
end Go.Proofs.Ytcbpmmcpidfllaa.Ip
end
section
namespace Go.Proofs.Ytcbpmmcpidfllaa.Ro
open Go.RowKit Go.Proofs.YtcbpmmcpidfllaaW.PrintWords Go.Proofs.YtcbpmmcpidfllaaW.PrintLast Go.Proofs.YtcbpmmcpidfllaaW.PrintMore
attribute [local go_sem] max2_int min2_int max_two min_two max_three min_three max_four min_four   -- for this text's walks alone
set_option linter.unusedVariables false
set_option linter.unusedSimpArgs false
end Go.Proofs.Ytcbpmmcpidfllaa.Ro
end
section
namespace Go.Proofs.Ytcbpmmcpidfllaa.Ro
open Go.RowKit Go.Proofs.YtcbpmmcpidfllaaW.PrintWords Go.Proofs.YtcbpmmcpidfllaaW.PrintLast Go.Proofs.YtcbpmmcpidfllaaW.PrintMore
attribute [local go_sem] max2_int min2_int max_two min_two max_three min_three max_four min_four   -- for this text's walks alone
set_option linter.unusedVariables false
set_option linter.unusedSimpArgs false
end Go.Proofs.Ytcbpmmcpidfllaa.Ro
end
section
namespace Go.Proofs.Ytcbpmmcpidfllaa.Ro
open Go.RowKit Go.Proofs.YtcbpmmcpidfllaaW.PrintWords Go.Proofs.YtcbpmmcpidfllaaW.PrintLast Go.Proofs.YtcbpmmcpidfllaaW.PrintMore
attribute [local go_sem] max2_int min2_int max_two min_two max_three min_three max_four min_four   -- for this text's walks alone
set_option linter.unusedVariables false
set_option linter.unusedSimpArgs false
end Go.Proofs.Ytcbpmmcpidfllaa.Ro
end
section
namespace Go.Proofs.Ytcbpmmcpidfllaa.Tp
set_option linter.unusedSimpArgs false
set_option linter.unusedVariables false
open Go Go.RowKit Go.Proofs.YtcbpmmcpidfllaaW.PrintWords Go.Proofs.YtcbpmmcpidfllaaW.PrintLast Go.Proofs.YtcbpmmcpidfllaaW.PrintMore Go.Proofs.Ytcbpmmcpidfllaa.Ro Go.Proofs.Ytcbpmmcpidfllaa.Ip
end Go.Proofs.Ytcbpmmcpidfllaa.Tp
end
section
namespace Go.Proofs.Ytcbpmmcpidfllaa.Ro
open Go.RowKit Go.Proofs.YtcbpmmcpidfllaaW.PrintWords Go.Proofs.YtcbpmmcpidfllaaW.PrintLast Go.Proofs.YtcbpmmcpidfllaaW.PrintMore
attribute [local go_sem] max2_int min2_int max_two min_two max_three min_three max_four min_four   -- for this text's walks alone
set_option linter.unusedVariables false
set_option linter.unusedSimpArgs false
def clevisref04_Same.l0 : Nat → List Int → List Int → Int → Option (Bool)
 | 0, _, _, _ => none
 | k + 1, x0, x1, x5 => if x5 < (x0.length : Int) then (if 0 ≤ x5 then (if x5 < (x1.length : Int) then (if (rd x0 x5) = (rd x1 x5) then (clevisref04_Same.l0 k x0 x1 (wrap64 (x5 + 1))) else (some false)) else (none)) else (none)) else (some true)
def clevisref04_Same.f (k : Nat) (l0 : List Int) (l1 : List Int) : Option (Bool) := if (l0.length : Int) = (l1.length : Int) then (clevisref04_Same.l0 k l0 l1 0) else (some false)
set_option maxHeartbeats 8000000 in
set_option maxRecDepth 100000 in
theorem clevisref04_Same.calls (k : Nat) (A0 : Option Addr) (c0 : Nat) (l0 : List Int) (A1 : Option Addr) (c1 : Nat) (l1 : List Int) (r : Bool) (w : World) (hr0 : Kd.C (Kd.int .i64) w A0 l0.length l0) (hc0 : l0.length ≤ c0) (hr1 : Kd.C (Kd.int .i64) w A1 l1.length l1) (hc1 : l1.length ≤ c1) (h : clevisref04_Same.f k l0 l1 = some r) :
  Calls Try.prog 22 #[.slice A0 l0.length c0, .slice A1 l1.length c1] w fun e w' => e = .returned (.bool r) ∧ Drawn0 w w' := by
 have HR0 := A_ hr0
 have HC0 := A_ hc0
 clear hr0 hc0
 have HR1 := A_ hr1
 have HC1 := A_ hc1
 clear hr1 hc1
 have H : (if (l0.length : Int) = (l1.length : Int) then (clevisref04_Same.l0 k l0 l1 0) else (some false)) = some r := h
 clear h
 by_cases c3 : (l0.length : Int) = (l1.length : Int)
 ·
  rw [if_pos c3] at H
  have c3b0 : ((l0.length : Int) == (l1.length : Int)) = true := q1_ c3
  have c3b1 : ((l0.length : Int) != (l1.length : Int)) = false := q3_ c3
  have c3b2 : (l0.length == l1.length) = true := by first | simpa using c3 | (simp at c3 ⊢; omega)
  clear c3
  have H' := A_ H
  clear H
  go_enter Try.func22, Try.ntmps22
  go_wp2
  repeat (go_quiet (fail); try go_wp2)
  (try simp only [Act.put, sA_, sZ_, sS_])
  go_loopg [5] k (fun kq v5 w' => ∃ (x5_1 : Int), v5 = .int .i64 x5_1 ∧ Aside0 (clevisref04_Same.l0 kq l0 l1 x5_1 = some r) ∧ Aside0 (kq ≤ k) ∧ Drawn0 w w')
  case atStart => exact ⟨(0), (by first | rfl | (simp; done) | (simp [*]; done)), H', ⟨Nat.le_refl _⟩, by repeat (first | exact Drawn0.refl _ | apply Drawn0.step)⟩
  case round =>
   clear H'
   try clear c1
   try clear c2
   try clear p2
   try clear c3
   try clear c3b0
   try clear c3b1
   try clear c3b2
   obtain ⟨x5_1, rfl, HA, HK1, ⟨m1, rfl⟩⟩ := hrel
   cases gk with
   | zero => exact absurd HA.out (by simp [clevisref04_Same.l0])
   | succ k1 =>
    have H := HA.out
    clear HA
    simp only [clevisref04_Same.l0] at H
    by_cases c4 : x5_1 < (l0.length : Int)
    ·
     rw [if_pos c4] at H
     have c4b0 : decide (x5_1 < (l0.length : Int)) = true := decide_eq_true c4
     clear c4
     by_cases c5 : 0 ≤ x5_1
     ·
      rw [if_pos c5] at H
      have c5b0 : decide (0 ≤ x5_1) = true := decide_eq_true c5
      clear c5
      by_cases c6 : x5_1 < (l1.length : Int)
      ·
       rw [if_pos c6] at H
       have c6b0 : decide (x5_1 < (l1.length : Int)) = true := decide_eq_true c6
       clear c6
       by_cases c7 : (rd l0 x5_1) = (rd l1 x5_1)
       ·
        rw [if_pos c7] at H
        have c7b0 : ((rd l0 x5_1) == (rd l1 x5_1)) = true := q1_ c7
        have c7b1 : ((rd l0 x5_1) != (rd l1 x5_1)) = false := q3_ c7
        clear c7
        have H' := A_ H
        clear H
        have p156 : 0 ≤ (x5_1 : Int) := od_ (by first | (with_reducible assumption) | assumption)
        have q156 : x5_1 < (l0.length : Int) := od_ (by first | (with_reducible assumption) | assumption)
        obtain ⟨ad156, e156, hx156_0⟩ := Kd.at_int HR0.out x5_1 p156 q156
        cases e156
        replace p156 := eq_true p156
        replace q156 := eq_true q156
        have p157 : 0 ≤ (x5_1 : Int) := od_ (by first | (with_reducible assumption) | assumption)
        have q157 : x5_1 < (l1.length : Int) := od_ (by first | (with_reducible assumption) | assumption)
        obtain ⟨ad157, e157, hx157_0⟩ := Kd.at_int HR1.out x5_1 p157 q157
        cases e157
        replace p157 := eq_true p157
        replace q157 := eq_true q157
        go_wp2
        repeat (go_quiet (fail); try go_wp2)
        go_roundg k1
        case measure => have := HK1.out; omega
        case rel => exact ⟨(wrap64 (x5_1 + 1)), (by first | rfl | (simp; done) | (simp [*]; done)), H', ⟨by have := HK1.out; omega⟩, by repeat (first | exact Drawn0.refl _ | apply Drawn0.step)⟩
       ·
        rw [if_neg c7] at H
        have c7b0 : ((rd l0 x5_1) == (rd l1 x5_1)) = false := q4_ c7
        have c7b1 : ((rd l0 x5_1) != (rd l1 x5_1)) = true := q2_ c7
        obtain rfl := Option.some.inj H
        have p156 : 0 ≤ (x5_1 : Int) := od_ (by first | (with_reducible assumption) | assumption)
        have q156 : x5_1 < (l0.length : Int) := od_ (by first | (with_reducible assumption) | assumption)
        obtain ⟨ad156, e156, hx156_0⟩ := Kd.at_int HR0.out x5_1 p156 q156
        cases e156
        replace p156 := eq_true p156
        replace q156 := eq_true q156
        have p157 : 0 ≤ (x5_1 : Int) := od_ (by first | (with_reducible assumption) | assumption)
        have q157 : x5_1 < (l1.length : Int) := od_ (by first | (with_reducible assumption) | assumption)
        obtain ⟨ad157, e157, hx157_0⟩ := Kd.at_int HR1.out x5_1 p157 q157
        cases e157
        replace p157 := eq_true p157
        replace q157 := eq_true q157
        go_wp2
        repeat (go_quiet (fail); try go_wp2)
        go_ret
        exact ⟨by first | rfl | (simp; done) | (simp [*]; done), by repeat (first | exact Drawn0.refl _ | apply Drawn0.step)⟩
      ·
       rw [if_neg c6] at H
       exact absurd H (by simp)
     ·
      rw [if_neg c5] at H
      exact absurd H (by simp)
    ·
     rw [if_neg c4] at H
     have c4b0 : decide (x5_1 < (l0.length : Int)) = false := decide_eq_false c4
     clear c4
     obtain rfl := Option.some.inj H
     go_wp2
     repeat (go_quiet (fail); try go_wp2)
     go_ret
     exact ⟨by first | rfl | (simp; done) | (simp [*]; done), by repeat (first | exact Drawn0.refl _ | apply Drawn0.step)⟩
 ·
  rw [if_neg c3] at H
  have c3b0 : ((l0.length : Int) == (l1.length : Int)) = false := q4_ c3
  have c3b1 : ((l0.length : Int) != (l1.length : Int)) = true := q2_ c3
  have c3b2 : (l0.length == l1.length) = false := by first | simpa using c3 | (simp at c3 ⊢; omega)
  obtain rfl := Option.some.inj H
  go_enter Try.func22, Try.ntmps22
  go_wp2
  repeat (go_quiet (fail); try go_wp2)
  go_ret
  exact ⟨by first | rfl | (simp; done) | (simp [*]; done), by repeat (first | exact Drawn0.refl _ | apply Drawn0.step)⟩
end Go.Proofs.Ytcbpmmcpidfllaa.Ro
end
section
namespace Go.Proofs.Ytcbpmmcpidfllaa.Ro
open Go.RowKit Go.Proofs.YtcbpmmcpidfllaaW.PrintWords Go.Proofs.YtcbpmmcpidfllaaW.PrintLast Go.Proofs.YtcbpmmcpidfllaaW.PrintMore
attribute [local go_sem] max2_int min2_int max_two min_two max_three min_three max_four min_four   -- for this text's walks alone
set_option linter.unusedVariables false
set_option linter.unusedSimpArgs false
mutual
def clevisref08_Check.j0 : Nat → Bool → Int → List ByteArray → List (S63) → Option (Int)
 | 0, _, _, _, _ => none
 | k + 1, x17, x302000, x302001, x302002 => if x17 = true then (some 1) else (if (x302001.length : Int) > 32 then (clevisref08_Check.j1 k true x302000 x302001 x302002) else (clevisref08_Check.j1 k (decide ((x302002.length : Int) > 64)) x302000 x302001 x302002))
def clevisref08_Check.j1 : Nat → Bool → Int → List ByteArray → List (S63) → Option (Int)
 | 0, _, _, _, _ => none
 | k + 1, x27, x302000, x302001, x302002 => if x27 = true then (some 2) else (clevisref08_Check.l0 k 0 x302000 x302001 x302002)
def clevisref08_Check.l0 : Nat → Int → Int → List ByteArray → List (S63) → Option (Int)
 | 0, _, _, _, _ => none
 | k + 1, x3, x302000, x302001, x302002 => if x3 < (x302001.length : Int) then (if 0 ≤ x3 then ((clevisref02_Isin.f k (rdOf ByteArray.empty x302001 x3)).bind fun t147 => (if t147 = 0 then (clevisref08_Check.l1 k x3 0 x302000 x302001 x302002) else (some t147))) else (none)) else (clevisref08_Check.l2 k 0 x302000 x302001 x302002)
def clevisref08_Check.l1 : Nat → Int → Int → Int → List ByteArray → List (S63) → Option (Int)
 | 0, _, _, _, _, _ => none
 | k + 1, x3, x5, x302000, x302001, x302002 => if x5 < x3 then (if 0 ≤ x5 then (if x5 < (x302001.length : Int) then (if 0 ≤ x3 then (if x3 < (x302001.length : Int) then (if (rdOf ByteArray.empty x302001 x5).toList = (rdOf ByteArray.empty x302001 x3).toList then (some 6) else (clevisref08_Check.l1 k x3 (wrap64 (x5 + 1)) x302000 x302001 x302002)) else (none)) else (none)) else (none)) else (none)) else (clevisref08_Check.l0 k (wrap64 (x3 + 1)) x302000 x302001 x302002)
def clevisref08_Check.l2 : Nat → Int → Int → List ByteArray → List (S63) → Option (Int)
 | 0, _, _, _, _ => none
 | k + 1, x6, x302000, x302001, x302002 => if x6 < (x302002.length : Int) then (if 0 ≤ x6 then ((clevisref02_Member.f k ((rd_T63 x302002 x6).f0)).bind fun t151 => (if t151 = 0 then (clevisref08_Check.l3 k x6 0 x302000 x302001 x302002 ((rd_T63 x302002 x6).f0) ((rd_T63 x302002 x6).f1)) else (some t151))) else (none)) else (some 0)
def clevisref08_Check.l3 : Nat → Int → Int → Int → List ByteArray → List (S63) → ByteArray → Int → Option (Int)
 | 0, _, _, _, _, _, _, _ => none
 | k + 1, x6, x9, x302000, x302001, x302002, x308000, x308001 => if x9 < x6 then (if 0 ≤ x9 then (if x9 < (x302002.length : Int) then (if ((rd_T63 x302002 x9).f0).toList = x308000.toList then (some 6) else (clevisref08_Check.l3 k x6 (wrap64 (x9 + 1)) x302000 x302001 x302002 x308000 x308001)) else (none)) else (none)) else (if x308001 < 0 then (some 5) else (if x308001 ≥ x302000 then (some 5) else (clevisref08_Check.l2 k (wrap64 (x6 + 1)) x302000 x302001 x302002)))
end
def clevisref08_Check.f (k : Nat) (a0_0 : Int) (l0_1 : List ByteArray) (l0_2 : List (S63)) : Option (Int) := if a0_0 < 1 then (clevisref08_Check.j0 k true a0_0 l0_1 l0_2) else (clevisref08_Check.j0 k (decide (a0_0 > 3)) a0_0 l0_1 l0_2)
set_option maxHeartbeats 8000000 in
set_option maxRecDepth 100000 in
theorem clevisref08_Check.calls (k : Nat) (a0_0 : Int) (A0_1 : Option Addr) (c0_1 : Nat) (l0_1 : List ByteArray) (A0_2 : Option Addr) (c0_2 : Nat) (l0_2 : List (S63)) (r : Int) (w : World) (hr0_1 : Kd.C Kd.string w A0_1 l0_1.length l0_1) (hc0_1 : l0_1.length ≤ c0_1) (hr0_2 : Kd.C k63 w A0_2 l0_2.length l0_2) (hc0_2 : l0_2.length ≤ c0_2) (h : clevisref08_Check.f k a0_0 l0_1 l0_2 = some r) :
  Calls Try.prog 10 #[.agg #[.int .i64 a0_0, .slice A0_1 l0_1.length c0_1, .slice A0_2 l0_2.length c0_2]] w fun e w' => e = .returned (.int .i64 r) ∧ Below w.heap.size w w' := by
 have hu25 := Try.underlying25
 have hu63 := Try.underlying63
 have HR0_1 := A_ hr0_1
 have HC0_1 := A_ hc0_1
 clear hr0_1 hc0_1
 have HR0_2 := A_ hr0_2
 have HC0_2 := A_ hc0_2
 clear hr0_2 hc0_2
 have HB := A_ (Below.refl w.heap.size w)
 have H : (if a0_0 < 1 then (clevisref08_Check.j0 k true a0_0 l0_1 l0_2) else (clevisref08_Check.j0 k (decide (a0_0 > 3)) a0_0 l0_1 l0_2)) = some r := h
 clear h
 have HC2 := A_ H
 clear H
 go_enter Try.func10, Try.ntmps10
 go_upto_region 1 with (first | ((with_reducible refine gate_dst (N := 1) rfl ?_); (try (refine gate_guard (by rfl) ?_; dsimp only)); refine box_event ?hg (N := 1) ?hd (cs := #[.int .i64 a0_0, .slice A0_1 l0_1.length c0_1, .slice A0_2 l0_2.length c0_2]) (t := 25) ?hr ?_; (case hd => rfl); (case hg => rfl); (case hr => first | (go_simp; done) | (go_simp; rfl)); intro gb301 hg w3 hbox hb; have n0_ := A_ (bs_ bw_ hb); have n1_ := A_ (hbox); have n2_ := A_ ((by rw [hg]; exact (bz_ bw_) : w.heap.size ≤ gb301)); have n3_ := A_ ((by rw [hg]; exact (bz_ bw_) : w.heap.size ≤ gb301)); clear HB; have HB := n0_; have BK301 := n1_; have GW301 := n2_; have GE301 := n3_; clear n0_ n1_ n2_ n3_; clear hb hbox hg))
 repeat (go_quiet (first | ((with_reducible refine gate_dst (N := 1) rfl ?_); (try (refine gate_guard (by rfl) ?_; dsimp only)); refine box_event ?hg (N := 1) ?hd (cs := #[.int .i64 a0_0, .slice A0_1 l0_1.length c0_1, .slice A0_2 l0_2.length c0_2]) (t := 25) ?hr ?_; (case hd => rfl); (case hg => rfl); (case hr => first | (go_simp; done) | (go_simp; rfl)); intro gb301 hg w3 hbox hb; have n0_ := A_ (bs_ bw_ hb); have n1_ := A_ (hbox); have n2_ := A_ ((by rw [hg]; exact (bz_ bw_) : w.heap.size ≤ gb301)); have n3_ := A_ ((by rw [hg]; exact (bz_ bw_) : w.heap.size ≤ gb301)); clear HB; have HB := n0_; have BK301 := n1_; have GW301 := n2_; have GE301 := n3_; clear n0_ n1_ n2_ n3_; clear hb hbox hg)); go_upto_region 1 with (first | ((with_reducible refine gate_dst (N := 1) rfl ?_); (try (refine gate_guard (by rfl) ?_; dsimp only)); refine box_event ?hg (N := 1) ?hd (cs := #[.int .i64 a0_0, .slice A0_1 l0_1.length c0_1, .slice A0_2 l0_2.length c0_2]) (t := 25) ?hr ?_; (case hd => rfl); (case hg => rfl); (case hr => first | (go_simp; done) | (go_simp; rfl)); intro gb301 hg w3 hbox hb; have n0_ := A_ (bs_ bw_ hb); have n1_ := A_ (hbox); have n2_ := A_ ((by rw [hg]; exact (bz_ bw_) : w.heap.size ≤ gb301)); have n3_ := A_ ((by rw [hg]; exact (bz_ bw_) : w.heap.size ≤ gb301)); clear HB; have HB := n0_; have BK301 := n1_; have GW301 := n2_; have GE301 := n3_; clear n0_ n1_ n2_ n3_; clear hb hbox hg)))
 (try simp only [Act.put, sA_, sZ_, sS_])
 go_cut [17] (fun v17 wc => ∃ (kq : Nat) (x17_1 : Bool), v17 = .bool x17_1 ∧ Aside0 (clevisref08_Check.j0 kq x17_1 a0_0 l0_1 l0_2 = some r) ∧ Aside0 (kq ≤ k) ∧ Aside0 (wc.heap[gb301]? = some (.cells #[.int .i64 a0_0, (.slice A0_1 l0_1.length c0_1), (.slice A0_2 l0_2.length c0_2)] 25 (0, 0))) ∧ Aside0 (Below w.heap.size w wc))
 case first =>
  have H := HC2.out
  clear HC2
  by_cases c4 : a0_0 < 1
  ·
   rw [if_pos c4] at H
   have c4b0 : decide (a0_0 < 1) = true := decide_eq_true c4
   clear c4
   (first | rw [c4b0] | (simp only [i64_w, i32_w]; rw [c4b0]) | skip)
   have H' := A_ H
   clear H
   have hcz5_0 : w3.cell? ⟨gb301, 0, none⟩ = some (.int .i64 a0_0) := (bc_ BK301.out 0).trans rfl
   have hcz5_1 : w3.cell? ⟨gb301, 1, none⟩ = some (.slice A0_1 l0_1.length c0_1) := (bc_ BK301.out 1).trans rfl
   have hcz5_2 : w3.cell? ⟨gb301, 2, none⟩ = some (.slice A0_2 l0_2.length c0_2) := (bc_ BK301.out 2).trans rfl
   have hfz5_0 := bf_ BK301.out 0
   have hfz5_1 := bf_ BK301.out 1
   have hfz5_2 := bf_ BK301.out 2
   go_wp2
   repeat (go_quiet (fail); try go_wp2)
   go_meet
   case rel => exact ⟨_, (true), (by first | rfl | (simp; done) | (simp [*]; done)), H', ⟨by first | omega | exact Nat.le_refl _⟩, ⟨bk_⟩, ⟨bw_⟩⟩
  ·
   rw [if_neg c4] at H
   have c4b0 : decide (a0_0 < 1) = false := decide_eq_false c4
   clear c4
   (first | rw [c4b0] | (simp only [i64_w, i32_w]; rw [c4b0]) | skip)
   have H' := A_ H
   clear H
   have hcz6_0 : w3.cell? ⟨gb301, 0, none⟩ = some (.int .i64 a0_0) := (bc_ BK301.out 0).trans rfl
   have hcz6_1 : w3.cell? ⟨gb301, 1, none⟩ = some (.slice A0_1 l0_1.length c0_1) := (bc_ BK301.out 1).trans rfl
   have hcz6_2 : w3.cell? ⟨gb301, 2, none⟩ = some (.slice A0_2 l0_2.length c0_2) := (bc_ BK301.out 2).trans rfl
   have hfz6_0 := bf_ BK301.out 0
   have hfz6_1 := bf_ BK301.out 1
   have hfz6_2 := bf_ BK301.out 2
   go_wp2
   repeat (go_quiet (fail); try go_wp2)
   go_meet
   case rel => exact ⟨_, (decide (a0_0 > 3)), (by first | rfl | (simp; done) | (simp [*]; done)), H', ⟨by first | omega | exact Nat.le_refl _⟩, ⟨bk_⟩, ⟨bw_⟩⟩
 case rest =>
  clear HC2
  try clear c1
  try clear p2
  try clear c4
  try clear c4b0
  try clear hcz5_0
  try clear hcz5_1
  try clear hcz5_2
  try clear hcz6_0
  try clear hcz6_1
  try clear hcz6_2
  try clear hfz5_0
  try clear hfz5_1
  try clear hfz5_2
  try clear hfz6_0
  try clear hfz6_1
  try clear hfz6_2
  obtain ⟨kq, x17_1, rfl, HA, HJ1, BK301, HB⟩ := hcut
  cases kq with
  | zero => exact absurd HA.out (by simp [clevisref08_Check.j0])
  | succ kj1 =>
   have H := HA.out
   clear HA
   simp only [clevisref08_Check.j0] at H
   by_cases c7 : x17_1 = true
   ·
    subst c7
    have H1 : (some 1) = some r := by rw [if_pos rfl] at H; exact H
    clear H
    have H := H1
    clear H1
    obtain rfl := Option.some.inj H
    go_wp2
    repeat (go_quiet (fail); try go_wp2)
    go_ret
    exact ⟨by first | rfl | (simp [errW_none, errW_some] <;> rfl) | (simp [*, errW_none, errW_some] <;> rfl), bw_⟩
   ·
    replace c7 := Bool.eq_false_iff.mpr c7
    subst c7
    have H1 : (if (l0_1.length : Int) > 32 then (clevisref08_Check.j1 kj1 true a0_0 l0_1 l0_2) else (clevisref08_Check.j1 kj1 (decide ((l0_2.length : Int) > 64)) a0_0 l0_1 l0_2)) = some r := by rw [if_neg (show ¬ (false = true) by decide)] at H; exact H
    clear H
    have H := H1
    clear H1
    have HC8 := A_ H
    clear H
    go_upto_region 3 with (fail)
    repeat (go_quiet (fail); go_upto_region 3 with (fail))
    go_cut [27] (fun v27 wc => ∃ (kq : Nat) (x27_7 : Bool), v27 = .bool x27_7 ∧ Aside0 (clevisref08_Check.j1 kq x27_7 a0_0 l0_1 l0_2 = some r) ∧ Aside0 (kq ≤ kj1) ∧ Aside0 (wc.heap[gb301]? = some (.cells #[.int .i64 a0_0, (.slice A0_1 l0_1.length c0_1), (.slice A0_2 l0_2.length c0_2)] 25 (0, 0))) ∧ Aside0 (Below w.heap.size w wc))
    case first =>
     have H := HC8.out
     clear HC8
     by_cases c9 : (l0_1.length : Int) > 32
     ·
      rw [if_pos c9] at H
      have c9b0 : decide (32 < (l0_1.length : Int)) = true := decide_eq_true c9
      have c9b1 : decide (32 < l0_1.length) = true := decide_eq_true (by omega)
      clear c9
      (first | rw [c9b0] | (simp only [i64_w, i32_w]; rw [c9b0]) | skip)
      have H' := A_ H
      clear H
      have hcz10_0 : wc.cell? ⟨gb301, 0, none⟩ = some (.int .i64 a0_0) := (bc_ BK301.out 0).trans rfl
      have hcz10_1 : wc.cell? ⟨gb301, 1, none⟩ = some (.slice A0_1 l0_1.length c0_1) := (bc_ BK301.out 1).trans rfl
      have hcz10_2 : wc.cell? ⟨gb301, 2, none⟩ = some (.slice A0_2 l0_2.length c0_2) := (bc_ BK301.out 2).trans rfl
      have hfz10_0 := bf_ BK301.out 0
      have hfz10_1 := bf_ BK301.out 1
      have hfz10_2 := bf_ BK301.out 2
      go_wp2
      repeat (go_quiet (fail); try go_wp2)
      go_meet
      case rel => exact ⟨_, (true), (by first | rfl | (simp; done) | (simp [*]; done)), H', ⟨by have := HJ1.out; first | omega | exact Nat.le_refl _⟩, ⟨bk_⟩, ⟨bw_⟩⟩
     ·
      rw [if_neg c9] at H
      have c9b0 : decide (32 < (l0_1.length : Int)) = false := decide_eq_false c9
      have c9b1 : decide (32 < l0_1.length) = false := decide_eq_false (by omega)
      clear c9
      (first | rw [c9b0] | (simp only [i64_w, i32_w]; rw [c9b0]) | skip)
      have H' := A_ H
      clear H
      have hcz11_0 : wc.cell? ⟨gb301, 0, none⟩ = some (.int .i64 a0_0) := (bc_ BK301.out 0).trans rfl
      have hcz11_1 : wc.cell? ⟨gb301, 1, none⟩ = some (.slice A0_1 l0_1.length c0_1) := (bc_ BK301.out 1).trans rfl
      have hcz11_2 : wc.cell? ⟨gb301, 2, none⟩ = some (.slice A0_2 l0_2.length c0_2) := (bc_ BK301.out 2).trans rfl
      have hfz11_0 := bf_ BK301.out 0
      have hfz11_1 := bf_ BK301.out 1
      have hfz11_2 := bf_ BK301.out 2
      go_wp2
      repeat (go_quiet (fail); try go_wp2)
      go_meet
      case rel => exact ⟨_, (decide ((l0_2.length : Int) > 64)), (by first | rfl | (simp; done) | (simp [*]; done)), H', ⟨by have := HJ1.out; first | omega | exact Nat.le_refl _⟩, ⟨bk_⟩, ⟨bw_⟩⟩
    case rest =>
     clear HC8
     try clear c1
     try clear p2
     try clear c4
     try clear c4b0
     try clear c7
     try clear c9
     try clear c9b0
     try clear c9b1
     try clear c10
     try clear hcz10_0
     try clear hcz10_1
     try clear hcz10_2
     try clear hcz11_0
     try clear hcz11_1
     try clear hcz11_2
     try clear hcz5_0
     try clear hcz5_1
     try clear hcz5_2
     try clear hcz6_0
     try clear hcz6_1
     try clear hcz6_2
     try clear hfz10_0
     try clear hfz10_1
     try clear hfz10_2
     try clear hfz11_0
     try clear hfz11_1
     try clear hfz11_2
     try clear hfz5_0
     try clear hfz5_1
     try clear hfz5_2
     try clear hfz6_0
     try clear hfz6_1
     try clear hfz6_2
     try clear p2
     obtain ⟨kq, x27_7, rfl, HA, HJ7, BK301, HB⟩ := hcut
     cases kq with
     | zero => exact absurd HA.out (by simp [clevisref08_Check.j1])
     | succ kj7 =>
      have H := HA.out
      clear HA
      simp only [clevisref08_Check.j1] at H
      by_cases c12 : x27_7 = true
      ·
       subst c12
       have H1 : (some 2) = some r := by rw [if_pos rfl] at H; exact H
       clear H
       have H := H1
       clear H1
       obtain rfl := Option.some.inj H
       go_wp2
       repeat (go_quiet (fail); try go_wp2)
       go_ret
       exact ⟨by first | rfl | (simp [errW_none, errW_some] <;> rfl) | (simp [*, errW_none, errW_some] <;> rfl), bw_⟩
      ·
       replace c12 := Bool.eq_false_iff.mpr c12
       subst c12
       have H1 : (clevisref08_Check.l0 kj7 0 a0_0 l0_1 l0_2) = some r := by rw [if_neg (show ¬ (false = true) by decide)] at H; exact H
       clear H
       have H := H1
       clear H1
       have H' := A_ H
       clear H
       go_wp2
       repeat (go_quiet (fail); try go_wp2)
       (try simp only [Act.put, sA_, sZ_, sS_])
       go_loopg [3] kj7 (fun kq v3 w' => ∃ (x3_3 : Int), v3 = .int .i64 x3_3 ∧ Aside0 (clevisref08_Check.l0 kq x3_3 a0_0 l0_1 l0_2 = some r) ∧ Aside0 (kq ≤ kj7) ∧ Aside0 (w'.heap[gb301]? = some (.cells #[.int .i64 a0_0, (.slice A0_1 l0_1.length c0_1), (.slice A0_2 l0_2.length c0_2)] 25 (0, 0))) ∧ Aside0 (Below w.heap.size w w'))
       case atStart => exact ⟨(0), (by first | rfl | (simp; done) | (simp [*]; done)), H', ⟨Nat.le_refl _⟩, ⟨bk_⟩, ⟨bw_⟩⟩
       case round =>
        clear H'
        try clear c1
        try clear p2
        try clear c4
        try clear c4b0
        try clear c7
        try clear c9
        try clear c9b0
        try clear c9b1
        try clear c10
        try clear c12
        try clear hcz10_0
        try clear hcz10_1
        try clear hcz10_2
        try clear hcz11_0
        try clear hcz11_1
        try clear hcz11_2
        try clear hcz5_0
        try clear hcz5_1
        try clear hcz5_2
        try clear hcz6_0
        try clear hcz6_1
        try clear hcz6_2
        try clear hfz10_0
        try clear hfz10_1
        try clear hfz10_2
        try clear hfz11_0
        try clear hfz11_1
        try clear hfz11_2
        try clear hfz5_0
        try clear hfz5_1
        try clear hfz5_2
        try clear hfz6_0
        try clear hfz6_1
        try clear hfz6_2
        try clear p2
        obtain ⟨x3_3, rfl, HA, HK3, BK301, HB⟩ := hrel
        cases gk with
        | zero => exact absurd HA.out (by simp [clevisref08_Check.l0])
        | succ k3 =>
         have H := HA.out
         clear HA
         simp only [clevisref08_Check.l0] at H
         by_cases c13 : x3_3 < (l0_1.length : Int)
         ·
          rw [if_pos c13] at H
          have c13b0 : decide (x3_3 < (l0_1.length : Int)) = true := decide_eq_true c13
          clear c13
          by_cases c14 : 0 ≤ x3_3
          ·
           rw [if_pos c14] at H
           have c14b0 : decide (0 ≤ x3_3) = true := decide_eq_true c14
           clear c14
           replace H := os_ H
           obtain ⟨t147, A150, H⟩ := H
           replace H : (if t147 = 0 then (clevisref08_Check.l1 k3 x3_3 0 a0_0 l0_1 l0_2) else (some t147)) = some r := H
           have A15 := A_ A150
           clear A150
           by_cases c16 : t147 = 0
           ·
            rw [if_pos c16] at H
            have c16b0 : (t147 == 0) = true := q1_ c16
            have c16b1 : (t147 != 0) = false := q3_ c16
            clear c16
            have H' := A_ H
            clear H
            have hcz17_0 : wr.cell? ⟨gb301, 0, none⟩ = some (.int .i64 a0_0) := (bc_ BK301.out 0).trans rfl
            have hcz17_1 : wr.cell? ⟨gb301, 1, none⟩ = some (.slice A0_1 l0_1.length c0_1) := (bc_ BK301.out 1).trans rfl
            have hcz17_2 : wr.cell? ⟨gb301, 2, none⟩ = some (.slice A0_2 l0_2.length c0_2) := (bc_ BK301.out 2).trans rfl
            have hfz17_0 := bf_ BK301.out 0
            have hfz17_1 := bf_ BK301.out 1
            have hfz17_2 := bf_ BK301.out 2
            have p146 : 0 ≤ (x3_3 : Int) := od_ (by first | (with_reducible assumption) | assumption)
            have q146 : x3_3 < (l0_1.length : Int) := od_ (by first | (with_reducible assumption) | assumption)
            obtain ⟨ad146, e146, hx146_0⟩ := Kd.at_string HR0_1.out x3_3 p146 q146
            cases e146
            replace hx146_0 := (HB.out.cell (World.block_lt_of_cell? w _ hx146_0)).trans hx146_0
            replace p146 := eq_true p146
            replace q146 := eq_true q146
            go_wp2_with (first | (go_at_call 30; (with_reducible refine (clevisref02_Isin.calls k3 (rdOf ByteArray.empty l0_1 x3_3) t147 _ A15.out).mono ?_); rintro e w18 ⟨rfl, hb⟩; have n0_ := A_ (kb_ BK301 hb); have n1_ := A_ (bs_ bw_ hb); clear BK301; clear HB; have BK301 := n0_; have HB := n1_; clear n0_ n1_; (try clear hb); (try clear hb2); (try clear hk); (try clear hi)))
            repeat (go_quiet (first | (go_at_call 30; (with_reducible refine (clevisref02_Isin.calls k3 (rdOf ByteArray.empty l0_1 x3_3) t147 _ A15.out).mono ?_); rintro e w18 ⟨rfl, hb⟩; have n0_ := A_ (kb_ BK301 hb); have n1_ := A_ (bs_ bw_ hb); clear BK301; clear HB; have BK301 := n0_; have HB := n1_; clear n0_ n1_; (try clear hb); (try clear hb2); (try clear hk); (try clear hi))); try go_wp2_with (first | (go_at_call 30; (with_reducible refine (clevisref02_Isin.calls k3 (rdOf ByteArray.empty l0_1 x3_3) t147 _ A15.out).mono ?_); rintro e w18 ⟨rfl, hb⟩; have n0_ := A_ (kb_ BK301 hb); have n1_ := A_ (bs_ bw_ hb); clear BK301; clear HB; have BK301 := n0_; have HB := n1_; clear n0_ n1_; (try clear hb); (try clear hb2); (try clear hk); (try clear hi))))
            (try simp only [Act.put, sA_, sZ_, sS_])
            go_loopg [5] k3 (fun kq v5 w' => ∃ (x5_4 : Int), v5 = .int .i64 x5_4 ∧ Aside0 (clevisref08_Check.l1 kq x3_3 x5_4 a0_0 l0_1 l0_2 = some r) ∧ Aside0 (kq ≤ k3) ∧ Aside0 (w'.heap[gb301]? = some (.cells #[.int .i64 a0_0, (.slice (some ad146) l0_1.length c0_1), (.slice A0_2 l0_2.length c0_2)] 25 (0, 0))) ∧ Aside0 (Below w.heap.size w w'))
            case atStart => exact ⟨(0), (by first | rfl | (simp; done) | (simp [*]; done)), H', ⟨Nat.le_refl _⟩, ⟨bk_⟩, ⟨bw_⟩⟩
            case round =>
             clear H'
             try clear c1
             try clear p1
             try clear q1
             try clear hx1
             try clear p2
             try clear c4
             try clear c4b0
             try clear c7
             try clear c9
             try clear c9b0
             try clear c9b1
             try clear c10
             try clear c12
             try clear c13
             try clear c13b0
             try clear c14
             try clear c14b0
             try clear p14
             try clear q14
             try clear hx14
             try clear c16
             try clear c16b0
             try clear c16b1
             try clear hcz10_0
             try clear hcz10_1
             try clear hcz10_2
             try clear hcz11_0
             try clear hcz11_1
             try clear hcz11_2
             try clear hcz17_0
             try clear hcz17_1
             try clear hcz17_2
             try clear hcz5_0
             try clear hcz5_1
             try clear hcz5_2
             try clear hcz6_0
             try clear hcz6_1
             try clear hcz6_2
             try clear hfz10_0
             try clear hfz10_1
             try clear hfz10_2
             try clear hfz11_0
             try clear hfz11_1
             try clear hfz11_2
             try clear hfz17_0
             try clear hfz17_1
             try clear hfz17_2
             try clear hfz5_0
             try clear hfz5_1
             try clear hfz5_2
             try clear hfz6_0
             try clear hfz6_1
             try clear hfz6_2
             try clear hx146_0
             try clear p146
             try clear p2
             try clear q146
             obtain ⟨x5_4, rfl, HA, HK4, BK301, HB⟩ := hrel
             cases gk with
             | zero => exact absurd HA.out (by simp [clevisref08_Check.l1])
             | succ k4 =>
              have H := HA.out
              clear HA
              simp only [clevisref08_Check.l1] at H
              by_cases c19 : x5_4 < x3_3
              ·
               rw [if_pos c19] at H
               have c19b0 : decide (x5_4 < x3_3) = true := decide_eq_true c19
               clear c19
               by_cases c20 : 0 ≤ x5_4
               ·
                rw [if_pos c20] at H
                have c20b0 : decide (0 ≤ x5_4) = true := decide_eq_true c20
                clear c20
                by_cases c21 : x5_4 < (l0_1.length : Int)
                ·
                 rw [if_pos c21] at H
                 have c21b0 : decide (x5_4 < (l0_1.length : Int)) = true := decide_eq_true c21
                 clear c21
                 by_cases c22 : 0 ≤ x3_3
                 ·
                  rw [if_pos c22] at H
                  have c22b0 : decide (0 ≤ x3_3) = true := decide_eq_true c22
                  clear c22
                  by_cases c23 : x3_3 < (l0_1.length : Int)
                  ·
                   rw [if_pos c23] at H
                   have c23b0 : decide (x3_3 < (l0_1.length : Int)) = true := decide_eq_true c23
                   clear c23
                   by_cases c24 : (rdOf ByteArray.empty l0_1 x5_4).toList = (rdOf ByteArray.empty l0_1 x3_3).toList
                   ·
                    rw [if_pos c24] at H
                    have c24b0 : ((rdOf ByteArray.empty l0_1 x5_4).toList == (rdOf ByteArray.empty l0_1 x3_3).toList) = true := q1_ c24
                    have c24b1 : ((rdOf ByteArray.empty l0_1 x5_4).toList != (rdOf ByteArray.empty l0_1 x3_3).toList) = false := q3_ c24
                    clear c24
                    obtain rfl := Option.some.inj H
                    have hcz25_0 : wr.cell? ⟨gb301, 0, none⟩ = some (.int .i64 a0_0) := (bc_ BK301.out 0).trans rfl
                    have hcz25_1 : wr.cell? ⟨gb301, 1, none⟩ = some (.slice (some ad146) l0_1.length c0_1) := (bc_ BK301.out 1).trans rfl
                    have hcz25_2 : wr.cell? ⟨gb301, 2, none⟩ = some (.slice A0_2 l0_2.length c0_2) := (bc_ BK301.out 2).trans rfl
                    have hfz25_0 := bf_ BK301.out 0
                    have hfz25_1 := bf_ BK301.out 1
                    have hfz25_2 := bf_ BK301.out 2
                    have p148 : 0 ≤ (x5_4 : Int) := od_ (by first | (with_reducible assumption) | assumption)
                    have q148 : x5_4 < (l0_1.length : Int) := od_ (by first | (with_reducible assumption) | assumption)
                    obtain ⟨ad148, e148, hx148_0⟩ := Kd.at_string HR0_1.out x5_4 p148 q148
                    obtain rfl : ad146 = ad148 := (by injection e148)
                    replace hx148_0 := (HB.out.cell (World.block_lt_of_cell? w _ hx148_0)).trans hx148_0
                    replace p148 := eq_true p148
                    replace q148 := eq_true q148
                    have p149 : 0 ≤ (x3_3 : Int) := od_ (by first | (with_reducible assumption) | assumption)
                    have q149 : x3_3 < (l0_1.length : Int) := od_ (by first | (with_reducible assumption) | assumption)
                    obtain ⟨ad149, e149, hx149_0⟩ := Kd.at_string HR0_1.out x3_3 p149 q149
                    obtain rfl : ad146 = ad149 := (by injection e149)
                    replace hx149_0 := (HB.out.cell (World.block_lt_of_cell? w _ hx149_0)).trans hx149_0
                    replace p149 := eq_true p149
                    replace q149 := eq_true q149
                    go_wp2
                    repeat (go_quiet (fail); try go_wp2)
                    go_ret
                    exact ⟨by first | rfl | (simp [errW_none, errW_some] <;> rfl) | (simp [*, errW_none, errW_some] <;> rfl), bw_⟩
                   ·
                    rw [if_neg c24] at H
                    have c24b0 : ((rdOf ByteArray.empty l0_1 x5_4).toList == (rdOf ByteArray.empty l0_1 x3_3).toList) = false := q4_ c24
                    have c24b1 : ((rdOf ByteArray.empty l0_1 x5_4).toList != (rdOf ByteArray.empty l0_1 x3_3).toList) = true := q2_ c24
                    have H' := A_ H
                    clear H
                    have hcz26_0 : wr.cell? ⟨gb301, 0, none⟩ = some (.int .i64 a0_0) := (bc_ BK301.out 0).trans rfl
                    have hcz26_1 : wr.cell? ⟨gb301, 1, none⟩ = some (.slice (some ad146) l0_1.length c0_1) := (bc_ BK301.out 1).trans rfl
                    have hcz26_2 : wr.cell? ⟨gb301, 2, none⟩ = some (.slice A0_2 l0_2.length c0_2) := (bc_ BK301.out 2).trans rfl
                    have hfz26_0 := bf_ BK301.out 0
                    have hfz26_1 := bf_ BK301.out 1
                    have hfz26_2 := bf_ BK301.out 2
                    have p148 : 0 ≤ (x5_4 : Int) := od_ (by first | (with_reducible assumption) | assumption)
                    have q148 : x5_4 < (l0_1.length : Int) := od_ (by first | (with_reducible assumption) | assumption)
                    obtain ⟨ad148, e148, hx148_0⟩ := Kd.at_string HR0_1.out x5_4 p148 q148
                    obtain rfl : ad146 = ad148 := (by injection e148)
                    replace hx148_0 := (HB.out.cell (World.block_lt_of_cell? w _ hx148_0)).trans hx148_0
                    replace p148 := eq_true p148
                    replace q148 := eq_true q148
                    have p149 : 0 ≤ (x3_3 : Int) := od_ (by first | (with_reducible assumption) | assumption)
                    have q149 : x3_3 < (l0_1.length : Int) := od_ (by first | (with_reducible assumption) | assumption)
                    obtain ⟨ad149, e149, hx149_0⟩ := Kd.at_string HR0_1.out x3_3 p149 q149
                    obtain rfl : ad146 = ad149 := (by injection e149)
                    replace hx149_0 := (HB.out.cell (World.block_lt_of_cell? w _ hx149_0)).trans hx149_0
                    replace p149 := eq_true p149
                    replace q149 := eq_true q149
                    go_wp2
                    repeat (go_quiet (fail); try go_wp2)
                    go_roundg k4
                    case measure => have := HJ1.out; have := HJ7.out; have := HK3.out; have := HK4.out; omega
                    case rel => exact ⟨(wrap64 (x5_4 + 1)), (by first | rfl | (simp; done) | (simp [*]; done)), H', ⟨by have := HJ1.out; have := HJ7.out; have := HK3.out; have := HK4.out; omega⟩, ⟨bk_⟩, ⟨bw_⟩⟩
                  ·
                   rw [if_neg c23] at H
                   exact absurd H (by simp)
                 ·
                  rw [if_neg c22] at H
                  exact absurd H (by simp)
                ·
                 rw [if_neg c21] at H
                 exact absurd H (by simp)
               ·
                rw [if_neg c20] at H
                exact absurd H (by simp)
              ·
               rw [if_neg c19] at H
               have c19b0 : decide (x5_4 < x3_3) = false := decide_eq_false c19
               clear c19
               have H' := A_ H
               clear H
               go_wp2
               repeat (go_quiet (fail); try go_wp2)
               go_roundg k4
               case measure => have := HJ1.out; have := HJ7.out; have := HK3.out; have := HK4.out; omega
               case rel => exact ⟨(wrap64 (x3_3 + 1)), (by first | rfl | (simp; done) | (simp [*]; done)), H', ⟨by have := HJ1.out; have := HJ7.out; have := HK3.out; have := HK4.out; omega⟩, ⟨bk_⟩, ⟨bw_⟩⟩
           ·
            rw [if_neg c16] at H
            have c16b0 : (t147 == 0) = false := q4_ c16
            have c16b1 : (t147 != 0) = true := q2_ c16
            obtain rfl := Option.some.inj H
            have hcz27_0 : wr.cell? ⟨gb301, 0, none⟩ = some (.int .i64 a0_0) := (bc_ BK301.out 0).trans rfl
            have hcz27_1 : wr.cell? ⟨gb301, 1, none⟩ = some (.slice A0_1 l0_1.length c0_1) := (bc_ BK301.out 1).trans rfl
            have hcz27_2 : wr.cell? ⟨gb301, 2, none⟩ = some (.slice A0_2 l0_2.length c0_2) := (bc_ BK301.out 2).trans rfl
            have hfz27_0 := bf_ BK301.out 0
            have hfz27_1 := bf_ BK301.out 1
            have hfz27_2 := bf_ BK301.out 2
            have p146 : 0 ≤ (x3_3 : Int) := od_ (by first | (with_reducible assumption) | assumption)
            have q146 : x3_3 < (l0_1.length : Int) := od_ (by first | (with_reducible assumption) | assumption)
            obtain ⟨ad146, e146, hx146_0⟩ := Kd.at_string HR0_1.out x3_3 p146 q146
            cases e146
            replace hx146_0 := (HB.out.cell (World.block_lt_of_cell? w _ hx146_0)).trans hx146_0
            replace p146 := eq_true p146
            replace q146 := eq_true q146
            go_wp2_with (first | (go_at_call 30; (with_reducible refine (clevisref02_Isin.calls k3 (rdOf ByteArray.empty l0_1 x3_3) t147 _ A15.out).mono ?_); rintro e w28 ⟨rfl, hb⟩; have n0_ := A_ (kb_ BK301 hb); have n1_ := A_ (bs_ bw_ hb); clear BK301; clear HB; have BK301 := n0_; have HB := n1_; clear n0_ n1_; (try clear hb); (try clear hb2); (try clear hk); (try clear hi)))
            repeat (go_quiet (first | (go_at_call 30; (with_reducible refine (clevisref02_Isin.calls k3 (rdOf ByteArray.empty l0_1 x3_3) t147 _ A15.out).mono ?_); rintro e w28 ⟨rfl, hb⟩; have n0_ := A_ (kb_ BK301 hb); have n1_ := A_ (bs_ bw_ hb); clear BK301; clear HB; have BK301 := n0_; have HB := n1_; clear n0_ n1_; (try clear hb); (try clear hb2); (try clear hk); (try clear hi))); try go_wp2_with (first | (go_at_call 30; (with_reducible refine (clevisref02_Isin.calls k3 (rdOf ByteArray.empty l0_1 x3_3) t147 _ A15.out).mono ?_); rintro e w28 ⟨rfl, hb⟩; have n0_ := A_ (kb_ BK301 hb); have n1_ := A_ (bs_ bw_ hb); clear BK301; clear HB; have BK301 := n0_; have HB := n1_; clear n0_ n1_; (try clear hb); (try clear hb2); (try clear hk); (try clear hi))))
            go_ret
            exact ⟨by first | rfl | (simp [errW_none, errW_some] <;> rfl) | (simp [*, errW_none, errW_some] <;> rfl), bw_⟩
          ·
           rw [if_neg c14] at H
           exact absurd H (by simp)
         ·
          rw [if_neg c13] at H
          have c13b0 : decide (x3_3 < (l0_1.length : Int)) = false := decide_eq_false c13
          clear c13
          have H' := A_ H
          clear H
          have hcz29_0 : wr.cell? ⟨gb301, 0, none⟩ = some (.int .i64 a0_0) := (bc_ BK301.out 0).trans rfl
          have hcz29_1 : wr.cell? ⟨gb301, 1, none⟩ = some (.slice A0_1 l0_1.length c0_1) := (bc_ BK301.out 1).trans rfl
          have hcz29_2 : wr.cell? ⟨gb301, 2, none⟩ = some (.slice A0_2 l0_2.length c0_2) := (bc_ BK301.out 2).trans rfl
          have hfz29_0 := bf_ BK301.out 0
          have hfz29_1 := bf_ BK301.out 1
          have hfz29_2 := bf_ BK301.out 2
          go_wp2
          repeat (go_quiet (fail); try go_wp2)
          (try simp only [Act.put, sA_, sZ_, sS_])
          go_loopg [6] k3 (fun kq v6 w' => ∃ (x6_4 : Int), v6 = .int .i64 x6_4 ∧ Aside0 (clevisref08_Check.l2 kq x6_4 a0_0 l0_1 l0_2 = some r) ∧ Aside0 (kq ≤ k3) ∧ Aside0 (w'.heap[gb301]? = some (.cells #[.int .i64 a0_0, (.slice A0_1 l0_1.length c0_1), (.slice A0_2 l0_2.length c0_2)] 25 (0, 0))) ∧ Aside0 (Below w.heap.size w w'))
          case atStart => exact ⟨(0), (by first | rfl | (simp; done) | (simp [*]; done)), H', ⟨Nat.le_refl _⟩, ⟨bk_⟩, ⟨bw_⟩⟩
          case round =>
           clear H'
           try clear c1
           try clear p1
           try clear q1
           try clear hx1
           try clear c2
           try clear p2
           try clear c4
           try clear c4b0
           try clear p6
           try clear c7
           try clear c9
           try clear c9b0
           try clear c9b1
           try clear c10
           try clear c12
           try clear c13
           try clear c13b0
           try clear c14
           try clear c14b0
           try clear p14
           try clear q14
           try clear hx14
           try clear c16
           try clear c16b0
           try clear c16b1
           try clear c19
           try clear c19b0
           try clear c20
           try clear c20b0
           try clear c21
           try clear c21b0
           try clear c22
           try clear c22b0
           try clear c23
           try clear c23b0
           try clear c24
           try clear c24b0
           try clear c24b1
           try clear hcz10_0
           try clear hcz10_1
           try clear hcz10_2
           try clear hcz11_0
           try clear hcz11_1
           try clear hcz11_2
           try clear hcz17_0
           try clear hcz17_1
           try clear hcz17_2
           try clear hcz25_0
           try clear hcz25_1
           try clear hcz25_2
           try clear hcz26_0
           try clear hcz26_1
           try clear hcz26_2
           try clear hcz27_0
           try clear hcz27_1
           try clear hcz27_2
           try clear hcz29_0
           try clear hcz29_1
           try clear hcz29_2
           try clear hcz5_0
           try clear hcz5_1
           try clear hcz5_2
           try clear hcz6_0
           try clear hcz6_1
           try clear hcz6_2
           try clear hfz10_0
           try clear hfz10_1
           try clear hfz10_2
           try clear hfz11_0
           try clear hfz11_1
           try clear hfz11_2
           try clear hfz17_0
           try clear hfz17_1
           try clear hfz17_2
           try clear hfz25_0
           try clear hfz25_1
           try clear hfz25_2
           try clear hfz26_0
           try clear hfz26_1
           try clear hfz26_2
           try clear hfz27_0
           try clear hfz27_1
           try clear hfz27_2
           try clear hfz29_0
           try clear hfz29_1
           try clear hfz29_2
           try clear hfz5_0
           try clear hfz5_1
           try clear hfz5_2
           try clear hfz6_0
           try clear hfz6_1
           try clear hfz6_2
           try clear hx146_0
           try clear hx148_0
           try clear hx149_0
           try clear p1
           try clear p14
           try clear p146
           try clear p148
           try clear p149
           try clear p2
           try clear q1
           try clear q14
           try clear q146
           try clear q148
           try clear q149
           obtain ⟨x6_4, rfl, HA, HK4, BK301, HB⟩ := hrel
           cases gk with
           | zero => exact absurd HA.out (by simp [clevisref08_Check.l2])
           | succ k4 =>
            have H := HA.out
            clear HA
            simp only [clevisref08_Check.l2] at H
            by_cases c30 : x6_4 < (l0_2.length : Int)
            ·
             rw [if_pos c30] at H
             have c30b0 : decide (x6_4 < (l0_2.length : Int)) = true := decide_eq_true c30
             clear c30
             by_cases c31 : 0 ≤ x6_4
             ·
              rw [if_pos c31] at H
              have c31b0 : decide (0 ≤ x6_4) = true := decide_eq_true c31
              clear c31
              replace H := os_ H
              obtain ⟨t151, A320, H⟩ := H
              replace H : (if t151 = 0 then (clevisref08_Check.l3 k4 x6_4 0 a0_0 l0_1 l0_2 ((rd_T63 l0_2 x6_4).f0) ((rd_T63 l0_2 x6_4).f1)) else (some t151)) = some r := H
              have A32 := A_ A320
              clear A320
              by_cases c33 : t151 = 0
              ·
               rw [if_pos c33] at H
               have c33b0 : (t151 == 0) = true := q1_ c33
               have c33b1 : (t151 != 0) = false := q3_ c33
               clear c33
               have H' := A_ H
               clear H
               have hcz34_0 : wr.cell? ⟨gb301, 0, none⟩ = some (.int .i64 a0_0) := (bc_ BK301.out 0).trans rfl
               have hcz34_1 : wr.cell? ⟨gb301, 1, none⟩ = some (.slice A0_1 l0_1.length c0_1) := (bc_ BK301.out 1).trans rfl
               have hcz34_2 : wr.cell? ⟨gb301, 2, none⟩ = some (.slice A0_2 l0_2.length c0_2) := (bc_ BK301.out 2).trans rfl
               have hfz34_0 := bf_ BK301.out 0
               have hfz34_1 := bf_ BK301.out 1
               have hfz34_2 := bf_ BK301.out 2
               have p150 : 0 ≤ (x6_4 : Int) := od_ (by first | (with_reducible assumption) | assumption)
               have q150 : x6_4 < (l0_2.length : Int) := od_ (by first | (with_reducible assumption) | assumption)
               obtain ⟨ad150, e150, hx150_0, hx150_1⟩ := at_T63 HR0_2.out x6_4 p150 q150
               cases e150
               replace hx150_0 := (HB.out.cell (World.block_lt_of_cell? w _ hx150_0)).trans hx150_0
               replace hx150_1 := (HB.out.cell (World.block_lt_of_cell? w _ hx150_1)).trans hx150_1
               replace p150 := eq_true p150
               replace q150 := eq_true q150
               go_wp2_with (first | ((with_reducible refine gate_dst (N := 7) rfl ?_); (try (refine gate_guard (by rfl) ?_; dsimp only)); refine box_event ?hg (N := 7) ?hd (cs := #[.string (⟨#[]⟩ : ByteArray), .int .i64 0]) (t := 63) ?hr ?_; (case hd => rfl); (case hg => rfl); (case hr => first | (go_simp; done) | (go_simp; rfl)); intro gb307 hg w35 hbox hb; have n0_ := A_ (kb_ BK301 hb); have n1_ := A_ (bs_ bw_ hb); have n2_ := A_ (hbox); have n3_ := A_ ((by rw [hg]; exact (bz_ bw_) : w.heap.size ≤ gb307)); have n4_ := A_ ((by rw [hg]; exact (bz_ bw_) : w.heap.size ≤ gb307)); have n5_ := A_ ((by rw [hg]; exact nl_ (lt_ BK301) : gb301 ≠ gb307)); have n6_ := A_ ((by rw [hg]; exact ng_ (lt_ BK301) : gb307 ≠ gb301)); clear BK301; clear HB; have BK301 := n0_; have HB := n1_; have BK307 := n2_; have GW307 := n3_; have GE307 := n4_; have NB301_307 := n5_; have NB307_301 := n6_; clear n0_ n1_ n2_ n3_ n4_ n5_ n6_; clear hb hbox hg; have hnb36 := NB307_301.out; have hnc36 := NB301_307.out; have hcz37_0 : w35.cell? ⟨gb307, 0, none⟩ = some (.string (⟨#[]⟩ : ByteArray)) := (bc_ BK307.out 0).trans rfl; have hcz37_1 : w35.cell? ⟨gb307, 1, none⟩ = some (.int .i64 0) := (bc_ BK307.out 1).trans rfl; have hfz37_0 := bf_ BK307.out 0; have hfz37_1 := bf_ BK307.out 1) | (go_at_call 31; (with_reducible refine (clevisref02_Member.calls k4 ((rd_T63 l0_2 x6_4).f0) t151 _ A32.out).mono ?_); rintro e w' ⟨rfl, ⟨nd, rfl⟩⟩; (try first | exact ⟨rfl, _, dd_ _ _ _⟩ | exact ⟨rfl, _, Eq.trans (dd_ _ _ _) (congrArg (World.drewN _) (Nat.add_assoc _ _ _))⟩)))
               repeat (go_quiet (first | ((with_reducible refine gate_dst (N := 7) rfl ?_); (try (refine gate_guard (by rfl) ?_; dsimp only)); refine box_event ?hg (N := 7) ?hd (cs := #[.string (⟨#[]⟩ : ByteArray), .int .i64 0]) (t := 63) ?hr ?_; (case hd => rfl); (case hg => rfl); (case hr => first | (go_simp; done) | (go_simp; rfl)); intro gb307 hg w35 hbox hb; have n0_ := A_ (kb_ BK301 hb); have n1_ := A_ (bs_ bw_ hb); have n2_ := A_ (hbox); have n3_ := A_ ((by rw [hg]; exact (bz_ bw_) : w.heap.size ≤ gb307)); have n4_ := A_ ((by rw [hg]; exact (bz_ bw_) : w.heap.size ≤ gb307)); have n5_ := A_ ((by rw [hg]; exact nl_ (lt_ BK301) : gb301 ≠ gb307)); have n6_ := A_ ((by rw [hg]; exact ng_ (lt_ BK301) : gb307 ≠ gb301)); clear BK301; clear HB; have BK301 := n0_; have HB := n1_; have BK307 := n2_; have GW307 := n3_; have GE307 := n4_; have NB301_307 := n5_; have NB307_301 := n6_; clear n0_ n1_ n2_ n3_ n4_ n5_ n6_; clear hb hbox hg; have hnb36 := NB307_301.out; have hnc36 := NB301_307.out; have hcz37_0 : w35.cell? ⟨gb307, 0, none⟩ = some (.string (⟨#[]⟩ : ByteArray)) := (bc_ BK307.out 0).trans rfl; have hcz37_1 : w35.cell? ⟨gb307, 1, none⟩ = some (.int .i64 0) := (bc_ BK307.out 1).trans rfl; have hfz37_0 := bf_ BK307.out 0; have hfz37_1 := bf_ BK307.out 1) | (go_at_call 31; (with_reducible refine (clevisref02_Member.calls k4 ((rd_T63 l0_2 x6_4).f0) t151 _ A32.out).mono ?_); rintro e w' ⟨rfl, ⟨nd, rfl⟩⟩; (try first | exact ⟨rfl, _, dd_ _ _ _⟩ | exact ⟨rfl, _, Eq.trans (dd_ _ _ _) (congrArg (World.drewN _) (Nat.add_assoc _ _ _))⟩))); try go_wp2_with (first | ((with_reducible refine gate_dst (N := 7) rfl ?_); (try (refine gate_guard (by rfl) ?_; dsimp only)); refine box_event ?hg (N := 7) ?hd (cs := #[.string (⟨#[]⟩ : ByteArray), .int .i64 0]) (t := 63) ?hr ?_; (case hd => rfl); (case hg => rfl); (case hr => first | (go_simp; done) | (go_simp; rfl)); intro gb307 hg w35 hbox hb; have n0_ := A_ (kb_ BK301 hb); have n1_ := A_ (bs_ bw_ hb); have n2_ := A_ (hbox); have n3_ := A_ ((by rw [hg]; exact (bz_ bw_) : w.heap.size ≤ gb307)); have n4_ := A_ ((by rw [hg]; exact (bz_ bw_) : w.heap.size ≤ gb307)); have n5_ := A_ ((by rw [hg]; exact nl_ (lt_ BK301) : gb301 ≠ gb307)); have n6_ := A_ ((by rw [hg]; exact ng_ (lt_ BK301) : gb307 ≠ gb301)); clear BK301; clear HB; have BK301 := n0_; have HB := n1_; have BK307 := n2_; have GW307 := n3_; have GE307 := n4_; have NB301_307 := n5_; have NB307_301 := n6_; clear n0_ n1_ n2_ n3_ n4_ n5_ n6_; clear hb hbox hg; have hnb36 := NB307_301.out; have hnc36 := NB301_307.out; have hcz37_0 : w35.cell? ⟨gb307, 0, none⟩ = some (.string (⟨#[]⟩ : ByteArray)) := (bc_ BK307.out 0).trans rfl; have hcz37_1 : w35.cell? ⟨gb307, 1, none⟩ = some (.int .i64 0) := (bc_ BK307.out 1).trans rfl; have hfz37_0 := bf_ BK307.out 0; have hfz37_1 := bf_ BK307.out 1) | (go_at_call 31; (with_reducible refine (clevisref02_Member.calls k4 ((rd_T63 l0_2 x6_4).f0) t151 _ A32.out).mono ?_); rintro e w' ⟨rfl, ⟨nd, rfl⟩⟩; (try first | exact ⟨rfl, _, dd_ _ _ _⟩ | exact ⟨rfl, _, Eq.trans (dd_ _ _ _) (congrArg (World.drewN _) (Nat.add_assoc _ _ _))⟩))))
               (try simp only [Act.put, sA_, sZ_, sS_])
               go_loopg [9] k4 (fun kq v9 w' => ∃ (x9_5 : Int), v9 = .int .i64 x9_5 ∧ Aside0 (clevisref08_Check.l3 kq x6_4 x9_5 a0_0 l0_1 l0_2 ((rd_T63 l0_2 x6_4).f0) ((rd_T63 l0_2 x6_4).f1) = some r) ∧ Aside0 (kq ≤ k4) ∧ Aside0 (w'.heap[gb301]? = some (.cells #[.int .i64 a0_0, (.slice A0_1 l0_1.length c0_1), (.slice (some ad150) l0_2.length c0_2)] 25 (0, 0))) ∧ Aside0 (w'.heap[gb307]? = some (.cells #[.string ((rd_T63 l0_2 x6_4).f0), .int .i64 ((rd_T63 l0_2 x6_4).f1)] 63 (0, 0))) ∧ Aside0 (Below w.heap.size w w'))
               case atStart => exact ⟨(0), (by first | rfl | (simp; done) | (simp [*]; done)), H', ⟨Nat.le_refl _⟩, ⟨bk_⟩, ⟨by (with_reducible repeat (first | refine bn_ ?_ _ | refine bd_ ?_ | refine ba_ ?_ _)); refine bp_ (cs := #[.string ((rd_T63 l0_2 x6_4).f0), .int .i64 0]) ?_ 1 _ rfl; (with_reducible repeat (first | refine bn_ ?_ _ | refine bd_ ?_ | refine ba_ ?_ _)); refine bp_ (cs := #[.string (⟨#[]⟩ : ByteArray), .int .i64 0]) ?_ 0 _ rfl; (with_reducible repeat (first | refine bn_ ?_ _ | refine bd_ ?_ | refine ba_ ?_ _)); exact BK307.out⟩, ⟨bw_⟩⟩
               case round =>
                clear H'
                try clear c1
                try clear p1
                try clear q1
                try clear hx1
                try clear c2
                try clear p2
                try clear c3
                try clear c4
                try clear c4b0
                try clear p6
                try clear c7
                try clear c9
                try clear c9b0
                try clear c9b1
                try clear c10
                try clear c12
                try clear c13
                try clear c13b0
                try clear c14
                try clear c14b0
                try clear p14
                try clear q14
                try clear hx14
                try clear p15
                try clear q15
                try clear hx15
                try clear c16
                try clear c16b0
                try clear c16b1
                try clear c19
                try clear c19b0
                try clear c20
                try clear c20b0
                try clear c21
                try clear c21b0
                try clear c22
                try clear c22b0
                try clear c23
                try clear c23b0
                try clear c24
                try clear c24b0
                try clear c24b1
                try clear c30
                try clear c30b0
                try clear c31
                try clear c31b0
                try clear c33
                try clear c33b0
                try clear c33b1
                try clear c36
                try clear hcz10_0
                try clear hcz10_1
                try clear hcz10_2
                try clear hcz11_0
                try clear hcz11_1
                try clear hcz11_2
                try clear hcz17_0
                try clear hcz17_1
                try clear hcz17_2
                try clear hcz25_0
                try clear hcz25_1
                try clear hcz25_2
                try clear hcz26_0
                try clear hcz26_1
                try clear hcz26_2
                try clear hcz27_0
                try clear hcz27_1
                try clear hcz27_2
                try clear hcz29_0
                try clear hcz29_1
                try clear hcz29_2
                try clear hcz34_0
                try clear hcz34_1
                try clear hcz34_2
                try clear hcz37_0
                try clear hcz37_1
                try clear hcz5_0
                try clear hcz5_1
                try clear hcz5_2
                try clear hcz6_0
                try clear hcz6_1
                try clear hcz6_2
                try clear hfz10_0
                try clear hfz10_1
                try clear hfz10_2
                try clear hfz11_0
                try clear hfz11_1
                try clear hfz11_2
                try clear hfz17_0
                try clear hfz17_1
                try clear hfz17_2
                try clear hfz25_0
                try clear hfz25_1
                try clear hfz25_2
                try clear hfz26_0
                try clear hfz26_1
                try clear hfz26_2
                try clear hfz27_0
                try clear hfz27_1
                try clear hfz27_2
                try clear hfz29_0
                try clear hfz29_1
                try clear hfz29_2
                try clear hfz34_0
                try clear hfz34_1
                try clear hfz34_2
                try clear hfz37_0
                try clear hfz37_1
                try clear hfz5_0
                try clear hfz5_1
                try clear hfz5_2
                try clear hfz6_0
                try clear hfz6_1
                try clear hfz6_2
                try clear hx146_0
                try clear hx148_0
                try clear hx149_0
                try clear hx150_0
                try clear hx150_1
                try clear p1
                try clear p14
                try clear p146
                try clear p148
                try clear p149
                try clear p150
                try clear p2
                try clear p6
                try clear q1
                try clear q14
                try clear q146
                try clear q148
                try clear q149
                try clear q150
                obtain ⟨x9_5, rfl, HA, HK5, BK301, BK307, HB⟩ := hrel
                cases gk with
                | zero => exact absurd HA.out (by simp [clevisref08_Check.l3])
                | succ k5 =>
                 have H := HA.out
                 clear HA
                 simp only [clevisref08_Check.l3] at H
                 by_cases c38 : x9_5 < x6_4
                 ·
                  rw [if_pos c38] at H
                  have c38b0 : decide (x9_5 < x6_4) = true := decide_eq_true c38
                  clear c38
                  by_cases c39 : 0 ≤ x9_5
                  ·
                   rw [if_pos c39] at H
                   have c39b0 : decide (0 ≤ x9_5) = true := decide_eq_true c39
                   clear c39
                   by_cases c40 : x9_5 < (l0_2.length : Int)
                   ·
                    rw [if_pos c40] at H
                    have c40b0 : decide (x9_5 < (l0_2.length : Int)) = true := decide_eq_true c40
                    clear c40
                    by_cases c41 : ((rd_T63 l0_2 x9_5).f0).toList = ((rd_T63 l0_2 x6_4).f0).toList
                    ·
                     rw [if_pos c41] at H
                     have c41b0 : (((rd_T63 l0_2 x9_5).f0).toList == ((rd_T63 l0_2 x6_4).f0).toList) = true := q1_ c41
                     have c41b1 : (((rd_T63 l0_2 x9_5).f0).toList != ((rd_T63 l0_2 x6_4).f0).toList) = false := q3_ c41
                     clear c41
                     obtain rfl := Option.some.inj H
                     have hnb42 := NB301_307.out
                     have hnc42 := NB307_301.out
                     have hcz43_0 : wr.cell? ⟨gb301, 0, none⟩ = some (.int .i64 a0_0) := (bc_ BK301.out 0).trans rfl
                     have hcz43_1 : wr.cell? ⟨gb301, 1, none⟩ = some (.slice A0_1 l0_1.length c0_1) := (bc_ BK301.out 1).trans rfl
                     have hcz43_2 : wr.cell? ⟨gb301, 2, none⟩ = some (.slice (some ad150) l0_2.length c0_2) := (bc_ BK301.out 2).trans rfl
                     have hfz43_0 := bf_ BK301.out 0
                     have hfz43_1 := bf_ BK301.out 1
                     have hfz43_2 := bf_ BK301.out 2
                     have p152 : 0 ≤ (x9_5 : Int) := od_ (by first | (with_reducible assumption) | assumption)
                     have q152 : x9_5 < (l0_2.length : Int) := od_ (by first | (with_reducible assumption) | assumption)
                     obtain ⟨ad152, e152, hx152_0, hx152_1⟩ := at_T63 HR0_2.out x9_5 p152 q152
                     obtain rfl : ad150 = ad152 := (by injection e152)
                     replace hx152_0 := (HB.out.cell (World.block_lt_of_cell? w _ hx152_0)).trans hx152_0
                     replace hx152_1 := (HB.out.cell (World.block_lt_of_cell? w _ hx152_1)).trans hx152_1
                     replace p152 := eq_true p152
                     replace q152 := eq_true q152
                     have hcz44_0 : wr.cell? ⟨gb307, 0, none⟩ = some (.string ((rd_T63 l0_2 x6_4).f0)) := (bc_ BK307.out 0).trans rfl
                     have hcz44_1 : wr.cell? ⟨gb307, 1, none⟩ = some (.int .i64 ((rd_T63 l0_2 x6_4).f1)) := (bc_ BK307.out 1).trans rfl
                     have hfz44_0 := bf_ BK307.out 0
                     have hfz44_1 := bf_ BK307.out 1
                     go_wp2
                     repeat (go_quiet (fail); try go_wp2)
                     go_ret
                     exact ⟨by first | rfl | (simp [errW_none, errW_some] <;> rfl) | (simp [*, errW_none, errW_some] <;> rfl), bw_⟩
                    ·
                     rw [if_neg c41] at H
                     have c41b0 : (((rd_T63 l0_2 x9_5).f0).toList == ((rd_T63 l0_2 x6_4).f0).toList) = false := q4_ c41
                     have c41b1 : (((rd_T63 l0_2 x9_5).f0).toList != ((rd_T63 l0_2 x6_4).f0).toList) = true := q2_ c41
                     have H' := A_ H
                     clear H
                     have hnb45 := NB301_307.out
                     have hnc45 := NB307_301.out
                     have hcz46_0 : wr.cell? ⟨gb301, 0, none⟩ = some (.int .i64 a0_0) := (bc_ BK301.out 0).trans rfl
                     have hcz46_1 : wr.cell? ⟨gb301, 1, none⟩ = some (.slice A0_1 l0_1.length c0_1) := (bc_ BK301.out 1).trans rfl
                     have hcz46_2 : wr.cell? ⟨gb301, 2, none⟩ = some (.slice (some ad150) l0_2.length c0_2) := (bc_ BK301.out 2).trans rfl
                     have hfz46_0 := bf_ BK301.out 0
                     have hfz46_1 := bf_ BK301.out 1
                     have hfz46_2 := bf_ BK301.out 2
                     have p152 : 0 ≤ (x9_5 : Int) := od_ (by first | (with_reducible assumption) | assumption)
                     have q152 : x9_5 < (l0_2.length : Int) := od_ (by first | (with_reducible assumption) | assumption)
                     obtain ⟨ad152, e152, hx152_0, hx152_1⟩ := at_T63 HR0_2.out x9_5 p152 q152
                     obtain rfl : ad150 = ad152 := (by injection e152)
                     replace hx152_0 := (HB.out.cell (World.block_lt_of_cell? w _ hx152_0)).trans hx152_0
                     replace hx152_1 := (HB.out.cell (World.block_lt_of_cell? w _ hx152_1)).trans hx152_1
                     replace p152 := eq_true p152
                     replace q152 := eq_true q152
                     have hcz47_0 : wr.cell? ⟨gb307, 0, none⟩ = some (.string ((rd_T63 l0_2 x6_4).f0)) := (bc_ BK307.out 0).trans rfl
                     have hcz47_1 : wr.cell? ⟨gb307, 1, none⟩ = some (.int .i64 ((rd_T63 l0_2 x6_4).f1)) := (bc_ BK307.out 1).trans rfl
                     have hfz47_0 := bf_ BK307.out 0
                     have hfz47_1 := bf_ BK307.out 1
                     go_wp2
                     repeat (go_quiet (fail); try go_wp2)
                     go_roundg k5
                     case measure => have := HJ1.out; have := HJ7.out; have := HK3.out; have := HK4.out; have := HK5.out; omega
                     case rel => exact ⟨(wrap64 (x9_5 + 1)), (by first | rfl | (simp; done) | (simp [*]; done)), H', ⟨by have := HJ1.out; have := HJ7.out; have := HK3.out; have := HK4.out; have := HK5.out; omega⟩, ⟨bk_⟩, ⟨bk_⟩, ⟨bw_⟩⟩
                   ·
                    rw [if_neg c40] at H
                    exact absurd H (by simp)
                  ·
                   rw [if_neg c39] at H
                   exact absurd H (by simp)
                 ·
                  rw [if_neg c38] at H
                  have c38b0 : decide (x9_5 < x6_4) = false := decide_eq_false c38
                  clear c38
                  by_cases c48 : ((rd_T63 l0_2 x6_4).f1) < 0
                  ·
                   rw [if_pos c48] at H
                   have c48b0 : decide (((rd_T63 l0_2 x6_4).f1) < 0) = true := decide_eq_true c48
                   clear c48
                   obtain rfl := Option.some.inj H
                   have hnb49 := NB307_301.out
                   have hnc49 := NB301_307.out
                   have hcz50_0 : wr.cell? ⟨gb307, 0, none⟩ = some (.string ((rd_T63 l0_2 x6_4).f0)) := (bc_ BK307.out 0).trans rfl
                   have hcz50_1 : wr.cell? ⟨gb307, 1, none⟩ = some (.int .i64 ((rd_T63 l0_2 x6_4).f1)) := (bc_ BK307.out 1).trans rfl
                   have hfz50_0 := bf_ BK307.out 0
                   have hfz50_1 := bf_ BK307.out 1
                   go_wp2
                   repeat (go_quiet (fail); try go_wp2)
                   go_ret
                   exact ⟨by first | rfl | (simp [errW_none, errW_some] <;> rfl) | (simp [*, errW_none, errW_some] <;> rfl), bw_⟩
                  ·
                   rw [if_neg c48] at H
                   have c48b0 : decide (((rd_T63 l0_2 x6_4).f1) < 0) = false := decide_eq_false c48
                   clear c48
                   by_cases c51 : ((rd_T63 l0_2 x6_4).f1) ≥ a0_0
                   ·
                    rw [if_pos c51] at H
                    have c51b0 : decide (a0_0 ≤ ((rd_T63 l0_2 x6_4).f1)) = true := decide_eq_true c51
                    clear c51
                    obtain rfl := Option.some.inj H
                    have hnb52 := NB307_301.out
                    have hnc52 := NB301_307.out
                    have hcz53_0 : wr.cell? ⟨gb307, 0, none⟩ = some (.string ((rd_T63 l0_2 x6_4).f0)) := (bc_ BK307.out 0).trans rfl
                    have hcz53_1 : wr.cell? ⟨gb307, 1, none⟩ = some (.int .i64 ((rd_T63 l0_2 x6_4).f1)) := (bc_ BK307.out 1).trans rfl
                    have hfz53_0 := bf_ BK307.out 0
                    have hfz53_1 := bf_ BK307.out 1
                    have hcz54_0 : wr.cell? ⟨gb301, 0, none⟩ = some (.int .i64 a0_0) := (bc_ BK301.out 0).trans rfl
                    have hcz54_1 : wr.cell? ⟨gb301, 1, none⟩ = some (.slice A0_1 l0_1.length c0_1) := (bc_ BK301.out 1).trans rfl
                    have hcz54_2 : wr.cell? ⟨gb301, 2, none⟩ = some (.slice (some ad150) l0_2.length c0_2) := (bc_ BK301.out 2).trans rfl
                    have hfz54_0 := bf_ BK301.out 0
                    have hfz54_1 := bf_ BK301.out 1
                    have hfz54_2 := bf_ BK301.out 2
                    go_wp2
                    repeat (go_quiet (fail); try go_wp2)
                    go_ret
                    exact ⟨by first | rfl | (simp [errW_none, errW_some] <;> rfl) | (simp [*, errW_none, errW_some] <;> rfl), bw_⟩
                   ·
                    rw [if_neg c51] at H
                    have c51b0 : decide (a0_0 ≤ ((rd_T63 l0_2 x6_4).f1)) = false := decide_eq_false c51
                    clear c51
                    have H' := A_ H
                    clear H
                    have hnb55 := NB307_301.out
                    have hnc55 := NB301_307.out
                    have hcz56_0 : wr.cell? ⟨gb307, 0, none⟩ = some (.string ((rd_T63 l0_2 x6_4).f0)) := (bc_ BK307.out 0).trans rfl
                    have hcz56_1 : wr.cell? ⟨gb307, 1, none⟩ = some (.int .i64 ((rd_T63 l0_2 x6_4).f1)) := (bc_ BK307.out 1).trans rfl
                    have hfz56_0 := bf_ BK307.out 0
                    have hfz56_1 := bf_ BK307.out 1
                    have hcz57_0 : wr.cell? ⟨gb301, 0, none⟩ = some (.int .i64 a0_0) := (bc_ BK301.out 0).trans rfl
                    have hcz57_1 : wr.cell? ⟨gb301, 1, none⟩ = some (.slice A0_1 l0_1.length c0_1) := (bc_ BK301.out 1).trans rfl
                    have hcz57_2 : wr.cell? ⟨gb301, 2, none⟩ = some (.slice (some ad150) l0_2.length c0_2) := (bc_ BK301.out 2).trans rfl
                    have hfz57_0 := bf_ BK301.out 0
                    have hfz57_1 := bf_ BK301.out 1
                    have hfz57_2 := bf_ BK301.out 2
                    go_wp2
                    repeat (go_quiet (fail); try go_wp2)
                    go_roundg k5
                    case measure => have := HJ1.out; have := HJ7.out; have := HK3.out; have := HK4.out; have := HK5.out; omega
                    case rel => exact ⟨(wrap64 (x6_4 + 1)), (by first | rfl | (simp; done) | (simp [*]; done)), H', ⟨by have := HJ1.out; have := HJ7.out; have := HK3.out; have := HK4.out; have := HK5.out; omega⟩, ⟨bk_⟩, ⟨bw_⟩⟩
              ·
               rw [if_neg c33] at H
               have c33b0 : (t151 == 0) = false := q4_ c33
               have c33b1 : (t151 != 0) = true := q2_ c33
               obtain rfl := Option.some.inj H
               have hcz58_0 : wr.cell? ⟨gb301, 0, none⟩ = some (.int .i64 a0_0) := (bc_ BK301.out 0).trans rfl
               have hcz58_1 : wr.cell? ⟨gb301, 1, none⟩ = some (.slice A0_1 l0_1.length c0_1) := (bc_ BK301.out 1).trans rfl
               have hcz58_2 : wr.cell? ⟨gb301, 2, none⟩ = some (.slice A0_2 l0_2.length c0_2) := (bc_ BK301.out 2).trans rfl
               have hfz58_0 := bf_ BK301.out 0
               have hfz58_1 := bf_ BK301.out 1
               have hfz58_2 := bf_ BK301.out 2
               have p150 : 0 ≤ (x6_4 : Int) := od_ (by first | (with_reducible assumption) | assumption)
               have q150 : x6_4 < (l0_2.length : Int) := od_ (by first | (with_reducible assumption) | assumption)
               obtain ⟨ad150, e150, hx150_0, hx150_1⟩ := at_T63 HR0_2.out x6_4 p150 q150
               cases e150
               replace hx150_0 := (HB.out.cell (World.block_lt_of_cell? w _ hx150_0)).trans hx150_0
               replace hx150_1 := (HB.out.cell (World.block_lt_of_cell? w _ hx150_1)).trans hx150_1
               replace p150 := eq_true p150
               replace q150 := eq_true q150
               go_wp2_with (first | ((with_reducible refine gate_dst (N := 7) rfl ?_); (try (refine gate_guard (by rfl) ?_; dsimp only)); refine box_event ?hg (N := 7) ?hd (cs := #[.string (⟨#[]⟩ : ByteArray), .int .i64 0]) (t := 63) ?hr ?_; (case hd => rfl); (case hg => rfl); (case hr => first | (go_simp; done) | (go_simp; rfl)); intro gb307 hg w59 hbox hb; have n0_ := A_ (kb_ BK301 hb); have n1_ := A_ (bs_ bw_ hb); have n2_ := A_ (hbox); have n3_ := A_ ((by rw [hg]; exact (bz_ bw_) : w.heap.size ≤ gb307)); have n4_ := A_ ((by rw [hg]; exact (bz_ bw_) : w.heap.size ≤ gb307)); have n5_ := A_ ((by rw [hg]; exact nl_ (lt_ BK301) : gb301 ≠ gb307)); have n6_ := A_ ((by rw [hg]; exact ng_ (lt_ BK301) : gb307 ≠ gb301)); clear BK301; clear HB; have BK301 := n0_; have HB := n1_; have BK307 := n2_; have GW307 := n3_; have GE307 := n4_; have NB301_307 := n5_; have NB307_301 := n6_; clear n0_ n1_ n2_ n3_ n4_ n5_ n6_; clear hb hbox hg; have hnb60 := NB307_301.out; have hnc60 := NB301_307.out; have hcz61_0 : w59.cell? ⟨gb307, 0, none⟩ = some (.string (⟨#[]⟩ : ByteArray)) := (bc_ BK307.out 0).trans rfl; have hcz61_1 : w59.cell? ⟨gb307, 1, none⟩ = some (.int .i64 0) := (bc_ BK307.out 1).trans rfl; have hfz61_0 := bf_ BK307.out 0; have hfz61_1 := bf_ BK307.out 1) | (go_at_call 31; (with_reducible refine (clevisref02_Member.calls k4 ((rd_T63 l0_2 x6_4).f0) t151 _ A32.out).mono ?_); rintro e w' ⟨rfl, ⟨nd, rfl⟩⟩; (try first | exact ⟨rfl, _, dd_ _ _ _⟩ | exact ⟨rfl, _, Eq.trans (dd_ _ _ _) (congrArg (World.drewN _) (Nat.add_assoc _ _ _))⟩)))
               repeat (go_quiet (first | ((with_reducible refine gate_dst (N := 7) rfl ?_); (try (refine gate_guard (by rfl) ?_; dsimp only)); refine box_event ?hg (N := 7) ?hd (cs := #[.string (⟨#[]⟩ : ByteArray), .int .i64 0]) (t := 63) ?hr ?_; (case hd => rfl); (case hg => rfl); (case hr => first | (go_simp; done) | (go_simp; rfl)); intro gb307 hg w59 hbox hb; have n0_ := A_ (kb_ BK301 hb); have n1_ := A_ (bs_ bw_ hb); have n2_ := A_ (hbox); have n3_ := A_ ((by rw [hg]; exact (bz_ bw_) : w.heap.size ≤ gb307)); have n4_ := A_ ((by rw [hg]; exact (bz_ bw_) : w.heap.size ≤ gb307)); have n5_ := A_ ((by rw [hg]; exact nl_ (lt_ BK301) : gb301 ≠ gb307)); have n6_ := A_ ((by rw [hg]; exact ng_ (lt_ BK301) : gb307 ≠ gb301)); clear BK301; clear HB; have BK301 := n0_; have HB := n1_; have BK307 := n2_; have GW307 := n3_; have GE307 := n4_; have NB301_307 := n5_; have NB307_301 := n6_; clear n0_ n1_ n2_ n3_ n4_ n5_ n6_; clear hb hbox hg; have hnb60 := NB307_301.out; have hnc60 := NB301_307.out; have hcz61_0 : w59.cell? ⟨gb307, 0, none⟩ = some (.string (⟨#[]⟩ : ByteArray)) := (bc_ BK307.out 0).trans rfl; have hcz61_1 : w59.cell? ⟨gb307, 1, none⟩ = some (.int .i64 0) := (bc_ BK307.out 1).trans rfl; have hfz61_0 := bf_ BK307.out 0; have hfz61_1 := bf_ BK307.out 1) | (go_at_call 31; (with_reducible refine (clevisref02_Member.calls k4 ((rd_T63 l0_2 x6_4).f0) t151 _ A32.out).mono ?_); rintro e w' ⟨rfl, ⟨nd, rfl⟩⟩; (try first | exact ⟨rfl, _, dd_ _ _ _⟩ | exact ⟨rfl, _, Eq.trans (dd_ _ _ _) (congrArg (World.drewN _) (Nat.add_assoc _ _ _))⟩))); try go_wp2_with (first | ((with_reducible refine gate_dst (N := 7) rfl ?_); (try (refine gate_guard (by rfl) ?_; dsimp only)); refine box_event ?hg (N := 7) ?hd (cs := #[.string (⟨#[]⟩ : ByteArray), .int .i64 0]) (t := 63) ?hr ?_; (case hd => rfl); (case hg => rfl); (case hr => first | (go_simp; done) | (go_simp; rfl)); intro gb307 hg w59 hbox hb; have n0_ := A_ (kb_ BK301 hb); have n1_ := A_ (bs_ bw_ hb); have n2_ := A_ (hbox); have n3_ := A_ ((by rw [hg]; exact (bz_ bw_) : w.heap.size ≤ gb307)); have n4_ := A_ ((by rw [hg]; exact (bz_ bw_) : w.heap.size ≤ gb307)); have n5_ := A_ ((by rw [hg]; exact nl_ (lt_ BK301) : gb301 ≠ gb307)); have n6_ := A_ ((by rw [hg]; exact ng_ (lt_ BK301) : gb307 ≠ gb301)); clear BK301; clear HB; have BK301 := n0_; have HB := n1_; have BK307 := n2_; have GW307 := n3_; have GE307 := n4_; have NB301_307 := n5_; have NB307_301 := n6_; clear n0_ n1_ n2_ n3_ n4_ n5_ n6_; clear hb hbox hg; have hnb60 := NB307_301.out; have hnc60 := NB301_307.out; have hcz61_0 : w59.cell? ⟨gb307, 0, none⟩ = some (.string (⟨#[]⟩ : ByteArray)) := (bc_ BK307.out 0).trans rfl; have hcz61_1 : w59.cell? ⟨gb307, 1, none⟩ = some (.int .i64 0) := (bc_ BK307.out 1).trans rfl; have hfz61_0 := bf_ BK307.out 0; have hfz61_1 := bf_ BK307.out 1) | (go_at_call 31; (with_reducible refine (clevisref02_Member.calls k4 ((rd_T63 l0_2 x6_4).f0) t151 _ A32.out).mono ?_); rintro e w' ⟨rfl, ⟨nd, rfl⟩⟩; (try first | exact ⟨rfl, _, dd_ _ _ _⟩ | exact ⟨rfl, _, Eq.trans (dd_ _ _ _) (congrArg (World.drewN _) (Nat.add_assoc _ _ _))⟩))))
               go_ret
               exact ⟨by first | rfl | (simp [errW_none, errW_some] <;> rfl) | (simp [*, errW_none, errW_some] <;> rfl), bw_⟩
             ·
              rw [if_neg c31] at H
              exact absurd H (by simp)
            ·
             rw [if_neg c30] at H
             have c30b0 : decide (x6_4 < (l0_2.length : Int)) = false := decide_eq_false c30
             clear c30
             obtain rfl := Option.some.inj H
             have hcz62_0 : wr.cell? ⟨gb301, 0, none⟩ = some (.int .i64 a0_0) := (bc_ BK301.out 0).trans rfl
             have hcz62_1 : wr.cell? ⟨gb301, 1, none⟩ = some (.slice A0_1 l0_1.length c0_1) := (bc_ BK301.out 1).trans rfl
             have hcz62_2 : wr.cell? ⟨gb301, 2, none⟩ = some (.slice A0_2 l0_2.length c0_2) := (bc_ BK301.out 2).trans rfl
             have hfz62_0 := bf_ BK301.out 0
             have hfz62_1 := bf_ BK301.out 1
             have hfz62_2 := bf_ BK301.out 2
             go_wp2
             repeat (go_quiet (fail); try go_wp2)
             go_ret
             exact ⟨by first | rfl | (simp [errW_none, errW_some] <;> rfl) | (simp [*, errW_none, errW_some] <;> rfl), bw_⟩
end Go.Proofs.Ytcbpmmcpidfllaa.Ro
end
section
namespace Go.Proofs.Ytcbpmmcpidfllaa.Ro
open Go.RowKit Go.Proofs.YtcbpmmcpidfllaaW.PrintWords Go.Proofs.YtcbpmmcpidfllaaW.PrintLast Go.Proofs.YtcbpmmcpidfllaaW.PrintMore
attribute [local go_sem] max2_int min2_int max_two min_two max_three min_three max_four min_four   -- for this text's walks alone
set_option linter.unusedVariables false
set_option linter.unusedSimpArgs false
def clevisref08_Home.l0 : Nat → ByteArray → Int → Int → List ByteArray → List (S63) → Option (Int)
 | 0, _, _, _, _, _ => none
 | k + 1, x1, x5, x303000, x303001, x303002 => if x5 < (x303002.length : Int) then (if 0 ≤ x5 then (if ((rd_T63 x303002 x5).f0).toList = x1.toList then (some ((rd_T63 x303002 x5).f1)) else (clevisref08_Home.l0 k x1 (wrap64 (x5 + 1)) x303000 x303001 x303002)) else (none)) else (some (-1))
def clevisref08_Home.f (k : Nat) (a0_0 : Int) (l0_1 : List ByteArray) (l0_2 : List (S63)) (a1 : ByteArray) : Option (Int) := clevisref08_Home.l0 k a1 0 a0_0 l0_1 l0_2
set_option maxHeartbeats 8000000 in
set_option maxRecDepth 100000 in
theorem clevisref08_Home.calls (k : Nat) (a0_0 : Int) (A0_1 : Option Addr) (c0_1 : Nat) (l0_1 : List ByteArray) (A0_2 : Option Addr) (c0_2 : Nat) (l0_2 : List (S63)) (a1 : ByteArray) (r : Int) (w : World) (hr0_1 : Kd.C Kd.string w A0_1 l0_1.length l0_1) (hc0_1 : l0_1.length ≤ c0_1) (hr0_2 : Kd.C k63 w A0_2 l0_2.length l0_2) (hc0_2 : l0_2.length ≤ c0_2) (h : clevisref08_Home.f k a0_0 l0_1 l0_2 a1 = some r) :
  Calls Try.prog 16 #[.agg #[.int .i64 a0_0, .slice A0_1 l0_1.length c0_1, .slice A0_2 l0_2.length c0_2], .string a1] w fun e w' => e = .returned (.int .i64 r) ∧ Below w.heap.size w w' := by
 have hu25 := Try.underlying25
 have HR0_1 := A_ hr0_1
 have HC0_1 := A_ hc0_1
 clear hr0_1 hc0_1
 have HR0_2 := A_ hr0_2
 have HC0_2 := A_ hc0_2
 clear hr0_2 hc0_2
 have HB := A_ (Below.refl w.heap.size w)
 have H : (clevisref08_Home.l0 k a1 0 a0_0 l0_1 l0_2) = some r := h
 clear h
 have H' := A_ H
 clear H
 go_enter Try.func16, Try.ntmps16
 go_wp2_with (first | ((with_reducible refine gate_dst (N := 2) rfl ?_); refine box_event ?hg (N := 2) ?hd (cs := #[.int .i64 a0_0, .slice A0_1 l0_1.length c0_1, .slice A0_2 l0_2.length c0_2]) (t := 25) ?hr ?_; (case hd => rfl); (case hg => rfl); (case hr => first | (go_simp; done) | (go_simp; rfl)); intro gb302 hg w3 hbox hb; have n0_ := A_ (bs_ bw_ hb); have n1_ := A_ (hbox); have n2_ := A_ ((by rw [hg]; exact (bz_ bw_) : w.heap.size ≤ gb302)); have n3_ := A_ ((by rw [hg]; exact (bz_ bw_) : w.heap.size ≤ gb302)); clear HB; have HB := n0_; have BK302 := n1_; have GW302 := n2_; have GE302 := n3_; clear n0_ n1_ n2_ n3_; clear hb hbox hg))
 (try simp only [Act.put, sA_, sZ_, sS_])
 go_loopg [5] k (fun kq v5 w' => ∃ (x5_1 : Int), v5 = .int .i64 x5_1 ∧ Aside0 (clevisref08_Home.l0 kq a1 x5_1 a0_0 l0_1 l0_2 = some r) ∧ Aside0 (kq ≤ k) ∧ Aside0 (w'.heap[gb302]? = some (.cells #[.int .i64 a0_0, (.slice A0_1 l0_1.length c0_1), (.slice A0_2 l0_2.length c0_2)] 25 (0, 0))) ∧ Aside0 (Below w.heap.size w w'))
 case atStart => exact ⟨(0), (by first | rfl | (simp; done) | (simp [*]; done)), H', ⟨Nat.le_refl _⟩, ⟨bk_⟩, ⟨bw_⟩⟩
 case round =>
  clear H'
  try clear c1
  try clear p2
  obtain ⟨x5_1, rfl, HA, HK1, BK302, HB⟩ := hrel
  cases gk with
  | zero => exact absurd HA.out (by simp [clevisref08_Home.l0])
  | succ k1 =>
   have H := HA.out
   clear HA
   simp only [clevisref08_Home.l0] at H
   by_cases c4 : x5_1 < (l0_2.length : Int)
   ·
    rw [if_pos c4] at H
    have c4b0 : decide (x5_1 < (l0_2.length : Int)) = true := decide_eq_true c4
    clear c4
    by_cases c5 : 0 ≤ x5_1
    ·
     rw [if_pos c5] at H
     have c5b0 : decide (0 ≤ x5_1) = true := decide_eq_true c5
     clear c5
     by_cases c6 : ((rd_T63 l0_2 x5_1).f0).toList = a1.toList
     ·
      rw [if_pos c6] at H
      have c6b0 : (((rd_T63 l0_2 x5_1).f0).toList == a1.toList) = true := q1_ c6
      have c6b1 : (((rd_T63 l0_2 x5_1).f0).toList != a1.toList) = false := q3_ c6
      clear c6
      obtain rfl := Option.some.inj H
      have hcz7_0 : wr.cell? ⟨gb302, 0, none⟩ = some (.int .i64 a0_0) := (bc_ BK302.out 0).trans rfl
      have hcz7_1 : wr.cell? ⟨gb302, 1, none⟩ = some (.slice A0_1 l0_1.length c0_1) := (bc_ BK302.out 1).trans rfl
      have hcz7_2 : wr.cell? ⟨gb302, 2, none⟩ = some (.slice A0_2 l0_2.length c0_2) := (bc_ BK302.out 2).trans rfl
      have hfz7_0 := bf_ BK302.out 0
      have hfz7_1 := bf_ BK302.out 1
      have hfz7_2 := bf_ BK302.out 2
      have p153 : 0 ≤ (x5_1 : Int) := od_ (by first | (with_reducible assumption) | assumption)
      have q153 : x5_1 < (l0_2.length : Int) := od_ (by first | (with_reducible assumption) | assumption)
      obtain ⟨ad153, e153, hx153_0, hx153_1⟩ := at_T63 HR0_2.out x5_1 p153 q153
      cases e153
      replace hx153_0 := (HB.out.cell (World.block_lt_of_cell? w _ hx153_0)).trans hx153_0
      replace hx153_1 := (HB.out.cell (World.block_lt_of_cell? w _ hx153_1)).trans hx153_1
      replace p153 := eq_true p153
      replace q153 := eq_true q153
      have p154 : 0 ≤ (x5_1 : Int) := od_ (by first | (with_reducible assumption) | assumption)
      have q154 : x5_1 < (l0_2.length : Int) := od_ (by first | (with_reducible assumption) | assumption)
      obtain ⟨ad154, e154, hx154_0, hx154_1⟩ := at_T63 HR0_2.out x5_1 p154 q154
      obtain rfl : ad153 = ad154 := (by injection e154)
      replace hx154_0 := (HB.out.cell (World.block_lt_of_cell? w _ hx154_0)).trans hx154_0
      replace hx154_1 := (HB.out.cell (World.block_lt_of_cell? w _ hx154_1)).trans hx154_1
      replace p154 := eq_true p154
      replace q154 := eq_true q154
      go_wp2
      go_ret
      exact ⟨by first | rfl | (simp [errW_none, errW_some] <;> rfl) | (simp [*, errW_none, errW_some] <;> rfl), bw_⟩
     ·
      rw [if_neg c6] at H
      have c6b0 : (((rd_T63 l0_2 x5_1).f0).toList == a1.toList) = false := q4_ c6
      have c6b1 : (((rd_T63 l0_2 x5_1).f0).toList != a1.toList) = true := q2_ c6
      have H' := A_ H
      clear H
      have hcz8_0 : wr.cell? ⟨gb302, 0, none⟩ = some (.int .i64 a0_0) := (bc_ BK302.out 0).trans rfl
      have hcz8_1 : wr.cell? ⟨gb302, 1, none⟩ = some (.slice A0_1 l0_1.length c0_1) := (bc_ BK302.out 1).trans rfl
      have hcz8_2 : wr.cell? ⟨gb302, 2, none⟩ = some (.slice A0_2 l0_2.length c0_2) := (bc_ BK302.out 2).trans rfl
      have hfz8_0 := bf_ BK302.out 0
      have hfz8_1 := bf_ BK302.out 1
      have hfz8_2 := bf_ BK302.out 2
      have p153 : 0 ≤ (x5_1 : Int) := od_ (by first | (with_reducible assumption) | assumption)
      have q153 : x5_1 < (l0_2.length : Int) := od_ (by first | (with_reducible assumption) | assumption)
      obtain ⟨ad153, e153, hx153_0, hx153_1⟩ := at_T63 HR0_2.out x5_1 p153 q153
      cases e153
      replace hx153_0 := (HB.out.cell (World.block_lt_of_cell? w _ hx153_0)).trans hx153_0
      replace hx153_1 := (HB.out.cell (World.block_lt_of_cell? w _ hx153_1)).trans hx153_1
      replace p153 := eq_true p153
      replace q153 := eq_true q153
      go_wp2
      go_roundg k1
      case measure => have := HK1.out; omega
      case rel => exact ⟨(wrap64 (x5_1 + 1)), (by first | rfl | (simp; done) | (simp [*]; done)), H', ⟨by have := HK1.out; omega⟩, ⟨bk_⟩, ⟨bw_⟩⟩
    ·
     rw [if_neg c5] at H
     exact absurd H (by simp)
   ·
    rw [if_neg c4] at H
    have c4b0 : decide (x5_1 < (l0_2.length : Int)) = false := decide_eq_false c4
    clear c4
    obtain rfl := Option.some.inj H
    have hcz9_0 : wr.cell? ⟨gb302, 0, none⟩ = some (.int .i64 a0_0) := (bc_ BK302.out 0).trans rfl
    have hcz9_1 : wr.cell? ⟨gb302, 1, none⟩ = some (.slice A0_1 l0_1.length c0_1) := (bc_ BK302.out 1).trans rfl
    have hcz9_2 : wr.cell? ⟨gb302, 2, none⟩ = some (.slice A0_2 l0_2.length c0_2) := (bc_ BK302.out 2).trans rfl
    have hfz9_0 := bf_ BK302.out 0
    have hfz9_1 := bf_ BK302.out 1
    have hfz9_2 := bf_ BK302.out 2
    go_wp2
    go_ret
    exact ⟨by first | rfl | (simp [errW_none, errW_some] <;> rfl) | (simp [*, errW_none, errW_some] <;> rfl), bw_⟩
end Go.Proofs.Ytcbpmmcpidfllaa.Ro
end
section
namespace Go.Proofs.Ytcbpmmcpidfllaa.Ro
open Go.RowKit Go.Proofs.YtcbpmmcpidfllaaW.PrintWords Go.Proofs.YtcbpmmcpidfllaaW.PrintLast Go.Proofs.YtcbpmmcpidfllaaW.PrintMore
attribute [local go_sem] max2_int min2_int max_two min_two max_three min_three max_four min_four   -- for this text's walks alone
set_option linter.unusedVariables false
set_option linter.unusedSimpArgs false
def clevisref08_Has.l0 : Nat → ByteArray → Int → Int → List ByteArray → List (S63) → Option (Bool)
 | 0, _, _, _, _, _ => none
 | k + 1, x1, x5, x303000, x303001, x303002 => if x5 < (x303001.length : Int) then (if 0 ≤ x5 then (if (rdOf ByteArray.empty x303001 x5).toList = x1.toList then (some true) else (clevisref08_Has.l0 k x1 (wrap64 (x5 + 1)) x303000 x303001 x303002)) else (none)) else (some false)
def clevisref08_Has.f (k : Nat) (a0_0 : Int) (l0_1 : List ByteArray) (l0_2 : List (S63)) (a1 : ByteArray) : Option (Bool) := clevisref08_Has.l0 k a1 0 a0_0 l0_1 l0_2
set_option maxHeartbeats 8000000 in
set_option maxRecDepth 100000 in
theorem clevisref08_Has.calls (k : Nat) (a0_0 : Int) (A0_1 : Option Addr) (c0_1 : Nat) (l0_1 : List ByteArray) (A0_2 : Option Addr) (c0_2 : Nat) (l0_2 : List (S63)) (a1 : ByteArray) (r : Bool) (w : World) (hr0_1 : Kd.C Kd.string w A0_1 l0_1.length l0_1) (hc0_1 : l0_1.length ≤ c0_1) (hr0_2 : Kd.C k63 w A0_2 l0_2.length l0_2) (hc0_2 : l0_2.length ≤ c0_2) (h : clevisref08_Has.f k a0_0 l0_1 l0_2 a1 = some r) :
  Calls Try.prog 21 #[.agg #[.int .i64 a0_0, .slice A0_1 l0_1.length c0_1, .slice A0_2 l0_2.length c0_2], .string a1] w fun e w' => e = .returned (.bool r) ∧ Below w.heap.size w w' := by
 have hu25 := Try.underlying25
 have HR0_1 := A_ hr0_1
 have HC0_1 := A_ hc0_1
 clear hr0_1 hc0_1
 have HR0_2 := A_ hr0_2
 have HC0_2 := A_ hc0_2
 clear hr0_2 hc0_2
 have HB := A_ (Below.refl w.heap.size w)
 have H : (clevisref08_Has.l0 k a1 0 a0_0 l0_1 l0_2) = some r := h
 clear h
 have H' := A_ H
 clear H
 go_enter Try.func21, Try.ntmps21
 go_wp2_with (first | ((with_reducible refine gate_dst (N := 2) rfl ?_); refine box_event ?hg (N := 2) ?hd (cs := #[.int .i64 a0_0, .slice A0_1 l0_1.length c0_1, .slice A0_2 l0_2.length c0_2]) (t := 25) ?hr ?_; (case hd => rfl); (case hg => rfl); (case hr => first | (go_simp; done) | (go_simp; rfl)); intro gb302 hg w3 hbox hb; have n0_ := A_ (bs_ bw_ hb); have n1_ := A_ (hbox); have n2_ := A_ ((by rw [hg]; exact (bz_ bw_) : w.heap.size ≤ gb302)); have n3_ := A_ ((by rw [hg]; exact (bz_ bw_) : w.heap.size ≤ gb302)); clear HB; have HB := n0_; have BK302 := n1_; have GW302 := n2_; have GE302 := n3_; clear n0_ n1_ n2_ n3_; clear hb hbox hg))
 (try simp only [Act.put, sA_, sZ_, sS_])
 go_loopg [5] k (fun kq v5 w' => ∃ (x5_1 : Int), v5 = .int .i64 x5_1 ∧ Aside0 (clevisref08_Has.l0 kq a1 x5_1 a0_0 l0_1 l0_2 = some r) ∧ Aside0 (kq ≤ k) ∧ Aside0 (w'.heap[gb302]? = some (.cells #[.int .i64 a0_0, (.slice A0_1 l0_1.length c0_1), (.slice A0_2 l0_2.length c0_2)] 25 (0, 0))) ∧ Aside0 (Below w.heap.size w w'))
 case atStart => exact ⟨(0), (by first | rfl | (simp; done) | (simp [*]; done)), H', ⟨Nat.le_refl _⟩, ⟨bk_⟩, ⟨bw_⟩⟩
 case round =>
  clear H'
  try clear c2
  try clear p2
  obtain ⟨x5_1, rfl, HA, HK1, BK302, HB⟩ := hrel
  cases gk with
  | zero => exact absurd HA.out (by simp [clevisref08_Has.l0])
  | succ k1 =>
   have H := HA.out
   clear HA
   simp only [clevisref08_Has.l0] at H
   by_cases c4 : x5_1 < (l0_1.length : Int)
   ·
    rw [if_pos c4] at H
    have c4b0 : decide (x5_1 < (l0_1.length : Int)) = true := decide_eq_true c4
    clear c4
    by_cases c5 : 0 ≤ x5_1
    ·
     rw [if_pos c5] at H
     have c5b0 : decide (0 ≤ x5_1) = true := decide_eq_true c5
     clear c5
     by_cases c6 : (rdOf ByteArray.empty l0_1 x5_1).toList = a1.toList
     ·
      rw [if_pos c6] at H
      have c6b0 : ((rdOf ByteArray.empty l0_1 x5_1).toList == a1.toList) = true := q1_ c6
      have c6b1 : ((rdOf ByteArray.empty l0_1 x5_1).toList != a1.toList) = false := q3_ c6
      clear c6
      obtain rfl := Option.some.inj H
      have hcz7_0 : wr.cell? ⟨gb302, 0, none⟩ = some (.int .i64 a0_0) := (bc_ BK302.out 0).trans rfl
      have hcz7_1 : wr.cell? ⟨gb302, 1, none⟩ = some (.slice A0_1 l0_1.length c0_1) := (bc_ BK302.out 1).trans rfl
      have hcz7_2 : wr.cell? ⟨gb302, 2, none⟩ = some (.slice A0_2 l0_2.length c0_2) := (bc_ BK302.out 2).trans rfl
      have hfz7_0 := bf_ BK302.out 0
      have hfz7_1 := bf_ BK302.out 1
      have hfz7_2 := bf_ BK302.out 2
      have p155 : 0 ≤ (x5_1 : Int) := od_ (by first | (with_reducible assumption) | assumption)
      have q155 : x5_1 < (l0_1.length : Int) := od_ (by first | (with_reducible assumption) | assumption)
      obtain ⟨ad155, e155, hx155_0⟩ := Kd.at_string HR0_1.out x5_1 p155 q155
      cases e155
      replace hx155_0 := (HB.out.cell (World.block_lt_of_cell? w _ hx155_0)).trans hx155_0
      replace p155 := eq_true p155
      replace q155 := eq_true q155
      go_wp2
      go_ret
      exact ⟨by first | rfl | (simp [errW_none, errW_some] <;> rfl) | (simp [*, errW_none, errW_some] <;> rfl), bw_⟩
     ·
      rw [if_neg c6] at H
      have c6b0 : ((rdOf ByteArray.empty l0_1 x5_1).toList == a1.toList) = false := q4_ c6
      have c6b1 : ((rdOf ByteArray.empty l0_1 x5_1).toList != a1.toList) = true := q2_ c6
      have H' := A_ H
      clear H
      have hcz8_0 : wr.cell? ⟨gb302, 0, none⟩ = some (.int .i64 a0_0) := (bc_ BK302.out 0).trans rfl
      have hcz8_1 : wr.cell? ⟨gb302, 1, none⟩ = some (.slice A0_1 l0_1.length c0_1) := (bc_ BK302.out 1).trans rfl
      have hcz8_2 : wr.cell? ⟨gb302, 2, none⟩ = some (.slice A0_2 l0_2.length c0_2) := (bc_ BK302.out 2).trans rfl
      have hfz8_0 := bf_ BK302.out 0
      have hfz8_1 := bf_ BK302.out 1
      have hfz8_2 := bf_ BK302.out 2
      have p155 : 0 ≤ (x5_1 : Int) := od_ (by first | (with_reducible assumption) | assumption)
      have q155 : x5_1 < (l0_1.length : Int) := od_ (by first | (with_reducible assumption) | assumption)
      obtain ⟨ad155, e155, hx155_0⟩ := Kd.at_string HR0_1.out x5_1 p155 q155
      cases e155
      replace hx155_0 := (HB.out.cell (World.block_lt_of_cell? w _ hx155_0)).trans hx155_0
      replace p155 := eq_true p155
      replace q155 := eq_true q155
      go_wp2
      go_roundg k1
      case measure => have := HK1.out; omega
      case rel => exact ⟨(wrap64 (x5_1 + 1)), (by first | rfl | (simp; done) | (simp [*]; done)), H', ⟨by have := HK1.out; omega⟩, ⟨bk_⟩, ⟨bw_⟩⟩
    ·
     rw [if_neg c5] at H
     exact absurd H (by simp)
   ·
    rw [if_neg c4] at H
    have c4b0 : decide (x5_1 < (l0_1.length : Int)) = false := decide_eq_false c4
    clear c4
    obtain rfl := Option.some.inj H
    have hcz9_0 : wr.cell? ⟨gb302, 0, none⟩ = some (.int .i64 a0_0) := (bc_ BK302.out 0).trans rfl
    have hcz9_1 : wr.cell? ⟨gb302, 1, none⟩ = some (.slice A0_1 l0_1.length c0_1) := (bc_ BK302.out 1).trans rfl
    have hcz9_2 : wr.cell? ⟨gb302, 2, none⟩ = some (.slice A0_2 l0_2.length c0_2) := (bc_ BK302.out 2).trans rfl
    have hfz9_0 := bf_ BK302.out 0
    have hfz9_1 := bf_ BK302.out 1
    have hfz9_2 := bf_ BK302.out 2
    go_wp2
    go_ret
    exact ⟨by first | rfl | (simp [errW_none, errW_some] <;> rfl) | (simp [*, errW_none, errW_some] <;> rfl), bw_⟩
end Go.Proofs.Ytcbpmmcpidfllaa.Ro
end
section
namespace Go.Proofs.Ytcbpmmcpidfllaa.Ro
open Go.RowKit Go.Proofs.YtcbpmmcpidfllaaW.PrintWords Go.Proofs.YtcbpmmcpidfllaaW.PrintLast Go.Proofs.YtcbpmmcpidfllaaW.PrintMore
attribute [local go_sem] max2_int min2_int max_two min_two max_three min_three max_four min_four   -- for this text's walks alone
set_option linter.unusedVariables false
set_option linter.unusedSimpArgs false
def clevisref08_Same.l0 : Nat → List ByteArray → List ByteArray → Int → Option (Bool)
 | 0, _, _, _ => none
 | k + 1, x0, x1, x5 => if x5 < (x0.length : Int) then (if 0 ≤ x5 then (if x5 < (x1.length : Int) then (if (rdOf ByteArray.empty x0 x5).toList = (rdOf ByteArray.empty x1 x5).toList then (clevisref08_Same.l0 k x0 x1 (wrap64 (x5 + 1))) else (some false)) else (none)) else (none)) else (some true)
def clevisref08_Same.f (k : Nat) (l0 : List ByteArray) (l1 : List ByteArray) : Option (Bool) := if (l0.length : Int) = (l1.length : Int) then (clevisref08_Same.l0 k l0 l1 0) else (some false)
set_option maxHeartbeats 8000000 in
set_option maxRecDepth 100000 in
theorem clevisref08_Same.calls (k : Nat) (A0 : Option Addr) (c0 : Nat) (l0 : List ByteArray) (A1 : Option Addr) (c1 : Nat) (l1 : List ByteArray) (r : Bool) (w : World) (hr0 : Kd.C Kd.string w A0 l0.length l0) (hc0 : l0.length ≤ c0) (hr1 : Kd.C Kd.string w A1 l1.length l1) (hc1 : l1.length ≤ c1) (h : clevisref08_Same.f k l0 l1 = some r) :
  Calls Try.prog 17 #[.slice A0 l0.length c0, .slice A1 l1.length c1] w fun e w' => e = .returned (.bool r) ∧ Drawn0 w w' := by
 have HR0 := A_ hr0
 have HC0 := A_ hc0
 clear hr0 hc0
 have HR1 := A_ hr1
 have HC1 := A_ hc1
 clear hr1 hc1
 have H : (if (l0.length : Int) = (l1.length : Int) then (clevisref08_Same.l0 k l0 l1 0) else (some false)) = some r := h
 clear h
 by_cases c3 : (l0.length : Int) = (l1.length : Int)
 ·
  rw [if_pos c3] at H
  have c3b0 : ((l0.length : Int) == (l1.length : Int)) = true := q1_ c3
  have c3b1 : ((l0.length : Int) != (l1.length : Int)) = false := q3_ c3
  have c3b2 : (l0.length == l1.length) = true := by first | simpa using c3 | (simp at c3 ⊢; omega)
  clear c3
  have H' := A_ H
  clear H
  go_enter Try.func17, Try.ntmps17
  go_wp2
  repeat (go_quiet (fail); try go_wp2)
  (try simp only [Act.put, sA_, sZ_, sS_])
  go_loopg [5] k (fun kq v5 w' => ∃ (x5_1 : Int), v5 = .int .i64 x5_1 ∧ Aside0 (clevisref08_Same.l0 kq l0 l1 x5_1 = some r) ∧ Aside0 (kq ≤ k) ∧ Drawn0 w w')
  case atStart => exact ⟨(0), (by first | rfl | (simp; done) | (simp [*]; done)), H', ⟨Nat.le_refl _⟩, by repeat (first | exact Drawn0.refl _ | apply Drawn0.step)⟩
  case round =>
   clear H'
   try clear c1
   try clear p2
   try clear c3
   try clear c3b0
   try clear c3b1
   try clear c3b2
   obtain ⟨x5_1, rfl, HA, HK1, ⟨m1, rfl⟩⟩ := hrel
   cases gk with
   | zero => exact absurd HA.out (by simp [clevisref08_Same.l0])
   | succ k1 =>
    have H := HA.out
    clear HA
    simp only [clevisref08_Same.l0] at H
    by_cases c4 : x5_1 < (l0.length : Int)
    ·
     rw [if_pos c4] at H
     have c4b0 : decide (x5_1 < (l0.length : Int)) = true := decide_eq_true c4
     clear c4
     by_cases c5 : 0 ≤ x5_1
     ·
      rw [if_pos c5] at H
      have c5b0 : decide (0 ≤ x5_1) = true := decide_eq_true c5
      clear c5
      by_cases c6 : x5_1 < (l1.length : Int)
      ·
       rw [if_pos c6] at H
       have c6b0 : decide (x5_1 < (l1.length : Int)) = true := decide_eq_true c6
       clear c6
       by_cases c7 : (rdOf ByteArray.empty l0 x5_1).toList = (rdOf ByteArray.empty l1 x5_1).toList
       ·
        rw [if_pos c7] at H
        have c7b0 : ((rdOf ByteArray.empty l0 x5_1).toList == (rdOf ByteArray.empty l1 x5_1).toList) = true := q1_ c7
        have c7b1 : ((rdOf ByteArray.empty l0 x5_1).toList != (rdOf ByteArray.empty l1 x5_1).toList) = false := q3_ c7
        clear c7
        have H' := A_ H
        clear H
        have p158 : 0 ≤ (x5_1 : Int) := od_ (by first | (with_reducible assumption) | assumption)
        have q158 : x5_1 < (l0.length : Int) := od_ (by first | (with_reducible assumption) | assumption)
        obtain ⟨ad158, e158, hx158_0⟩ := Kd.at_string HR0.out x5_1 p158 q158
        cases e158
        replace p158 := eq_true p158
        replace q158 := eq_true q158
        have p159 : 0 ≤ (x5_1 : Int) := od_ (by first | (with_reducible assumption) | assumption)
        have q159 : x5_1 < (l1.length : Int) := od_ (by first | (with_reducible assumption) | assumption)
        obtain ⟨ad159, e159, hx159_0⟩ := Kd.at_string HR1.out x5_1 p159 q159
        cases e159
        replace p159 := eq_true p159
        replace q159 := eq_true q159
        go_wp2
        repeat (go_quiet (fail); try go_wp2)
        go_roundg k1
        case measure => have := HK1.out; omega
        case rel => exact ⟨(wrap64 (x5_1 + 1)), (by first | rfl | (simp; done) | (simp [*]; done)), H', ⟨by have := HK1.out; omega⟩, by repeat (first | exact Drawn0.refl _ | apply Drawn0.step)⟩
       ·
        rw [if_neg c7] at H
        have c7b0 : ((rdOf ByteArray.empty l0 x5_1).toList == (rdOf ByteArray.empty l1 x5_1).toList) = false := q4_ c7
        have c7b1 : ((rdOf ByteArray.empty l0 x5_1).toList != (rdOf ByteArray.empty l1 x5_1).toList) = true := q2_ c7
        obtain rfl := Option.some.inj H
        have p158 : 0 ≤ (x5_1 : Int) := od_ (by first | (with_reducible assumption) | assumption)
        have q158 : x5_1 < (l0.length : Int) := od_ (by first | (with_reducible assumption) | assumption)
        obtain ⟨ad158, e158, hx158_0⟩ := Kd.at_string HR0.out x5_1 p158 q158
        cases e158
        replace p158 := eq_true p158
        replace q158 := eq_true q158
        have p159 : 0 ≤ (x5_1 : Int) := od_ (by first | (with_reducible assumption) | assumption)
        have q159 : x5_1 < (l1.length : Int) := od_ (by first | (with_reducible assumption) | assumption)
        obtain ⟨ad159, e159, hx159_0⟩ := Kd.at_string HR1.out x5_1 p159 q159
        cases e159
        replace p159 := eq_true p159
        replace q159 := eq_true q159
        go_wp2
        repeat (go_quiet (fail); try go_wp2)
        go_ret
        exact ⟨by first | rfl | (simp; done) | (simp [*]; done), by repeat (first | exact Drawn0.refl _ | apply Drawn0.step)⟩
      ·
       rw [if_neg c6] at H
       exact absurd H (by simp)
     ·
      rw [if_neg c5] at H
      exact absurd H (by simp)
    ·
     rw [if_neg c4] at H
     have c4b0 : decide (x5_1 < (l0.length : Int)) = false := decide_eq_false c4
     clear c4
     obtain rfl := Option.some.inj H
     go_wp2
     repeat (go_quiet (fail); try go_wp2)
     go_ret
     exact ⟨by first | rfl | (simp; done) | (simp [*]; done), by repeat (first | exact Drawn0.refl _ | apply Drawn0.step)⟩
 ·
  rw [if_neg c3] at H
  have c3b0 : ((l0.length : Int) == (l1.length : Int)) = false := q4_ c3
  have c3b1 : ((l0.length : Int) != (l1.length : Int)) = true := q2_ c3
  have c3b2 : (l0.length == l1.length) = false := by first | simpa using c3 | (simp at c3 ⊢; omega)
  obtain rfl := Option.some.inj H
  go_enter Try.func17, Try.ntmps17
  go_wp2
  repeat (go_quiet (fail); try go_wp2)
  go_ret
  exact ⟨by first | rfl | (simp; done) | (simp [*]; done), by repeat (first | exact Drawn0.refl _ | apply Drawn0.step)⟩
end Go.Proofs.Ytcbpmmcpidfllaa.Ro
end
