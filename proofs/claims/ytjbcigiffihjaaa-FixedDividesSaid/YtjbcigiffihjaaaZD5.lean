/- Texts of this seat, put together (ZD5). -/
import Derived.Test.YtjbcigiffihjaaaProg
import Derived.Below
import Derived.Deep.Draws
import Derived.Deep.AppendLies
import Derived.Maps.AppendAt
import Derived.OwnWalk
import Derived.Laws.BytesArg
import Derived.Laws.MakeOwn
import Derived.Laws.OwnMore
import Derived.Deep.OwnRows
import Derived.Tactics
import Derived.Lib.ConvBytes
import Derived.Laws.Slices
import Derived.WalkKit
import Derived.KernelRfl
import Derived.RowKit3
import Derived.Deep.LoopGhost
import Derived.Deep.QuietTactic
import Derived.BigQuiet
import Derived.WideLaws
import Derived.Deep.DeepCutAuto
import Derived.Deep.CutBlock
import Derived.Deep.RegionHeld3
import Derived.Laws.Rows
import Derived.Lib.AppendStr
import Derived.ArgAppend
import Derived.Laws.IdiomCopy
import Derived.OrdersHeld
import Derived.Laws.BitsLemmas
import Derived.RowKit
import Derived.Laws.Externs
import Derived.WalkSpells
import Derived.WalkLawsBesides
import Derived.RegionTactic
import Derived.ChangeAlike
import Derived.BigRegion
import Derived.Test.YtjbcigiffihjaaaZD0
import Derived.Test.YtjbcigiffihjaaaZD1
import Derived.Test.YtjbcigiffihjaaaZD2
import Derived.Test.YtjbcigiffihjaaaZD3
import Derived.Test.YtjbcigiffihjaaaZD4
section
namespace Go.Proofs.Ytjbcigiffihjaaa.Fx
open Go.RowKit Go.Proofs.YtjbcigiffihjaaaW.PrintWords Go.Proofs.YtjbcigiffihjaaaW.PrintLast Go.Proofs.YtjbcigiffihjaaaW.PrintMore
attribute [local go_sem] max2_int min2_int max_two min_two max_three min_three max_four min_four   -- for this text's walks alone
set_option linter.unusedVariables false
set_option linter.unusedSimpArgs false
def errW : Option Int → Value
 | none => .nilIface
 | some c => .iface 0 (.int .i64 c)
theorem errW_none : errW none = .nilIface := rfl
theorem errW_some (c : Int) : errW (some c) = .iface 0 (.int .i64 c) := rfl
def addLo (x y c : Int) : Int := (x.toNat + y.toNat + c.toNat) % 18446744073709551616
def addHi (x y c : Int) : Int := (x.toNat + y.toNat + c.toNat) / 18446744073709551616
theorem run_add64_any (x y c : Int) (hc : decide (c ≤ 1) = true) (w : World) : (callFunc 38 #[.int .u64 x, .int .u64 y, .int .u64 c]).run Try.prog w = .ok (.value (.tuple #[.int .u64 (addLo x y c), .int .u64 (addHi x y c)])) w := by
 have hc' : c ≤ 1 := od_ hc
 rw [run_callFunc_extern Try.func38 (by kernel_rfl) (by kernel_rfl) (by kernel_rfl) (e := add64Entry) (by kernel_rfl)]
 have key : (add64Entry #[.int .u64 x, .int .u64 y, .int .u64 c]).run Try.prog w = .ok (.tuple #[.int .u64 (addLo x y c), .int .u64 (addHi x y c)]) w := by
  cases c with
  | ofNat m =>
   have hm : m = 0 ∨ m = 1 := by have : (m : Int) ≤ 1 := hc'; omega
   rcases hm with rfl | rfl <;> rfl
  | negSucc m => rfl
 rw [key]
 rfl
theorem conv_V (W : World) (e : TypeId) (s : ByteArray) (hs : s.size ≤ 9223372036854775807) : Kd.V (Kd.int .u8) e (Lib.bytesWorld W e s) W.heap.size (fun k => W.heap.size ≤ k) (.slice (some ⟨W.heap.size, 0, none⟩) s.size (grownCap W s.size 0 e)) (bytesOf s) := by
 refine ⟨some ⟨W.heap.size, 0, none⟩, grownCap W s.size 0 e, by rw [bytesOf_length], by rw [bytesOf_length]; exact grownCap_ge _ _ _ _, ?_⟩
 intro W' hW
 have hb : W'.heap[W.heap.size]? = (Lib.bytesWorld W e s).heap[W.heap.size]? := hW _ (Nat.le_refl _) (by rw [Lib.bytesWorld_size]; omega)
 have hr := bytes_reads W e s hs
 rw [bytesOf_length]
 refine Kd.C_of_reads (enc := Value.int .u8) (d := (0 : Int)) (readsInt_of.1 ⟨hr.1, hr.2.1, fun hn => ?_⟩)
 obtain ⟨ad, ea, hc⟩ := hr.2.2 hn
 injection ea with ea
 subst ea
 refine ⟨_, rfl, fun j hj => ?_⟩
 have := hc j hj
 rw [add_plain] at this ⊢
 simpa only [World.cell?, hb] using this
section
variable {P : Program} {ops : Array Oper} {Q : Exit → Act → World → Prop} {rest : List Oper} {o : Oper} {a : Act}
theorem conv_event {w0 W : World} (base : Nat) (e : TypeId) (hgd : o.guard = none) {N : Tmp} (_hN : o.dst = some N) (s : ByteArray) (hm : s.size ≤ 9223372036854775807)
  (hrun : (execOp a.eval o).run P W = .ok (.value (.slice (some ⟨W.heap.size, 0, none⟩) s.size (grownCap W s.size 0 e))) (Lib.bytesWorld W e s)) (HB : Below base w0 W) (hbase : base ≤ W.heap.size)
  (h : ∀ v1 w1, Kd.V (Kd.int .u8) e w1 W.heap.size (fun k => W.heap.size ≤ k) v1 (bytesOf s) → Below base w0 w1 → W.grownBy w1 none → True → wpList P ops Q rest (a.put o.dst v1) w1) : wpList P ops Q (o :: rest) a W :=
 Kd.event_run hgd hrun (h _ _ (conv_V W e s hm) (bytes_below HB hbase e s) (grown_of_below (bytes_below (Below.refl _ _) (Nat.le_refl _) e s) none) trivial)
end
theorem sd_eq (w : World) (n : Nat) (a : Addr) (v : Value) : (w.drewN n).setCell a v = (w.setCell a v).drewN n := by
 unfold World.drewN World.setCell
 rfl
theorem grown_dn {w w1 : World} {r : Option Nat} (h : w.grownBy w1 r) (n : Nat) : w.grownBy (w1.drewN n) r := ⟨h.os, h.tape, h.output, h.size, h.block⟩
theorem info3 : (Try.prog.info? 3).map (fun i => (i.zero, i.size, i.bytes)) = some (some (.int .i64 0), 1, 8) := by kernel_rfl
theorem info5 : (Try.prog.info? 5).map (fun i => (i.zero, i.size, i.bytes)) = some (some (.int .u8 0), 1, 1) := by kernel_rfl
end Go.Proofs.Ytjbcigiffihjaaa.Fx
end
section
namespace Go.Proofs.Ytjbcigiffihjaaa.Fx
open Go.RowKit Go.Proofs.YtjbcigiffihjaaaW.PrintWords Go.Proofs.YtjbcigiffihjaaaW.PrintLast Go.Proofs.YtjbcigiffihjaaaW.PrintMore
attribute [local go_sem] max2_int min2_int max_two min_two max_three min_three max_four min_four   -- for this text's walks alone
set_option linter.unusedVariables false
set_option linter.unusedSimpArgs false
attribute [local go_sem] run_add64_any
def clevisref01_size.l0 : Nat → List Int → List Int → Int → Option (Int)
 | 0, _, _, _ => none
 | k + 1, x0, x1, x5 => if x5 ≥ 0 then (if 0 ≤ x5 then (if x5 < (x0.length : Int) then (if x5 < (x1.length : Int) then (if (rd x0 x5) < (rd x1 x5) then (some (-1)) else (if (rd x0 x5) > (rd x1 x5) then (some 1) else (clevisref01_size.l0 k x0 x1 (wrap64 (x5 - 1))))) else (none)) else (none)) else (none)) else (some 0)
def clevisref01_size.f (k : Nat) (l0 : List Int) (l1 : List Int) : Option (Int) := if (l0.length : Int) = (l1.length : Int) then (clevisref01_size.l0 k l0 l1 (wrap64 ((l0.length : Int) - 1))) else (if (l0.length : Int) < (l1.length : Int) then (some (-1)) else (some 1))
set_option maxHeartbeats 8000000 in
set_option maxRecDepth 100000 in
theorem clevisref01_size.calls (k : Nat) (A0 : Option Addr) (c0 : Nat) (l0 : List Int) (A1 : Option Addr) (c1 : Nat) (l1 : List Int) (r : Int) (w : World) (hr0 : Kd.C (Kd.int .i64) w A0 l0.length l0) (hc0 : l0.length ≤ c0) (hr1 : Kd.C (Kd.int .i64) w A1 l1.length l1) (hc1 : l1.length ≤ c1) (h : clevisref01_size.f k l0 l1 = some r) :
  Calls Try.prog 42 #[.slice A0 l0.length c0, .slice A1 l1.length c1] w fun e w' => e = .returned (.int .i64 r) ∧ Drawn0 w w' := by
 have HR0 := A_ hr0
 have HC0 := A_ hc0
 clear hr0 hc0
 have HR1 := A_ hr1
 have HC1 := A_ hc1
 clear hr1 hc1
 have H : (if (l0.length : Int) = (l1.length : Int) then (clevisref01_size.l0 k l0 l1 (wrap64 ((l0.length : Int) - 1))) else (if (l0.length : Int) < (l1.length : Int) then (some (-1)) else (some 1))) = some r := h
 clear h
 by_cases c3 : (l0.length : Int) = (l1.length : Int)
 ·
  rw [if_pos c3] at H
  have c3b0 : ((l0.length : Int) == (l1.length : Int)) = true := q1_ c3
  have c3b1 : ((l0.length : Int) != (l1.length : Int)) = false := q3_ c3
  have c3b2 : (l0.length == l1.length) = true := by first | simpa using c3 | (simp at c3 ⊢; omega)
  clear c3
  have H' := A_ H
  clear H
  go_enter Try.func42, Try.ntmps42
  go_wp2
  repeat (go_quiet (fail); try go_wp2)
  (try simp only [Act.put, sA_, sZ_, sS_])
  go_loopg [5] k (fun kq v5 w' => ∃ (x5_1 : Int), v5 = .int .i64 x5_1 ∧ Aside0 (clevisref01_size.l0 kq l0 l1 x5_1 = some r) ∧ Aside0 (kq ≤ k) ∧ Drawn0 w w')
  case atStart => exact ⟨(wrap64 ((l0.length : Int) - 1)), (by first | rfl | (simp; done) | (simp [*]; done)), H', ⟨Nat.le_refl _⟩, by repeat (first | exact Drawn0.refl _ | apply Drawn0.step)⟩
  case round =>
   clear H'
   try clear c1
   try clear p2
   try clear c3
   try clear c3b0
   try clear c3b1
   try clear c3b2
   obtain ⟨x5_1, rfl, HA, HK1, ⟨m1, rfl⟩⟩ := hrel
   cases gk with
   | zero => exact absurd HA.out (by simp [clevisref01_size.l0])
   | succ k1 =>
    have H := HA.out
    clear HA
    simp only [clevisref01_size.l0] at H
    by_cases c4 : x5_1 ≥ 0
    ·
     rw [if_pos c4] at H
     have c4b0 : decide (0 ≤ x5_1) = true := decide_eq_true c4
     clear c4
     by_cases c5 : 0 ≤ x5_1
     ·
      rw [if_pos c5] at H
      have c5b0 : decide (0 ≤ x5_1) = true := decide_eq_true c5
      clear c5
      by_cases c6 : x5_1 < (l0.length : Int)
      ·
       rw [if_pos c6] at H
       have c6b0 : decide (x5_1 < (l0.length : Int)) = true := decide_eq_true c6
       clear c6
       by_cases c7 : x5_1 < (l1.length : Int)
       ·
        rw [if_pos c7] at H
        have c7b0 : decide (x5_1 < (l1.length : Int)) = true := decide_eq_true c7
        clear c7
        by_cases c8 : (rd l0 x5_1) < (rd l1 x5_1)
        ·
         rw [if_pos c8] at H
         have c8b0 : decide ((rd l0 x5_1) < (rd l1 x5_1)) = true := decide_eq_true c8
         clear c8
         obtain rfl := Option.some.inj H
         have p161 : 0 ≤ (x5_1 : Int) := od_ (by first | (with_reducible assumption) | assumption)
         have q161 : x5_1 < (l0.length : Int) := od_ (by first | (with_reducible assumption) | assumption)
         obtain ⟨ad161, e161, hx161_0⟩ := Kd.at_int HR0.out x5_1 p161 q161
         cases e161
         replace p161 := eq_true p161
         replace q161 := eq_true q161
         have p162 : 0 ≤ (x5_1 : Int) := od_ (by first | (with_reducible assumption) | assumption)
         have q162 : x5_1 < (l1.length : Int) := od_ (by first | (with_reducible assumption) | assumption)
         obtain ⟨ad162, e162, hx162_0⟩ := Kd.at_int HR1.out x5_1 p162 q162
         cases e162
         replace p162 := eq_true p162
         replace q162 := eq_true q162
         go_wp2
         repeat (go_quiet (fail); try go_wp2)
         go_ret
         exact ⟨by first | rfl | (simp; done) | (simp [*]; done), by repeat (first | exact Drawn0.refl _ | apply Drawn0.step)⟩
        ·
         rw [if_neg c8] at H
         have c8b0 : decide ((rd l0 x5_1) < (rd l1 x5_1)) = false := decide_eq_false c8
         clear c8
         by_cases c9 : (rd l0 x5_1) > (rd l1 x5_1)
         ·
          rw [if_pos c9] at H
          have c9b0 : decide ((rd l1 x5_1) < (rd l0 x5_1)) = true := decide_eq_true c9
          clear c9
          obtain rfl := Option.some.inj H
          have p161 : 0 ≤ (x5_1 : Int) := od_ (by first | (with_reducible assumption) | assumption)
          have q161 : x5_1 < (l0.length : Int) := od_ (by first | (with_reducible assumption) | assumption)
          obtain ⟨ad161, e161, hx161_0⟩ := Kd.at_int HR0.out x5_1 p161 q161
          cases e161
          replace p161 := eq_true p161
          replace q161 := eq_true q161
          have p162 : 0 ≤ (x5_1 : Int) := od_ (by first | (with_reducible assumption) | assumption)
          have q162 : x5_1 < (l1.length : Int) := od_ (by first | (with_reducible assumption) | assumption)
          obtain ⟨ad162, e162, hx162_0⟩ := Kd.at_int HR1.out x5_1 p162 q162
          cases e162
          replace p162 := eq_true p162
          replace q162 := eq_true q162
          have p163 : 0 ≤ (x5_1 : Int) := od_ (by first | (with_reducible assumption) | assumption)
          have q163 : x5_1 < (l0.length : Int) := od_ (by first | (with_reducible assumption) | assumption)
          obtain ⟨ad163, e163, hx163_0⟩ := Kd.at_int HR0.out x5_1 p163 q163
          obtain rfl : ad161 = ad163 := (by injection e163)
          replace p163 := eq_true p163
          replace q163 := eq_true q163
          have p164 : 0 ≤ (x5_1 : Int) := od_ (by first | (with_reducible assumption) | assumption)
          have q164 : x5_1 < (l1.length : Int) := od_ (by first | (with_reducible assumption) | assumption)
          obtain ⟨ad164, e164, hx164_0⟩ := Kd.at_int HR1.out x5_1 p164 q164
          obtain rfl : ad162 = ad164 := (by injection e164)
          replace p164 := eq_true p164
          replace q164 := eq_true q164
          go_wp2
          repeat (go_quiet (fail); try go_wp2)
          go_ret
          exact ⟨by first | rfl | (simp; done) | (simp [*]; done), by repeat (first | exact Drawn0.refl _ | apply Drawn0.step)⟩
         ·
          rw [if_neg c9] at H
          have c9b0 : decide ((rd l1 x5_1) < (rd l0 x5_1)) = false := decide_eq_false c9
          clear c9
          have H' := A_ H
          clear H
          have p161 : 0 ≤ (x5_1 : Int) := od_ (by first | (with_reducible assumption) | assumption)
          have q161 : x5_1 < (l0.length : Int) := od_ (by first | (with_reducible assumption) | assumption)
          obtain ⟨ad161, e161, hx161_0⟩ := Kd.at_int HR0.out x5_1 p161 q161
          cases e161
          replace p161 := eq_true p161
          replace q161 := eq_true q161
          have p162 : 0 ≤ (x5_1 : Int) := od_ (by first | (with_reducible assumption) | assumption)
          have q162 : x5_1 < (l1.length : Int) := od_ (by first | (with_reducible assumption) | assumption)
          obtain ⟨ad162, e162, hx162_0⟩ := Kd.at_int HR1.out x5_1 p162 q162
          cases e162
          replace p162 := eq_true p162
          replace q162 := eq_true q162
          have p163 : 0 ≤ (x5_1 : Int) := od_ (by first | (with_reducible assumption) | assumption)
          have q163 : x5_1 < (l0.length : Int) := od_ (by first | (with_reducible assumption) | assumption)
          obtain ⟨ad163, e163, hx163_0⟩ := Kd.at_int HR0.out x5_1 p163 q163
          obtain rfl : ad161 = ad163 := (by injection e163)
          replace p163 := eq_true p163
          replace q163 := eq_true q163
          have p164 : 0 ≤ (x5_1 : Int) := od_ (by first | (with_reducible assumption) | assumption)
          have q164 : x5_1 < (l1.length : Int) := od_ (by first | (with_reducible assumption) | assumption)
          obtain ⟨ad164, e164, hx164_0⟩ := Kd.at_int HR1.out x5_1 p164 q164
          obtain rfl : ad162 = ad164 := (by injection e164)
          replace p164 := eq_true p164
          replace q164 := eq_true q164
          go_wp2
          repeat (go_quiet (fail); try go_wp2)
          go_roundg k1
          case measure => have := HK1.out; omega
          case rel => exact ⟨(wrap64 (x5_1 - 1)), (by first | rfl | (simp; done) | (simp [*]; done)), H', ⟨by have := HK1.out; omega⟩, by repeat (first | exact Drawn0.refl _ | apply Drawn0.step)⟩
       ·
        rw [if_neg c7] at H
        exact absurd H (by simp)
      ·
       rw [if_neg c6] at H
       exact absurd H (by simp)
     ·
      rw [if_neg c5] at H
      exact absurd H (by simp)
    ·
     rw [if_neg c4] at H
     have c4b0 : decide (0 ≤ x5_1) = false := decide_eq_false c4
     clear c4
     obtain rfl := Option.some.inj H
     go_wp2
     repeat (go_quiet (fail); try go_wp2)
     go_ret
     exact ⟨by first | rfl | (simp; done) | (simp [*]; done), by repeat (first | exact Drawn0.refl _ | apply Drawn0.step)⟩
 ·
  rw [if_neg c3] at H
  have c3b0 : ((l0.length : Int) == (l1.length : Int)) = false := q4_ c3
  have c3b1 : ((l0.length : Int) != (l1.length : Int)) = true := q2_ c3
  have c3b2 : (l0.length == l1.length) = false := by first | simpa using c3 | (simp at c3 ⊢; omega)
  by_cases c10 : (l0.length : Int) < (l1.length : Int)
  ·
   rw [if_pos c10] at H
   have c10b0 : decide ((l0.length : Int) < (l1.length : Int)) = true := decide_eq_true c10
   have c10b1 : decide (l0.length < l1.length) = true := decide_eq_true (Int.ofNat_lt.mp c10)
   clear c10
   obtain rfl := Option.some.inj H
   go_enter Try.func42, Try.ntmps42
   go_wp2
   repeat (go_quiet (fail); try go_wp2)
   go_ret
   exact ⟨by first | rfl | (simp; done) | (simp [*]; done), by repeat (first | exact Drawn0.refl _ | apply Drawn0.step)⟩
  ·
   rw [if_neg c10] at H
   have c10b0 : decide ((l0.length : Int) < (l1.length : Int)) = false := decide_eq_false c10
   have c10b1 : decide (l0.length < l1.length) = false := decide_eq_false (fun h => c10 (Int.ofNat_lt.mpr h))
   clear c10
   obtain rfl := Option.some.inj H
   go_enter Try.func42, Try.ntmps42
   go_wp2
   repeat (go_quiet (fail); try go_wp2)
   go_ret
   exact ⟨by first | rfl | (simp; done) | (simp [*]; done), by repeat (first | exact Drawn0.refl _ | apply Drawn0.step)⟩
end Go.Proofs.Ytjbcigiffihjaaa.Fx
end
section
namespace Go.Proofs.Ytjbcigiffihjaaa.Fx
open Go.RowKit Go.Proofs.YtjbcigiffihjaaaW.PrintWords Go.Proofs.YtjbcigiffihjaaaW.PrintLast Go.Proofs.YtjbcigiffihjaaaW.PrintMore
attribute [local go_sem] max2_int min2_int max_two min_two max_three min_three max_four min_four   -- for this text's walks alone
set_option linter.unusedVariables false
set_option linter.unusedSimpArgs false
attribute [local go_sem] run_add64_any
def clevisref01_Compare.f (k : Nat) (a0_0 : Bool) (l0_1 : List Int) (a1_0 : Bool) (l1_1 : List Int) : Option (Int) := if (a0_0 != a1_0) = true then (if a0_0 = true then (some (-1)) else (some 1)) else ((clevisref01_size.f k l0_1 l1_1).bind fun t165 => (if a0_0 = true then (some (wrap64 (-t165))) else (some t165)))
set_option maxHeartbeats 8000000 in
set_option maxRecDepth 100000 in
theorem clevisref01_Compare.calls (k : Nat) (a0_0 : Bool) (A0_1 : Option Addr) (c0_1 : Nat) (l0_1 : List Int) (a1_0 : Bool) (A1_1 : Option Addr) (c1_1 : Nat) (l1_1 : List Int) (r : Int) (w : World) (hr0_1 : Kd.C (Kd.int .i64) w A0_1 l0_1.length l0_1) (hc0_1 : l0_1.length ≤ c0_1) (hr1_1 : Kd.C (Kd.int .i64) w A1_1 l1_1.length l1_1) (hc1_1 : l1_1.length ≤ c1_1) (h : clevisref01_Compare.f k a0_0 l0_1 a1_0 l1_1 = some r) :
  Calls Try.prog 16 #[.agg #[.bool a0_0, .slice A0_1 l0_1.length c0_1], .agg #[.bool a1_0, .slice A1_1 l1_1.length c1_1]] w fun e w' => e = .returned (.int .i64 r) ∧ Below w.heap.size w w' := by
 have hu32 := Try.underlying32
 have HR0_1 := A_ hr0_1
 have HC0_1 := A_ hc0_1
 clear hr0_1 hc0_1
 have HR1_1 := A_ hr1_1
 have HC1_1 := A_ hc1_1
 clear hr1_1 hc1_1
 have HB := A_ (Below.refl w.heap.size w)
 have H : (if (a0_0 != a1_0) = true then (if a0_0 = true then (some (-1)) else (some 1)) else ((clevisref01_size.f k l0_1 l1_1).bind fun t165 => (if a0_0 = true then (some (wrap64 (-t165))) else (some t165)))) = some r := h
 clear h
 by_cases c3 : (a0_0 != a1_0) = true
 ·
  rw [if_pos c3] at H
  have c3b0 : (a0_0 != a1_0) = true := c3
  (try (have c3b1 : decide (a0_0 = a1_0) = false := by simpa using c3))
  (try (have c3b2 : (a0_0 == a1_0) = false := by simpa using c3))
  (try (have c3b3 : ¬ (a0_0 = a1_0) := by simpa using c3))
  clear c3
  by_cases c4 : a0_0 = true
  ·
   subst c4
   have H1 : (some (-1)) = some r := by rw [if_pos rfl] at H; exact H
   clear H
   have H := H1
   clear H1
   obtain rfl := Option.some.inj H
   go_enter Try.func16, Try.ntmps16
   go_wp2_with (first | ((with_reducible refine gate_dst (N := 2) rfl ?_); refine box_event ?hg (N := 2) ?hd (cs := #[.bool true, .slice A0_1 l0_1.length c0_1]) (t := 32) ?hr ?_; (case hd => rfl); (case hg => rfl); (case hr => first | (go_simp; done) | (go_simp; rfl)); intro gb302 hg w5 hbox hb; have n0_ := A_ (bs_ bw_ hb); have n1_ := A_ (hbox); have n2_ := A_ ((by rw [hg]; exact (bz_ bw_) : w.heap.size ≤ gb302)); have n3_ := A_ ((by rw [hg]; exact (bz_ bw_) : w.heap.size ≤ gb302)); clear HB; have HB := n0_; have BK302 := n1_; have GW302 := n2_; have GE302 := n3_; clear n0_ n1_ n2_ n3_; clear hb hbox hg) | ((with_reducible refine gate_dst (N := 3) rfl ?_); refine box_event ?hg (N := 3) ?hd (cs := #[.bool a1_0, .slice A1_1 l1_1.length c1_1]) (t := 32) ?hr ?_; (case hd => rfl); (case hg => rfl); (case hr => first | (go_simp; done) | (go_simp; rfl)); intro gb303 hg w6 hbox hb; have n0_ := A_ (kb_ BK302 hb); have n1_ := A_ (bs_ bw_ hb); have n2_ := A_ (hbox); have n3_ := A_ ((by rw [hg]; exact (bz_ bw_) : w.heap.size ≤ gb303)); have n4_ := A_ ((by rw [hg]; exact (bz_ bw_) : w.heap.size ≤ gb303)); have n5_ := A_ ((by rw [hg]; exact nl_ (lt_ BK302) : gb302 ≠ gb303)); have n6_ := A_ ((by rw [hg]; exact ng_ (lt_ BK302) : gb303 ≠ gb302)); clear BK302; clear HB; have BK302 := n0_; have HB := n1_; have BK303 := n2_; have GW303 := n3_; have GE303 := n4_; have NB302_303 := n5_; have NB303_302 := n6_; clear n0_ n1_ n2_ n3_ n4_ n5_ n6_; clear hb hbox hg; have hnb7 := NB302_303.out; have hnc7 := NB303_302.out; have hcz8_0 : w6.cell? ⟨gb302, 0, none⟩ = some (.bool true) := (bc_ BK302.out 0).trans rfl; have hcz8_1 : w6.cell? ⟨gb302, 1, none⟩ = some (.slice A0_1 l0_1.length c0_1) := (bc_ BK302.out 1).trans rfl; have hfz8_0 := bf_ BK302.out 0; have hfz8_1 := bf_ BK302.out 1; have hcz9_0 : w6.cell? ⟨gb303, 0, none⟩ = some (.bool a1_0) := (bc_ BK303.out 0).trans rfl; have hcz9_1 : w6.cell? ⟨gb303, 1, none⟩ = some (.slice A1_1 l1_1.length c1_1) := (bc_ BK303.out 1).trans rfl; have hfz9_0 := bf_ BK303.out 0; have hfz9_1 := bf_ BK303.out 1))
   go_ret
   exact ⟨by first | rfl | (simp [errW_none, errW_some] <;> rfl) | (simp [*, errW_none, errW_some] <;> rfl), bw_⟩
  ·
   replace c4 := Bool.eq_false_iff.mpr c4
   subst c4
   have H1 : (some 1) = some r := by rw [if_neg (show ¬ (false = true) by decide)] at H; exact H
   clear H
   have H := H1
   clear H1
   obtain rfl := Option.some.inj H
   go_enter Try.func16, Try.ntmps16
   go_wp2_with (first | ((with_reducible refine gate_dst (N := 2) rfl ?_); refine box_event ?hg (N := 2) ?hd (cs := #[.bool false, .slice A0_1 l0_1.length c0_1]) (t := 32) ?hr ?_; (case hd => rfl); (case hg => rfl); (case hr => first | (go_simp; done) | (go_simp; rfl)); intro gb302 hg w10 hbox hb; have n0_ := A_ (bs_ bw_ hb); have n1_ := A_ (hbox); have n2_ := A_ ((by rw [hg]; exact (bz_ bw_) : w.heap.size ≤ gb302)); have n3_ := A_ ((by rw [hg]; exact (bz_ bw_) : w.heap.size ≤ gb302)); clear HB; have HB := n0_; have BK302 := n1_; have GW302 := n2_; have GE302 := n3_; clear n0_ n1_ n2_ n3_; clear hb hbox hg) | ((with_reducible refine gate_dst (N := 3) rfl ?_); refine box_event ?hg (N := 3) ?hd (cs := #[.bool a1_0, .slice A1_1 l1_1.length c1_1]) (t := 32) ?hr ?_; (case hd => rfl); (case hg => rfl); (case hr => first | (go_simp; done) | (go_simp; rfl)); intro gb303 hg w11 hbox hb; have n0_ := A_ (kb_ BK302 hb); have n1_ := A_ (bs_ bw_ hb); have n2_ := A_ (hbox); have n3_ := A_ ((by rw [hg]; exact (bz_ bw_) : w.heap.size ≤ gb303)); have n4_ := A_ ((by rw [hg]; exact (bz_ bw_) : w.heap.size ≤ gb303)); have n5_ := A_ ((by rw [hg]; exact nl_ (lt_ BK302) : gb302 ≠ gb303)); have n6_ := A_ ((by rw [hg]; exact ng_ (lt_ BK302) : gb303 ≠ gb302)); clear BK302; clear HB; have BK302 := n0_; have HB := n1_; have BK303 := n2_; have GW303 := n3_; have GE303 := n4_; have NB302_303 := n5_; have NB303_302 := n6_; clear n0_ n1_ n2_ n3_ n4_ n5_ n6_; clear hb hbox hg; have hnb12 := NB302_303.out; have hnc12 := NB303_302.out; have hcz13_0 : w11.cell? ⟨gb302, 0, none⟩ = some (.bool false) := (bc_ BK302.out 0).trans rfl; have hcz13_1 : w11.cell? ⟨gb302, 1, none⟩ = some (.slice A0_1 l0_1.length c0_1) := (bc_ BK302.out 1).trans rfl; have hfz13_0 := bf_ BK302.out 0; have hfz13_1 := bf_ BK302.out 1; have hcz14_0 : w11.cell? ⟨gb303, 0, none⟩ = some (.bool a1_0) := (bc_ BK303.out 0).trans rfl; have hcz14_1 : w11.cell? ⟨gb303, 1, none⟩ = some (.slice A1_1 l1_1.length c1_1) := (bc_ BK303.out 1).trans rfl; have hfz14_0 := bf_ BK303.out 0; have hfz14_1 := bf_ BK303.out 1))
   go_ret
   exact ⟨by first | rfl | (simp [errW_none, errW_some] <;> rfl) | (simp [*, errW_none, errW_some] <;> rfl), bw_⟩
 ·
  rw [if_neg c3] at H
  have c3b0 : (a0_0 != a1_0) = false := by simpa using c3
  (try (have c3b1 : decide (a0_0 = a1_0) = true := by simpa using c3))
  (try (have c3b2 : (a0_0 == a1_0) = true := by simpa using c3))
  clear c3
  replace H := os_ H
  obtain ⟨t165, A150, H⟩ := H
  replace H : (if a0_0 = true then (some (wrap64 (-t165))) else (some t165)) = some r := H
  have A15 := A_ A150
  clear A150
  by_cases c16 : a0_0 = true
  ·
   subst c16
   have H1 : (some (wrap64 (-t165))) = some r := by rw [if_pos rfl] at H; exact H
   clear H
   have H := H1
   clear H1
   obtain rfl := Option.some.inj H
   go_enter Try.func16, Try.ntmps16
   go_wp2_with (first | ((with_reducible refine gate_dst (N := 2) rfl ?_); refine box_event ?hg (N := 2) ?hd (cs := #[.bool true, .slice A0_1 l0_1.length c0_1]) (t := 32) ?hr ?_; (case hd => rfl); (case hg => rfl); (case hr => first | (go_simp; done) | (go_simp; rfl)); intro gb302 hg w17 hbox hb; have n0_ := A_ (bs_ bw_ hb); have n1_ := A_ (hbox); have n2_ := A_ ((by rw [hg]; exact (bz_ bw_) : w.heap.size ≤ gb302)); have n3_ := A_ ((by rw [hg]; exact (bz_ bw_) : w.heap.size ≤ gb302)); clear HB; have HB := n0_; have BK302 := n1_; have GW302 := n2_; have GE302 := n3_; clear n0_ n1_ n2_ n3_; clear hb hbox hg) | ((with_reducible refine gate_dst (N := 3) rfl ?_); refine box_event ?hg (N := 3) ?hd (cs := #[.bool a1_0, .slice A1_1 l1_1.length c1_1]) (t := 32) ?hr ?_; (case hd => rfl); (case hg => rfl); (case hr => first | (go_simp; done) | (go_simp; rfl)); intro gb303 hg w18 hbox hb; have n0_ := A_ (kb_ BK302 hb); have n1_ := A_ (bs_ bw_ hb); have n2_ := A_ (hbox); have n3_ := A_ ((by rw [hg]; exact (bz_ bw_) : w.heap.size ≤ gb303)); have n4_ := A_ ((by rw [hg]; exact (bz_ bw_) : w.heap.size ≤ gb303)); have n5_ := A_ ((by rw [hg]; exact nl_ (lt_ BK302) : gb302 ≠ gb303)); have n6_ := A_ ((by rw [hg]; exact ng_ (lt_ BK302) : gb303 ≠ gb302)); clear BK302; clear HB; have BK302 := n0_; have HB := n1_; have BK303 := n2_; have GW303 := n3_; have GE303 := n4_; have NB302_303 := n5_; have NB303_302 := n6_; clear n0_ n1_ n2_ n3_ n4_ n5_ n6_; clear hb hbox hg; have hnb19 := NB302_303.out; have hnc19 := NB303_302.out; have hcz20_0 : w18.cell? ⟨gb302, 0, none⟩ = some (.bool true) := (bc_ BK302.out 0).trans rfl; have hcz20_1 : w18.cell? ⟨gb302, 1, none⟩ = some (.slice A0_1 l0_1.length c0_1) := (bc_ BK302.out 1).trans rfl; have hfz20_0 := bf_ BK302.out 0; have hfz20_1 := bf_ BK302.out 1; have hcz21_0 : w18.cell? ⟨gb303, 0, none⟩ = some (.bool a1_0) := (bc_ BK303.out 0).trans rfl; have hcz21_1 : w18.cell? ⟨gb303, 1, none⟩ = some (.slice A1_1 l1_1.length c1_1) := (bc_ BK303.out 1).trans rfl; have hfz21_0 := bf_ BK303.out 0; have hfz21_1 := bf_ BK303.out 1) | ((with_reducible refine gate_callee (f := 42) rfl ?_); refine goesL_ (some 17) rfl rfl Try.func42 (by kernel_rfl) rfl #[.slice A0_1 l0_1.length c0_1, .slice A1_1 l1_1.length c1_1] rfl (by (try simp only [List.map_toArray, List.map_cons, List.map_nil]); first | done | rfl | (simp only [List.length_drop, List.length_take]; rfl)) ?_; (with_reducible refine (clevisref01_size.calls k _ _ l0_1 _ _ l1_1 t165 _ ?side1 ?side2 ?side3 ?side4 A15.out).mono ?_); (case side1 => repeat (first | exact (cb_ HR0_1.out HB.out) | (with_reducible refine ca_ ?_ _) | (with_reducible refine cn_ ?_ _) | (with_reducible refine cd_ ?_))); (case side2 => exact HC0_1.out); (case side3 => repeat (first | exact (cb_ HR1_1.out HB.out) | (with_reducible refine ca_ ?_ _) | (with_reducible refine cn_ ?_ _) | (with_reducible refine cd_ ?_))); (case side4 => exact HC1_1.out); rintro e w' ⟨rfl, ⟨nd, rfl⟩⟩; refine ⟨_, rfl, ?_⟩))
   go_ret
   exact ⟨by first | rfl | (simp [errW_none, errW_some] <;> rfl) | (simp [*, errW_none, errW_some] <;> rfl), bw_⟩
  ·
   replace c16 := Bool.eq_false_iff.mpr c16
   subst c16
   have H1 : (some t165) = some r := by rw [if_neg (show ¬ (false = true) by decide)] at H; exact H
   clear H
   have H := H1
   clear H1
   obtain rfl := Option.some.inj H
   go_enter Try.func16, Try.ntmps16
   go_wp2_with (first | ((with_reducible refine gate_dst (N := 2) rfl ?_); refine box_event ?hg (N := 2) ?hd (cs := #[.bool false, .slice A0_1 l0_1.length c0_1]) (t := 32) ?hr ?_; (case hd => rfl); (case hg => rfl); (case hr => first | (go_simp; done) | (go_simp; rfl)); intro gb302 hg w22 hbox hb; have n0_ := A_ (bs_ bw_ hb); have n1_ := A_ (hbox); have n2_ := A_ ((by rw [hg]; exact (bz_ bw_) : w.heap.size ≤ gb302)); have n3_ := A_ ((by rw [hg]; exact (bz_ bw_) : w.heap.size ≤ gb302)); clear HB; have HB := n0_; have BK302 := n1_; have GW302 := n2_; have GE302 := n3_; clear n0_ n1_ n2_ n3_; clear hb hbox hg) | ((with_reducible refine gate_dst (N := 3) rfl ?_); refine box_event ?hg (N := 3) ?hd (cs := #[.bool a1_0, .slice A1_1 l1_1.length c1_1]) (t := 32) ?hr ?_; (case hd => rfl); (case hg => rfl); (case hr => first | (go_simp; done) | (go_simp; rfl)); intro gb303 hg w23 hbox hb; have n0_ := A_ (kb_ BK302 hb); have n1_ := A_ (bs_ bw_ hb); have n2_ := A_ (hbox); have n3_ := A_ ((by rw [hg]; exact (bz_ bw_) : w.heap.size ≤ gb303)); have n4_ := A_ ((by rw [hg]; exact (bz_ bw_) : w.heap.size ≤ gb303)); have n5_ := A_ ((by rw [hg]; exact nl_ (lt_ BK302) : gb302 ≠ gb303)); have n6_ := A_ ((by rw [hg]; exact ng_ (lt_ BK302) : gb303 ≠ gb302)); clear BK302; clear HB; have BK302 := n0_; have HB := n1_; have BK303 := n2_; have GW303 := n3_; have GE303 := n4_; have NB302_303 := n5_; have NB303_302 := n6_; clear n0_ n1_ n2_ n3_ n4_ n5_ n6_; clear hb hbox hg; have hnb24 := NB302_303.out; have hnc24 := NB303_302.out; have hcz25_0 : w23.cell? ⟨gb302, 0, none⟩ = some (.bool false) := (bc_ BK302.out 0).trans rfl; have hcz25_1 : w23.cell? ⟨gb302, 1, none⟩ = some (.slice A0_1 l0_1.length c0_1) := (bc_ BK302.out 1).trans rfl; have hfz25_0 := bf_ BK302.out 0; have hfz25_1 := bf_ BK302.out 1; have hcz26_0 : w23.cell? ⟨gb303, 0, none⟩ = some (.bool a1_0) := (bc_ BK303.out 0).trans rfl; have hcz26_1 : w23.cell? ⟨gb303, 1, none⟩ = some (.slice A1_1 l1_1.length c1_1) := (bc_ BK303.out 1).trans rfl; have hfz26_0 := bf_ BK303.out 0; have hfz26_1 := bf_ BK303.out 1) | ((with_reducible refine gate_callee (f := 42) rfl ?_); refine goesL_ (some 17) rfl rfl Try.func42 (by kernel_rfl) rfl #[.slice A0_1 l0_1.length c0_1, .slice A1_1 l1_1.length c1_1] rfl (by (try simp only [List.map_toArray, List.map_cons, List.map_nil]); first | done | rfl | (simp only [List.length_drop, List.length_take]; rfl)) ?_; (with_reducible refine (clevisref01_size.calls k _ _ l0_1 _ _ l1_1 t165 _ ?side1 ?side2 ?side3 ?side4 A15.out).mono ?_); (case side1 => repeat (first | exact (cb_ HR0_1.out HB.out) | (with_reducible refine ca_ ?_ _) | (with_reducible refine cn_ ?_ _) | (with_reducible refine cd_ ?_))); (case side2 => exact HC0_1.out); (case side3 => repeat (first | exact (cb_ HR1_1.out HB.out) | (with_reducible refine ca_ ?_ _) | (with_reducible refine cn_ ?_ _) | (with_reducible refine cd_ ?_))); (case side4 => exact HC1_1.out); rintro e w' ⟨rfl, ⟨nd, rfl⟩⟩; refine ⟨_, rfl, ?_⟩))
   go_ret
   exact ⟨by first | rfl | (simp [errW_none, errW_some] <;> rfl) | (simp [*, errW_none, errW_some] <;> rfl), bw_⟩
end Go.Proofs.Ytjbcigiffihjaaa.Fx
end
section
namespace Go.Proofs.Ytjbcigiffihjaaa.Fx
open Go.RowKit Go.Proofs.YtjbcigiffihjaaaW.PrintWords Go.Proofs.YtjbcigiffihjaaaW.PrintLast Go.Proofs.YtjbcigiffihjaaaW.PrintMore
attribute [local go_sem] max2_int min2_int max_two min_two max_three min_three max_four min_four   -- for this text's walks alone
set_option linter.unusedVariables false
set_option linter.unusedSimpArgs false
attribute [local go_sem] run_add64_any
def clevisref01_clean.l0 : Nat → Bool → List Int → Option (Bool × List Int)
 | 0, _, _ => none
 | k + 1, x302000, x302001 => if (x302001.length : Int) > 0 then (if 0 ≤ (wrap64 ((x302001.length : Int) - 1)) then (if (wrap64 ((x302001.length : Int) - 1)) < (x302001.length : Int) then (if (rd x302001 (wrap64 ((x302001.length : Int) - 1))) = 0 then (if (wrap64 ((x302001.length : Int) - 1)) ≤ (x302001.length : Int) then (clevisref01_clean.l0 k x302000 (x302001.take ((wrap64 ((x302001.length : Int) - 1)) : Int).toNat)) else (none)) else (if (x302001.length : Int) = 0 then (some (false, x302001)) else (some (x302000, x302001)))) else (none)) else (none)) else (if (x302001.length : Int) = 0 then (some (false, x302001)) else (some (x302000, x302001)))
def clevisref01_clean.f (k : Nat) (a0_0 : Bool) (l0_1 : List Int) : Option (Bool × List Int) := clevisref01_clean.l0 k a0_0 l0_1
set_option maxHeartbeats 8000000 in
set_option maxRecDepth 100000 in
theorem clevisref01_clean.calls (k : Nat) (a0_0 : Bool) (P0_1_ : Nat → Prop) (A0_1 : Option Addr) (c0_1 : Nat) (l0_1 : List Int) (r1 : Bool) (r2 : List Int) (w : World) (hs0_1 : Kd.V (Kd.int .i64) 3 w w.heap.size (fun k_ => P0_1_ k_) (.slice A0_1 l0_1.length c0_1) l0_1) (h : clevisref01_clean.f k a0_0 l0_1 = some (r1, r2)) :
  Calls Try.prog 47 #[.agg #[.bool a0_0, .slice A0_1 l0_1.length c0_1]] w fun e w' => ∃ v1_ : Value, e = .returned (.agg #[.bool r1, v1_]) ∧ Kd.V (Kd.int .i64) 3 w' w.heap.size (fun k_ => (P0_1_ k_ ∨ w.heap.size ≤ k_)) v1_ r2 ∧ Below w.heap.size w w' := by
 have hu32 := Try.underlying32
 have HO0_1 := A_ (show Kd.V (Kd.int .i64) 3 w w.heap.size (fun k_ => (P0_1_ k_ ∨ w.heap.size ≤ k_)) (.slice A0_1 l0_1.length c0_1) l0_1 from vm_ hs0_1 (fun k_ hk => .inl hk))
 have HB := A_ (Below.refl w.heap.size w)
 have H : (clevisref01_clean.l0 k a0_0 l0_1) = some (r1, r2) := h
 clear h
 have H' := A_ H
 clear H
 go_enter Try.func47, Try.ntmps47
 go_wp2_with (first | ((with_reducible refine gate_dst (N := 1) rfl ?_); (try (refine gate_guard (by rfl) ?_; dsimp only)); refine box_event ?hg (N := 1) ?hd (cs := #[.bool a0_0, .slice A0_1 l0_1.length c0_1]) (t := 32) ?hr ?_; (case hd => rfl); (case hg => rfl); (case hr => first | (go_simp; done) | (go_simp; rfl)); intro gb301 hg w2 hbox hb; have n0_ := A_ (Kd.V_below (Kd.V_elderB (by (with_reducible repeat (first | apply va_ | apply vn_ | apply vd_)); exact HO0_1.out) gb301 (Nat.le_of_eq hg.symm)) hb); have n1_ := A_ (bs_ bw_ hb); have n2_ := A_ (hbox); have n3_ := A_ ((by rw [hg]; exact (bz_ bw_) : w.heap.size ≤ gb301)); have n4_ := A_ ((by rw [hg]; exact (bz_ bw_) : w.heap.size ≤ gb301)); clear HO0_1; clear HB; have HO0_1 := n0_; have HB := n1_; have BK301 := n2_; have GW301 := n3_; have GE301 := n4_; clear n0_ n1_ n2_ n3_ n4_; clear hb hbox hg) | ((with_reducible refine gate_dst (N := 2) rfl ?_); (try (refine gate_guard (by rfl) ?_; dsimp only)); refine box_event ?hg (N := 2) ?hd (cs := #[.bool false, .slice none 0 0]) (t := 32) ?hr ?_; (case hd => rfl); (case hg => rfl); (case hr => first | (go_simp; done) | (go_simp; rfl)); intro gb302 hg w3 hbox hb; have n0_ := A_ (Kd.V_below (Kd.V_elderB (by (with_reducible repeat (first | apply va_ | apply vn_ | apply vd_)); exact HO0_1.out) gb302 (Nat.le_of_eq hg.symm)) hb); have n1_ := A_ (kb_ BK301 hb); have n2_ := A_ (bs_ bw_ hb); have n3_ := A_ (hbox); have n4_ := A_ ((by rw [hg]; exact (bz_ bw_) : w.heap.size ≤ gb302)); have n5_ := A_ ((by rw [hg]; exact (bz_ bw_) : w.heap.size ≤ gb302)); have n6_ := A_ ((by rw [hg]; exact nl_ (lt_ BK301) : gb301 ≠ gb302)); have n7_ := A_ ((by rw [hg]; exact ng_ (lt_ BK301) : gb302 ≠ gb301)); clear HO0_1; clear BK301; clear HB; have HO0_1 := n0_; have BK301 := n1_; have HB := n2_; have BK302 := n3_; have GW302 := n4_; have GE302 := n5_; have NB301_302 := n6_; have NB302_301 := n7_; clear n0_ n1_ n2_ n3_ n4_ n5_ n6_ n7_; clear hb hbox hg))
 (try simp only [Act.put, sA_, sZ_, sS_])
 go_loopg [] k (fun kq w' => ∃ (x302001_1 : List Int) (u302001 : Value), Aside0 (clevisref01_clean.l0 kq a0_0 x302001_1 = some (r1, r2)) ∧ Aside0 (kq ≤ k) ∧ Aside0 (Kd.V (Kd.int .i64) 3 w' w.heap.size (fun k_ => (P0_1_ k_ ∨ w.heap.size ≤ k_) ∧ k_ ≠ gb301 ∧ k_ ≠ gb302) u302001 x302001_1) ∧ Aside0 (w'.heap[gb301]? = some (.cells #[.bool a0_0, u302001] 32 (0, 0))) ∧ Aside0 (w'.heap[gb302]? = some (.cells #[.bool false, (.slice none 0 0)] 32 (0, 0))) ∧ Aside0 (Below w.heap.size w w'))
 case atStart => exact ⟨(l0_1), (.slice A0_1 l0_1.length c0_1), H', ⟨Nat.le_refl _⟩, ⟨by (with_reducible repeat (first | apply va_ | apply vn_ | apply vd_)); exact vm_ HO0_1.out (fun _ hk => ⟨hk.1.1, ⟨hk.1.2, hk.2⟩⟩)⟩, ⟨bk_⟩, ⟨bk_⟩, ⟨bw_⟩⟩
 case round =>
  clear H'
  try clear p2
  obtain ⟨x302001_1, u302001, HA, HK1, HO_302001, BK301, BK302, HB⟩ := hrel
  cases gk with
  | zero => exact absurd HA.out (by simp [clevisref01_clean.l0])
  | succ k1 =>
   have H := HA.out
   clear HA
   simp only [clevisref01_clean.l0] at H
   by_cases c4 : (x302001_1.length : Int) > 0
   ·
    rw [if_pos c4] at H
    have c4b0 : decide (0 < (x302001_1.length : Int)) = true := decide_eq_true c4
    have c4b1 : decide (0 < x302001_1.length) = true := decide_eq_true (by omega)
    clear c4
    obtain ⟨ji5, hji5⟩ : ∃ j_ : Int, (wrap64 ((x302001_1.length : Int) - 1)) = j_ := ⟨_, rfl⟩
    replace H : (if 0 ≤ (ji5) then (if (ji5) < (x302001_1.length : Int) then (if (rd x302001_1 (ji5)) = 0 then (if (ji5) ≤ (x302001_1.length : Int) then (clevisref01_clean.l0 k1 a0_0 (x302001_1.take ((ji5) : Int).toNat)) else (none)) else (if (x302001_1.length : Int) = 0 then (some (false, x302001_1)) else (some (a0_0, x302001_1)))) else (none)) else (none)) = some (r1, r2) := by first | (rw [hji5] at H; exact H) | (simp only [hji5] at H ⊢; exact H)
    have hji5w : (IntKind.i64.wrap ((x302001_1.length : Int) - 1)) = ji5 := (i64_w _).trans hji5
    by_cases c6 : 0 ≤ (ji5)
    ·
     rw [if_pos c6] at H
     have c6b0 : decide (0 ≤ (ji5)) = true := decide_eq_true c6
     clear c6
     by_cases c7 : (ji5) < (x302001_1.length : Int)
     ·
      rw [if_pos c7] at H
      have c7b0 : decide ((ji5) < (x302001_1.length : Int)) = true := decide_eq_true c7
      clear c7
      by_cases c8 : (rd x302001_1 (ji5)) = 0
      ·
       rw [if_pos c8] at H
       have c8b0 : ((rd x302001_1 (ji5)) == 0) = true := q1_ c8
       have c8b1 : ((rd x302001_1 (ji5)) != 0) = false := q3_ c8
       clear c8
       have c9b0 := eq_true (od_ (by first | (with_reducible assumption) | assumption) : 0 ≤ (ji5))
       by_cases c10 : (ji5) ≤ (x302001_1.length : Int)
       ·
        rw [if_pos c10] at H
        have c10b0 := eq_true c10
        have c10b1 : decide ((ji5) ≤ (x302001_1.length : Int)) = true := decide_eq_true c10
        clear c10
        obtain ⟨y167, hy167⟩ : ∃ y_ : List Int, y_ = (x302001_1.take ((ji5) : Int).toNat) := ⟨_, rfl⟩
        replace H : (clevisref01_clean.l0 k1 a0_0 y167) = some (r1, r2) := by first | (rw [hy167]; with_reducible exact H) | (have H2_ := (Option.bind_some _ _).symm.trans H; rw [hy167]; with_reducible exact H2_) | (have H2_ := (Option.bind_some _ _).symm.trans H; with_reducible exact H2_) | with_reducible exact H | (rw [hy167]; exact H) | exact H
        have Ny167 := A_ hy167
        clear hy167
        have H' := A_ H
        clear H
        have hnb11 := NB301_302.out
        have hnc11 := NB302_301.out
        have hcz12_0 : wr.cell? ⟨gb301, 0, none⟩ = some (.bool a0_0) := (bc_ BK301.out 0).trans rfl
        have hcz12_1 : wr.cell? ⟨gb301, 1, none⟩ = some (u302001) := (bc_ BK301.out 1).trans rfl
        have hfz12_0 := bf_ BK301.out 0
        have hfz12_1 := bf_ BK301.out 1
        obtain ⟨Ao13, co13, eo13⟩ := Kd.V_slice HO_302001.out
        subst eo13
        have p166 : 0 ≤ ((ji5) : Int) := od_ (by first | (with_reducible assumption) | assumption)
        have q166 : (ji5) < (x302001_1.length : Int) := od_ (by first | (with_reducible assumption) | assumption)
        obtain ⟨ad166, e166, hx166_0⟩ := Kd.at_int (Kd.V_reads' HO_302001.out).2.2 (ji5) p166 q166
        cases e166
        replace p166 := eq_true p166
        replace q166 := eq_true q166
        have q14 : ((ji5) : Int) ≤ ((x302001_1.length : Int) : Int) := od_ (by first | (with_reducible assumption) | assumption)
        obtain ⟨i014, hi014, _, hsz14, _⟩ := info_parts info3
        have hroom14 : x302001_1.length ≤ co13 := (Kd.V_reads' HO_302001.out).2.1
        have hC14 : Kd.F (Kd.int .i64) _ _ (some ad166) x302001_1.length x302001_1 := (Kd.V_at (base := w.heap.size) HO_302001.out).2.2
        have hcut14 := cut_to (P := Try.prog) 30 3 .i64 Try.underlying30 hi014 (some ad166) x302001_1.length co13 (ji5) (od_ (by first | (with_reducible assumption) | assumption)) q14 hroom14
        have hr14 := Kd.F_take (m := ((ji5) : Int).toNat) hC14 (by omega)
        have hy14 : y167.length = ((ji5) : Int).toNat := (by rw [Ny167.out, List.length_take]; omega)
        rw [← Ny167.out] at hr14
        rw [← hy14] at hcut14
        have HO171 := A_ (show Kd.V (Kd.int .i64) 3 _ w.heap.size _ (.slice (some ad166) y167.length co13) y167 from Kd.V_mk (by omega) hr14)
        have HC171 := A_ (show y167.length ≤ co13 from by omega)
        clear hr14 hC14 hroom14 hi014 hsz14
        have KY14 := A_ hy14
        clear hy14
        replace q14 := eq_true q14
        go_wp2
        go_roundg k1
        case measure => have := HK1.out; omega
        case rel => exact ⟨(y167), (.slice (some ad166) y167.length co13), H', ⟨by have := HK1.out; omega⟩, ⟨by (with_reducible repeat (first | apply va_ | apply vn_ | apply vd_)); exact vm_ (Kd.V_far (p := ⟨gb301, 1, none⟩) (vm_ HO171.out (fun k_ hk => (⟨hk, hk.2.1⟩ : _ ∧ k_ ≠ gb301))) (fun _ hk => hk.2) (.slice (some ad166) y167.length co13)) (fun _ hk => ⟨hk.1.1, ⟨hk.1.2.1, hk.1.2.2⟩⟩)⟩, ⟨by (with_reducible repeat (first | refine bn_ ?_ _ | refine bd_ ?_ | refine ba_ ?_ _)); refine bp_ (cs := #[.bool a0_0, .slice (some ad166) x302001_1.length co13]) ?_ 1 _ rfl; (with_reducible repeat (first | refine bn_ ?_ _ | refine bd_ ?_ | refine ba_ ?_ _)); exact BK301.out⟩, ⟨bk_⟩, ⟨bw_⟩⟩
       ·
        rw [if_neg c10] at H
        exact absurd H (by simp)
      ·
       rw [if_neg c8] at H
       have c8b0 : ((rd x302001_1 (ji5)) == 0) = false := q4_ c8
       have c8b1 : ((rd x302001_1 (ji5)) != 0) = true := q2_ c8
       by_cases c15 : (x302001_1.length : Int) = 0
       ·
        rw [if_pos c15] at H
        have c15b0 : ((x302001_1.length : Int) == 0) = true := q1_ c15
        have c15b1 : ((x302001_1.length : Int) != 0) = false := q3_ c15
        clear c15
        simp only [Option.some.injEq, Prod.mk.injEq] at H
        obtain ⟨rfl, rfl⟩ := H
        have hnb16 := NB301_302.out
        have hnc16 := NB302_301.out
        have hcz17_0 : wr.cell? ⟨gb301, 0, none⟩ = some (.bool a0_0) := (bc_ BK301.out 0).trans rfl
        have hcz17_1 : wr.cell? ⟨gb301, 1, none⟩ = some (u302001) := (bc_ BK301.out 1).trans rfl
        have hfz17_0 := bf_ BK301.out 0
        have hfz17_1 := bf_ BK301.out 1
        obtain ⟨Ao18, co18, eo18⟩ := Kd.V_slice HO_302001.out
        subst eo18
        have p166 : 0 ≤ ((ji5) : Int) := od_ (by first | (with_reducible assumption) | assumption)
        have q166 : (ji5) < (x302001_1.length : Int) := od_ (by first | (with_reducible assumption) | assumption)
        obtain ⟨ad166, e166, hx166_0⟩ := Kd.at_int (Kd.V_reads' HO_302001.out).2.2 (ji5) p166 q166
        cases e166
        replace p166 := eq_true p166
        replace q166 := eq_true q166
        have hcz19_0 : wr.cell? ⟨gb302, 0, none⟩ = some (.bool false) := (bc_ BK302.out 0).trans rfl
        have hcz19_1 : wr.cell? ⟨gb302, 1, none⟩ = some (.slice none 0 0) := (bc_ BK302.out 1).trans rfl
        have hfz19_0 := bf_ BK302.out 0
        have hfz19_1 := bf_ BK302.out 1
        go_wp2
        refine bodyPost_ret (results_cell_row rfl _ _ gb302 32 #[.bool false, .slice (some ad166) x302001_1.length co18] (0, 0) _ rfl (by (with_reducible repeat (first | refine bn_ ?_ _ | refine bd_ ?_ | refine ba_ ?_ _)); refine bp_ (cs := #[.bool false, .slice none 0 0]) ?_ 1 _ rfl; (with_reducible repeat (first | refine bn_ ?_ _ | refine bd_ ?_ | refine ba_ ?_ _)); refine bp_ (cs := #[.bool false, .slice none 0 0]) ?_ 0 _ rfl; (with_reducible repeat (first | refine bn_ ?_ _ | refine bd_ ?_ | refine ba_ ?_ _)); refine br_ ?_ NB302_301.out _; (with_reducible repeat (first | refine bn_ ?_ _ | refine bd_ ?_ | refine ba_ ?_ _)); exact BK302.out) Try.underlying32 rfl (by kernel_rfl)) rfl ?_
        exact ⟨_, by first | rfl | (simp [errW_none, errW_some] <;> rfl) | (simp only [← hji5]; first | rfl | (simp [errW_none, errW_some] <;> rfl)) | (simp [*, errW_none, errW_some] <;> rfl), by (with_reducible repeat (first | apply va_ | apply vn_ | apply vd_)); exact vm_ (Kd.V_far (p := ⟨gb302, 1, none⟩) (Kd.V_far (p := ⟨gb302, 0, none⟩) (Kd.V_far (p := ⟨gb301, 0, none⟩) (vm_ (vm_ HO_302001.out (fun k_ hk => (⟨hk, hk.2.1⟩ : _ ∧ k_ ≠ gb301))) (fun k_ hk => (⟨hk, hk.1.2.2⟩ : _ ∧ k_ ≠ gb302))) (fun _ hk => hk.1.2) (.bool false)) (fun _ hk => hk.2) (.bool false)) (fun _ hk => hk.2) (.slice (some ad166) x302001_1.length co18)) (fun _ hk => hk.1.1.1), bw_⟩
       ·
        rw [if_neg c15] at H
        have c15b0 : ((x302001_1.length : Int) == 0) = false := q4_ c15
        have c15b1 : ((x302001_1.length : Int) != 0) = true := q2_ c15
        have c15b2 : ¬ (x302001_1 = []) := fun h_ => c15 (by rw [h_]; rfl)
        simp only [Option.some.injEq, Prod.mk.injEq] at H
        obtain ⟨rfl, rfl⟩ := H
        have hnb20 := NB301_302.out
        have hnc20 := NB302_301.out
        have hcz21_0 : wr.cell? ⟨gb301, 0, none⟩ = some (.bool a0_0) := (bc_ BK301.out 0).trans rfl
        have hcz21_1 : wr.cell? ⟨gb301, 1, none⟩ = some (u302001) := (bc_ BK301.out 1).trans rfl
        have hfz21_0 := bf_ BK301.out 0
        have hfz21_1 := bf_ BK301.out 1
        obtain ⟨Ao22, co22, eo22⟩ := Kd.V_slice HO_302001.out
        subst eo22
        have p166 : 0 ≤ ((ji5) : Int) := od_ (by first | (with_reducible assumption) | assumption)
        have q166 : (ji5) < (x302001_1.length : Int) := od_ (by first | (with_reducible assumption) | assumption)
        obtain ⟨ad166, e166, hx166_0⟩ := Kd.at_int (Kd.V_reads' HO_302001.out).2.2 (ji5) p166 q166
        cases e166
        replace p166 := eq_true p166
        replace q166 := eq_true q166
        have hcz23_0 : wr.cell? ⟨gb302, 0, none⟩ = some (.bool false) := (bc_ BK302.out 0).trans rfl
        have hcz23_1 : wr.cell? ⟨gb302, 1, none⟩ = some (.slice none 0 0) := (bc_ BK302.out 1).trans rfl
        have hfz23_0 := bf_ BK302.out 0
        have hfz23_1 := bf_ BK302.out 1
        go_wp2
        refine bodyPost_ret (results_cell_row rfl _ _ gb302 32 #[.bool a0_0, .slice (some ad166) x302001_1.length co22] (0, 0) _ rfl (by (with_reducible repeat (first | refine bn_ ?_ _ | refine bd_ ?_ | refine ba_ ?_ _)); refine bp_ (cs := #[.bool a0_0, .slice none 0 0]) ?_ 1 _ rfl; (with_reducible repeat (first | refine bn_ ?_ _ | refine bd_ ?_ | refine ba_ ?_ _)); refine bp_ (cs := #[.bool false, .slice none 0 0]) ?_ 0 _ rfl; (with_reducible repeat (first | refine bn_ ?_ _ | refine bd_ ?_ | refine ba_ ?_ _)); exact BK302.out) Try.underlying32 rfl (by kernel_rfl)) rfl ?_
        exact ⟨_, by first | rfl | (simp [errW_none, errW_some] <;> rfl) | (simp only [← hji5]; first | rfl | (simp [errW_none, errW_some] <;> rfl)) | (simp [*, errW_none, errW_some] <;> rfl), by (with_reducible repeat (first | apply va_ | apply vn_ | apply vd_)); exact vm_ (Kd.V_far (p := ⟨gb302, 1, none⟩) (Kd.V_far (p := ⟨gb302, 0, none⟩) (vm_ HO_302001.out (fun k_ hk => (⟨hk, hk.2.2⟩ : _ ∧ k_ ≠ gb302))) (fun _ hk => hk.2) (.bool a0_0)) (fun _ hk => hk.2) (.slice (some ad166) x302001_1.length co22)) (fun _ hk => hk.1.1), bw_⟩
     ·
      rw [if_neg c7] at H
      exact absurd H (by simp)
    ·
     rw [if_neg c6] at H
     exact absurd H (by simp)
   ·
    rw [if_neg c4] at H
    have c4b0 : decide (0 < (x302001_1.length : Int)) = false := decide_eq_false c4
    have c4b1 : decide (0 < x302001_1.length) = false := decide_eq_false (by omega)
    clear c4
    by_cases c24 : (x302001_1.length : Int) = 0
    ·
     rw [if_pos c24] at H
     have c24b0 : ((x302001_1.length : Int) == 0) = true := q1_ c24
     have c24b1 : ((x302001_1.length : Int) != 0) = false := q3_ c24
     clear c24
     simp only [Option.some.injEq, Prod.mk.injEq] at H
     obtain ⟨rfl, rfl⟩ := H
     have hnb25 := NB301_302.out
     have hnc25 := NB302_301.out
     have hcz26_0 : wr.cell? ⟨gb301, 0, none⟩ = some (.bool a0_0) := (bc_ BK301.out 0).trans rfl
     have hcz26_1 : wr.cell? ⟨gb301, 1, none⟩ = some (u302001) := (bc_ BK301.out 1).trans rfl
     have hfz26_0 := bf_ BK301.out 0
     have hfz26_1 := bf_ BK301.out 1
     obtain ⟨Ao27, co27, eo27⟩ := Kd.V_slice HO_302001.out
     subst eo27
     have hcz28_0 : wr.cell? ⟨gb302, 0, none⟩ = some (.bool false) := (bc_ BK302.out 0).trans rfl
     have hcz28_1 : wr.cell? ⟨gb302, 1, none⟩ = some (.slice none 0 0) := (bc_ BK302.out 1).trans rfl
     have hfz28_0 := bf_ BK302.out 0
     have hfz28_1 := bf_ BK302.out 1
     go_wp2
     refine bodyPost_ret (results_cell_row rfl _ _ gb302 32 #[.bool false, .slice Ao27 x302001_1.length co27] (0, 0) _ rfl (by (with_reducible repeat (first | refine bn_ ?_ _ | refine bd_ ?_ | refine ba_ ?_ _)); refine bp_ (cs := #[.bool false, .slice none 0 0]) ?_ 1 _ rfl; (with_reducible repeat (first | refine bn_ ?_ _ | refine bd_ ?_ | refine ba_ ?_ _)); refine bp_ (cs := #[.bool false, .slice none 0 0]) ?_ 0 _ rfl; (with_reducible repeat (first | refine bn_ ?_ _ | refine bd_ ?_ | refine ba_ ?_ _)); refine br_ ?_ NB302_301.out _; (with_reducible repeat (first | refine bn_ ?_ _ | refine bd_ ?_ | refine ba_ ?_ _)); exact BK302.out) Try.underlying32 rfl (by kernel_rfl)) rfl ?_
     exact ⟨_, by first | rfl | (simp [errW_none, errW_some] <;> rfl) | (simp [*, errW_none, errW_some] <;> rfl), by (with_reducible repeat (first | apply va_ | apply vn_ | apply vd_)); exact vm_ (Kd.V_far (p := ⟨gb302, 1, none⟩) (Kd.V_far (p := ⟨gb302, 0, none⟩) (Kd.V_far (p := ⟨gb301, 0, none⟩) (vm_ (vm_ HO_302001.out (fun k_ hk => (⟨hk, hk.2.1⟩ : _ ∧ k_ ≠ gb301))) (fun k_ hk => (⟨hk, hk.1.2.2⟩ : _ ∧ k_ ≠ gb302))) (fun _ hk => hk.1.2) (.bool false)) (fun _ hk => hk.2) (.bool false)) (fun _ hk => hk.2) (.slice Ao27 x302001_1.length co27)) (fun _ hk => hk.1.1.1), bw_⟩
    ·
     rw [if_neg c24] at H
     have c24b0 : ((x302001_1.length : Int) == 0) = false := q4_ c24
     have c24b1 : ((x302001_1.length : Int) != 0) = true := q2_ c24
     have c24b2 : ¬ (x302001_1 = []) := fun h_ => c24 (by rw [h_]; rfl)
     simp only [Option.some.injEq, Prod.mk.injEq] at H
     obtain ⟨rfl, rfl⟩ := H
     have hnb29 := NB301_302.out
     have hnc29 := NB302_301.out
     have hcz30_0 : wr.cell? ⟨gb301, 0, none⟩ = some (.bool a0_0) := (bc_ BK301.out 0).trans rfl
     have hcz30_1 : wr.cell? ⟨gb301, 1, none⟩ = some (u302001) := (bc_ BK301.out 1).trans rfl
     have hfz30_0 := bf_ BK301.out 0
     have hfz30_1 := bf_ BK301.out 1
     obtain ⟨Ao31, co31, eo31⟩ := Kd.V_slice HO_302001.out
     subst eo31
     have hcz32_0 : wr.cell? ⟨gb302, 0, none⟩ = some (.bool false) := (bc_ BK302.out 0).trans rfl
     have hcz32_1 : wr.cell? ⟨gb302, 1, none⟩ = some (.slice none 0 0) := (bc_ BK302.out 1).trans rfl
     have hfz32_0 := bf_ BK302.out 0
     have hfz32_1 := bf_ BK302.out 1
     go_wp2
     refine bodyPost_ret (results_cell_row rfl _ _ gb302 32 #[.bool a0_0, .slice Ao31 x302001_1.length co31] (0, 0) _ rfl (by (with_reducible repeat (first | refine bn_ ?_ _ | refine bd_ ?_ | refine ba_ ?_ _)); refine bp_ (cs := #[.bool a0_0, .slice none 0 0]) ?_ 1 _ rfl; (with_reducible repeat (first | refine bn_ ?_ _ | refine bd_ ?_ | refine ba_ ?_ _)); refine bp_ (cs := #[.bool false, .slice none 0 0]) ?_ 0 _ rfl; (with_reducible repeat (first | refine bn_ ?_ _ | refine bd_ ?_ | refine ba_ ?_ _)); exact BK302.out) Try.underlying32 rfl (by kernel_rfl)) rfl ?_
     exact ⟨_, by first | rfl | (simp [errW_none, errW_some] <;> rfl) | (simp [*, errW_none, errW_some] <;> rfl), by (with_reducible repeat (first | apply va_ | apply vn_ | apply vd_)); exact vm_ (Kd.V_far (p := ⟨gb302, 1, none⟩) (Kd.V_far (p := ⟨gb302, 0, none⟩) (vm_ HO_302001.out (fun k_ hk => (⟨hk, hk.2.2⟩ : _ ∧ k_ ≠ gb302))) (fun _ hk => hk.2) (.bool a0_0)) (fun _ hk => hk.2) (.slice Ao31 x302001_1.length co31)) (fun _ hk => hk.1.1), bw_⟩
end Go.Proofs.Ytjbcigiffihjaaa.Fx
end
section
namespace Go.Proofs.Ytjbcigiffihjaaa.Fx
open Go.RowKit Go.Proofs.YtjbcigiffihjaaaW.PrintWords Go.Proofs.YtjbcigiffihjaaaW.PrintLast Go.Proofs.YtjbcigiffihjaaaW.PrintMore
attribute [local go_sem] max2_int min2_int max_two min_two max_three min_three max_four min_four   -- for this text's walks alone
set_option linter.unusedVariables false
set_option linter.unusedSimpArgs false
attribute [local go_sem] run_add64_any
def clevisref01_at.f (l0 : List Int) (a1 : Int) : Option (Int) := if a1 < (l0.length : Int) then (if 0 ≤ a1 then (some (rd l0 a1)) else (none)) else (some 0)
set_option maxHeartbeats 8000000 in
set_option maxRecDepth 100000 in
theorem clevisref01_at.calls (A0 : Option Addr) (c0 : Nat) (l0 : List Int) (a1 : Int) (r : Int) (w : World) (hr0 : Kd.C (Kd.int .i64) w A0 l0.length l0) (hc0 : l0.length ≤ c0) (h : clevisref01_at.f l0 a1 = some r) :
  Calls Try.prog 54 #[.slice A0 l0.length c0, .int .i64 a1] w fun e w' => e = .returned (.int .i64 r) ∧ Drawn0 w w' := by
 have HR0 := A_ hr0
 have HC0 := A_ hc0
 clear hr0 hc0
 have H : (if a1 < (l0.length : Int) then (if 0 ≤ a1 then (some (rd l0 a1)) else (none)) else (some 0)) = some r := h
 clear h
 by_cases c3 : a1 < (l0.length : Int)
 ·
  rw [if_pos c3] at H
  have c3b0 : decide (a1 < (l0.length : Int)) = true := decide_eq_true c3
  clear c3
  by_cases c4 : 0 ≤ a1
  ·
   rw [if_pos c4] at H
   have c4b0 : decide (0 ≤ a1) = true := decide_eq_true c4
   clear c4
   obtain rfl := Option.some.inj H
   have p172 : 0 ≤ (a1 : Int) := od_ (by first | (with_reducible assumption) | assumption)
   have q172 : a1 < (l0.length : Int) := od_ (by first | (with_reducible assumption) | assumption)
   obtain ⟨ad172, e172, hx172_0⟩ := Kd.at_int HR0.out a1 p172 q172
   cases e172
   replace p172 := eq_true p172
   replace q172 := eq_true q172
   go_enter Try.func54, Try.ntmps54
   go_wp2
   go_ret
   exact ⟨by first | rfl | (simp; done) | (simp [*]; done), by repeat (first | exact Drawn0.refl _ | apply Drawn0.step)⟩
  ·
   rw [if_neg c4] at H
   exact absurd H (by simp)
 ·
  rw [if_neg c3] at H
  have c3b0 : decide (a1 < (l0.length : Int)) = false := decide_eq_false c3
  clear c3
  obtain rfl := Option.some.inj H
  go_enter Try.func54, Try.ntmps54
  go_wp2
  go_ret
  exact ⟨by first | rfl | (simp; done) | (simp [*]; done), by repeat (first | exact Drawn0.refl _ | apply Drawn0.step)⟩
end Go.Proofs.Ytjbcigiffihjaaa.Fx
end
section
namespace Go.Proofs.Ytjbcigiffihjaaa.Fx
open Go.RowKit Go.Proofs.YtjbcigiffihjaaaW.PrintWords Go.Proofs.YtjbcigiffihjaaaW.PrintLast Go.Proofs.YtjbcigiffihjaaaW.PrintMore
attribute [local go_sem] max2_int min2_int max_two min_two max_three min_three max_four min_four   -- for this text's walks alone
set_option linter.unusedVariables false
set_option linter.unusedSimpArgs false
attribute [local go_sem] run_add64_any
mutual
def clevisref01_Add.l0 : Nat → Int → Int → Bool → List Int → Bool → List Int → Bool → List Int → Option (Bool × List Int)
 | 0, _, _, _, _, _, _, _, _ => none
 | k + 1, x6, x7, x303000, x303001, x304000, x304001, x306000, x306001 => if x7 < (x303001.length : Int) then (clevisref01_Add.j1 k x6 x7 true x303000 x303001 x304000 x304001 x306000 x306001) else (clevisref01_Add.j1 k x6 x7 (decide (x7 < (x304001.length : Int))) x303000 x303001 x304000 x304001 x306000 x306001)
def clevisref01_Add.j1 : Nat → Int → Int → Bool → Bool → List Int → Bool → List Int → Bool → List Int → Option (Bool × List Int)
 | 0, _, _, _, _, _, _, _, _, _ => none
 | k + 1, x6, x7, x32, x303000, x303001, x304000, x304001, x306000, x306001 => if x32 = true then ((clevisref01_at.f x303001 x7).bind fun t173 => ((clevisref01_at.f x304001 x7).bind fun t174 => (if x306001.length < 17592186044416 then (clevisref01_Add.l0 k (wrap64 (Int.tdiv (wrap64 ((wrap64 (t173 + t174)) + x6)) 65536)) (wrap64 (x7 + 1)) x303000 x303001 x304000 x304001 x306000 (x306001 ++ [Int.tmod (wrap64 ((wrap64 (t173 + t174)) + x6)) 65536])) else (none)))) else (if x306001.length < 17592186044416 then ((clevisref01_clean.f k x306000 (x306001 ++ [x6])).bind fun bt181 => (some (bt181.1, bt181.2))) else (none))
def clevisref01_Add.l1 : Nat → Int → Int → Bool → List Int → Bool → List Int → Bool → List Int → Option (Bool × List Int)
 | 0, _, _, _, _, _, _, _, _ => none
 | k + 1, x10, x11, x303000, x303001, x304000, x304001, x310000, x310001 => if x11 < (x303001.length : Int) then ((clevisref01_at.f x303001 x11).bind fun t190 => ((clevisref01_at.f x304001 x11).bind fun t191 => (if (wrap64 ((wrap64 (t190 - t191)) - x10)) < 0 then (if x310001.length < 17592186044416 then (clevisref01_Add.l1 k 1 (wrap64 (x11 + 1)) x303000 x303001 x304000 x304001 x310000 (x310001 ++ [wrap64 ((wrap64 ((wrap64 (t190 - t191)) - x10)) + 65536)])) else (none)) else (if x310001.length < 17592186044416 then (clevisref01_Add.l1 k 0 (wrap64 (x11 + 1)) x303000 x303001 x304000 x304001 x310000 (x310001 ++ [wrap64 ((wrap64 (t190 - t191)) - x10)])) else (none))))) else ((clevisref01_clean.f k x310000 x310001).bind fun bt186 => (some (bt186.1, bt186.2)))
def clevisref01_Add.l102 : Nat → Int → Int → Bool → List Int → Bool → List Int → Bool → List Int → Option (Bool × List Int)
 | 0, _, _, _, _, _, _, _, _ => none
 | k + 1, x10, x11, x303000, x303001, x304000, x304001, x310000, x310001 => if x11 < (x303001.length : Int) then ((clevisref01_at.f x303001 x11).bind fun t202 => ((clevisref01_at.f x304001 x11).bind fun t203 => (if (wrap64 ((wrap64 (t202 - t203)) - x10)) < 0 then (if x310001.length < 17592186044416 then (clevisref01_Add.l102 k 1 (wrap64 (x11 + 1)) x303000 x303001 x304000 x304001 x310000 (x310001 ++ [wrap64 ((wrap64 ((wrap64 (t202 - t203)) - x10)) + 65536)])) else (none)) else (if x310001.length < 17592186044416 then (clevisref01_Add.l102 k 0 (wrap64 (x11 + 1)) x303000 x303001 x304000 x304001 x310000 (x310001 ++ [wrap64 ((wrap64 (t202 - t203)) - x10)])) else (none))))) else ((clevisref01_clean.f k x310000 x310001).bind fun bt198 => (some (bt198.1, bt198.2)))
end
def clevisref01_Add.f (k : Nat) (a0_0 : Bool) (l0_1 : List Int) (a1_0 : Bool) (l1_1 : List Int) : Option (Bool × List Int) := if (a0_0 == a1_0) = true then (clevisref01_Add.l0 k 0 0 a0_0 l0_1 a1_0 l1_1 a0_0 ([] : List Int)) else ((clevisref01_size.f k l0_1 l1_1).bind fun t185 => (if t185 < 0 then (clevisref01_Add.l1 k 0 0 a1_0 l1_1 a0_0 l0_1 a1_0 ([] : List Int)) else (clevisref01_Add.l102 k 0 0 a0_0 l0_1 a1_0 l1_1 a0_0 ([] : List Int))))
set_option maxHeartbeats 8000000 in
set_option maxRecDepth 100000 in
theorem clevisref01_Add.calls (k : Nat) (a0_0 : Bool) (A0_1 : Option Addr) (c0_1 : Nat) (l0_1 : List Int) (a1_0 : Bool) (A1_1 : Option Addr) (c1_1 : Nat) (l1_1 : List Int) (r1 : Bool) (r2 : List Int) (w : World) (hr0_1 : Kd.C (Kd.int .i64) w A0_1 l0_1.length l0_1) (hc0_1 : l0_1.length ≤ c0_1) (hr1_1 : Kd.C (Kd.int .i64) w A1_1 l1_1.length l1_1) (hc1_1 : l1_1.length ≤ c1_1) (h : clevisref01_Add.f k a0_0 l0_1 a1_0 l1_1 = some (r1, r2)) :
  Calls Try.prog 21 #[.agg #[.bool a0_0, .slice A0_1 l0_1.length c0_1], .agg #[.bool a1_0, .slice A1_1 l1_1.length c1_1]] w fun e w' => ∃ v1_ : Value, e = .returned (.agg #[.bool r1, v1_]) ∧ Kd.V (Kd.int .i64) 3 w' w.heap.size (fun k_ => (w.heap.size ≤ k_)) v1_ r2 ∧ Below w.heap.size w w' := by
 have hu32 := Try.underlying32
 have HR0_1 := A_ hr0_1
 have HC0_1 := A_ hc0_1
 clear hr0_1 hc0_1
 have HR1_1 := A_ hr1_1
 have HC1_1 := A_ hc1_1
 clear hr1_1 hc1_1
 have HB := A_ (Below.refl w.heap.size w)
 have H : (if (a0_0 == a1_0) = true then (clevisref01_Add.l0 k 0 0 a0_0 l0_1 a1_0 l1_1 a0_0 ([] : List Int)) else ((clevisref01_size.f k l0_1 l1_1).bind fun t185 => (if t185 < 0 then (clevisref01_Add.l1 k 0 0 a1_0 l1_1 a0_0 l0_1 a1_0 ([] : List Int)) else (clevisref01_Add.l102 k 0 0 a0_0 l0_1 a1_0 l1_1 a0_0 ([] : List Int))))) = some (r1, r2) := h
 clear h
 by_cases c3 : (a0_0 == a1_0) = true
 ·
  rw [if_pos c3] at H
  have c3b0 : (a0_0 == a1_0) = true := c3
  (try (have c3b1 : decide (a0_0 = a1_0) = true := by simpa using c3))
  (try (have c3b2 : (a0_0 == a1_0) = true := by simpa using c3))
  clear c3
  have H' := A_ H
  clear H
  go_enter Try.func21, Try.ntmps21
  go_wp2_with (first | ((with_reducible refine gate_dst (N := 2) rfl ?_); (try (refine gate_guard (by rfl) ?_; dsimp only)); refine box_event ?hg (N := 2) ?hd (cs := #[.bool a0_0, .slice A0_1 l0_1.length c0_1]) (t := 32) ?hr ?_; (case hd => rfl); (case hg => rfl); (case hr => first | (go_simp; done) | (go_simp; rfl)); intro gb302 hg w4 hbox hb; have n0_ := A_ (bs_ bw_ hb); have n1_ := A_ (hbox); have n2_ := A_ ((by rw [hg]; exact (bz_ bw_) : w.heap.size ≤ gb302)); have n3_ := A_ ((by rw [hg]; exact (bz_ bw_) : w.heap.size ≤ gb302)); clear HB; have HB := n0_; have BK302 := n1_; have GW302 := n2_; have GE302 := n3_; clear n0_ n1_ n2_ n3_; clear hb hbox hg) | ((with_reducible refine gate_dst (N := 3) rfl ?_); (try (refine gate_guard (by rfl) ?_; dsimp only)); refine box_event ?hg (N := 3) ?hd (cs := #[.bool a1_0, .slice A1_1 l1_1.length c1_1]) (t := 32) ?hr ?_; (case hd => rfl); (case hg => rfl); (case hr => first | (go_simp; done) | (go_simp; rfl)); intro gb303 hg w5 hbox hb; have n0_ := A_ (kb_ BK302 hb); have n1_ := A_ (bs_ bw_ hb); have n2_ := A_ (hbox); have n3_ := A_ ((by rw [hg]; exact (bz_ bw_) : w.heap.size ≤ gb303)); have n4_ := A_ ((by rw [hg]; exact (bz_ bw_) : w.heap.size ≤ gb303)); have n5_ := A_ ((by rw [hg]; exact nl_ (lt_ BK302) : gb302 ≠ gb303)); have n6_ := A_ ((by rw [hg]; exact ng_ (lt_ BK302) : gb303 ≠ gb302)); clear BK302; clear HB; have BK302 := n0_; have HB := n1_; have BK303 := n2_; have GW303 := n3_; have GE303 := n4_; have NB302_303 := n5_; have NB303_302 := n6_; clear n0_ n1_ n2_ n3_ n4_ n5_ n6_; clear hb hbox hg) | ((with_reducible refine gate_dst (N := 4) rfl ?_); (try (refine gate_guard (by rfl) ?_; dsimp only)); refine box_event ?hg (N := 4) ?hd (cs := #[.bool false, .slice none 0 0]) (t := 32) ?hr ?_; (case hd => rfl); (case hg => rfl); (case hr => first | (go_simp; done) | (go_simp; rfl)); intro gb304 hg w6 hbox hb; have n0_ := A_ (kb_ BK302 hb); have n1_ := A_ (kb_ BK303 hb); have n2_ := A_ (bs_ bw_ hb); have n3_ := A_ (hbox); have n4_ := A_ ((by rw [hg]; exact (bz_ bw_) : w.heap.size ≤ gb304)); have n5_ := A_ ((by rw [hg]; exact (bz_ bw_) : w.heap.size ≤ gb304)); have n6_ := A_ ((by rw [hg]; exact nl_ (lt_ BK302) : gb302 ≠ gb304)); have n7_ := A_ ((by rw [hg]; exact ng_ (lt_ BK302) : gb304 ≠ gb302)); have n8_ := A_ ((by rw [hg]; exact nl_ (lt_ BK303) : gb303 ≠ gb304)); have n9_ := A_ ((by rw [hg]; exact ng_ (lt_ BK303) : gb304 ≠ gb303)); clear BK302; clear BK303; clear HB; have BK302 := n0_; have BK303 := n1_; have HB := n2_; have BK304 := n3_; have GW304 := n4_; have GE304 := n5_; have NB302_304 := n6_; have NB304_302 := n7_; have NB303_304 := n8_; have NB304_303 := n9_; clear n0_ n1_ n2_ n3_ n4_ n5_ n6_ n7_ n8_ n9_; clear hb hbox hg; have hnb7 := NB302_303.out; have hnc7 := NB303_302.out; have hnb8 := NB302_304.out; have hnc8 := NB304_302.out; have hcz9_0 : w6.cell? ⟨gb302, 0, none⟩ = some (.bool a0_0) := (bc_ BK302.out 0).trans rfl; have hcz9_1 : w6.cell? ⟨gb302, 1, none⟩ = some (.slice A0_1 l0_1.length c0_1) := (bc_ BK302.out 1).trans rfl; have hfz9_0 := bf_ BK302.out 0; have hfz9_1 := bf_ BK302.out 1; have hnb10 := NB303_304.out; have hnc10 := NB304_303.out; have hcz11_0 : w6.cell? ⟨gb303, 0, none⟩ = some (.bool a1_0) := (bc_ BK303.out 0).trans rfl; have hcz11_1 : w6.cell? ⟨gb303, 1, none⟩ = some (.slice A1_1 l1_1.length c1_1) := (bc_ BK303.out 1).trans rfl; have hfz11_0 := bf_ BK303.out 0; have hfz11_1 := bf_ BK303.out 1) | ((with_reducible refine gate_dst (N := 5) rfl ?_); (try (refine gate_guard (by rfl) ?_; dsimp only)); refine box_event ?hg (N := 5) ?hd (cs := #[.bool false, .slice none 0 0]) (t := 32) ?hr ?_; (case hd => rfl); (case hg => rfl); (case hr => first | (go_simp; done) | (go_simp; rfl)); intro gb305 hg w12 hbox hb; have n0_ := A_ (kb_ BK302 hb); have n1_ := A_ (kb_ BK303 hb); have n2_ := A_ (kb_ BK304 hb); have n3_ := A_ (bs_ bw_ hb); have n4_ := A_ (hbox); have n5_ := A_ ((by rw [hg]; exact (bz_ bw_) : w.heap.size ≤ gb305)); have n6_ := A_ ((by rw [hg]; exact (bz_ bw_) : w.heap.size ≤ gb305)); have n7_ := A_ ((by rw [hg]; exact nl_ (lt_ BK302) : gb302 ≠ gb305)); have n8_ := A_ ((by rw [hg]; exact ng_ (lt_ BK302) : gb305 ≠ gb302)); have n9_ := A_ ((by rw [hg]; exact nl_ (lt_ BK303) : gb303 ≠ gb305)); have n10_ := A_ ((by rw [hg]; exact ng_ (lt_ BK303) : gb305 ≠ gb303)); have n11_ := A_ ((by rw [hg]; exact nl_ (lt_ BK304) : gb304 ≠ gb305)); have n12_ := A_ ((by rw [hg]; exact ng_ (lt_ BK304) : gb305 ≠ gb304)); clear BK302; clear BK303; clear BK304; clear HB; have BK302 := n0_; have BK303 := n1_; have BK304 := n2_; have HB := n3_; have BK305 := n4_; have GW305 := n5_; have GE305 := n6_; have NB302_305 := n7_; have NB305_302 := n8_; have NB303_305 := n9_; have NB305_303 := n10_; have NB304_305 := n11_; have NB305_304 := n12_; clear n0_ n1_ n2_ n3_ n4_ n5_ n6_ n7_ n8_ n9_ n10_ n11_ n12_; clear hb hbox hg; have hnb13 := NB305_302.out; have hnc13 := NB302_305.out; have hnb14 := NB305_303.out; have hnc14 := NB303_305.out; have hnb15 := NB305_304.out; have hnc15 := NB304_305.out; have hcz16_0 : w12.cell? ⟨gb305, 0, none⟩ = some (.bool false) := (bc_ BK305.out 0).trans rfl; have hcz16_1 : w12.cell? ⟨gb305, 1, none⟩ = some (.slice none 0 0) := (bc_ BK305.out 1).trans rfl; have hfz16_0 := bf_ BK305.out 0; have hfz16_1 := bf_ BK305.out 1))
  (try simp only [Act.put, sA_, sZ_, sS_])
  go_loopg [6, 7] k (fun kq v6 v7 w' => ∃ (x6_1 : Int) (x7_1 : Int) (x306001_1 : List Int) (u306001 : Value), v6 = .int .i64 x6_1 ∧ v7 = .int .i64 x7_1 ∧ Aside0 (clevisref01_Add.l0 kq x6_1 x7_1 a0_0 l0_1 a1_0 l1_1 a0_0 x306001_1 = some (r1, r2)) ∧ Aside0 (kq ≤ k) ∧ Aside0 (Kd.R (Kd.int .i64) 3 w' w.heap.size (fun k_ => (w.heap.size ≤ k_)) u306001 x306001_1) ∧ Aside0 (w'.heap[gb302]? = some (.cells #[.bool a0_0, (.slice A0_1 l0_1.length c0_1)] 32 (0, 0))) ∧ Aside0 (w'.heap[gb303]? = some (.cells #[.bool a1_0, (.slice A1_1 l1_1.length c1_1)] 32 (0, 0))) ∧ Aside0 (w'.heap[gb304]? = some (.cells #[.bool false, (.slice none 0 0)] 32 (0, 0))) ∧ Aside0 (w'.heap[gb305]? = some (.cells #[.bool a0_0, u306001] 32 (0, 0))) ∧ Aside0 (Below w.heap.size w w'))
  case atStart => exact ⟨(0), (0), (([] : List Int)), (.slice none 0 0), (by first | rfl | (simp; done) | (simp [*]; done)), (by first | rfl | (simp; done) | (simp [*]; done)), H', ⟨Nat.le_refl _⟩, ⟨by first | exact Kd.R_nil _ _ _ _ _ | exact Kd.N_nil _ _ _ _ _ | exact Kd.V_nil _ _ _ _ _ | exact Kd.Q_nil _ _ _ _ _ | exact Kd.S_nil _ _ _ _ _⟩, ⟨bk_⟩, ⟨bk_⟩, ⟨bk_⟩, ⟨by (with_reducible repeat (first | refine bn_ ?_ _ | refine bd_ ?_ | refine ba_ ?_ _)); refine bp_ (cs := #[.bool a0_0, .slice none 0 0]) ?_ 1 _ rfl; (with_reducible repeat (first | refine bn_ ?_ _ | refine bd_ ?_ | refine ba_ ?_ _)); refine bp_ (cs := #[.bool false, .slice none 0 0]) ?_ 0 _ rfl; (with_reducible repeat (first | refine bn_ ?_ _ | refine bd_ ?_ | refine ba_ ?_ _)); exact BK305.out⟩, ⟨bw_⟩⟩
  case round =>
   clear H'
   try clear c1
   try clear c2
   try clear p2
   try clear c3
   try clear c3b0
   try clear c3b1
   try clear c3b2
   try clear c7
   try clear c8
   try clear c10
   try clear c13
   try clear c14
   try clear c15
   try clear hcz11_0
   try clear hcz11_1
   try clear hcz16_0
   try clear hcz16_1
   try clear hcz9_0
   try clear hcz9_1
   try clear hfz11_0
   try clear hfz11_1
   try clear hfz16_0
   try clear hfz16_1
   try clear hfz9_0
   try clear hfz9_1
   obtain ⟨x6_1, x7_1, x306001_1, u306001, rfl, rfl, HA, HK1, HO_306001, BK302, BK303, BK304, BK305, HB⟩ := hrel
   cases gk with
   | zero => exact absurd HA.out (by simp [clevisref01_Add.l0])
   | succ k1 =>
    have H := HA.out
    clear HA
    simp only [clevisref01_Add.l0] at H
    have HC17 := A_ H
    clear H
    go_upto_region 5 with (fail)
    go_cut [32] (fun v32 wc => ∃ (kq : Nat) (x32_16 : Bool), v32 = .bool x32_16 ∧ Aside0 (clevisref01_Add.j1 kq x6_1 x7_1 x32_16 a0_0 l0_1 a1_0 l1_1 a0_0 x306001_1 = some (r1, r2)) ∧ Aside0 (kq ≤ k1) ∧ Aside0 (Kd.R (Kd.int .i64) 3 wc w.heap.size (fun k_ => (w.heap.size ≤ k_)) u306001 x306001_1) ∧ Aside0 (wc.heap[gb302]? = some (.cells #[.bool a0_0, (.slice A0_1 l0_1.length c0_1)] 32 (0, 0))) ∧ Aside0 (wc.heap[gb303]? = some (.cells #[.bool a1_0, (.slice A1_1 l1_1.length c1_1)] 32 (0, 0))) ∧ Aside0 (wc.heap[gb304]? = some (.cells #[.bool false, (.slice none 0 0)] 32 (0, 0))) ∧ Aside0 (wc.heap[gb305]? = some (.cells #[.bool a0_0, u306001] 32 (0, 0))) ∧ Aside0 (Below w.heap.size w wc))
    case first =>
     have H := HC17.out
     clear HC17
     by_cases c18 : x7_1 < (l0_1.length : Int)
     ·
      rw [if_pos c18] at H
      have c18b0 : decide (x7_1 < (l0_1.length : Int)) = true := decide_eq_true c18
      clear c18
      (first | rw [c18b0] | (simp only [i64_w, i32_w]; rw [c18b0]) | skip)
      have H' := A_ H
      clear H
      have hnb19 := NB302_303.out
      have hnc19 := NB303_302.out
      have hnb20 := NB302_304.out
      have hnc20 := NB304_302.out
      have hnb21 := NB302_305.out
      have hnc21 := NB305_302.out
      have hcz22_0 : wr.cell? ⟨gb302, 0, none⟩ = some (.bool a0_0) := (bc_ BK302.out 0).trans rfl
      have hcz22_1 : wr.cell? ⟨gb302, 1, none⟩ = some (.slice A0_1 l0_1.length c0_1) := (bc_ BK302.out 1).trans rfl
      have hfz22_0 := bf_ BK302.out 0
      have hfz22_1 := bf_ BK302.out 1
      go_wp2
      go_meet
      case rel => exact ⟨_, (true), (by first | rfl | (simp; done) | (simp [*]; done)), H', ⟨by have := HK1.out; first | omega | exact Nat.le_refl _⟩, ⟨by (with_reducible repeat (first | apply Kd.R_alloc | apply Kd.R_drewN | apply Kd.R_drew)); exact HO_306001.out⟩, ⟨bk_⟩, ⟨bk_⟩, ⟨bk_⟩, ⟨bk_⟩, ⟨bw_⟩⟩
     ·
      rw [if_neg c18] at H
      have c18b0 : decide (x7_1 < (l0_1.length : Int)) = false := decide_eq_false c18
      clear c18
      (first | rw [c18b0] | (simp only [i64_w, i32_w]; rw [c18b0]) | skip)
      have H' := A_ H
      clear H
      have hnb23 := NB302_303.out
      have hnc23 := NB303_302.out
      have hnb24 := NB302_304.out
      have hnc24 := NB304_302.out
      have hnb25 := NB302_305.out
      have hnc25 := NB305_302.out
      have hcz26_0 : wr.cell? ⟨gb302, 0, none⟩ = some (.bool a0_0) := (bc_ BK302.out 0).trans rfl
      have hcz26_1 : wr.cell? ⟨gb302, 1, none⟩ = some (.slice A0_1 l0_1.length c0_1) := (bc_ BK302.out 1).trans rfl
      have hfz26_0 := bf_ BK302.out 0
      have hfz26_1 := bf_ BK302.out 1
      have hnb27 := NB303_304.out
      have hnc27 := NB304_303.out
      have hnb28 := NB303_305.out
      have hnc28 := NB305_303.out
      have hcz29_0 : wr.cell? ⟨gb303, 0, none⟩ = some (.bool a1_0) := (bc_ BK303.out 0).trans rfl
      have hcz29_1 : wr.cell? ⟨gb303, 1, none⟩ = some (.slice A1_1 l1_1.length c1_1) := (bc_ BK303.out 1).trans rfl
      have hfz29_0 := bf_ BK303.out 0
      have hfz29_1 := bf_ BK303.out 1
      go_wp2
      go_meet
      case rel => exact ⟨_, (decide (x7_1 < (l1_1.length : Int))), (by first | rfl | (simp; done) | (simp [*]; done)), H', ⟨by have := HK1.out; first | omega | exact Nat.le_refl _⟩, ⟨by (with_reducible repeat (first | apply Kd.R_alloc | apply Kd.R_drewN | apply Kd.R_drew)); exact HO_306001.out⟩, ⟨bk_⟩, ⟨bk_⟩, ⟨bk_⟩, ⟨bk_⟩, ⟨bw_⟩⟩
    case rest =>
     clear HC17
     try clear c1
     try clear c2
     try clear p2
     try clear c3
     try clear c3b0
     try clear c3b1
     try clear c3b2
     try clear c7
     try clear c8
     try clear c10
     try clear c13
     try clear c14
     try clear c15
     try clear c18
     try clear c18b0
     try clear c19
     try clear c20
     try clear c21
     try clear c23
     try clear c24
     try clear c25
     try clear c27
     try clear c28
     try clear hcz11_0
     try clear hcz11_1
     try clear hcz16_0
     try clear hcz16_1
     try clear hcz22_0
     try clear hcz22_1
     try clear hcz26_0
     try clear hcz26_1
     try clear hcz29_0
     try clear hcz29_1
     try clear hcz9_0
     try clear hcz9_1
     try clear hfz11_0
     try clear hfz11_1
     try clear hfz16_0
     try clear hfz16_1
     try clear hfz22_0
     try clear hfz22_1
     try clear hfz26_0
     try clear hfz26_1
     try clear hfz29_0
     try clear hfz29_1
     try clear hfz9_0
     try clear hfz9_1
     try clear p2
     obtain ⟨kq, x32_16, rfl, HA, HJ16, HO_306001, BK302, BK303, BK304, BK305, HB⟩ := hcut
     cases kq with
     | zero => exact absurd HA.out (by simp [clevisref01_Add.j1])
     | succ kj16 =>
      have H := HA.out
      clear HA
      simp only [clevisref01_Add.j1] at H
      by_cases c30 : x32_16 = true
      ·
       subst c30
       have H1 : ((clevisref01_at.f l0_1 x7_1).bind fun t173 => ((clevisref01_at.f l1_1 x7_1).bind fun t174 => (if x306001_1.length < 17592186044416 then (clevisref01_Add.l0 kj16 (wrap64 (Int.tdiv (wrap64 ((wrap64 (t173 + t174)) + x6_1)) 65536)) (wrap64 (x7_1 + 1)) a0_0 l0_1 a1_0 l1_1 a0_0 (x306001_1 ++ [Int.tmod (wrap64 ((wrap64 (t173 + t174)) + x6_1)) 65536])) else (none)))) = some (r1, r2) := by rw [if_pos rfl] at H; exact H
       clear H
       have H := H1
       clear H1
       replace H := os_ H
       obtain ⟨t173, A310, H⟩ := H
       replace H : ((clevisref01_at.f l1_1 x7_1).bind fun t174 => (if x306001_1.length < 17592186044416 then (clevisref01_Add.l0 kj16 (wrap64 (Int.tdiv (wrap64 ((wrap64 (t173 + t174)) + x6_1)) 65536)) (wrap64 (x7_1 + 1)) a0_0 l0_1 a1_0 l1_1 a0_0 (x306001_1 ++ [Int.tmod (wrap64 ((wrap64 (t173 + t174)) + x6_1)) 65536])) else (none))) = some (r1, r2) := H
       have A31 := A_ A310
       clear A310
       replace H := os_ H
       obtain ⟨t174, A320, H⟩ := H
       replace H : (if x306001_1.length < 17592186044416 then (clevisref01_Add.l0 kj16 (wrap64 (Int.tdiv (wrap64 ((wrap64 (t173 + t174)) + x6_1)) 65536)) (wrap64 (x7_1 + 1)) a0_0 l0_1 a1_0 l1_1 a0_0 (x306001_1 ++ [Int.tmod (wrap64 ((wrap64 (t173 + t174)) + x6_1)) 65536])) else (none)) = some (r1, r2) := H
       have A32 := A_ A320
       clear A320
       by_cases c33 : x306001_1.length < 17592186044416
       ·
        rw [if_pos c33] at H
        have LMc33 := A_ c33
        clear c33
        obtain ⟨y175, hy175⟩ : ∃ y_ : List Int, y_ = (x306001_1 ++ [Int.tmod (wrap64 ((wrap64 (t173 + t174)) + x6_1)) 65536]) := ⟨_, rfl⟩
        replace H : (clevisref01_Add.l0 kj16 (wrap64 (Int.tdiv (wrap64 ((wrap64 (t173 + t174)) + x6_1)) 65536)) (wrap64 (x7_1 + 1)) a0_0 l0_1 a1_0 l1_1 a0_0 y175) = some (r1, r2) := by first | (rw [hy175]; with_reducible exact H) | (have H2_ := (Option.bind_some _ _).symm.trans H; rw [hy175]; with_reducible exact H2_) | (have H2_ := (Option.bind_some _ _).symm.trans H; with_reducible exact H2_) | with_reducible exact H | (rw [hy175]; exact H) | exact H
        have Ny175 := A_ hy175
        clear hy175
        have H' := A_ H
        clear H
        have hnb34 := NB302_303.out
        have hnc34 := NB303_302.out
        have hnb35 := NB302_304.out
        have hnc35 := NB304_302.out
        have hnb36 := NB302_305.out
        have hnc36 := NB305_302.out
        have hcz37_0 : wc.cell? ⟨gb302, 0, none⟩ = some (.bool a0_0) := (bc_ BK302.out 0).trans rfl
        have hcz37_1 : wc.cell? ⟨gb302, 1, none⟩ = some (.slice A0_1 l0_1.length c0_1) := (bc_ BK302.out 1).trans rfl
        have hfz37_0 := bf_ BK302.out 0
        have hfz37_1 := bf_ BK302.out 1
        go_wp2_with (fail)
        repeat (go_quiet (first | (go_at_call 54; (with_reducible refine (clevisref01_at.calls _ _ l0_1 x7_1 t173 _ ?side1 ?side2 A31.out).mono ?_); (case side1 => repeat (first | exact (cb_ HR0_1.out HB.out) | (with_reducible refine ca_ ?_ _) | (with_reducible refine cn_ ?_ _) | (with_reducible refine cd_ ?_))); (case side2 => exact HC0_1.out); rintro e w' ⟨rfl, ⟨nd, rfl⟩⟩; (try first | exact ⟨rfl, _, dd_ _ _ _⟩ | exact ⟨rfl, _, Eq.trans (dd_ _ _ _) (congrArg (World.drewN _) (Nat.add_assoc _ _ _))⟩); have hnb38 := NB303_304.out; have hnc38 := NB304_303.out; have hnb39 := NB303_305.out; have hnc39 := NB305_303.out; have hcz40_0 : wc.cell? ⟨gb303, 0, none⟩ = some (.bool a1_0) := (bc_ BK303.out 0).trans rfl; have hcz40_1 : wc.cell? ⟨gb303, 1, none⟩ = some (.slice A1_1 l1_1.length c1_1) := (bc_ BK303.out 1).trans rfl; have hfz40_0 := bf_ BK303.out 0; have hfz40_1 := bf_ BK303.out 1) | (go_at_call 54; (with_reducible refine (clevisref01_at.calls _ _ l1_1 x7_1 t174 _ ?side1 ?side2 A32.out).mono ?_); (case side1 => repeat (first | exact (cb_ HR1_1.out bw_) | (with_reducible refine ca_ ?_ _) | (with_reducible refine cn_ ?_ _) | (with_reducible refine cd_ ?_))); (case side2 => exact HC1_1.out); rintro e w' ⟨rfl, ⟨nd, rfl⟩⟩; (try first | exact ⟨rfl, _, dd_ _ _ _⟩ | exact ⟨rfl, _, Eq.trans (dd_ _ _ _) (congrArg (World.drewN _) (Nat.add_assoc _ _ _))⟩); have hnb41 := NB305_304.out; have hnc41 := NB304_305.out; have hcz42_0 : wc.cell? ⟨gb305, 0, none⟩ = some (.bool a0_0) := (bc_ BK305.out 0).trans rfl; have hcz42_1 : wc.cell? ⟨gb305, 1, none⟩ = some (u306001) := (bc_ BK305.out 1).trans rfl; have hfz42_0 := bf_ BK305.out 0; have hfz42_1 := bf_ BK305.out 1)); try go_wp2_with (((with_reducible refine gate_builtin (b := .append) (xs := #[.tmp 47, .tmp 50]) rfl ?_); (try (refine gate_guard (by rfl) ?_; dsimp only)); at_builtin; refine Kd.R_append (Kd.int .i64) (w0 := w) w.heap.size rfl (.tmp 47) (.tmp 50) 30 3 (.int .i64 0) 8 rfl Try.underlying30 info3 rfl (by decide) (by omega) u306001 x306001_1 (Int.tmod (wrap64 ((wrap64 (t173 + t174)) + x6_1)) 65536) [.int .i64 (Int.tmod (wrap64 ((wrap64 (t173 + t174)) + x6_1)) 65536)] (fun k_ => (w.heap.size ≤ k_)) (fun _ => False) rfl rfl ?aP (fun _ hk => hk.elim) ?aF ?aO ?aB ?aS ?aL ?_; (case aP => exact rfl); (case aB => exact bw_); (case aF => exact (fun k_ hk => (Nat.le_trans (bz_ bw_) hk))); (case aO => exact (by (with_reducible repeat (first | apply Kd.R_alloc | apply Kd.R_drewN | apply Kd.R_drew)); exact HO_306001.out)); (case aS => exact (bz_ bw_)); (case aL => have := LMc33.out; omega); intro v176 w43 ho hb hg hat; rw [← Ny175.out] at ho; have n0_ := A_ (blk_grown (g := gb302) (o := .cells #[.bool a0_0, .slice A0_1 l0_1.length c0_1] 32 (0, 0)) bk_ hg (Kd.R_ne HO_306001.out BK302.out (by decide))); have n1_ := A_ (blk_grown (g := gb303) (o := .cells #[.bool a1_0, .slice A1_1 l1_1.length c1_1] 32 (0, 0)) bk_ hg (Kd.R_ne HO_306001.out BK303.out (by decide))); have n2_ := A_ (blk_grown (g := gb304) (o := .cells #[.bool false, .slice none 0 0] 32 (0, 0)) bk_ hg (Kd.R_ne HO_306001.out BK304.out (by decide))); have n3_ := A_ (blk_grown (g := gb305) (o := .cells #[.bool a0_0, u306001] 32 (0, 0)) bk_ hg (Kd.R_ne HO_306001.out BK305.out (by decide))); have n4_ := A_ (hb); have n5_ := A_ (ho); clear BK302; clear BK303; clear BK304; clear BK305; clear HB; clear HO_306001; have BK302 := n0_; have BK303 := n1_; have BK304 := n2_; have BK305 := n3_; have HB := n4_; have HO177 := n5_; clear n0_ n1_ n2_ n3_ n4_ n5_; clear ho hb hg hat; obtain ⟨Ao44, co44, eo44⟩ := Kd.R_slice HO177.out; subst eo44; have hcz45_0 : w43.cell? ⟨gb305, 0, none⟩ = some (.bool a0_0) := (bc_ BK305.out 0).trans rfl; have hcz45_1 : w43.cell? ⟨gb305, 1, none⟩ = some (u306001) := (bc_ BK305.out 1).trans rfl; have hfz45_0 := bf_ BK305.out 0; have hfz45_1 := bf_ BK305.out 1)))
        go_roundg kj16
        case measure => have := HK1.out; have := HJ16.out; omega
        case rel => exact ⟨(wrap64 (Int.tdiv (wrap64 ((wrap64 (t173 + t174)) + x6_1)) 65536)), (wrap64 (x7_1 + 1)), (y175), (.slice Ao44 y175.length co44), (by first | rfl | (simp; done) | (simp [*]; done)), (by first | rfl | (simp; done) | (simp [*]; done)), H', ⟨by have := HK1.out; have := HJ16.out; omega⟩, ⟨by (with_reducible repeat (first | apply Kd.R_alloc | apply Kd.R_drewN | apply Kd.R_drew)); exact Kd.R_mono (Kd.R_far (p := ⟨gb305, 1, none⟩) (Kd.R_types HO177.out BK305.out (by decide)) (fun _ hk => hk.2) (.slice Ao44 y175.length co44)) (fun _ hk => hk.1)⟩, ⟨bk_⟩, ⟨bk_⟩, ⟨bk_⟩, ⟨by (with_reducible repeat (first | refine bn_ ?_ _ | refine bd_ ?_ | refine ba_ ?_ _)); refine bp_ (cs := #[.bool a0_0, u306001]) ?_ 1 _ rfl; (with_reducible repeat (first | refine bn_ ?_ _ | refine bd_ ?_ | refine ba_ ?_ _)); exact BK305.out⟩, ⟨bw_⟩⟩
       ·
        rw [if_neg c33] at H
        exact absurd H (by simp)
      ·
       replace c30 := Bool.eq_false_iff.mpr c30
       subst c30
       have H1 : (if x306001_1.length < 17592186044416 then ((clevisref01_clean.f kj16 a0_0 (x306001_1 ++ [x6_1])).bind fun bt181 => (some (bt181.1, bt181.2))) else (none)) = some (r1, r2) := by rw [if_neg (show ¬ (false = true) by decide)] at H; exact H
       clear H
       have H := H1
       clear H1
       by_cases c46 : x306001_1.length < 17592186044416
       ·
        rw [if_pos c46] at H
        have LMc46 := A_ c46
        clear c46
        obtain ⟨y178, hy178⟩ : ∃ y_ : List Int, y_ = (x306001_1 ++ [x6_1]) := ⟨_, rfl⟩
        replace H : ((clevisref01_clean.f kj16 a0_0 y178).bind fun bt181 => (some (bt181.1, bt181.2))) = some (r1, r2) := by first | (rw [hy178]; with_reducible exact H) | (have H2_ := (Option.bind_some _ _).symm.trans H; rw [hy178]; with_reducible exact H2_) | (have H2_ := (Option.bind_some _ _).symm.trans H; with_reducible exact H2_) | with_reducible exact H | (rw [hy178]; exact H) | exact H
        have Ny178 := A_ hy178
        clear hy178
        replace H := os_ H
        obtain ⟨⟨t181, t182⟩, A470, H⟩ := H
        replace H : (some (t181, t182)) = some (r1, r2) := H
        have A47 := A_ A470
        clear A470
        simp only [Option.some.injEq, Prod.mk.injEq] at H
        obtain ⟨rfl, rfl⟩ := H
        have hnb48 := NB305_302.out
        have hnc48 := NB302_305.out
        have hnb49 := NB305_303.out
        have hnc49 := NB303_305.out
        have hnb50 := NB305_304.out
        have hnc50 := NB304_305.out
        have hcz51_0 : wc.cell? ⟨gb305, 0, none⟩ = some (.bool a0_0) := (bc_ BK305.out 0).trans rfl
        have hcz51_1 : wc.cell? ⟨gb305, 1, none⟩ = some (u306001) := (bc_ BK305.out 1).trans rfl
        have hfz51_0 := bf_ BK305.out 0
        have hfz51_1 := bf_ BK305.out 1
        go_wp2_with (first | ((with_reducible refine gate_builtin (b := .append) (xs := #[.tmp 56, .tmp 58]) rfl ?_); (try (refine gate_guard (by rfl) ?_; dsimp only)); at_builtin; refine Kd.R_append (Kd.int .i64) (w0 := w) w.heap.size rfl (.tmp 56) (.tmp 58) 30 3 (.int .i64 0) 8 rfl Try.underlying30 info3 rfl (by decide) (by omega) u306001 x306001_1 x6_1 [.int .i64 x6_1] (fun k_ => (w.heap.size ≤ k_)) (fun _ => False) rfl rfl ?aP (fun _ hk => hk.elim) ?aF ?aO ?aB ?aS ?aL ?_; (case aP => exact rfl); (case aB => exact bw_); (case aF => exact (fun k_ hk => (Nat.le_trans (bz_ bw_) hk))); (case aO => exact (by (with_reducible repeat (first | apply Kd.R_alloc | apply Kd.R_drewN | apply Kd.R_drew)); exact HO_306001.out)); (case aS => exact (bz_ bw_)); (case aL => have := LMc46.out; omega); intro v179 w52 ho hb hg hat; rw [← Ny178.out] at ho; have n0_ := A_ (blk_grown (g := gb302) (o := .cells #[.bool a0_0, .slice A0_1 l0_1.length c0_1] 32 (0, 0)) bk_ hg (Kd.R_ne HO_306001.out BK302.out (by decide))); have n1_ := A_ (blk_grown (g := gb303) (o := .cells #[.bool a1_0, .slice A1_1 l1_1.length c1_1] 32 (0, 0)) bk_ hg (Kd.R_ne HO_306001.out BK303.out (by decide))); have n2_ := A_ (blk_grown (g := gb304) (o := .cells #[.bool false, .slice none 0 0] 32 (0, 0)) bk_ hg (Kd.R_ne HO_306001.out BK304.out (by decide))); have n3_ := A_ (blk_grown (g := gb305) (o := .cells #[.bool a0_0, u306001] 32 (0, 0)) bk_ hg (Kd.R_ne HO_306001.out BK305.out (by decide))); have n4_ := A_ (hb); have n5_ := A_ (ho); clear BK302; clear BK303; clear BK304; clear BK305; clear HB; clear HO_306001; have BK302 := n0_; have BK303 := n1_; have BK304 := n2_; have BK305 := n3_; have HB := n4_; have HO180 := n5_; clear n0_ n1_ n2_ n3_ n4_ n5_; clear ho hb hg hat; obtain ⟨Ao53, co53, eo53⟩ := Kd.R_slice HO180.out; subst eo53; have hcz54_0 : w52.cell? ⟨gb305, 0, none⟩ = some (.bool a0_0) := (bc_ BK305.out 0).trans rfl; have hcz54_1 : w52.cell? ⟨gb305, 1, none⟩ = some (u306001) := (bc_ BK305.out 1).trans rfl; have hfz54_0 := bf_ BK305.out 0; have hfz54_1 := bf_ BK305.out 1) | ((with_reducible refine gate_store (t := 30) (p := 60) rfl ?_); (try (rw [drewN_self w52]; generalize hq_ : World.drewN w52 _ = w52; have n0_ := A_ (Kd.R_at hq_ HO180.out); have n1_ := A_ (blk_at hq_ BK302.out); have n2_ := A_ (blk_at hq_ BK303.out); have n3_ := A_ (blk_at hq_ BK304.out); have n4_ := A_ (blk_at hq_ BK305.out); have n5_ := A_ (below_at hq_ HB.out); clear hq_ HO180 BK302 BK303 BK304 BK305 HB; have HO180 := n0_; have BK302 := n1_; have BK303 := n2_; have BK304 := n3_; have BK305 := n4_; have HB := n5_; clear n0_ n1_ n2_ n3_ n4_ n5_)); (first | (refine store_event (t := 30) (p := 60) (v := ?vo_w55) (w1 := (w52.setCell ⟨gb305, 1, none⟩ (.slice Ao53 y178.length co53))) ?hg ?ho ?hn ?hr ?_; (case ho => rfl); (case hg => rfl); (case hn => rfl); (case hr => first | (go_simp; done) | (go_simp; rfl)); intro w55 hw) | (refine store_event (t := 30) (p := 60) (v := ?vo_w55) (w1 := ((w52.drewN ?ndq_w55).setCell ⟨gb305, 1, none⟩ (.slice Ao53 y178.length co53))) ?hg ?ho ?hn ?hr ?_; (case ho => rfl); (case hg => rfl); (case hn => rfl); (case hr => first | (go_simp; done) | (go_simp; rfl)); intro w55 hw; rw [sd_eq] at hw)); have n0_ : Aside0 (Kd.R (Kd.int .i64) 3 w55 w.heap.size (fun k_ => (w.heap.size ≤ k_)) (.slice Ao53 y178.length co53) y178) := ⟨(by rw [hw]; first | (with_reducible exact (by (with_reducible repeat (first | apply Kd.R_alloc | apply Kd.R_drewN | apply Kd.R_drew)); exact Kd.R_mono (Kd.R_far (p := ⟨gb305, 1, none⟩) (Kd.R_types HO180.out BK305.out (by decide)) (fun _ hk => hk.2) (.slice Ao53 y178.length co53)) (fun _ hk => hk.1))) | (exact grown_dn ((by (with_reducible repeat (first | apply Kd.R_alloc | apply Kd.R_drewN | apply Kd.R_drew)); exact Kd.R_mono (Kd.R_far (p := ⟨gb305, 1, none⟩) (Kd.R_types HO180.out BK305.out (by decide)) (fun _ hk => hk.2) (.slice Ao53 y178.length co53)) (fun _ hk => hk.1))) _) | (exact pn_ ((by (with_reducible repeat (first | apply Kd.R_alloc | apply Kd.R_drewN | apply Kd.R_drew)); exact Kd.R_mono (Kd.R_far (p := ⟨gb305, 1, none⟩) (Kd.R_types HO180.out BK305.out (by decide)) (fun _ hk => hk.2) (.slice Ao53 y178.length co53)) (fun _ hk => hk.1))) _) | (exact Kd.R_drewN ((by (with_reducible repeat (first | apply Kd.R_alloc | apply Kd.R_drewN | apply Kd.R_drew)); exact Kd.R_mono (Kd.R_far (p := ⟨gb305, 1, none⟩) (Kd.R_types HO180.out BK305.out (by decide)) (fun _ hk => hk.2) (.slice Ao53 y178.length co53)) (fun _ hk => hk.1))) _) | exact (by (with_reducible repeat (first | apply Kd.R_alloc | apply Kd.R_drewN | apply Kd.R_drew)); exact Kd.R_mono (Kd.R_far (p := ⟨gb305, 1, none⟩) (Kd.R_types HO180.out BK305.out (by decide)) (fun _ hk => hk.2) (.slice Ao53 y178.length co53)) (fun _ hk => hk.1)))⟩; have n1_ : Aside0 (w55.heap[gb302]? = some (.cells #[.bool a0_0, .slice A0_1 l0_1.length c0_1] 32 (0, 0))) := ⟨(by rw [hw]; first | (with_reducible exact bk_) | (exact grown_dn (bk_) _) | (exact pn_ (bk_) _) | (exact Kd.R_drewN (bk_) _) | exact bk_)⟩; have n2_ : Aside0 (w55.heap[gb303]? = some (.cells #[.bool a1_0, .slice A1_1 l1_1.length c1_1] 32 (0, 0))) := ⟨(by rw [hw]; first | (with_reducible exact bk_) | (exact grown_dn (bk_) _) | (exact pn_ (bk_) _) | (exact Kd.R_drewN (bk_) _) | exact bk_)⟩; have n3_ : Aside0 (w55.heap[gb304]? = some (.cells #[.bool false, .slice none 0 0] 32 (0, 0))) := ⟨(by rw [hw]; first | (with_reducible exact bk_) | (exact grown_dn (bk_) _) | (exact pn_ (bk_) _) | (exact Kd.R_drewN (bk_) _) | exact bk_)⟩; have n4_ : Aside0 (w55.heap[gb305]? = some (.cells #[.bool a0_0, .slice Ao53 y178.length co53] 32 (0, 0))) := ⟨(by rw [hw]; first | (with_reducible exact (by (with_reducible repeat (first | refine bn_ ?_ _ | refine bd_ ?_ | refine ba_ ?_ _)); refine bp_ (cs := #[.bool a0_0, u306001]) ?_ 1 _ rfl; (with_reducible repeat (first | refine bn_ ?_ _ | refine bd_ ?_ | refine ba_ ?_ _)); exact BK305.out)) | (exact grown_dn ((by (with_reducible repeat (first | refine bn_ ?_ _ | refine bd_ ?_ | refine ba_ ?_ _)); refine bp_ (cs := #[.bool a0_0, u306001]) ?_ 1 _ rfl; (with_reducible repeat (first | refine bn_ ?_ _ | refine bd_ ?_ | refine ba_ ?_ _)); exact BK305.out)) _) | (exact pn_ ((by (with_reducible repeat (first | refine bn_ ?_ _ | refine bd_ ?_ | refine ba_ ?_ _)); refine bp_ (cs := #[.bool a0_0, u306001]) ?_ 1 _ rfl; (with_reducible repeat (first | refine bn_ ?_ _ | refine bd_ ?_ | refine ba_ ?_ _)); exact BK305.out)) _) | (exact Kd.R_drewN ((by (with_reducible repeat (first | refine bn_ ?_ _ | refine bd_ ?_ | refine ba_ ?_ _)); refine bp_ (cs := #[.bool a0_0, u306001]) ?_ 1 _ rfl; (with_reducible repeat (first | refine bn_ ?_ _ | refine bd_ ?_ | refine ba_ ?_ _)); exact BK305.out)) _) | exact (by (with_reducible repeat (first | refine bn_ ?_ _ | refine bd_ ?_ | refine ba_ ?_ _)); refine bp_ (cs := #[.bool a0_0, u306001]) ?_ 1 _ rfl; (with_reducible repeat (first | refine bn_ ?_ _ | refine bd_ ?_ | refine ba_ ?_ _)); exact BK305.out))⟩; have n5_ : Aside0 (Below w.heap.size w w55) := ⟨(by rw [hw]; first | (with_reducible exact bw_) | (exact grown_dn (bw_) _) | (exact pn_ (bw_) _) | (exact Kd.R_drewN (bw_) _) | exact bw_)⟩; clear hw; clear HO180; clear BK302; clear BK303; clear BK304; clear BK305; clear HB; have HO180 := n0_; have BK302 := n1_; have BK303 := n2_; have BK304 := n3_; have BK305 := n4_; have HB := n5_; clear n0_ n1_ n2_ n3_ n4_ n5_; have hcz56_0 : w55.cell? ⟨gb305, 0, none⟩ = some (.bool a0_0) := (bc_ BK305.out 0).trans rfl; have hcz56_1 : w55.cell? ⟨gb305, 1, none⟩ = some (.slice Ao53 y178.length co53) := (bc_ BK305.out 1).trans rfl; have hfz56_0 := bf_ BK305.out 0; have hfz56_1 := bf_ BK305.out 1) | (go_at_call 47; (with_reducible refine (clevisref01_clean.calls kj16 a0_0 (fun k_ => some k_ = (.slice Ao53 y178.length co53 : Value).ownBlock) _ _ y178 t181 t182 _ ?side1 A47.out).mono ?_); (case side1 => exact Kd.R_V (Kd.R_tight rfl (Kd.R_types (Kd.R_types (Kd.R_types (Kd.R_types (HO180.out) BK302.out (by decide)) BK303.out (by decide)) BK304.out (by decide)) BK305.out (by decide)))); rintro e w57 ⟨v183, rfl, ho0, hb⟩; have n0_ := A_ (Kd.R_below (by (with_reducible repeat (first | apply Kd.R_alloc | apply Kd.R_drewN | apply Kd.R_drew)); exact HO180.out) hb); have n1_ := A_ (Kd.V_lower (vm_ (ok' := fun k_ => (w.heap.size ≤ k_) ∧ k_ ≠ gb302 ∧ k_ ≠ gb303 ∧ k_ ≠ gb304 ∧ k_ ≠ gb305) ho0 (fun k_ hk_ => ⟨Or.elim hk_ (fun hs_ => ((Kd.R_types (Kd.R_types (Kd.R_types (Kd.R_types (HO180.out) BK302.out (by decide)) BK303.out (by decide)) BK304.out (by decide)) BK305.out (by decide)).1 k_ hs_.symm).1.1.1.1) (fun hn_ => (Nat.le_trans (bz_ bw_) hn_)), Or.elim hk_ (fun hs_ => ((Kd.R_types (Kd.R_types (Kd.R_types (Kd.R_types (HO180.out) BK302.out (by decide)) BK303.out (by decide)) BK304.out (by decide)) BK305.out (by decide)).1 k_ hs_.symm).1.1.1.2) (fun hn_ => (Kd.freshB (g := gb302) (o := .cells #[.bool a0_0, .slice A0_1 l0_1.length c0_1] 32 (0, 0)) bk_ k_ hn_)), Or.elim hk_ (fun hs_ => ((Kd.R_types (Kd.R_types (Kd.R_types (Kd.R_types (HO180.out) BK302.out (by decide)) BK303.out (by decide)) BK304.out (by decide)) BK305.out (by decide)).1 k_ hs_.symm).1.1.2) (fun hn_ => (Kd.freshB (g := gb303) (o := .cells #[.bool a1_0, .slice A1_1 l1_1.length c1_1] 32 (0, 0)) bk_ k_ hn_)), Or.elim hk_ (fun hs_ => ((Kd.R_types (Kd.R_types (Kd.R_types (Kd.R_types (HO180.out) BK302.out (by decide)) BK303.out (by decide)) BK304.out (by decide)) BK305.out (by decide)).1 k_ hs_.symm).1.2) (fun hn_ => (Kd.freshB (g := gb304) (o := .cells #[.bool false, .slice none 0 0] 32 (0, 0)) bk_ k_ hn_)), Or.elim hk_ (fun hs_ => ((Kd.R_types (Kd.R_types (Kd.R_types (Kd.R_types (HO180.out) BK302.out (by decide)) BK303.out (by decide)) BK304.out (by decide)) BK305.out (by decide)).1 k_ hs_.symm).2) (fun hn_ => (Kd.freshB (g := gb305) (o := .cells #[.bool a0_0, .slice Ao53 y178.length co53] 32 (0, 0)) bk_ k_ hn_))⟩)) (bz_ bw_)); have n2_ := A_ (kb_ BK302 hb); have n3_ := A_ (kb_ BK303 hb); have n4_ := A_ (kb_ BK304 hb); have n5_ := A_ (kb_ BK305 hb); have n6_ := A_ (bs_ bw_ hb); clear HO180; clear BK302; clear BK303; clear BK304; clear BK305; clear HB; have HO180 := n0_; have HO184 := n1_; have BK302 := n2_; have BK303 := n3_; have BK304 := n4_; have BK305 := n5_; have HB := n6_; clear n0_ n1_ n2_ n3_ n4_ n5_ n6_; (try clear hb); (try clear hb2); (try clear hk); (try clear hi); (try clear ho0); have hnb58 := NB304_302.out; have hnc58 := NB302_304.out; have hnb59 := NB304_303.out; have hnc59 := NB303_304.out; have hcz60_0 : w57.cell? ⟨gb304, 0, none⟩ = some (.bool false) := (bc_ BK304.out 0).trans rfl; have hcz60_1 : w57.cell? ⟨gb304, 1, none⟩ = some (.slice none 0 0) := (bc_ BK304.out 1).trans rfl; have hfz60_0 := bf_ BK304.out 0; have hfz60_1 := bf_ BK304.out 1; obtain ⟨Ao61, co61, eo61⟩ := Kd.V_slice HO184.out; subst eo61))
        refine bodyPost_ret (results_cell_row rfl _ _ gb304 32 #[.bool t181, .slice Ao61 t182.length co61] (0, 0) _ rfl (by (with_reducible repeat (first | refine bn_ ?_ _ | refine bd_ ?_ | refine ba_ ?_ _)); refine bp_ (cs := #[.bool t181, .slice none 0 0]) ?_ 1 _ rfl; (with_reducible repeat (first | refine bn_ ?_ _ | refine bd_ ?_ | refine ba_ ?_ _)); refine bp_ (cs := #[.bool false, .slice none 0 0]) ?_ 0 _ rfl; (with_reducible repeat (first | refine bn_ ?_ _ | refine bd_ ?_ | refine ba_ ?_ _)); exact BK304.out) Try.underlying32 rfl (by kernel_rfl)) rfl ?_
        exact ⟨_, by first | rfl | (simp [errW_none, errW_some] <;> rfl) | (simp [*, errW_none, errW_some] <;> rfl), by (with_reducible repeat (first | apply va_ | apply vn_ | apply vd_)); exact vm_ (Kd.V_far (p := ⟨gb304, 1, none⟩) (Kd.V_far (p := ⟨gb304, 0, none⟩) (vm_ HO184.out (fun k_ hk => (⟨hk, hk.2.2.2.1⟩ : _ ∧ k_ ≠ gb304))) (fun _ hk => hk.2) (.bool t181)) (fun _ hk => hk.2) (.slice Ao61 t182.length co61)) (fun _ hk => hk.1.1), bw_⟩
       ·
        rw [if_neg c46] at H
        exact absurd H (by simp)
 ·
  rw [if_neg c3] at H
  have c3b0 : (a0_0 == a1_0) = false := by simpa using c3
  (try (have c3b1 : decide (a0_0 = a1_0) = false := by simpa using c3))
  (try (have c3b2 : (a0_0 == a1_0) = false := by simpa using c3))
  (try (have c3b3 : ¬ (a0_0 = a1_0) := by simpa using c3))
  clear c3
  replace H := os_ H
  obtain ⟨t185, A620, H⟩ := H
  replace H : (if t185 < 0 then (clevisref01_Add.l1 k 0 0 a1_0 l1_1 a0_0 l0_1 a1_0 ([] : List Int)) else (clevisref01_Add.l102 k 0 0 a0_0 l0_1 a1_0 l1_1 a0_0 ([] : List Int))) = some (r1, r2) := H
  have A62 := A_ A620
  clear A620
  by_cases c63 : t185 < 0
  ·
   rw [if_pos c63] at H
   have c63b0 : decide (t185 < 0) = true := decide_eq_true c63
   clear c63
   have H' := A_ H
   clear H
   go_enter Try.func21, Try.ntmps21
   go_wp2_with (first | ((with_reducible refine gate_dst (N := 2) rfl ?_); (try (refine gate_guard (by rfl) ?_; dsimp only)); refine box_event ?hg (N := 2) ?hd (cs := #[.bool a0_0, .slice A0_1 l0_1.length c0_1]) (t := 32) ?hr ?_; (case hd => rfl); (case hg => rfl); (case hr => first | (go_simp; done) | (go_simp; rfl)); intro gb302 hg w64 hbox hb; have n0_ := A_ (bs_ bw_ hb); have n1_ := A_ (hbox); have n2_ := A_ ((by rw [hg]; exact (bz_ bw_) : w.heap.size ≤ gb302)); have n3_ := A_ ((by rw [hg]; exact (bz_ bw_) : w.heap.size ≤ gb302)); clear HB; have HB := n0_; have BK302 := n1_; have GW302 := n2_; have GE302 := n3_; clear n0_ n1_ n2_ n3_; clear hb hbox hg) | ((with_reducible refine gate_dst (N := 3) rfl ?_); (try (refine gate_guard (by rfl) ?_; dsimp only)); refine box_event ?hg (N := 3) ?hd (cs := #[.bool a1_0, .slice A1_1 l1_1.length c1_1]) (t := 32) ?hr ?_; (case hd => rfl); (case hg => rfl); (case hr => first | (go_simp; done) | (go_simp; rfl)); intro gb303 hg w65 hbox hb; have n0_ := A_ (kb_ BK302 hb); have n1_ := A_ (bs_ bw_ hb); have n2_ := A_ (hbox); have n3_ := A_ ((by rw [hg]; exact (bz_ bw_) : w.heap.size ≤ gb303)); have n4_ := A_ ((by rw [hg]; exact (bz_ bw_) : w.heap.size ≤ gb303)); have n5_ := A_ ((by rw [hg]; exact nl_ (lt_ BK302) : gb302 ≠ gb303)); have n6_ := A_ ((by rw [hg]; exact ng_ (lt_ BK302) : gb303 ≠ gb302)); clear BK302; clear HB; have BK302 := n0_; have HB := n1_; have BK303 := n2_; have GW303 := n3_; have GE303 := n4_; have NB302_303 := n5_; have NB303_302 := n6_; clear n0_ n1_ n2_ n3_ n4_ n5_ n6_; clear hb hbox hg) | ((with_reducible refine gate_dst (N := 4) rfl ?_); (try (refine gate_guard (by rfl) ?_; dsimp only)); refine box_event ?hg (N := 4) ?hd (cs := #[.bool false, .slice none 0 0]) (t := 32) ?hr ?_; (case hd => rfl); (case hg => rfl); (case hr => first | (go_simp; done) | (go_simp; rfl)); intro gb304 hg w66 hbox hb; have n0_ := A_ (kb_ BK302 hb); have n1_ := A_ (kb_ BK303 hb); have n2_ := A_ (bs_ bw_ hb); have n3_ := A_ (hbox); have n4_ := A_ ((by rw [hg]; exact (bz_ bw_) : w.heap.size ≤ gb304)); have n5_ := A_ ((by rw [hg]; exact (bz_ bw_) : w.heap.size ≤ gb304)); have n6_ := A_ ((by rw [hg]; exact nl_ (lt_ BK302) : gb302 ≠ gb304)); have n7_ := A_ ((by rw [hg]; exact ng_ (lt_ BK302) : gb304 ≠ gb302)); have n8_ := A_ ((by rw [hg]; exact nl_ (lt_ BK303) : gb303 ≠ gb304)); have n9_ := A_ ((by rw [hg]; exact ng_ (lt_ BK303) : gb304 ≠ gb303)); clear BK302; clear BK303; clear HB; have BK302 := n0_; have BK303 := n1_; have HB := n2_; have BK304 := n3_; have GW304 := n4_; have GE304 := n5_; have NB302_304 := n6_; have NB304_302 := n7_; have NB303_304 := n8_; have NB304_303 := n9_; clear n0_ n1_ n2_ n3_ n4_ n5_ n6_ n7_ n8_ n9_; clear hb hbox hg; have hnb67 := NB302_303.out; have hnc67 := NB303_302.out; have hnb68 := NB302_304.out; have hnc68 := NB304_302.out; have hcz69_0 : w66.cell? ⟨gb302, 0, none⟩ = some (.bool a0_0) := (bc_ BK302.out 0).trans rfl; have hcz69_1 : w66.cell? ⟨gb302, 1, none⟩ = some (.slice A0_1 l0_1.length c0_1) := (bc_ BK302.out 1).trans rfl; have hfz69_0 := bf_ BK302.out 0; have hfz69_1 := bf_ BK302.out 1; have hnb70 := NB303_304.out; have hnc70 := NB304_303.out; have hcz71_0 : w66.cell? ⟨gb303, 0, none⟩ = some (.bool a1_0) := (bc_ BK303.out 0).trans rfl; have hcz71_1 : w66.cell? ⟨gb303, 1, none⟩ = some (.slice A1_1 l1_1.length c1_1) := (bc_ BK303.out 1).trans rfl; have hfz71_0 := bf_ BK303.out 0; have hfz71_1 := bf_ BK303.out 1) | (go_at_call 42; (with_reducible refine (clevisref01_size.calls k _ _ l0_1 _ _ l1_1 t185 _ ?side1 ?side2 ?side3 ?side4 A62.out).mono ?_); (case side1 => repeat (first | exact (cb_ HR0_1.out HB.out) | (with_reducible refine ca_ ?_ _) | (with_reducible refine cn_ ?_ _) | (with_reducible refine cd_ ?_))); (case side2 => exact HC0_1.out); (case side3 => repeat (first | exact (cb_ HR1_1.out HB.out) | (with_reducible refine ca_ ?_ _) | (with_reducible refine cn_ ?_ _) | (with_reducible refine cd_ ?_))); (case side4 => exact HC1_1.out); rintro e w' ⟨rfl, ⟨nd, rfl⟩⟩; (try first | exact ⟨rfl, _, dd_ _ _ _⟩ | exact ⟨rfl, _, Eq.trans (dd_ _ _ _) (congrArg (World.drewN _) (Nat.add_assoc _ _ _))⟩)) | ((with_reducible refine gate_dst (N := 9) rfl ?_); (try (refine gate_guard (by rfl) ?_; dsimp only)); refine box_event ?hg (N := 9) ?hd (cs := #[.bool false, .slice none 0 0]) (t := 32) ?hr ?_; (case hd => rfl); (case hg => rfl); (case hr => first | (go_simp; done) | (go_simp; rfl)); intro gb309 hg w72 hbox hb; have n0_ := A_ (blk_below (g := gb302) (o := .cells #[.bool a1_0, .slice A1_1 l1_1.length c1_1] 32 (0, 0)) (by (with_reducible repeat (first | refine bn_ ?_ _ | refine bd_ ?_ | refine ba_ ?_ _)); refine br_ ?_ NB302_303.out _; (with_reducible repeat (first | refine bn_ ?_ _ | refine bd_ ?_ | refine ba_ ?_ _)); refine br_ ?_ NB302_303.out _; (with_reducible repeat (first | refine bn_ ?_ _ | refine bd_ ?_ | refine ba_ ?_ _)); refine bp_ (cs := #[.bool a1_0, .slice A0_1 l0_1.length c0_1]) ?_ 1 _ rfl; (with_reducible repeat (first | refine bn_ ?_ _ | refine bd_ ?_ | refine ba_ ?_ _)); refine bp_ (cs := #[.bool a0_0, .slice A0_1 l0_1.length c0_1]) ?_ 0 _ rfl; (with_reducible repeat (first | refine bn_ ?_ _ | refine bd_ ?_ | refine ba_ ?_ _)); exact BK302.out) hb); have n1_ := A_ (blk_below (g := gb303) (o := .cells #[.bool a0_0, .slice A0_1 l0_1.length c0_1] 32 (0, 0)) (by (with_reducible repeat (first | refine bn_ ?_ _ | refine bd_ ?_ | refine ba_ ?_ _)); refine bp_ (cs := #[.bool a0_0, .slice A1_1 l1_1.length c1_1]) ?_ 1 _ rfl; (with_reducible repeat (first | refine bn_ ?_ _ | refine bd_ ?_ | refine ba_ ?_ _)); refine bp_ (cs := #[.bool a1_0, .slice A1_1 l1_1.length c1_1]) ?_ 0 _ rfl; (with_reducible repeat (first | refine bn_ ?_ _ | refine bd_ ?_ | refine ba_ ?_ _)); refine br_ ?_ NB303_302.out _; (with_reducible repeat (first | refine bn_ ?_ _ | refine bd_ ?_ | refine ba_ ?_ _)); refine br_ ?_ NB303_302.out _; (with_reducible repeat (first | refine bn_ ?_ _ | refine bd_ ?_ | refine ba_ ?_ _)); exact BK303.out) hb); have n2_ := A_ (kb_ BK304 hb); have n3_ := A_ (bs_ bw_ hb); have n4_ := A_ (hbox); have n5_ := A_ ((by rw [hg]; exact (bz_ bw_) : w.heap.size ≤ gb309)); have n6_ := A_ ((by rw [hg]; exact (bz_ bw_) : w.heap.size ≤ gb309)); have n7_ := A_ ((by rw [hg]; exact nl_ (blk_lt (g := gb302) (o := .cells #[.bool a1_0, .slice A1_1 l1_1.length c1_1] 32 (0, 0)) (by (with_reducible repeat (first | refine bn_ ?_ _ | refine bd_ ?_ | refine ba_ ?_ _)); refine br_ ?_ NB302_303.out _; (with_reducible repeat (first | refine bn_ ?_ _ | refine bd_ ?_ | refine ba_ ?_ _)); refine br_ ?_ NB302_303.out _; (with_reducible repeat (first | refine bn_ ?_ _ | refine bd_ ?_ | refine ba_ ?_ _)); refine bp_ (cs := #[.bool a1_0, .slice A0_1 l0_1.length c0_1]) ?_ 1 _ rfl; (with_reducible repeat (first | refine bn_ ?_ _ | refine bd_ ?_ | refine ba_ ?_ _)); refine bp_ (cs := #[.bool a0_0, .slice A0_1 l0_1.length c0_1]) ?_ 0 _ rfl; (with_reducible repeat (first | refine bn_ ?_ _ | refine bd_ ?_ | refine ba_ ?_ _)); exact BK302.out)) : gb302 ≠ gb309)); have n8_ := A_ ((by rw [hg]; exact ng_ (blk_lt (g := gb302) (o := .cells #[.bool a1_0, .slice A1_1 l1_1.length c1_1] 32 (0, 0)) (by (with_reducible repeat (first | refine bn_ ?_ _ | refine bd_ ?_ | refine ba_ ?_ _)); refine br_ ?_ NB302_303.out _; (with_reducible repeat (first | refine bn_ ?_ _ | refine bd_ ?_ | refine ba_ ?_ _)); refine br_ ?_ NB302_303.out _; (with_reducible repeat (first | refine bn_ ?_ _ | refine bd_ ?_ | refine ba_ ?_ _)); refine bp_ (cs := #[.bool a1_0, .slice A0_1 l0_1.length c0_1]) ?_ 1 _ rfl; (with_reducible repeat (first | refine bn_ ?_ _ | refine bd_ ?_ | refine ba_ ?_ _)); refine bp_ (cs := #[.bool a0_0, .slice A0_1 l0_1.length c0_1]) ?_ 0 _ rfl; (with_reducible repeat (first | refine bn_ ?_ _ | refine bd_ ?_ | refine ba_ ?_ _)); exact BK302.out)) : gb309 ≠ gb302)); have n9_ := A_ ((by rw [hg]; exact nl_ (blk_lt (g := gb303) (o := .cells #[.bool a0_0, .slice A0_1 l0_1.length c0_1] 32 (0, 0)) (by (with_reducible repeat (first | refine bn_ ?_ _ | refine bd_ ?_ | refine ba_ ?_ _)); refine bp_ (cs := #[.bool a0_0, .slice A1_1 l1_1.length c1_1]) ?_ 1 _ rfl; (with_reducible repeat (first | refine bn_ ?_ _ | refine bd_ ?_ | refine ba_ ?_ _)); refine bp_ (cs := #[.bool a1_0, .slice A1_1 l1_1.length c1_1]) ?_ 0 _ rfl; (with_reducible repeat (first | refine bn_ ?_ _ | refine bd_ ?_ | refine ba_ ?_ _)); refine br_ ?_ NB303_302.out _; (with_reducible repeat (first | refine bn_ ?_ _ | refine bd_ ?_ | refine ba_ ?_ _)); refine br_ ?_ NB303_302.out _; (with_reducible repeat (first | refine bn_ ?_ _ | refine bd_ ?_ | refine ba_ ?_ _)); exact BK303.out)) : gb303 ≠ gb309)); have n10_ := A_ ((by rw [hg]; exact ng_ (blk_lt (g := gb303) (o := .cells #[.bool a0_0, .slice A0_1 l0_1.length c0_1] 32 (0, 0)) (by (with_reducible repeat (first | refine bn_ ?_ _ | refine bd_ ?_ | refine ba_ ?_ _)); refine bp_ (cs := #[.bool a0_0, .slice A1_1 l1_1.length c1_1]) ?_ 1 _ rfl; (with_reducible repeat (first | refine bn_ ?_ _ | refine bd_ ?_ | refine ba_ ?_ _)); refine bp_ (cs := #[.bool a1_0, .slice A1_1 l1_1.length c1_1]) ?_ 0 _ rfl; (with_reducible repeat (first | refine bn_ ?_ _ | refine bd_ ?_ | refine ba_ ?_ _)); refine br_ ?_ NB303_302.out _; (with_reducible repeat (first | refine bn_ ?_ _ | refine bd_ ?_ | refine ba_ ?_ _)); refine br_ ?_ NB303_302.out _; (with_reducible repeat (first | refine bn_ ?_ _ | refine bd_ ?_ | refine ba_ ?_ _)); exact BK303.out)) : gb309 ≠ gb303)); have n11_ := A_ ((by rw [hg]; exact nl_ (lt_ BK304) : gb304 ≠ gb309)); have n12_ := A_ ((by rw [hg]; exact ng_ (lt_ BK304) : gb309 ≠ gb304)); clear BK302; clear BK303; clear BK304; clear HB; have BK302 := n0_; have BK303 := n1_; have BK304 := n2_; have HB := n3_; have BK309 := n4_; have GW309 := n5_; have GE309 := n6_; have NB302_309 := n7_; have NB309_302 := n8_; have NB303_309 := n9_; have NB309_303 := n10_; have NB304_309 := n11_; have NB309_304 := n12_; clear n0_ n1_ n2_ n3_ n4_ n5_ n6_ n7_ n8_ n9_ n10_ n11_ n12_; clear hb hbox hg; have hnb73 := NB309_302.out; have hnc73 := NB302_309.out; have hnb74 := NB309_303.out; have hnc74 := NB303_309.out; have hnb75 := NB309_304.out; have hnc75 := NB304_309.out; have hcz76_0 : w72.cell? ⟨gb309, 0, none⟩ = some (.bool false) := (bc_ BK309.out 0).trans rfl; have hcz76_1 : w72.cell? ⟨gb309, 1, none⟩ = some (.slice none 0 0) := (bc_ BK309.out 1).trans rfl; have hfz76_0 := bf_ BK309.out 0; have hfz76_1 := bf_ BK309.out 1))
   (try simp only [Act.put, sA_, sZ_, sS_])
   go_loopg [10, 11] k (fun kq v10 v11 w' => ∃ (x10_1 : Int) (x11_1 : Int) (x310001_1 : List Int) (u310001 : Value), v10 = .int .i64 x10_1 ∧ v11 = .int .i64 x11_1 ∧ Aside0 (clevisref01_Add.l1 kq x10_1 x11_1 a1_0 l1_1 a0_0 l0_1 a1_0 x310001_1 = some (r1, r2)) ∧ Aside0 (kq ≤ k) ∧ Aside0 (Kd.R (Kd.int .i64) 3 w' w.heap.size (fun k_ => (w.heap.size ≤ k_)) u310001 x310001_1) ∧ Aside0 (w'.heap[gb302]? = some (.cells #[.bool a1_0, (.slice A1_1 l1_1.length c1_1)] 32 (0, 0))) ∧ Aside0 (w'.heap[gb303]? = some (.cells #[.bool a0_0, (.slice A0_1 l0_1.length c0_1)] 32 (0, 0))) ∧ Aside0 (w'.heap[gb304]? = some (.cells #[.bool false, (.slice none 0 0)] 32 (0, 0))) ∧ Aside0 (w'.heap[gb309]? = some (.cells #[.bool a1_0, u310001] 32 (0, 0))) ∧ Aside0 (Below w.heap.size w w'))
   case atStart => exact ⟨(0), (0), (([] : List Int)), (.slice none 0 0), (by first | rfl | (simp; done) | (simp [*]; done)), (by first | rfl | (simp; done) | (simp [*]; done)), H', ⟨Nat.le_refl _⟩, ⟨by first | exact Kd.R_nil _ _ _ _ _ | exact Kd.N_nil _ _ _ _ _ | exact Kd.V_nil _ _ _ _ _ | exact Kd.Q_nil _ _ _ _ _ | exact Kd.S_nil _ _ _ _ _⟩, ⟨bk_⟩, ⟨bk_⟩, ⟨bk_⟩, ⟨by (with_reducible repeat (first | refine bn_ ?_ _ | refine bd_ ?_ | refine ba_ ?_ _)); refine bp_ (cs := #[.bool a1_0, .slice none 0 0]) ?_ 1 _ rfl; (with_reducible repeat (first | refine bn_ ?_ _ | refine bd_ ?_ | refine ba_ ?_ _)); refine bp_ (cs := #[.bool false, .slice none 0 0]) ?_ 0 _ rfl; (with_reducible repeat (first | refine bn_ ?_ _ | refine bd_ ?_ | refine ba_ ?_ _)); exact BK309.out⟩, ⟨bw_⟩⟩
   case round =>
    clear H'
    try clear c1
    try clear c2
    try clear p2
    try clear c3
    try clear c3b0
    try clear c3b1
    try clear c3b2
    try clear c4
    try clear c5
    try clear c6
    try clear p6
    try clear c7
    try clear c8
    try clear c10
    try clear c13
    try clear c14
    try clear c15
    try clear c18
    try clear c18b0
    try clear c19
    try clear c20
    try clear c21
    try clear c23
    try clear c24
    try clear c25
    try clear c27
    try clear c28
    try clear c30
    try clear c33
    try clear c34
    try clear c35
    try clear c36
    try clear c38
    try clear c39
    try clear c41
    try clear c46
    try clear c48
    try clear c49
    try clear c50
    try clear c58
    try clear c59
    try clear c63
    try clear c63b0
    try clear p64
    try clear c67
    try clear c68
    try clear c70
    try clear c73
    try clear c74
    try clear c75
    try clear hcz11_0
    try clear hcz11_1
    try clear hcz16_0
    try clear hcz16_1
    try clear hcz22_0
    try clear hcz22_1
    try clear hcz26_0
    try clear hcz26_1
    try clear hcz29_0
    try clear hcz29_1
    try clear hcz37_0
    try clear hcz37_1
    try clear hcz40_0
    try clear hcz40_1
    try clear hcz42_0
    try clear hcz42_1
    try clear hcz45_0
    try clear hcz45_1
    try clear hcz51_0
    try clear hcz51_1
    try clear hcz54_0
    try clear hcz54_1
    try clear hcz56_0
    try clear hcz56_1
    try clear hcz60_0
    try clear hcz60_1
    try clear hcz69_0
    try clear hcz69_1
    try clear hcz71_0
    try clear hcz71_1
    try clear hcz76_0
    try clear hcz76_1
    try clear hcz9_0
    try clear hcz9_1
    try clear hfz11_0
    try clear hfz11_1
    try clear hfz16_0
    try clear hfz16_1
    try clear hfz22_0
    try clear hfz22_1
    try clear hfz26_0
    try clear hfz26_1
    try clear hfz29_0
    try clear hfz29_1
    try clear hfz37_0
    try clear hfz37_1
    try clear hfz40_0
    try clear hfz40_1
    try clear hfz42_0
    try clear hfz42_1
    try clear hfz45_0
    try clear hfz45_1
    try clear hfz51_0
    try clear hfz51_1
    try clear hfz54_0
    try clear hfz54_1
    try clear hfz56_0
    try clear hfz56_1
    try clear hfz60_0
    try clear hfz60_1
    try clear hfz69_0
    try clear hfz69_1
    try clear hfz71_0
    try clear hfz71_1
    try clear hfz76_0
    try clear hfz76_1
    try clear hfz9_0
    try clear hfz9_1
    try clear p2
    obtain ⟨x10_1, x11_1, x310001_1, u310001, rfl, rfl, HA, HK1, HO_310001, BK302, BK303, BK304, BK309, HB⟩ := hrel
    cases gk with
    | zero => exact absurd HA.out (by simp [clevisref01_Add.l1])
    | succ k1 =>
     have H := HA.out
     clear HA
     simp only [clevisref01_Add.l1] at H
     by_cases c77 : x11_1 < (l1_1.length : Int)
     ·
      rw [if_pos c77] at H
      have c77b0 : decide (x11_1 < (l1_1.length : Int)) = true := decide_eq_true c77
      clear c77
      replace H := os_ H
      obtain ⟨t190, A780, H⟩ := H
      replace H : ((clevisref01_at.f l0_1 x11_1).bind fun t191 => (if (wrap64 ((wrap64 (t190 - t191)) - x10_1)) < 0 then (if x310001_1.length < 17592186044416 then (clevisref01_Add.l1 k1 1 (wrap64 (x11_1 + 1)) a1_0 l1_1 a0_0 l0_1 a1_0 (x310001_1 ++ [wrap64 ((wrap64 ((wrap64 (t190 - t191)) - x10_1)) + 65536)])) else (none)) else (if x310001_1.length < 17592186044416 then (clevisref01_Add.l1 k1 0 (wrap64 (x11_1 + 1)) a1_0 l1_1 a0_0 l0_1 a1_0 (x310001_1 ++ [wrap64 ((wrap64 (t190 - t191)) - x10_1)])) else (none)))) = some (r1, r2) := H
      have A78 := A_ A780
      clear A780
      replace H := os_ H
      obtain ⟨t191, A790, H⟩ := H
      replace H : (if (wrap64 ((wrap64 (t190 - t191)) - x10_1)) < 0 then (if x310001_1.length < 17592186044416 then (clevisref01_Add.l1 k1 1 (wrap64 (x11_1 + 1)) a1_0 l1_1 a0_0 l0_1 a1_0 (x310001_1 ++ [wrap64 ((wrap64 ((wrap64 (t190 - t191)) - x10_1)) + 65536)])) else (none)) else (if x310001_1.length < 17592186044416 then (clevisref01_Add.l1 k1 0 (wrap64 (x11_1 + 1)) a1_0 l1_1 a0_0 l0_1 a1_0 (x310001_1 ++ [wrap64 ((wrap64 (t190 - t191)) - x10_1)])) else (none))) = some (r1, r2) := H
      have A79 := A_ A790
      clear A790
      by_cases c80 : (wrap64 ((wrap64 (t190 - t191)) - x10_1)) < 0
      ·
       rw [if_pos c80] at H
       have c80b0 : decide ((wrap64 ((wrap64 (t190 - t191)) - x10_1)) < 0) = true := decide_eq_true c80
       (try (have c80b1 : decide ((IntKind.i64.wrap ((IntKind.i64.wrap (t190 - t191)) - x10_1)) < 0) = true := by first | exact (decide_eq_true c80) | (simp only [i64_w]; exact (decide_eq_true c80))))
       clear c80
       by_cases c81 : x310001_1.length < 17592186044416
       ·
        rw [if_pos c81] at H
        have LMc81 := A_ c81
        clear c81
        obtain ⟨y192, hy192⟩ : ∃ y_ : List Int, y_ = (x310001_1 ++ [wrap64 ((wrap64 ((wrap64 (t190 - t191)) - x10_1)) + 65536)]) := ⟨_, rfl⟩
        replace H : (clevisref01_Add.l1 k1 1 (wrap64 (x11_1 + 1)) a1_0 l1_1 a0_0 l0_1 a1_0 y192) = some (r1, r2) := by first | (rw [hy192]; with_reducible exact H) | (have H2_ := (Option.bind_some _ _).symm.trans H; rw [hy192]; with_reducible exact H2_) | (have H2_ := (Option.bind_some _ _).symm.trans H; with_reducible exact H2_) | with_reducible exact H | (rw [hy192]; exact H) | exact H
        have Ny192 := A_ hy192
        clear hy192
        have H' := A_ H
        clear H
        have hnb82 := NB302_303.out
        have hnc82 := NB303_302.out
        have hnb83 := NB302_304.out
        have hnc83 := NB304_302.out
        have hnb84 := NB302_309.out
        have hnc84 := NB309_302.out
        have hcz85_0 : wr.cell? ⟨gb302, 0, none⟩ = some (.bool a1_0) := (bc_ BK302.out 0).trans rfl
        have hcz85_1 : wr.cell? ⟨gb302, 1, none⟩ = some (.slice A1_1 l1_1.length c1_1) := (bc_ BK302.out 1).trans rfl
        have hfz85_0 := bf_ BK302.out 0
        have hfz85_1 := bf_ BK302.out 1
        go_wp2_with (fail)
        repeat (go_quiet (first | (go_at_call 54; (with_reducible refine (clevisref01_at.calls _ _ l1_1 x11_1 t190 _ ?side1 ?side2 A78.out).mono ?_); (case side1 => repeat (first | exact (cb_ HR1_1.out HB.out) | (with_reducible refine ca_ ?_ _) | (with_reducible refine cn_ ?_ _) | (with_reducible refine cd_ ?_))); (case side2 => exact HC1_1.out); rintro e w' ⟨rfl, ⟨nd, rfl⟩⟩; (try first | exact ⟨rfl, _, dd_ _ _ _⟩ | exact ⟨rfl, _, Eq.trans (dd_ _ _ _) (congrArg (World.drewN _) (Nat.add_assoc _ _ _))⟩); have hnb86 := NB303_304.out; have hnc86 := NB304_303.out; have hnb87 := NB303_309.out; have hnc87 := NB309_303.out; have hcz88_0 : wr.cell? ⟨gb303, 0, none⟩ = some (.bool a0_0) := (bc_ BK303.out 0).trans rfl; have hcz88_1 : wr.cell? ⟨gb303, 1, none⟩ = some (.slice A0_1 l0_1.length c0_1) := (bc_ BK303.out 1).trans rfl; have hfz88_0 := bf_ BK303.out 0; have hfz88_1 := bf_ BK303.out 1) | (go_at_call 54; (with_reducible refine (clevisref01_at.calls _ _ l0_1 x11_1 t191 _ ?side1 ?side2 A79.out).mono ?_); (case side1 => repeat (first | exact (cb_ HR0_1.out bw_) | (with_reducible refine ca_ ?_ _) | (with_reducible refine cn_ ?_ _) | (with_reducible refine cd_ ?_))); (case side2 => exact HC0_1.out); rintro e w' ⟨rfl, ⟨nd, rfl⟩⟩; (try first | exact ⟨rfl, _, dd_ _ _ _⟩ | exact ⟨rfl, _, Eq.trans (dd_ _ _ _) (congrArg (World.drewN _) (Nat.add_assoc _ _ _))⟩); have hnb89 := NB309_304.out; have hnc89 := NB304_309.out; have hcz90_0 : wr.cell? ⟨gb309, 0, none⟩ = some (.bool a1_0) := (bc_ BK309.out 0).trans rfl; have hcz90_1 : wr.cell? ⟨gb309, 1, none⟩ = some (u310001) := (bc_ BK309.out 1).trans rfl; have hfz90_0 := bf_ BK309.out 0; have hfz90_1 := bf_ BK309.out 1)); try go_wp2_with (((with_reducible refine gate_builtin (b := .append) (xs := #[.tmp 97, .tmp 99]) rfl ?_); (try (refine gate_guard (by rfl) ?_; dsimp only)); at_builtin; refine Kd.R_append (Kd.int .i64) (w0 := w) w.heap.size rfl (.tmp 97) (.tmp 99) 30 3 (.int .i64 0) 8 rfl Try.underlying30 info3 rfl (by decide) (by omega) u310001 x310001_1 (wrap64 ((wrap64 ((wrap64 (t190 - t191)) - x10_1)) + 65536)) [.int .i64 (wrap64 ((wrap64 ((wrap64 (t190 - t191)) - x10_1)) + 65536))] (fun k_ => (w.heap.size ≤ k_)) (fun _ => False) rfl rfl ?aP (fun _ hk => hk.elim) ?aF ?aO ?aB ?aS ?aL ?_; (case aP => exact rfl); (case aB => exact bw_); (case aF => exact (fun k_ hk => (Nat.le_trans (bz_ bw_) hk))); (case aO => exact (by (with_reducible repeat (first | apply Kd.R_alloc | apply Kd.R_drewN | apply Kd.R_drew)); exact HO_310001.out)); (case aS => exact (bz_ bw_)); (case aL => have := LMc81.out; omega); intro v193 w91 ho hb hg hat; rw [← Ny192.out] at ho; have n0_ := A_ (blk_grown (g := gb302) (o := .cells #[.bool a1_0, .slice A1_1 l1_1.length c1_1] 32 (0, 0)) bk_ hg (Kd.R_ne HO_310001.out BK302.out (by decide))); have n1_ := A_ (blk_grown (g := gb303) (o := .cells #[.bool a0_0, .slice A0_1 l0_1.length c0_1] 32 (0, 0)) bk_ hg (Kd.R_ne HO_310001.out BK303.out (by decide))); have n2_ := A_ (blk_grown (g := gb304) (o := .cells #[.bool false, .slice none 0 0] 32 (0, 0)) bk_ hg (Kd.R_ne HO_310001.out BK304.out (by decide))); have n3_ := A_ (blk_grown (g := gb309) (o := .cells #[.bool a1_0, u310001] 32 (0, 0)) bk_ hg (Kd.R_ne HO_310001.out BK309.out (by decide))); have n4_ := A_ (hb); have n5_ := A_ (ho); clear BK302; clear BK303; clear BK304; clear BK309; clear HB; clear HO_310001; have BK302 := n0_; have BK303 := n1_; have BK304 := n2_; have BK309 := n3_; have HB := n4_; have HO194 := n5_; clear n0_ n1_ n2_ n3_ n4_ n5_; clear ho hb hg hat; obtain ⟨Ao92, co92, eo92⟩ := Kd.R_slice HO194.out; subst eo92; have hcz93_0 : w91.cell? ⟨gb309, 0, none⟩ = some (.bool a1_0) := (bc_ BK309.out 0).trans rfl; have hcz93_1 : w91.cell? ⟨gb309, 1, none⟩ = some (u310001) := (bc_ BK309.out 1).trans rfl; have hfz93_0 := bf_ BK309.out 0; have hfz93_1 := bf_ BK309.out 1)))
        go_roundg k1
        case measure => have := HK1.out; omega
        case rel => exact ⟨(1), (wrap64 (x11_1 + 1)), (y192), (.slice Ao92 y192.length co92), (by first | rfl | (simp; done) | (simp [*]; done)), (by first | rfl | (simp; done) | (simp [*]; done)), H', ⟨by have := HK1.out; omega⟩, ⟨by (with_reducible repeat (first | apply Kd.R_alloc | apply Kd.R_drewN | apply Kd.R_drew)); exact Kd.R_mono (Kd.R_far (p := ⟨gb309, 1, none⟩) (Kd.R_types HO194.out BK309.out (by decide)) (fun _ hk => hk.2) (.slice Ao92 y192.length co92)) (fun _ hk => hk.1)⟩, ⟨bk_⟩, ⟨bk_⟩, ⟨bk_⟩, ⟨by (with_reducible repeat (first | refine bn_ ?_ _ | refine bd_ ?_ | refine ba_ ?_ _)); refine bp_ (cs := #[.bool a1_0, u310001]) ?_ 1 _ rfl; (with_reducible repeat (first | refine bn_ ?_ _ | refine bd_ ?_ | refine ba_ ?_ _)); exact BK309.out⟩, ⟨bw_⟩⟩
       ·
        rw [if_neg c81] at H
        exact absurd H (by simp)
      ·
       rw [if_neg c80] at H
       have c80b0 : decide ((wrap64 ((wrap64 (t190 - t191)) - x10_1)) < 0) = false := decide_eq_false c80
       (try (have c80b1 : decide ((IntKind.i64.wrap ((IntKind.i64.wrap (t190 - t191)) - x10_1)) < 0) = false := by first | exact (decide_eq_false c80) | (simp only [i64_w]; exact (decide_eq_false c80))))
       clear c80
       by_cases c94 : x310001_1.length < 17592186044416
       ·
        rw [if_pos c94] at H
        have LMc94 := A_ c94
        clear c94
        obtain ⟨y195, hy195⟩ : ∃ y_ : List Int, y_ = (x310001_1 ++ [wrap64 ((wrap64 (t190 - t191)) - x10_1)]) := ⟨_, rfl⟩
        replace H : (clevisref01_Add.l1 k1 0 (wrap64 (x11_1 + 1)) a1_0 l1_1 a0_0 l0_1 a1_0 y195) = some (r1, r2) := by first | (rw [hy195]; with_reducible exact H) | (have H2_ := (Option.bind_some _ _).symm.trans H; rw [hy195]; with_reducible exact H2_) | (have H2_ := (Option.bind_some _ _).symm.trans H; with_reducible exact H2_) | with_reducible exact H | (rw [hy195]; exact H) | exact H
        have Ny195 := A_ hy195
        clear hy195
        have H' := A_ H
        clear H
        have hnb95 := NB302_303.out
        have hnc95 := NB303_302.out
        have hnb96 := NB302_304.out
        have hnc96 := NB304_302.out
        have hnb97 := NB302_309.out
        have hnc97 := NB309_302.out
        have hcz98_0 : wr.cell? ⟨gb302, 0, none⟩ = some (.bool a1_0) := (bc_ BK302.out 0).trans rfl
        have hcz98_1 : wr.cell? ⟨gb302, 1, none⟩ = some (.slice A1_1 l1_1.length c1_1) := (bc_ BK302.out 1).trans rfl
        have hfz98_0 := bf_ BK302.out 0
        have hfz98_1 := bf_ BK302.out 1
        go_wp2_with (fail)
        repeat (go_quiet (first | (go_at_call 54; (with_reducible refine (clevisref01_at.calls _ _ l1_1 x11_1 t190 _ ?side1 ?side2 A78.out).mono ?_); (case side1 => repeat (first | exact (cb_ HR1_1.out HB.out) | (with_reducible refine ca_ ?_ _) | (with_reducible refine cn_ ?_ _) | (with_reducible refine cd_ ?_))); (case side2 => exact HC1_1.out); rintro e w' ⟨rfl, ⟨nd, rfl⟩⟩; (try first | exact ⟨rfl, _, dd_ _ _ _⟩ | exact ⟨rfl, _, Eq.trans (dd_ _ _ _) (congrArg (World.drewN _) (Nat.add_assoc _ _ _))⟩); have hnb99 := NB303_304.out; have hnc99 := NB304_303.out; have hnb100 := NB303_309.out; have hnc100 := NB309_303.out; have hcz101_0 : wr.cell? ⟨gb303, 0, none⟩ = some (.bool a0_0) := (bc_ BK303.out 0).trans rfl; have hcz101_1 : wr.cell? ⟨gb303, 1, none⟩ = some (.slice A0_1 l0_1.length c0_1) := (bc_ BK303.out 1).trans rfl; have hfz101_0 := bf_ BK303.out 0; have hfz101_1 := bf_ BK303.out 1) | (go_at_call 54; (with_reducible refine (clevisref01_at.calls _ _ l0_1 x11_1 t191 _ ?side1 ?side2 A79.out).mono ?_); (case side1 => repeat (first | exact (cb_ HR0_1.out bw_) | (with_reducible refine ca_ ?_ _) | (with_reducible refine cn_ ?_ _) | (with_reducible refine cd_ ?_))); (case side2 => exact HC0_1.out); rintro e w' ⟨rfl, ⟨nd, rfl⟩⟩; (try first | exact ⟨rfl, _, dd_ _ _ _⟩ | exact ⟨rfl, _, Eq.trans (dd_ _ _ _) (congrArg (World.drewN _) (Nat.add_assoc _ _ _))⟩); have hnb102 := NB309_304.out; have hnc102 := NB304_309.out; have hcz103_0 : wr.cell? ⟨gb309, 0, none⟩ = some (.bool a1_0) := (bc_ BK309.out 0).trans rfl; have hcz103_1 : wr.cell? ⟨gb309, 1, none⟩ = some (u310001) := (bc_ BK309.out 1).trans rfl; have hfz103_0 := bf_ BK309.out 0; have hfz103_1 := bf_ BK309.out 1)); try go_wp2_with (((with_reducible refine gate_builtin (b := .append) (xs := #[.tmp 97, .tmp 99]) rfl ?_); (try (refine gate_guard (by rfl) ?_; dsimp only)); at_builtin; refine Kd.R_append (Kd.int .i64) (w0 := w) w.heap.size rfl (.tmp 97) (.tmp 99) 30 3 (.int .i64 0) 8 rfl Try.underlying30 info3 rfl (by decide) (by omega) u310001 x310001_1 (wrap64 ((wrap64 (t190 - t191)) - x10_1)) [.int .i64 (wrap64 ((wrap64 (t190 - t191)) - x10_1))] (fun k_ => (w.heap.size ≤ k_)) (fun _ => False) rfl rfl ?aP (fun _ hk => hk.elim) ?aF ?aO ?aB ?aS ?aL ?_; (case aP => exact rfl); (case aB => exact bw_); (case aF => exact (fun k_ hk => (Nat.le_trans (bz_ bw_) hk))); (case aO => exact (by (with_reducible repeat (first | apply Kd.R_alloc | apply Kd.R_drewN | apply Kd.R_drew)); exact HO_310001.out)); (case aS => exact (bz_ bw_)); (case aL => have := LMc94.out; omega); intro v196 w104 ho hb hg hat; rw [← Ny195.out] at ho; have n0_ := A_ (blk_grown (g := gb302) (o := .cells #[.bool a1_0, .slice A1_1 l1_1.length c1_1] 32 (0, 0)) bk_ hg (Kd.R_ne HO_310001.out BK302.out (by decide))); have n1_ := A_ (blk_grown (g := gb303) (o := .cells #[.bool a0_0, .slice A0_1 l0_1.length c0_1] 32 (0, 0)) bk_ hg (Kd.R_ne HO_310001.out BK303.out (by decide))); have n2_ := A_ (blk_grown (g := gb304) (o := .cells #[.bool false, .slice none 0 0] 32 (0, 0)) bk_ hg (Kd.R_ne HO_310001.out BK304.out (by decide))); have n3_ := A_ (blk_grown (g := gb309) (o := .cells #[.bool a1_0, u310001] 32 (0, 0)) bk_ hg (Kd.R_ne HO_310001.out BK309.out (by decide))); have n4_ := A_ (hb); have n5_ := A_ (ho); clear BK302; clear BK303; clear BK304; clear BK309; clear HB; clear HO_310001; have BK302 := n0_; have BK303 := n1_; have BK304 := n2_; have BK309 := n3_; have HB := n4_; have HO197 := n5_; clear n0_ n1_ n2_ n3_ n4_ n5_; clear ho hb hg hat; obtain ⟨Ao105, co105, eo105⟩ := Kd.R_slice HO197.out; subst eo105; have hcz106_0 : w104.cell? ⟨gb309, 0, none⟩ = some (.bool a1_0) := (bc_ BK309.out 0).trans rfl; have hcz106_1 : w104.cell? ⟨gb309, 1, none⟩ = some (u310001) := (bc_ BK309.out 1).trans rfl; have hfz106_0 := bf_ BK309.out 0; have hfz106_1 := bf_ BK309.out 1)))
        go_roundg k1
        case measure => have := HK1.out; omega
        case rel => exact ⟨(0), (wrap64 (x11_1 + 1)), (y195), (.slice Ao105 y195.length co105), (by first | rfl | (simp; done) | (simp [*]; done)), (by first | rfl | (simp; done) | (simp [*]; done)), H', ⟨by have := HK1.out; omega⟩, ⟨by (with_reducible repeat (first | apply Kd.R_alloc | apply Kd.R_drewN | apply Kd.R_drew)); exact Kd.R_mono (Kd.R_far (p := ⟨gb309, 1, none⟩) (Kd.R_types HO197.out BK309.out (by decide)) (fun _ hk => hk.2) (.slice Ao105 y195.length co105)) (fun _ hk => hk.1)⟩, ⟨bk_⟩, ⟨bk_⟩, ⟨bk_⟩, ⟨by (with_reducible repeat (first | refine bn_ ?_ _ | refine bd_ ?_ | refine ba_ ?_ _)); refine bp_ (cs := #[.bool a1_0, u310001]) ?_ 1 _ rfl; (with_reducible repeat (first | refine bn_ ?_ _ | refine bd_ ?_ | refine ba_ ?_ _)); exact BK309.out⟩, ⟨bw_⟩⟩
       ·
        rw [if_neg c94] at H
        exact absurd H (by simp)
     ·
      rw [if_neg c77] at H
      have c77b0 : decide (x11_1 < (l1_1.length : Int)) = false := decide_eq_false c77
      clear c77
      replace H := os_ H
      obtain ⟨⟨t186, t187⟩, A1070, H⟩ := H
      replace H : (some (t186, t187)) = some (r1, r2) := H
      have A107 := A_ A1070
      clear A1070
      simp only [Option.some.injEq, Prod.mk.injEq] at H
      obtain ⟨rfl, rfl⟩ := H
      have hnb108 := NB302_303.out
      have hnc108 := NB303_302.out
      have hnb109 := NB302_304.out
      have hnc109 := NB304_302.out
      have hnb110 := NB302_309.out
      have hnc110 := NB309_302.out
      have hcz111_0 : wr.cell? ⟨gb302, 0, none⟩ = some (.bool a1_0) := (bc_ BK302.out 0).trans rfl
      have hcz111_1 : wr.cell? ⟨gb302, 1, none⟩ = some (.slice A1_1 l1_1.length c1_1) := (bc_ BK302.out 1).trans rfl
      have hfz111_0 := bf_ BK302.out 0
      have hfz111_1 := bf_ BK302.out 1
      have hnb112 := NB309_303.out
      have hnc112 := NB303_309.out
      have hnb113 := NB309_304.out
      have hnc113 := NB304_309.out
      have hcz114_0 : wr.cell? ⟨gb309, 0, none⟩ = some (.bool a1_0) := (bc_ BK309.out 0).trans rfl
      have hcz114_1 : wr.cell? ⟨gb309, 1, none⟩ = some (u310001) := (bc_ BK309.out 1).trans rfl
      have hfz114_0 := bf_ BK309.out 0
      have hfz114_1 := bf_ BK309.out 1
      obtain ⟨Ao115, co115, eo115⟩ := Kd.R_slice HO_310001.out
      subst eo115
      go_wp2_with ((go_at_call 47; (with_reducible refine (clevisref01_clean.calls k1 a1_0 (fun k_ => some k_ = (.slice Ao115 x310001_1.length co115 : Value).ownBlock) _ _ x310001_1 t186 t187 _ ?side1 A107.out).mono ?_); (case side1 => exact Kd.R_V (Kd.R_tight rfl (Kd.R_types (Kd.R_types (Kd.R_types (Kd.R_types (HO_310001.out) BK302.out (by decide)) BK303.out (by decide)) BK304.out (by decide)) BK309.out (by decide)))); rintro e w116 ⟨v188, rfl, ho0, hb⟩; have n0_ := A_ (Kd.R_below (by (with_reducible repeat (first | apply Kd.R_alloc | apply Kd.R_drewN | apply Kd.R_drew)); exact HO_310001.out) hb); have n1_ := A_ (Kd.V_lower (vm_ (ok' := fun k_ => (w.heap.size ≤ k_) ∧ k_ ≠ gb302 ∧ k_ ≠ gb303 ∧ k_ ≠ gb304 ∧ k_ ≠ gb309) ho0 (fun k_ hk_ => ⟨Or.elim hk_ (fun hs_ => ((Kd.R_types (Kd.R_types (Kd.R_types (Kd.R_types (HO_310001.out) BK302.out (by decide)) BK303.out (by decide)) BK304.out (by decide)) BK309.out (by decide)).1 k_ hs_.symm).1.1.1.1) (fun hn_ => (Nat.le_trans (bz_ bw_) hn_)), Or.elim hk_ (fun hs_ => ((Kd.R_types (Kd.R_types (Kd.R_types (Kd.R_types (HO_310001.out) BK302.out (by decide)) BK303.out (by decide)) BK304.out (by decide)) BK309.out (by decide)).1 k_ hs_.symm).1.1.1.2) (fun hn_ => (Kd.freshB (g := gb302) (o := .cells #[.bool a1_0, .slice A1_1 l1_1.length c1_1] 32 (0, 0)) bk_ k_ hn_)), Or.elim hk_ (fun hs_ => ((Kd.R_types (Kd.R_types (Kd.R_types (Kd.R_types (HO_310001.out) BK302.out (by decide)) BK303.out (by decide)) BK304.out (by decide)) BK309.out (by decide)).1 k_ hs_.symm).1.1.2) (fun hn_ => (Kd.freshB (g := gb303) (o := .cells #[.bool a0_0, .slice A0_1 l0_1.length c0_1] 32 (0, 0)) bk_ k_ hn_)), Or.elim hk_ (fun hs_ => ((Kd.R_types (Kd.R_types (Kd.R_types (Kd.R_types (HO_310001.out) BK302.out (by decide)) BK303.out (by decide)) BK304.out (by decide)) BK309.out (by decide)).1 k_ hs_.symm).1.2) (fun hn_ => (Kd.freshB (g := gb304) (o := .cells #[.bool false, .slice none 0 0] 32 (0, 0)) bk_ k_ hn_)), Or.elim hk_ (fun hs_ => ((Kd.R_types (Kd.R_types (Kd.R_types (Kd.R_types (HO_310001.out) BK302.out (by decide)) BK303.out (by decide)) BK304.out (by decide)) BK309.out (by decide)).1 k_ hs_.symm).2) (fun hn_ => (Kd.freshB (g := gb309) (o := .cells #[.bool a1_0, .slice Ao115 x310001_1.length co115] 32 (0, 0)) bk_ k_ hn_))⟩)) (bz_ bw_)); have n2_ := A_ (kb_ BK302 hb); have n3_ := A_ (kb_ BK303 hb); have n4_ := A_ (kb_ BK304 hb); have n5_ := A_ (kb_ BK309 hb); have n6_ := A_ (bs_ bw_ hb); clear HO_310001; clear BK302; clear BK303; clear BK304; clear BK309; clear HB; have HO_310001 := n0_; have HO189 := n1_; have BK302 := n2_; have BK303 := n3_; have BK304 := n4_; have BK309 := n5_; have HB := n6_; clear n0_ n1_ n2_ n3_ n4_ n5_ n6_; (try clear hb); (try clear hb2); (try clear hk); (try clear hi); (try clear ho0); have hnb117 := NB304_303.out; have hnc117 := NB303_304.out; have hcz118_0 : w116.cell? ⟨gb304, 0, none⟩ = some (.bool false) := (bc_ BK304.out 0).trans rfl; have hcz118_1 : w116.cell? ⟨gb304, 1, none⟩ = some (.slice none 0 0) := (bc_ BK304.out 1).trans rfl; have hfz118_0 := bf_ BK304.out 0; have hfz118_1 := bf_ BK304.out 1; obtain ⟨Ao119, co119, eo119⟩ := Kd.V_slice HO189.out; subst eo119))
      refine bodyPost_ret (results_cell_row rfl _ _ gb304 32 #[.bool t186, .slice Ao119 t187.length co119] (0, 0) _ rfl (by (with_reducible repeat (first | refine bn_ ?_ _ | refine bd_ ?_ | refine ba_ ?_ _)); refine bp_ (cs := #[.bool t186, .slice none 0 0]) ?_ 1 _ rfl; (with_reducible repeat (first | refine bn_ ?_ _ | refine bd_ ?_ | refine ba_ ?_ _)); refine bp_ (cs := #[.bool false, .slice none 0 0]) ?_ 0 _ rfl; (with_reducible repeat (first | refine bn_ ?_ _ | refine bd_ ?_ | refine ba_ ?_ _)); exact BK304.out) Try.underlying32 rfl (by kernel_rfl)) rfl ?_
      exact ⟨_, by first | rfl | (simp [errW_none, errW_some] <;> rfl) | (simp [*, errW_none, errW_some] <;> rfl), by (with_reducible repeat (first | apply va_ | apply vn_ | apply vd_)); exact vm_ (Kd.V_far (p := ⟨gb304, 1, none⟩) (Kd.V_far (p := ⟨gb304, 0, none⟩) (vm_ HO189.out (fun k_ hk => (⟨hk, hk.2.2.2.1⟩ : _ ∧ k_ ≠ gb304))) (fun _ hk => hk.2) (.bool t186)) (fun _ hk => hk.2) (.slice Ao119 t187.length co119)) (fun _ hk => hk.1.1), bw_⟩
  ·
   rw [if_neg c63] at H
   have c63b0 : decide (t185 < 0) = false := decide_eq_false c63
   clear c63
   have H' := A_ H
   clear H
   go_enter Try.func21, Try.ntmps21
   go_wp2_with (first | ((with_reducible refine gate_dst (N := 2) rfl ?_); (try (refine gate_guard (by rfl) ?_; dsimp only)); refine box_event ?hg (N := 2) ?hd (cs := #[.bool a0_0, .slice A0_1 l0_1.length c0_1]) (t := 32) ?hr ?_; (case hd => rfl); (case hg => rfl); (case hr => first | (go_simp; done) | (go_simp; rfl)); intro gb302 hg w120 hbox hb; have n0_ := A_ (bs_ bw_ hb); have n1_ := A_ (hbox); have n2_ := A_ ((by rw [hg]; exact (bz_ bw_) : w.heap.size ≤ gb302)); have n3_ := A_ ((by rw [hg]; exact (bz_ bw_) : w.heap.size ≤ gb302)); clear HB; have HB := n0_; have BK302 := n1_; have GW302 := n2_; have GE302 := n3_; clear n0_ n1_ n2_ n3_; clear hb hbox hg) | ((with_reducible refine gate_dst (N := 3) rfl ?_); (try (refine gate_guard (by rfl) ?_; dsimp only)); refine box_event ?hg (N := 3) ?hd (cs := #[.bool a1_0, .slice A1_1 l1_1.length c1_1]) (t := 32) ?hr ?_; (case hd => rfl); (case hg => rfl); (case hr => first | (go_simp; done) | (go_simp; rfl)); intro gb303 hg w121 hbox hb; have n0_ := A_ (kb_ BK302 hb); have n1_ := A_ (bs_ bw_ hb); have n2_ := A_ (hbox); have n3_ := A_ ((by rw [hg]; exact (bz_ bw_) : w.heap.size ≤ gb303)); have n4_ := A_ ((by rw [hg]; exact (bz_ bw_) : w.heap.size ≤ gb303)); have n5_ := A_ ((by rw [hg]; exact nl_ (lt_ BK302) : gb302 ≠ gb303)); have n6_ := A_ ((by rw [hg]; exact ng_ (lt_ BK302) : gb303 ≠ gb302)); clear BK302; clear HB; have BK302 := n0_; have HB := n1_; have BK303 := n2_; have GW303 := n3_; have GE303 := n4_; have NB302_303 := n5_; have NB303_302 := n6_; clear n0_ n1_ n2_ n3_ n4_ n5_ n6_; clear hb hbox hg) | ((with_reducible refine gate_dst (N := 4) rfl ?_); (try (refine gate_guard (by rfl) ?_; dsimp only)); refine box_event ?hg (N := 4) ?hd (cs := #[.bool false, .slice none 0 0]) (t := 32) ?hr ?_; (case hd => rfl); (case hg => rfl); (case hr => first | (go_simp; done) | (go_simp; rfl)); intro gb304 hg w122 hbox hb; have n0_ := A_ (kb_ BK302 hb); have n1_ := A_ (kb_ BK303 hb); have n2_ := A_ (bs_ bw_ hb); have n3_ := A_ (hbox); have n4_ := A_ ((by rw [hg]; exact (bz_ bw_) : w.heap.size ≤ gb304)); have n5_ := A_ ((by rw [hg]; exact (bz_ bw_) : w.heap.size ≤ gb304)); have n6_ := A_ ((by rw [hg]; exact nl_ (lt_ BK302) : gb302 ≠ gb304)); have n7_ := A_ ((by rw [hg]; exact ng_ (lt_ BK302) : gb304 ≠ gb302)); have n8_ := A_ ((by rw [hg]; exact nl_ (lt_ BK303) : gb303 ≠ gb304)); have n9_ := A_ ((by rw [hg]; exact ng_ (lt_ BK303) : gb304 ≠ gb303)); clear BK302; clear BK303; clear HB; have BK302 := n0_; have BK303 := n1_; have HB := n2_; have BK304 := n3_; have GW304 := n4_; have GE304 := n5_; have NB302_304 := n6_; have NB304_302 := n7_; have NB303_304 := n8_; have NB304_303 := n9_; clear n0_ n1_ n2_ n3_ n4_ n5_ n6_ n7_ n8_ n9_; clear hb hbox hg; have hnb123 := NB302_303.out; have hnc123 := NB303_302.out; have hnb124 := NB302_304.out; have hnc124 := NB304_302.out; have hcz125_0 : w122.cell? ⟨gb302, 0, none⟩ = some (.bool a0_0) := (bc_ BK302.out 0).trans rfl; have hcz125_1 : w122.cell? ⟨gb302, 1, none⟩ = some (.slice A0_1 l0_1.length c0_1) := (bc_ BK302.out 1).trans rfl; have hfz125_0 := bf_ BK302.out 0; have hfz125_1 := bf_ BK302.out 1; have hnb126 := NB303_304.out; have hnc126 := NB304_303.out; have hcz127_0 : w122.cell? ⟨gb303, 0, none⟩ = some (.bool a1_0) := (bc_ BK303.out 0).trans rfl; have hcz127_1 : w122.cell? ⟨gb303, 1, none⟩ = some (.slice A1_1 l1_1.length c1_1) := (bc_ BK303.out 1).trans rfl; have hfz127_0 := bf_ BK303.out 0; have hfz127_1 := bf_ BK303.out 1) | (go_at_call 42; (with_reducible refine (clevisref01_size.calls k _ _ l0_1 _ _ l1_1 t185 _ ?side1 ?side2 ?side3 ?side4 A62.out).mono ?_); (case side1 => repeat (first | exact (cb_ HR0_1.out HB.out) | (with_reducible refine ca_ ?_ _) | (with_reducible refine cn_ ?_ _) | (with_reducible refine cd_ ?_))); (case side2 => exact HC0_1.out); (case side3 => repeat (first | exact (cb_ HR1_1.out HB.out) | (with_reducible refine ca_ ?_ _) | (with_reducible refine cn_ ?_ _) | (with_reducible refine cd_ ?_))); (case side4 => exact HC1_1.out); rintro e w' ⟨rfl, ⟨nd, rfl⟩⟩; (try first | exact ⟨rfl, _, dd_ _ _ _⟩ | exact ⟨rfl, _, Eq.trans (dd_ _ _ _) (congrArg (World.drewN _) (Nat.add_assoc _ _ _))⟩)) | ((with_reducible refine gate_dst (N := 9) rfl ?_); (try (refine gate_guard (by rfl) ?_; dsimp only)); refine box_event ?hg (N := 9) ?hd (cs := #[.bool false, .slice none 0 0]) (t := 32) ?hr ?_; (case hd => rfl); (case hg => rfl); (case hr => first | (go_simp; done) | (go_simp; rfl)); intro gb309 hg w128 hbox hb; have n0_ := A_ (kb_ BK302 hb); have n1_ := A_ (kb_ BK303 hb); have n2_ := A_ (kb_ BK304 hb); have n3_ := A_ (bs_ bw_ hb); have n4_ := A_ (hbox); have n5_ := A_ ((by rw [hg]; exact (bz_ bw_) : w.heap.size ≤ gb309)); have n6_ := A_ ((by rw [hg]; exact (bz_ bw_) : w.heap.size ≤ gb309)); have n7_ := A_ ((by rw [hg]; exact nl_ (lt_ BK302) : gb302 ≠ gb309)); have n8_ := A_ ((by rw [hg]; exact ng_ (lt_ BK302) : gb309 ≠ gb302)); have n9_ := A_ ((by rw [hg]; exact nl_ (lt_ BK303) : gb303 ≠ gb309)); have n10_ := A_ ((by rw [hg]; exact ng_ (lt_ BK303) : gb309 ≠ gb303)); have n11_ := A_ ((by rw [hg]; exact nl_ (lt_ BK304) : gb304 ≠ gb309)); have n12_ := A_ ((by rw [hg]; exact ng_ (lt_ BK304) : gb309 ≠ gb304)); clear BK302; clear BK303; clear BK304; clear HB; have BK302 := n0_; have BK303 := n1_; have BK304 := n2_; have HB := n3_; have BK309 := n4_; have GW309 := n5_; have GE309 := n6_; have NB302_309 := n7_; have NB309_302 := n8_; have NB303_309 := n9_; have NB309_303 := n10_; have NB304_309 := n11_; have NB309_304 := n12_; clear n0_ n1_ n2_ n3_ n4_ n5_ n6_ n7_ n8_ n9_ n10_ n11_ n12_; clear hb hbox hg; have hnb129 := NB309_302.out; have hnc129 := NB302_309.out; have hnb130 := NB309_303.out; have hnc130 := NB303_309.out; have hnb131 := NB309_304.out; have hnc131 := NB304_309.out; have hcz132_0 : w128.cell? ⟨gb309, 0, none⟩ = some (.bool false) := (bc_ BK309.out 0).trans rfl; have hcz132_1 : w128.cell? ⟨gb309, 1, none⟩ = some (.slice none 0 0) := (bc_ BK309.out 1).trans rfl; have hfz132_0 := bf_ BK309.out 0; have hfz132_1 := bf_ BK309.out 1))
   (try simp only [Act.put, sA_, sZ_, sS_])
   go_loopg [10, 11] k (fun kq v10 v11 w' => ∃ (x10_1 : Int) (x11_1 : Int) (x310001_1 : List Int) (u310001 : Value), v10 = .int .i64 x10_1 ∧ v11 = .int .i64 x11_1 ∧ Aside0 (clevisref01_Add.l102 kq x10_1 x11_1 a0_0 l0_1 a1_0 l1_1 a0_0 x310001_1 = some (r1, r2)) ∧ Aside0 (kq ≤ k) ∧ Aside0 (Kd.R (Kd.int .i64) 3 w' w.heap.size (fun k_ => (w.heap.size ≤ k_)) u310001 x310001_1) ∧ Aside0 (w'.heap[gb302]? = some (.cells #[.bool a0_0, (.slice A0_1 l0_1.length c0_1)] 32 (0, 0))) ∧ Aside0 (w'.heap[gb303]? = some (.cells #[.bool a1_0, (.slice A1_1 l1_1.length c1_1)] 32 (0, 0))) ∧ Aside0 (w'.heap[gb304]? = some (.cells #[.bool false, (.slice none 0 0)] 32 (0, 0))) ∧ Aside0 (w'.heap[gb309]? = some (.cells #[.bool a0_0, u310001] 32 (0, 0))) ∧ Aside0 (Below w.heap.size w w'))
   case atStart => exact ⟨(0), (0), (([] : List Int)), (.slice none 0 0), (by first | rfl | (simp; done) | (simp [*]; done)), (by first | rfl | (simp; done) | (simp [*]; done)), H', ⟨Nat.le_refl _⟩, ⟨by first | exact Kd.R_nil _ _ _ _ _ | exact Kd.N_nil _ _ _ _ _ | exact Kd.V_nil _ _ _ _ _ | exact Kd.Q_nil _ _ _ _ _ | exact Kd.S_nil _ _ _ _ _⟩, ⟨bk_⟩, ⟨bk_⟩, ⟨bk_⟩, ⟨by (with_reducible repeat (first | refine bn_ ?_ _ | refine bd_ ?_ | refine ba_ ?_ _)); refine bp_ (cs := #[.bool a0_0, .slice none 0 0]) ?_ 1 _ rfl; (with_reducible repeat (first | refine bn_ ?_ _ | refine bd_ ?_ | refine ba_ ?_ _)); refine bp_ (cs := #[.bool false, .slice none 0 0]) ?_ 0 _ rfl; (with_reducible repeat (first | refine bn_ ?_ _ | refine bd_ ?_ | refine ba_ ?_ _)); exact BK309.out⟩, ⟨bw_⟩⟩
   case round =>
    clear H'
    try clear c1
    try clear c2
    try clear p2
    try clear c3
    try clear c3b0
    try clear c3b1
    try clear c3b2
    try clear c4
    try clear c5
    try clear c6
    try clear p6
    try clear c7
    try clear c8
    try clear c9
    try clear c10
    try clear c11
    try clear c12
    try clear c13
    try clear c14
    try clear c15
    try clear c18
    try clear c18b0
    try clear c19
    try clear c20
    try clear c21
    try clear c23
    try clear c24
    try clear c25
    try clear c27
    try clear c28
    try clear c30
    try clear c33
    try clear c34
    try clear c35
    try clear c36
    try clear c38
    try clear c39
    try clear c41
    try clear c46
    try clear c48
    try clear c49
    try clear c50
    try clear c58
    try clear c59
    try clear c63
    try clear c63b0
    try clear p64
    try clear c67
    try clear c68
    try clear c70
    try clear c73
    try clear c74
    try clear c75
    try clear c77
    try clear c77b0
    try clear c80
    try clear c80b0
    try clear c80b1
    try clear c81
    try clear c82
    try clear c83
    try clear c84
    try clear c86
    try clear c87
    try clear c89
    try clear c94
    try clear c95
    try clear c96
    try clear c97
    try clear c99
    try clear c100
    try clear c102
    try clear c108
    try clear c109
    try clear c110
    try clear c112
    try clear c113
    try clear c117
    try clear c123
    try clear c124
    try clear c126
    try clear c129
    try clear c130
    try clear c131
    try clear hcz101_0
    try clear hcz101_1
    try clear hcz103_0
    try clear hcz103_1
    try clear hcz106_0
    try clear hcz106_1
    try clear hcz111_0
    try clear hcz111_1
    try clear hcz114_0
    try clear hcz114_1
    try clear hcz118_0
    try clear hcz118_1
    try clear hcz11_0
    try clear hcz11_1
    try clear hcz125_0
    try clear hcz125_1
    try clear hcz127_0
    try clear hcz127_1
    try clear hcz132_0
    try clear hcz132_1
    try clear hcz16_0
    try clear hcz16_1
    try clear hcz22_0
    try clear hcz22_1
    try clear hcz26_0
    try clear hcz26_1
    try clear hcz29_0
    try clear hcz29_1
    try clear hcz37_0
    try clear hcz37_1
    try clear hcz40_0
    try clear hcz40_1
    try clear hcz42_0
    try clear hcz42_1
    try clear hcz45_0
    try clear hcz45_1
    try clear hcz51_0
    try clear hcz51_1
    try clear hcz54_0
    try clear hcz54_1
    try clear hcz56_0
    try clear hcz56_1
    try clear hcz60_0
    try clear hcz60_1
    try clear hcz69_0
    try clear hcz69_1
    try clear hcz71_0
    try clear hcz71_1
    try clear hcz76_0
    try clear hcz76_1
    try clear hcz85_0
    try clear hcz85_1
    try clear hcz88_0
    try clear hcz88_1
    try clear hcz90_0
    try clear hcz90_1
    try clear hcz93_0
    try clear hcz93_1
    try clear hcz98_0
    try clear hcz98_1
    try clear hcz9_0
    try clear hcz9_1
    try clear hfz101_0
    try clear hfz101_1
    try clear hfz103_0
    try clear hfz103_1
    try clear hfz106_0
    try clear hfz106_1
    try clear hfz111_0
    try clear hfz111_1
    try clear hfz114_0
    try clear hfz114_1
    try clear hfz118_0
    try clear hfz118_1
    try clear hfz11_0
    try clear hfz11_1
    try clear hfz125_0
    try clear hfz125_1
    try clear hfz127_0
    try clear hfz127_1
    try clear hfz132_0
    try clear hfz132_1
    try clear hfz16_0
    try clear hfz16_1
    try clear hfz22_0
    try clear hfz22_1
    try clear hfz26_0
    try clear hfz26_1
    try clear hfz29_0
    try clear hfz29_1
    try clear hfz37_0
    try clear hfz37_1
    try clear hfz40_0
    try clear hfz40_1
    try clear hfz42_0
    try clear hfz42_1
    try clear hfz45_0
    try clear hfz45_1
    try clear hfz51_0
    try clear hfz51_1
    try clear hfz54_0
    try clear hfz54_1
    try clear hfz56_0
    try clear hfz56_1
    try clear hfz60_0
    try clear hfz60_1
    try clear hfz69_0
    try clear hfz69_1
    try clear hfz71_0
    try clear hfz71_1
    try clear hfz76_0
    try clear hfz76_1
    try clear hfz85_0
    try clear hfz85_1
    try clear hfz88_0
    try clear hfz88_1
    try clear hfz90_0
    try clear hfz90_1
    try clear hfz93_0
    try clear hfz93_1
    try clear hfz98_0
    try clear hfz98_1
    try clear hfz9_0
    try clear hfz9_1
    try clear p2
    try clear p6
    try clear p64
    obtain ⟨x10_1, x11_1, x310001_1, u310001, rfl, rfl, HA, HK1, HO_310001, BK302, BK303, BK304, BK309, HB⟩ := hrel
    cases gk with
    | zero => exact absurd HA.out (by simp [clevisref01_Add.l102])
    | succ k1 =>
     have H := HA.out
     clear HA
     simp only [clevisref01_Add.l102] at H
     by_cases c133 : x11_1 < (l0_1.length : Int)
     ·
      rw [if_pos c133] at H
      have c133b0 : decide (x11_1 < (l0_1.length : Int)) = true := decide_eq_true c133
      clear c133
      replace H := os_ H
      obtain ⟨t202, A1340, H⟩ := H
      replace H : ((clevisref01_at.f l1_1 x11_1).bind fun t203 => (if (wrap64 ((wrap64 (t202 - t203)) - x10_1)) < 0 then (if x310001_1.length < 17592186044416 then (clevisref01_Add.l102 k1 1 (wrap64 (x11_1 + 1)) a0_0 l0_1 a1_0 l1_1 a0_0 (x310001_1 ++ [wrap64 ((wrap64 ((wrap64 (t202 - t203)) - x10_1)) + 65536)])) else (none)) else (if x310001_1.length < 17592186044416 then (clevisref01_Add.l102 k1 0 (wrap64 (x11_1 + 1)) a0_0 l0_1 a1_0 l1_1 a0_0 (x310001_1 ++ [wrap64 ((wrap64 (t202 - t203)) - x10_1)])) else (none)))) = some (r1, r2) := H
      have A134 := A_ A1340
      clear A1340
      replace H := os_ H
      obtain ⟨t203, A1350, H⟩ := H
      replace H : (if (wrap64 ((wrap64 (t202 - t203)) - x10_1)) < 0 then (if x310001_1.length < 17592186044416 then (clevisref01_Add.l102 k1 1 (wrap64 (x11_1 + 1)) a0_0 l0_1 a1_0 l1_1 a0_0 (x310001_1 ++ [wrap64 ((wrap64 ((wrap64 (t202 - t203)) - x10_1)) + 65536)])) else (none)) else (if x310001_1.length < 17592186044416 then (clevisref01_Add.l102 k1 0 (wrap64 (x11_1 + 1)) a0_0 l0_1 a1_0 l1_1 a0_0 (x310001_1 ++ [wrap64 ((wrap64 (t202 - t203)) - x10_1)])) else (none))) = some (r1, r2) := H
      have A135 := A_ A1350
      clear A1350
      by_cases c136 : (wrap64 ((wrap64 (t202 - t203)) - x10_1)) < 0
      ·
       rw [if_pos c136] at H
       have c136b0 : decide ((wrap64 ((wrap64 (t202 - t203)) - x10_1)) < 0) = true := decide_eq_true c136
       (try (have c136b1 : decide ((IntKind.i64.wrap ((IntKind.i64.wrap (t202 - t203)) - x10_1)) < 0) = true := by first | exact (decide_eq_true c136) | (simp only [i64_w]; exact (decide_eq_true c136))))
       clear c136
       by_cases c137 : x310001_1.length < 17592186044416
       ·
        rw [if_pos c137] at H
        have LMc137 := A_ c137
        clear c137
        obtain ⟨y204, hy204⟩ : ∃ y_ : List Int, y_ = (x310001_1 ++ [wrap64 ((wrap64 ((wrap64 (t202 - t203)) - x10_1)) + 65536)]) := ⟨_, rfl⟩
        replace H : (clevisref01_Add.l102 k1 1 (wrap64 (x11_1 + 1)) a0_0 l0_1 a1_0 l1_1 a0_0 y204) = some (r1, r2) := by first | (rw [hy204]; with_reducible exact H) | (have H2_ := (Option.bind_some _ _).symm.trans H; rw [hy204]; with_reducible exact H2_) | (have H2_ := (Option.bind_some _ _).symm.trans H; with_reducible exact H2_) | with_reducible exact H | (rw [hy204]; exact H) | exact H
        have Ny204 := A_ hy204
        clear hy204
        have H' := A_ H
        clear H
        have hnb138 := NB302_303.out
        have hnc138 := NB303_302.out
        have hnb139 := NB302_304.out
        have hnc139 := NB304_302.out
        have hnb140 := NB302_309.out
        have hnc140 := NB309_302.out
        have hcz141_0 : wr.cell? ⟨gb302, 0, none⟩ = some (.bool a0_0) := (bc_ BK302.out 0).trans rfl
        have hcz141_1 : wr.cell? ⟨gb302, 1, none⟩ = some (.slice A0_1 l0_1.length c0_1) := (bc_ BK302.out 1).trans rfl
        have hfz141_0 := bf_ BK302.out 0
        have hfz141_1 := bf_ BK302.out 1
        go_wp2_with (fail)
        repeat (go_quiet (first | (go_at_call 54; (with_reducible refine (clevisref01_at.calls _ _ l0_1 x11_1 t202 _ ?side1 ?side2 A134.out).mono ?_); (case side1 => repeat (first | exact (cb_ HR0_1.out HB.out) | (with_reducible refine ca_ ?_ _) | (with_reducible refine cn_ ?_ _) | (with_reducible refine cd_ ?_))); (case side2 => exact HC0_1.out); rintro e w' ⟨rfl, ⟨nd, rfl⟩⟩; (try first | exact ⟨rfl, _, dd_ _ _ _⟩ | exact ⟨rfl, _, Eq.trans (dd_ _ _ _) (congrArg (World.drewN _) (Nat.add_assoc _ _ _))⟩); have hnb142 := NB303_304.out; have hnc142 := NB304_303.out; have hnb143 := NB303_309.out; have hnc143 := NB309_303.out; have hcz144_0 : wr.cell? ⟨gb303, 0, none⟩ = some (.bool a1_0) := (bc_ BK303.out 0).trans rfl; have hcz144_1 : wr.cell? ⟨gb303, 1, none⟩ = some (.slice A1_1 l1_1.length c1_1) := (bc_ BK303.out 1).trans rfl; have hfz144_0 := bf_ BK303.out 0; have hfz144_1 := bf_ BK303.out 1) | (go_at_call 54; (with_reducible refine (clevisref01_at.calls _ _ l1_1 x11_1 t203 _ ?side1 ?side2 A135.out).mono ?_); (case side1 => repeat (first | exact (cb_ HR1_1.out bw_) | (with_reducible refine ca_ ?_ _) | (with_reducible refine cn_ ?_ _) | (with_reducible refine cd_ ?_))); (case side2 => exact HC1_1.out); rintro e w' ⟨rfl, ⟨nd, rfl⟩⟩; (try first | exact ⟨rfl, _, dd_ _ _ _⟩ | exact ⟨rfl, _, Eq.trans (dd_ _ _ _) (congrArg (World.drewN _) (Nat.add_assoc _ _ _))⟩); have hnb145 := NB309_304.out; have hnc145 := NB304_309.out; have hcz146_0 : wr.cell? ⟨gb309, 0, none⟩ = some (.bool a0_0) := (bc_ BK309.out 0).trans rfl; have hcz146_1 : wr.cell? ⟨gb309, 1, none⟩ = some (u310001) := (bc_ BK309.out 1).trans rfl; have hfz146_0 := bf_ BK309.out 0; have hfz146_1 := bf_ BK309.out 1)); try go_wp2_with (((with_reducible refine gate_builtin (b := .append) (xs := #[.tmp 97, .tmp 99]) rfl ?_); (try (refine gate_guard (by rfl) ?_; dsimp only)); at_builtin; refine Kd.R_append (Kd.int .i64) (w0 := w) w.heap.size rfl (.tmp 97) (.tmp 99) 30 3 (.int .i64 0) 8 rfl Try.underlying30 info3 rfl (by decide) (by omega) u310001 x310001_1 (wrap64 ((wrap64 ((wrap64 (t202 - t203)) - x10_1)) + 65536)) [.int .i64 (wrap64 ((wrap64 ((wrap64 (t202 - t203)) - x10_1)) + 65536))] (fun k_ => (w.heap.size ≤ k_)) (fun _ => False) rfl rfl ?aP (fun _ hk => hk.elim) ?aF ?aO ?aB ?aS ?aL ?_; (case aP => exact rfl); (case aB => exact bw_); (case aF => exact (fun k_ hk => (Nat.le_trans (bz_ bw_) hk))); (case aO => exact (by (with_reducible repeat (first | apply Kd.R_alloc | apply Kd.R_drewN | apply Kd.R_drew)); exact HO_310001.out)); (case aS => exact (bz_ bw_)); (case aL => have := LMc137.out; omega); intro v205 w147 ho hb hg hat; rw [← Ny204.out] at ho; have n0_ := A_ (blk_grown (g := gb302) (o := .cells #[.bool a0_0, .slice A0_1 l0_1.length c0_1] 32 (0, 0)) bk_ hg (Kd.R_ne HO_310001.out BK302.out (by decide))); have n1_ := A_ (blk_grown (g := gb303) (o := .cells #[.bool a1_0, .slice A1_1 l1_1.length c1_1] 32 (0, 0)) bk_ hg (Kd.R_ne HO_310001.out BK303.out (by decide))); have n2_ := A_ (blk_grown (g := gb304) (o := .cells #[.bool false, .slice none 0 0] 32 (0, 0)) bk_ hg (Kd.R_ne HO_310001.out BK304.out (by decide))); have n3_ := A_ (blk_grown (g := gb309) (o := .cells #[.bool a0_0, u310001] 32 (0, 0)) bk_ hg (Kd.R_ne HO_310001.out BK309.out (by decide))); have n4_ := A_ (hb); have n5_ := A_ (ho); clear BK302; clear BK303; clear BK304; clear BK309; clear HB; clear HO_310001; have BK302 := n0_; have BK303 := n1_; have BK304 := n2_; have BK309 := n3_; have HB := n4_; have HO206 := n5_; clear n0_ n1_ n2_ n3_ n4_ n5_; clear ho hb hg hat; obtain ⟨Ao148, co148, eo148⟩ := Kd.R_slice HO206.out; subst eo148; have hcz149_0 : w147.cell? ⟨gb309, 0, none⟩ = some (.bool a0_0) := (bc_ BK309.out 0).trans rfl; have hcz149_1 : w147.cell? ⟨gb309, 1, none⟩ = some (u310001) := (bc_ BK309.out 1).trans rfl; have hfz149_0 := bf_ BK309.out 0; have hfz149_1 := bf_ BK309.out 1)))
        go_roundg k1
        case measure => have := HK1.out; omega
        case rel => exact ⟨(1), (wrap64 (x11_1 + 1)), (y204), (.slice Ao148 y204.length co148), (by first | rfl | (simp; done) | (simp [*]; done)), (by first | rfl | (simp; done) | (simp [*]; done)), H', ⟨by have := HK1.out; omega⟩, ⟨by (with_reducible repeat (first | apply Kd.R_alloc | apply Kd.R_drewN | apply Kd.R_drew)); exact Kd.R_mono (Kd.R_far (p := ⟨gb309, 1, none⟩) (Kd.R_types HO206.out BK309.out (by decide)) (fun _ hk => hk.2) (.slice Ao148 y204.length co148)) (fun _ hk => hk.1)⟩, ⟨bk_⟩, ⟨bk_⟩, ⟨bk_⟩, ⟨by (with_reducible repeat (first | refine bn_ ?_ _ | refine bd_ ?_ | refine ba_ ?_ _)); refine bp_ (cs := #[.bool a0_0, u310001]) ?_ 1 _ rfl; (with_reducible repeat (first | refine bn_ ?_ _ | refine bd_ ?_ | refine ba_ ?_ _)); exact BK309.out⟩, ⟨bw_⟩⟩
       ·
        rw [if_neg c137] at H
        exact absurd H (by simp)
      ·
       rw [if_neg c136] at H
       have c136b0 : decide ((wrap64 ((wrap64 (t202 - t203)) - x10_1)) < 0) = false := decide_eq_false c136
       (try (have c136b1 : decide ((IntKind.i64.wrap ((IntKind.i64.wrap (t202 - t203)) - x10_1)) < 0) = false := by first | exact (decide_eq_false c136) | (simp only [i64_w]; exact (decide_eq_false c136))))
       clear c136
       by_cases c150 : x310001_1.length < 17592186044416
       ·
        rw [if_pos c150] at H
        have LMc150 := A_ c150
        clear c150
        obtain ⟨y207, hy207⟩ : ∃ y_ : List Int, y_ = (x310001_1 ++ [wrap64 ((wrap64 (t202 - t203)) - x10_1)]) := ⟨_, rfl⟩
        replace H : (clevisref01_Add.l102 k1 0 (wrap64 (x11_1 + 1)) a0_0 l0_1 a1_0 l1_1 a0_0 y207) = some (r1, r2) := by first | (rw [hy207]; with_reducible exact H) | (have H2_ := (Option.bind_some _ _).symm.trans H; rw [hy207]; with_reducible exact H2_) | (have H2_ := (Option.bind_some _ _).symm.trans H; with_reducible exact H2_) | with_reducible exact H | (rw [hy207]; exact H) | exact H
        have Ny207 := A_ hy207
        clear hy207
        have H' := A_ H
        clear H
        have hnb151 := NB302_303.out
        have hnc151 := NB303_302.out
        have hnb152 := NB302_304.out
        have hnc152 := NB304_302.out
        have hnb153 := NB302_309.out
        have hnc153 := NB309_302.out
        have hcz154_0 : wr.cell? ⟨gb302, 0, none⟩ = some (.bool a0_0) := (bc_ BK302.out 0).trans rfl
        have hcz154_1 : wr.cell? ⟨gb302, 1, none⟩ = some (.slice A0_1 l0_1.length c0_1) := (bc_ BK302.out 1).trans rfl
        have hfz154_0 := bf_ BK302.out 0
        have hfz154_1 := bf_ BK302.out 1
        go_wp2_with (fail)
        repeat (go_quiet (first | (go_at_call 54; (with_reducible refine (clevisref01_at.calls _ _ l0_1 x11_1 t202 _ ?side1 ?side2 A134.out).mono ?_); (case side1 => repeat (first | exact (cb_ HR0_1.out HB.out) | (with_reducible refine ca_ ?_ _) | (with_reducible refine cn_ ?_ _) | (with_reducible refine cd_ ?_))); (case side2 => exact HC0_1.out); rintro e w' ⟨rfl, ⟨nd, rfl⟩⟩; (try first | exact ⟨rfl, _, dd_ _ _ _⟩ | exact ⟨rfl, _, Eq.trans (dd_ _ _ _) (congrArg (World.drewN _) (Nat.add_assoc _ _ _))⟩); have hnb155 := NB303_304.out; have hnc155 := NB304_303.out; have hnb156 := NB303_309.out; have hnc156 := NB309_303.out; have hcz157_0 : wr.cell? ⟨gb303, 0, none⟩ = some (.bool a1_0) := (bc_ BK303.out 0).trans rfl; have hcz157_1 : wr.cell? ⟨gb303, 1, none⟩ = some (.slice A1_1 l1_1.length c1_1) := (bc_ BK303.out 1).trans rfl; have hfz157_0 := bf_ BK303.out 0; have hfz157_1 := bf_ BK303.out 1) | (go_at_call 54; (with_reducible refine (clevisref01_at.calls _ _ l1_1 x11_1 t203 _ ?side1 ?side2 A135.out).mono ?_); (case side1 => repeat (first | exact (cb_ HR1_1.out bw_) | (with_reducible refine ca_ ?_ _) | (with_reducible refine cn_ ?_ _) | (with_reducible refine cd_ ?_))); (case side2 => exact HC1_1.out); rintro e w' ⟨rfl, ⟨nd, rfl⟩⟩; (try first | exact ⟨rfl, _, dd_ _ _ _⟩ | exact ⟨rfl, _, Eq.trans (dd_ _ _ _) (congrArg (World.drewN _) (Nat.add_assoc _ _ _))⟩); have hnb158 := NB309_304.out; have hnc158 := NB304_309.out; have hcz159_0 : wr.cell? ⟨gb309, 0, none⟩ = some (.bool a0_0) := (bc_ BK309.out 0).trans rfl; have hcz159_1 : wr.cell? ⟨gb309, 1, none⟩ = some (u310001) := (bc_ BK309.out 1).trans rfl; have hfz159_0 := bf_ BK309.out 0; have hfz159_1 := bf_ BK309.out 1)); try go_wp2_with (((with_reducible refine gate_builtin (b := .append) (xs := #[.tmp 97, .tmp 99]) rfl ?_); (try (refine gate_guard (by rfl) ?_; dsimp only)); at_builtin; refine Kd.R_append (Kd.int .i64) (w0 := w) w.heap.size rfl (.tmp 97) (.tmp 99) 30 3 (.int .i64 0) 8 rfl Try.underlying30 info3 rfl (by decide) (by omega) u310001 x310001_1 (wrap64 ((wrap64 (t202 - t203)) - x10_1)) [.int .i64 (wrap64 ((wrap64 (t202 - t203)) - x10_1))] (fun k_ => (w.heap.size ≤ k_)) (fun _ => False) rfl rfl ?aP (fun _ hk => hk.elim) ?aF ?aO ?aB ?aS ?aL ?_; (case aP => exact rfl); (case aB => exact bw_); (case aF => exact (fun k_ hk => (Nat.le_trans (bz_ bw_) hk))); (case aO => exact (by (with_reducible repeat (first | apply Kd.R_alloc | apply Kd.R_drewN | apply Kd.R_drew)); exact HO_310001.out)); (case aS => exact (bz_ bw_)); (case aL => have := LMc150.out; omega); intro v208 w160 ho hb hg hat; rw [← Ny207.out] at ho; have n0_ := A_ (blk_grown (g := gb302) (o := .cells #[.bool a0_0, .slice A0_1 l0_1.length c0_1] 32 (0, 0)) bk_ hg (Kd.R_ne HO_310001.out BK302.out (by decide))); have n1_ := A_ (blk_grown (g := gb303) (o := .cells #[.bool a1_0, .slice A1_1 l1_1.length c1_1] 32 (0, 0)) bk_ hg (Kd.R_ne HO_310001.out BK303.out (by decide))); have n2_ := A_ (blk_grown (g := gb304) (o := .cells #[.bool false, .slice none 0 0] 32 (0, 0)) bk_ hg (Kd.R_ne HO_310001.out BK304.out (by decide))); have n3_ := A_ (blk_grown (g := gb309) (o := .cells #[.bool a0_0, u310001] 32 (0, 0)) bk_ hg (Kd.R_ne HO_310001.out BK309.out (by decide))); have n4_ := A_ (hb); have n5_ := A_ (ho); clear BK302; clear BK303; clear BK304; clear BK309; clear HB; clear HO_310001; have BK302 := n0_; have BK303 := n1_; have BK304 := n2_; have BK309 := n3_; have HB := n4_; have HO209 := n5_; clear n0_ n1_ n2_ n3_ n4_ n5_; clear ho hb hg hat; obtain ⟨Ao161, co161, eo161⟩ := Kd.R_slice HO209.out; subst eo161; have hcz162_0 : w160.cell? ⟨gb309, 0, none⟩ = some (.bool a0_0) := (bc_ BK309.out 0).trans rfl; have hcz162_1 : w160.cell? ⟨gb309, 1, none⟩ = some (u310001) := (bc_ BK309.out 1).trans rfl; have hfz162_0 := bf_ BK309.out 0; have hfz162_1 := bf_ BK309.out 1)))
        go_roundg k1
        case measure => have := HK1.out; omega
        case rel => exact ⟨(0), (wrap64 (x11_1 + 1)), (y207), (.slice Ao161 y207.length co161), (by first | rfl | (simp; done) | (simp [*]; done)), (by first | rfl | (simp; done) | (simp [*]; done)), H', ⟨by have := HK1.out; omega⟩, ⟨by (with_reducible repeat (first | apply Kd.R_alloc | apply Kd.R_drewN | apply Kd.R_drew)); exact Kd.R_mono (Kd.R_far (p := ⟨gb309, 1, none⟩) (Kd.R_types HO209.out BK309.out (by decide)) (fun _ hk => hk.2) (.slice Ao161 y207.length co161)) (fun _ hk => hk.1)⟩, ⟨bk_⟩, ⟨bk_⟩, ⟨bk_⟩, ⟨by (with_reducible repeat (first | refine bn_ ?_ _ | refine bd_ ?_ | refine ba_ ?_ _)); refine bp_ (cs := #[.bool a0_0, u310001]) ?_ 1 _ rfl; (with_reducible repeat (first | refine bn_ ?_ _ | refine bd_ ?_ | refine ba_ ?_ _)); exact BK309.out⟩, ⟨bw_⟩⟩
       ·
        rw [if_neg c150] at H
        exact absurd H (by simp)
     ·
      rw [if_neg c133] at H
      have c133b0 : decide (x11_1 < (l0_1.length : Int)) = false := decide_eq_false c133
      clear c133
      replace H := os_ H
      obtain ⟨⟨t198, t199⟩, A1630, H⟩ := H
      replace H : (some (t198, t199)) = some (r1, r2) := H
      have A163 := A_ A1630
      clear A1630
      simp only [Option.some.injEq, Prod.mk.injEq] at H
      obtain ⟨rfl, rfl⟩ := H
      have hnb164 := NB302_303.out
      have hnc164 := NB303_302.out
      have hnb165 := NB302_304.out
      have hnc165 := NB304_302.out
      have hnb166 := NB302_309.out
      have hnc166 := NB309_302.out
      have hcz167_0 : wr.cell? ⟨gb302, 0, none⟩ = some (.bool a0_0) := (bc_ BK302.out 0).trans rfl
      have hcz167_1 : wr.cell? ⟨gb302, 1, none⟩ = some (.slice A0_1 l0_1.length c0_1) := (bc_ BK302.out 1).trans rfl
      have hfz167_0 := bf_ BK302.out 0
      have hfz167_1 := bf_ BK302.out 1
      have hnb168 := NB309_303.out
      have hnc168 := NB303_309.out
      have hnb169 := NB309_304.out
      have hnc169 := NB304_309.out
      have hcz170_0 : wr.cell? ⟨gb309, 0, none⟩ = some (.bool a0_0) := (bc_ BK309.out 0).trans rfl
      have hcz170_1 : wr.cell? ⟨gb309, 1, none⟩ = some (u310001) := (bc_ BK309.out 1).trans rfl
      have hfz170_0 := bf_ BK309.out 0
      have hfz170_1 := bf_ BK309.out 1
      obtain ⟨Ao171, co171, eo171⟩ := Kd.R_slice HO_310001.out
      subst eo171
      go_wp2_with ((go_at_call 47; (with_reducible refine (clevisref01_clean.calls k1 a0_0 (fun k_ => some k_ = (.slice Ao171 x310001_1.length co171 : Value).ownBlock) _ _ x310001_1 t198 t199 _ ?side1 A163.out).mono ?_); (case side1 => exact Kd.R_V (Kd.R_tight rfl (Kd.R_types (Kd.R_types (Kd.R_types (Kd.R_types (HO_310001.out) BK302.out (by decide)) BK303.out (by decide)) BK304.out (by decide)) BK309.out (by decide)))); rintro e w172 ⟨v200, rfl, ho0, hb⟩; have n0_ := A_ (Kd.R_below (by (with_reducible repeat (first | apply Kd.R_alloc | apply Kd.R_drewN | apply Kd.R_drew)); exact HO_310001.out) hb); have n1_ := A_ (Kd.V_lower (vm_ (ok' := fun k_ => (w.heap.size ≤ k_) ∧ k_ ≠ gb302 ∧ k_ ≠ gb303 ∧ k_ ≠ gb304 ∧ k_ ≠ gb309) ho0 (fun k_ hk_ => ⟨Or.elim hk_ (fun hs_ => ((Kd.R_types (Kd.R_types (Kd.R_types (Kd.R_types (HO_310001.out) BK302.out (by decide)) BK303.out (by decide)) BK304.out (by decide)) BK309.out (by decide)).1 k_ hs_.symm).1.1.1.1) (fun hn_ => (Nat.le_trans (bz_ bw_) hn_)), Or.elim hk_ (fun hs_ => ((Kd.R_types (Kd.R_types (Kd.R_types (Kd.R_types (HO_310001.out) BK302.out (by decide)) BK303.out (by decide)) BK304.out (by decide)) BK309.out (by decide)).1 k_ hs_.symm).1.1.1.2) (fun hn_ => (Kd.freshB (g := gb302) (o := .cells #[.bool a0_0, .slice A0_1 l0_1.length c0_1] 32 (0, 0)) bk_ k_ hn_)), Or.elim hk_ (fun hs_ => ((Kd.R_types (Kd.R_types (Kd.R_types (Kd.R_types (HO_310001.out) BK302.out (by decide)) BK303.out (by decide)) BK304.out (by decide)) BK309.out (by decide)).1 k_ hs_.symm).1.1.2) (fun hn_ => (Kd.freshB (g := gb303) (o := .cells #[.bool a1_0, .slice A1_1 l1_1.length c1_1] 32 (0, 0)) bk_ k_ hn_)), Or.elim hk_ (fun hs_ => ((Kd.R_types (Kd.R_types (Kd.R_types (Kd.R_types (HO_310001.out) BK302.out (by decide)) BK303.out (by decide)) BK304.out (by decide)) BK309.out (by decide)).1 k_ hs_.symm).1.2) (fun hn_ => (Kd.freshB (g := gb304) (o := .cells #[.bool false, .slice none 0 0] 32 (0, 0)) bk_ k_ hn_)), Or.elim hk_ (fun hs_ => ((Kd.R_types (Kd.R_types (Kd.R_types (Kd.R_types (HO_310001.out) BK302.out (by decide)) BK303.out (by decide)) BK304.out (by decide)) BK309.out (by decide)).1 k_ hs_.symm).2) (fun hn_ => (Kd.freshB (g := gb309) (o := .cells #[.bool a0_0, .slice Ao171 x310001_1.length co171] 32 (0, 0)) bk_ k_ hn_))⟩)) (bz_ bw_)); have n2_ := A_ (kb_ BK302 hb); have n3_ := A_ (kb_ BK303 hb); have n4_ := A_ (kb_ BK304 hb); have n5_ := A_ (kb_ BK309 hb); have n6_ := A_ (bs_ bw_ hb); clear HO_310001; clear BK302; clear BK303; clear BK304; clear BK309; clear HB; have HO_310001 := n0_; have HO201 := n1_; have BK302 := n2_; have BK303 := n3_; have BK304 := n4_; have BK309 := n5_; have HB := n6_; clear n0_ n1_ n2_ n3_ n4_ n5_ n6_; (try clear hb); (try clear hb2); (try clear hk); (try clear hi); (try clear ho0); have hnb173 := NB304_303.out; have hnc173 := NB303_304.out; have hcz174_0 : w172.cell? ⟨gb304, 0, none⟩ = some (.bool false) := (bc_ BK304.out 0).trans rfl; have hcz174_1 : w172.cell? ⟨gb304, 1, none⟩ = some (.slice none 0 0) := (bc_ BK304.out 1).trans rfl; have hfz174_0 := bf_ BK304.out 0; have hfz174_1 := bf_ BK304.out 1; obtain ⟨Ao175, co175, eo175⟩ := Kd.V_slice HO201.out; subst eo175))
      refine bodyPost_ret (results_cell_row rfl _ _ gb304 32 #[.bool t198, .slice Ao175 t199.length co175] (0, 0) _ rfl (by (with_reducible repeat (first | refine bn_ ?_ _ | refine bd_ ?_ | refine ba_ ?_ _)); refine bp_ (cs := #[.bool t198, .slice none 0 0]) ?_ 1 _ rfl; (with_reducible repeat (first | refine bn_ ?_ _ | refine bd_ ?_ | refine ba_ ?_ _)); refine bp_ (cs := #[.bool false, .slice none 0 0]) ?_ 0 _ rfl; (with_reducible repeat (first | refine bn_ ?_ _ | refine bd_ ?_ | refine ba_ ?_ _)); exact BK304.out) Try.underlying32 rfl (by kernel_rfl)) rfl ?_
      exact ⟨_, by first | rfl | (simp [errW_none, errW_some] <;> rfl) | (simp [*, errW_none, errW_some] <;> rfl), by (with_reducible repeat (first | apply va_ | apply vn_ | apply vd_)); exact vm_ (Kd.V_far (p := ⟨gb304, 1, none⟩) (Kd.V_far (p := ⟨gb304, 0, none⟩) (vm_ HO201.out (fun k_ hk => (⟨hk, hk.2.2.2.1⟩ : _ ∧ k_ ≠ gb304))) (fun _ hk => hk.2) (.bool t198)) (fun _ hk => hk.2) (.slice Ao175 t199.length co175)) (fun _ hk => hk.1.1), bw_⟩
end Go.Proofs.Ytjbcigiffihjaaa.Fx
end
section
namespace Go.Proofs.Ytjbcigiffihjaaa.Fx
open Go.RowKit Go.Proofs.YtjbcigiffihjaaaW.PrintWords Go.Proofs.YtjbcigiffihjaaaW.PrintLast Go.Proofs.YtjbcigiffihjaaaW.PrintMore
attribute [local go_sem] max2_int min2_int max_two min_two max_three min_three max_four min_four   -- for this text's walks alone
set_option linter.unusedVariables false
set_option linter.unusedSimpArgs false
attribute [local go_sem] run_add64_any
def clevisref01_Neg.f (k : Nat) (a0_0 : Bool) (l0_1 : List Int) : Option (Bool × List Int) := if a0_0 = true then ((clevisref01_clean.f k false l0_1).bind fun bt210 => (some (bt210.1, bt210.2))) else ((clevisref01_clean.f k true l0_1).bind fun bt214 => (some (bt214.1, bt214.2)))
set_option maxHeartbeats 8000000 in
set_option maxRecDepth 100000 in
theorem clevisref01_Neg.calls (k : Nat) (a0_0 : Bool) (P0_1_ : Nat → Prop) (A0_1 : Option Addr) (c0_1 : Nat) (l0_1 : List Int) (r1 : Bool) (r2 : List Int) (w : World) (hs0_1 : Kd.V (Kd.int .i64) 3 w w.heap.size (fun k_ => P0_1_ k_) (.slice A0_1 l0_1.length c0_1) l0_1) (h : clevisref01_Neg.f k a0_0 l0_1 = some (r1, r2)) :
  Calls Try.prog 22 #[.agg #[.bool a0_0, .slice A0_1 l0_1.length c0_1]] w fun e w' => ∃ v1_ : Value, e = .returned (.agg #[.bool r1, v1_]) ∧ Kd.V (Kd.int .i64) 3 w' w.heap.size (fun k_ => (P0_1_ k_ ∨ w.heap.size ≤ k_)) v1_ r2 ∧ Below w.heap.size w w' := by
 have hu32 := Try.underlying32
 have HO0_1 := A_ (show Kd.V (Kd.int .i64) 3 w w.heap.size (fun k_ => (P0_1_ k_ ∨ w.heap.size ≤ k_)) (.slice A0_1 l0_1.length c0_1) l0_1 from vm_ hs0_1 (fun k_ hk => .inl hk))
 have HB := A_ (Below.refl w.heap.size w)
 have H : (if a0_0 = true then ((clevisref01_clean.f k false l0_1).bind fun bt210 => (some (bt210.1, bt210.2))) else ((clevisref01_clean.f k true l0_1).bind fun bt214 => (some (bt214.1, bt214.2)))) = some (r1, r2) := h
 clear h
 by_cases c2 : a0_0 = true
 ·
  subst c2
  have H1 : ((clevisref01_clean.f k false l0_1).bind fun bt210 => (some (bt210.1, bt210.2))) = some (r1, r2) := by rw [if_pos rfl] at H; exact H
  clear H
  have H := H1
  clear H1
  replace H := os_ H
  obtain ⟨⟨t210, t211⟩, A30, H⟩ := H
  replace H : (some (t210, t211)) = some (r1, r2) := H
  have A3 := A_ A30
  clear A30
  simp only [Option.some.injEq, Prod.mk.injEq] at H
  obtain ⟨rfl, rfl⟩ := H
  go_enter Try.func22, Try.ntmps22
  go_wp2_with (first | ((with_reducible refine gate_dst (N := 1) rfl ?_); refine box_event ?hg (N := 1) ?hd (cs := #[.bool true, .slice A0_1 l0_1.length c0_1]) (t := 32) ?hr ?_; (case hd => rfl); (case hg => rfl); (case hr => first | (go_simp; done) | (go_simp; rfl)); intro gb301 hg w4 hbox hb; have n0_ := A_ (Kd.V_below (Kd.V_elderB (by (with_reducible repeat (first | apply va_ | apply vn_ | apply vd_)); exact HO0_1.out) gb301 (Nat.le_of_eq hg.symm)) hb); have n1_ := A_ (bs_ bw_ hb); have n2_ := A_ (hbox); have n3_ := A_ ((by rw [hg]; exact (bz_ bw_) : w.heap.size ≤ gb301)); have n4_ := A_ ((by rw [hg]; exact (bz_ bw_) : w.heap.size ≤ gb301)); clear HO0_1; clear HB; have HO0_1 := n0_; have HB := n1_; have BK301 := n2_; have GW301 := n3_; have GE301 := n4_; clear n0_ n1_ n2_ n3_ n4_; clear hb hbox hg) | ((with_reducible refine gate_dst (N := 2) rfl ?_); refine box_event ?hg (N := 2) ?hd (cs := #[.bool false, .slice none 0 0]) (t := 32) ?hr ?_; (case hd => rfl); (case hg => rfl); (case hr => first | (go_simp; done) | (go_simp; rfl)); intro gb302 hg w5 hbox hb; have n0_ := A_ (Kd.V_below (Kd.V_elderB (by (with_reducible repeat (first | apply va_ | apply vn_ | apply vd_)); exact HO0_1.out) gb302 (Nat.le_of_eq hg.symm)) hb); have n1_ := A_ (kb_ BK301 hb); have n2_ := A_ (bs_ bw_ hb); have n3_ := A_ (hbox); have n4_ := A_ ((by rw [hg]; exact (bz_ bw_) : w.heap.size ≤ gb302)); have n5_ := A_ ((by rw [hg]; exact (bz_ bw_) : w.heap.size ≤ gb302)); have n6_ := A_ ((by rw [hg]; exact nl_ (lt_ BK301) : gb301 ≠ gb302)); have n7_ := A_ ((by rw [hg]; exact ng_ (lt_ BK301) : gb302 ≠ gb301)); clear HO0_1; clear BK301; clear HB; have HO0_1 := n0_; have BK301 := n1_; have HB := n2_; have BK302 := n3_; have GW302 := n4_; have GE302 := n5_; have NB301_302 := n6_; have NB302_301 := n7_; clear n0_ n1_ n2_ n3_ n4_ n5_ n6_ n7_; clear hb hbox hg; have hnb6 := NB301_302.out; have hnc6 := NB302_301.out; have hcz7_0 : w5.cell? ⟨gb301, 0, none⟩ = some (.bool true) := (bc_ BK301.out 0).trans rfl; have hcz7_1 : w5.cell? ⟨gb301, 1, none⟩ = some (.slice A0_1 l0_1.length c0_1) := (bc_ BK301.out 1).trans rfl; have hfz7_0 := bf_ BK301.out 0; have hfz7_1 := bf_ BK301.out 1) | ((with_reducible refine gate_store (t := 4) (p := 6) rfl ?_); (first | (refine store_event (t := 4) (p := 6) (v := ?vo_w8) (w1 := (w5.setCell ⟨gb301, 0, none⟩ (.bool false))) ?hg ?ho ?hn ?hr ?_; (case ho => rfl); (case hg => rfl); (case hn => rfl); (case hr => first | (go_simp; done) | (go_simp; rfl)); intro w8 hw) | (refine store_event (t := 4) (p := 6) (v := ?vo_w8) (w1 := ((w5.drewN ?ndq_w8).setCell ⟨gb301, 0, none⟩ (.bool false))) ?hg ?ho ?hn ?hr ?_; (case ho => rfl); (case hg => rfl); (case hn => rfl); (case hr => first | (go_simp; done) | (go_simp; rfl)); intro w8 hw; rw [sd_eq] at hw)); have n0_ : Aside0 (Kd.V (Kd.int .i64) 3 w8 w.heap.size (fun k_ => (P0_1_ k_ ∨ w.heap.size ≤ k_) ∧ k_ ≠ gb301 ∧ k_ ≠ gb302) (.slice A0_1 l0_1.length c0_1) l0_1) := ⟨(by rw [hw]; first | (with_reducible exact (by (with_reducible repeat (first | apply va_ | apply vn_ | apply vd_)); exact vm_ (Kd.V_far (p := ⟨gb301, 0, none⟩) (vm_ HO0_1.out (fun k_ hk => (⟨hk, hk.1.2⟩ : _ ∧ k_ ≠ gb301))) (fun _ hk => hk.2) (.bool false)) (fun _ hk => ⟨hk.1.1.1, ⟨hk.1.1.2, hk.1.2⟩⟩))) | (exact grown_dn ((by (with_reducible repeat (first | apply va_ | apply vn_ | apply vd_)); exact vm_ (Kd.V_far (p := ⟨gb301, 0, none⟩) (vm_ HO0_1.out (fun k_ hk => (⟨hk, hk.1.2⟩ : _ ∧ k_ ≠ gb301))) (fun _ hk => hk.2) (.bool false)) (fun _ hk => ⟨hk.1.1.1, ⟨hk.1.1.2, hk.1.2⟩⟩))) _) | (exact pn_ ((by (with_reducible repeat (first | apply va_ | apply vn_ | apply vd_)); exact vm_ (Kd.V_far (p := ⟨gb301, 0, none⟩) (vm_ HO0_1.out (fun k_ hk => (⟨hk, hk.1.2⟩ : _ ∧ k_ ≠ gb301))) (fun _ hk => hk.2) (.bool false)) (fun _ hk => ⟨hk.1.1.1, ⟨hk.1.1.2, hk.1.2⟩⟩))) _) | (exact Kd.R_drewN ((by (with_reducible repeat (first | apply va_ | apply vn_ | apply vd_)); exact vm_ (Kd.V_far (p := ⟨gb301, 0, none⟩) (vm_ HO0_1.out (fun k_ hk => (⟨hk, hk.1.2⟩ : _ ∧ k_ ≠ gb301))) (fun _ hk => hk.2) (.bool false)) (fun _ hk => ⟨hk.1.1.1, ⟨hk.1.1.2, hk.1.2⟩⟩))) _) | exact (by (with_reducible repeat (first | apply va_ | apply vn_ | apply vd_)); exact vm_ (Kd.V_far (p := ⟨gb301, 0, none⟩) (vm_ HO0_1.out (fun k_ hk => (⟨hk, hk.1.2⟩ : _ ∧ k_ ≠ gb301))) (fun _ hk => hk.2) (.bool false)) (fun _ hk => ⟨hk.1.1.1, ⟨hk.1.1.2, hk.1.2⟩⟩)))⟩; have n1_ : Aside0 (w8.heap[gb301]? = some (.cells #[.bool false, .slice A0_1 l0_1.length c0_1] 32 (0, 0))) := ⟨(by rw [hw]; first | (with_reducible exact (by (with_reducible repeat (first | refine bn_ ?_ _ | refine bd_ ?_ | refine ba_ ?_ _)); refine bp_ (cs := #[.bool true, .slice A0_1 l0_1.length c0_1]) ?_ 0 _ rfl; (with_reducible repeat (first | refine bn_ ?_ _ | refine bd_ ?_ | refine ba_ ?_ _)); exact BK301.out)) | (exact grown_dn ((by (with_reducible repeat (first | refine bn_ ?_ _ | refine bd_ ?_ | refine ba_ ?_ _)); refine bp_ (cs := #[.bool true, .slice A0_1 l0_1.length c0_1]) ?_ 0 _ rfl; (with_reducible repeat (first | refine bn_ ?_ _ | refine bd_ ?_ | refine ba_ ?_ _)); exact BK301.out)) _) | (exact pn_ ((by (with_reducible repeat (first | refine bn_ ?_ _ | refine bd_ ?_ | refine ba_ ?_ _)); refine bp_ (cs := #[.bool true, .slice A0_1 l0_1.length c0_1]) ?_ 0 _ rfl; (with_reducible repeat (first | refine bn_ ?_ _ | refine bd_ ?_ | refine ba_ ?_ _)); exact BK301.out)) _) | (exact Kd.R_drewN ((by (with_reducible repeat (first | refine bn_ ?_ _ | refine bd_ ?_ | refine ba_ ?_ _)); refine bp_ (cs := #[.bool true, .slice A0_1 l0_1.length c0_1]) ?_ 0 _ rfl; (with_reducible repeat (first | refine bn_ ?_ _ | refine bd_ ?_ | refine ba_ ?_ _)); exact BK301.out)) _) | exact (by (with_reducible repeat (first | refine bn_ ?_ _ | refine bd_ ?_ | refine ba_ ?_ _)); refine bp_ (cs := #[.bool true, .slice A0_1 l0_1.length c0_1]) ?_ 0 _ rfl; (with_reducible repeat (first | refine bn_ ?_ _ | refine bd_ ?_ | refine ba_ ?_ _)); exact BK301.out))⟩; have n2_ : Aside0 (w8.heap[gb302]? = some (.cells #[.bool false, .slice none 0 0] 32 (0, 0))) := ⟨(by rw [hw]; first | (with_reducible exact bk_) | (exact grown_dn (bk_) _) | (exact pn_ (bk_) _) | (exact Kd.R_drewN (bk_) _) | exact bk_)⟩; have n3_ : Aside0 (Below w.heap.size w w8) := ⟨(by rw [hw]; first | (with_reducible exact bw_) | (exact grown_dn (bw_) _) | (exact pn_ (bw_) _) | (exact Kd.R_drewN (bw_) _) | exact bw_)⟩; clear hw; clear HO0_1; clear BK301; clear BK302; clear HB; have HO0_1 := n0_; have BK301 := n1_; have BK302 := n2_; have HB := n3_; clear n0_ n1_ n2_ n3_; have hcz9_0 : w8.cell? ⟨gb301, 0, none⟩ = some (.bool false) := (bc_ BK301.out 0).trans rfl; have hcz9_1 : w8.cell? ⟨gb301, 1, none⟩ = some (.slice A0_1 l0_1.length c0_1) := (bc_ BK301.out 1).trans rfl; have hfz9_0 := bf_ BK301.out 0; have hfz9_1 := bf_ BK301.out 1) | ((with_reducible refine gate_callee (f := 47) rfl ?_); refine goesL_ (some 8) rfl rfl Try.func47 (by kernel_rfl) rfl #[.agg #[.bool false, .slice A0_1 l0_1.length c0_1]] rfl (by (try simp only [List.map_toArray, List.map_cons, List.map_nil]); first | done | rfl | (simp only [List.length_drop, List.length_take]; rfl)) ?_; (with_reducible refine (clevisref01_clean.calls k false (fun k_ => ((P0_1_ k_ ∨ w.heap.size ≤ k_) ∧ (k_ ≠ gb301 ∧ k_ ≠ gb302))) _ _ l0_1 t210 t211 _ ?side1 A3.out).mono ?_); (case side1 => exact HO0_1.out); rintro e w10 ⟨v212, rfl, ho0, hb⟩; refine ⟨_, rfl, ?_⟩; have n0_ := A_ (Kd.V_below (by (with_reducible repeat (first | apply va_ | apply vn_ | apply vd_)); exact HO0_1.out) hb); have n1_ := A_ (Kd.V_lower (vm_ (ok' := fun k_ => (P0_1_ k_ ∨ w.heap.size ≤ k_) ∧ k_ ≠ gb301 ∧ k_ ≠ gb302) ho0 (fun k_ hk_ => ⟨Or.elim hk_ (fun hs_ => hs_.1) (fun hn_ => (.inr (Nat.le_trans (bz_ bw_) hn_))), Or.elim hk_ (fun hs_ => hs_.2.1) (fun hn_ => (Kd.freshB (g := gb301) (o := .cells #[.bool false, .slice A0_1 l0_1.length c0_1] 32 (0, 0)) bk_ k_ hn_)), Or.elim hk_ (fun hs_ => hs_.2.2) (fun hn_ => (Kd.freshB (g := gb302) (o := .cells #[.bool false, .slice none 0 0] 32 (0, 0)) bk_ k_ hn_))⟩)) (bz_ bw_)); have n2_ := A_ (kb_ BK301 hb); have n3_ := A_ (kb_ BK302 hb); have n4_ := A_ (bs_ bw_ hb); clear HO0_1; clear BK301; clear BK302; clear HB; have HO0_1 := n0_; have HO213 := n1_; have BK301 := n2_; have BK302 := n3_; have HB := n4_; clear n0_ n1_ n2_ n3_ n4_; (try clear hb); (try clear hb2); (try clear hk); (try clear hi); (try clear ho0); have hcz11_0 : w10.cell? ⟨gb302, 0, none⟩ = some (.bool false) := (bc_ BK302.out 0).trans rfl; have hcz11_1 : w10.cell? ⟨gb302, 1, none⟩ = some (.slice none 0 0) := (bc_ BK302.out 1).trans rfl; have hfz11_0 := bf_ BK302.out 0; have hfz11_1 := bf_ BK302.out 1; obtain ⟨Ao12, co12, eo12⟩ := Kd.V_slice HO213.out; subst eo12))
  refine bodyPost_ret (results_cell_row rfl _ _ gb302 32 #[.bool t210, .slice Ao12 t211.length co12] (0, 0) _ rfl (by (with_reducible repeat (first | refine bn_ ?_ _ | refine bd_ ?_ | refine ba_ ?_ _)); refine bp_ (cs := #[.bool t210, .slice none 0 0]) ?_ 1 _ rfl; (with_reducible repeat (first | refine bn_ ?_ _ | refine bd_ ?_ | refine ba_ ?_ _)); refine bp_ (cs := #[.bool false, .slice none 0 0]) ?_ 0 _ rfl; (with_reducible repeat (first | refine bn_ ?_ _ | refine bd_ ?_ | refine ba_ ?_ _)); exact BK302.out) Try.underlying32 rfl (by kernel_rfl)) rfl ?_
  exact ⟨_, by first | rfl | (simp [errW_none, errW_some] <;> rfl) | (simp [*, errW_none, errW_some] <;> rfl), by (with_reducible repeat (first | apply va_ | apply vn_ | apply vd_)); exact vm_ (Kd.V_far (p := ⟨gb302, 1, none⟩) (Kd.V_far (p := ⟨gb302, 0, none⟩) (vm_ HO213.out (fun k_ hk => (⟨hk, hk.2.2⟩ : _ ∧ k_ ≠ gb302))) (fun _ hk => hk.2) (.bool t210)) (fun _ hk => hk.2) (.slice Ao12 t211.length co12)) (fun _ hk => hk.1.1), bw_⟩
 ·
  replace c2 := Bool.eq_false_iff.mpr c2
  subst c2
  have H1 : ((clevisref01_clean.f k true l0_1).bind fun bt214 => (some (bt214.1, bt214.2))) = some (r1, r2) := by rw [if_neg (show ¬ (false = true) by decide)] at H; exact H
  clear H
  have H := H1
  clear H1
  replace H := os_ H
  obtain ⟨⟨t214, t215⟩, A130, H⟩ := H
  replace H : (some (t214, t215)) = some (r1, r2) := H
  have A13 := A_ A130
  clear A130
  simp only [Option.some.injEq, Prod.mk.injEq] at H
  obtain ⟨rfl, rfl⟩ := H
  go_enter Try.func22, Try.ntmps22
  go_wp2_with (first | ((with_reducible refine gate_dst (N := 1) rfl ?_); refine box_event ?hg (N := 1) ?hd (cs := #[.bool false, .slice A0_1 l0_1.length c0_1]) (t := 32) ?hr ?_; (case hd => rfl); (case hg => rfl); (case hr => first | (go_simp; done) | (go_simp; rfl)); intro gb301 hg w14 hbox hb; have n0_ := A_ (Kd.V_below (Kd.V_elderB (by (with_reducible repeat (first | apply va_ | apply vn_ | apply vd_)); exact HO0_1.out) gb301 (Nat.le_of_eq hg.symm)) hb); have n1_ := A_ (bs_ bw_ hb); have n2_ := A_ (hbox); have n3_ := A_ ((by rw [hg]; exact (bz_ bw_) : w.heap.size ≤ gb301)); have n4_ := A_ ((by rw [hg]; exact (bz_ bw_) : w.heap.size ≤ gb301)); clear HO0_1; clear HB; have HO0_1 := n0_; have HB := n1_; have BK301 := n2_; have GW301 := n3_; have GE301 := n4_; clear n0_ n1_ n2_ n3_ n4_; clear hb hbox hg) | ((with_reducible refine gate_dst (N := 2) rfl ?_); refine box_event ?hg (N := 2) ?hd (cs := #[.bool false, .slice none 0 0]) (t := 32) ?hr ?_; (case hd => rfl); (case hg => rfl); (case hr => first | (go_simp; done) | (go_simp; rfl)); intro gb302 hg w15 hbox hb; have n0_ := A_ (Kd.V_below (Kd.V_elderB (by (with_reducible repeat (first | apply va_ | apply vn_ | apply vd_)); exact HO0_1.out) gb302 (Nat.le_of_eq hg.symm)) hb); have n1_ := A_ (kb_ BK301 hb); have n2_ := A_ (bs_ bw_ hb); have n3_ := A_ (hbox); have n4_ := A_ ((by rw [hg]; exact (bz_ bw_) : w.heap.size ≤ gb302)); have n5_ := A_ ((by rw [hg]; exact (bz_ bw_) : w.heap.size ≤ gb302)); have n6_ := A_ ((by rw [hg]; exact nl_ (lt_ BK301) : gb301 ≠ gb302)); have n7_ := A_ ((by rw [hg]; exact ng_ (lt_ BK301) : gb302 ≠ gb301)); clear HO0_1; clear BK301; clear HB; have HO0_1 := n0_; have BK301 := n1_; have HB := n2_; have BK302 := n3_; have GW302 := n4_; have GE302 := n5_; have NB301_302 := n6_; have NB302_301 := n7_; clear n0_ n1_ n2_ n3_ n4_ n5_ n6_ n7_; clear hb hbox hg; have hnb16 := NB301_302.out; have hnc16 := NB302_301.out; have hcz17_0 : w15.cell? ⟨gb301, 0, none⟩ = some (.bool false) := (bc_ BK301.out 0).trans rfl; have hcz17_1 : w15.cell? ⟨gb301, 1, none⟩ = some (.slice A0_1 l0_1.length c0_1) := (bc_ BK301.out 1).trans rfl; have hfz17_0 := bf_ BK301.out 0; have hfz17_1 := bf_ BK301.out 1) | ((with_reducible refine gate_store (t := 4) (p := 6) rfl ?_); (first | (refine store_event (t := 4) (p := 6) (v := ?vo_w18) (w1 := (w15.setCell ⟨gb301, 0, none⟩ (.bool true))) ?hg ?ho ?hn ?hr ?_; (case ho => rfl); (case hg => rfl); (case hn => rfl); (case hr => first | (go_simp; done) | (go_simp; rfl)); intro w18 hw) | (refine store_event (t := 4) (p := 6) (v := ?vo_w18) (w1 := ((w15.drewN ?ndq_w18).setCell ⟨gb301, 0, none⟩ (.bool true))) ?hg ?ho ?hn ?hr ?_; (case ho => rfl); (case hg => rfl); (case hn => rfl); (case hr => first | (go_simp; done) | (go_simp; rfl)); intro w18 hw; rw [sd_eq] at hw)); have n0_ : Aside0 (Kd.V (Kd.int .i64) 3 w18 w.heap.size (fun k_ => (P0_1_ k_ ∨ w.heap.size ≤ k_) ∧ k_ ≠ gb301 ∧ k_ ≠ gb302) (.slice A0_1 l0_1.length c0_1) l0_1) := ⟨(by rw [hw]; first | (with_reducible exact (by (with_reducible repeat (first | apply va_ | apply vn_ | apply vd_)); exact vm_ (Kd.V_far (p := ⟨gb301, 0, none⟩) (vm_ HO0_1.out (fun k_ hk => (⟨hk, hk.1.2⟩ : _ ∧ k_ ≠ gb301))) (fun _ hk => hk.2) (.bool true)) (fun _ hk => ⟨hk.1.1.1, ⟨hk.1.1.2, hk.1.2⟩⟩))) | (exact grown_dn ((by (with_reducible repeat (first | apply va_ | apply vn_ | apply vd_)); exact vm_ (Kd.V_far (p := ⟨gb301, 0, none⟩) (vm_ HO0_1.out (fun k_ hk => (⟨hk, hk.1.2⟩ : _ ∧ k_ ≠ gb301))) (fun _ hk => hk.2) (.bool true)) (fun _ hk => ⟨hk.1.1.1, ⟨hk.1.1.2, hk.1.2⟩⟩))) _) | (exact pn_ ((by (with_reducible repeat (first | apply va_ | apply vn_ | apply vd_)); exact vm_ (Kd.V_far (p := ⟨gb301, 0, none⟩) (vm_ HO0_1.out (fun k_ hk => (⟨hk, hk.1.2⟩ : _ ∧ k_ ≠ gb301))) (fun _ hk => hk.2) (.bool true)) (fun _ hk => ⟨hk.1.1.1, ⟨hk.1.1.2, hk.1.2⟩⟩))) _) | (exact Kd.R_drewN ((by (with_reducible repeat (first | apply va_ | apply vn_ | apply vd_)); exact vm_ (Kd.V_far (p := ⟨gb301, 0, none⟩) (vm_ HO0_1.out (fun k_ hk => (⟨hk, hk.1.2⟩ : _ ∧ k_ ≠ gb301))) (fun _ hk => hk.2) (.bool true)) (fun _ hk => ⟨hk.1.1.1, ⟨hk.1.1.2, hk.1.2⟩⟩))) _) | exact (by (with_reducible repeat (first | apply va_ | apply vn_ | apply vd_)); exact vm_ (Kd.V_far (p := ⟨gb301, 0, none⟩) (vm_ HO0_1.out (fun k_ hk => (⟨hk, hk.1.2⟩ : _ ∧ k_ ≠ gb301))) (fun _ hk => hk.2) (.bool true)) (fun _ hk => ⟨hk.1.1.1, ⟨hk.1.1.2, hk.1.2⟩⟩)))⟩; have n1_ : Aside0 (w18.heap[gb301]? = some (.cells #[.bool true, .slice A0_1 l0_1.length c0_1] 32 (0, 0))) := ⟨(by rw [hw]; first | (with_reducible exact (by (with_reducible repeat (first | refine bn_ ?_ _ | refine bd_ ?_ | refine ba_ ?_ _)); refine bp_ (cs := #[.bool false, .slice A0_1 l0_1.length c0_1]) ?_ 0 _ rfl; (with_reducible repeat (first | refine bn_ ?_ _ | refine bd_ ?_ | refine ba_ ?_ _)); exact BK301.out)) | (exact grown_dn ((by (with_reducible repeat (first | refine bn_ ?_ _ | refine bd_ ?_ | refine ba_ ?_ _)); refine bp_ (cs := #[.bool false, .slice A0_1 l0_1.length c0_1]) ?_ 0 _ rfl; (with_reducible repeat (first | refine bn_ ?_ _ | refine bd_ ?_ | refine ba_ ?_ _)); exact BK301.out)) _) | (exact pn_ ((by (with_reducible repeat (first | refine bn_ ?_ _ | refine bd_ ?_ | refine ba_ ?_ _)); refine bp_ (cs := #[.bool false, .slice A0_1 l0_1.length c0_1]) ?_ 0 _ rfl; (with_reducible repeat (first | refine bn_ ?_ _ | refine bd_ ?_ | refine ba_ ?_ _)); exact BK301.out)) _) | (exact Kd.R_drewN ((by (with_reducible repeat (first | refine bn_ ?_ _ | refine bd_ ?_ | refine ba_ ?_ _)); refine bp_ (cs := #[.bool false, .slice A0_1 l0_1.length c0_1]) ?_ 0 _ rfl; (with_reducible repeat (first | refine bn_ ?_ _ | refine bd_ ?_ | refine ba_ ?_ _)); exact BK301.out)) _) | exact (by (with_reducible repeat (first | refine bn_ ?_ _ | refine bd_ ?_ | refine ba_ ?_ _)); refine bp_ (cs := #[.bool false, .slice A0_1 l0_1.length c0_1]) ?_ 0 _ rfl; (with_reducible repeat (first | refine bn_ ?_ _ | refine bd_ ?_ | refine ba_ ?_ _)); exact BK301.out))⟩; have n2_ : Aside0 (w18.heap[gb302]? = some (.cells #[.bool false, .slice none 0 0] 32 (0, 0))) := ⟨(by rw [hw]; first | (with_reducible exact bk_) | (exact grown_dn (bk_) _) | (exact pn_ (bk_) _) | (exact Kd.R_drewN (bk_) _) | exact bk_)⟩; have n3_ : Aside0 (Below w.heap.size w w18) := ⟨(by rw [hw]; first | (with_reducible exact bw_) | (exact grown_dn (bw_) _) | (exact pn_ (bw_) _) | (exact Kd.R_drewN (bw_) _) | exact bw_)⟩; clear hw; clear HO0_1; clear BK301; clear BK302; clear HB; have HO0_1 := n0_; have BK301 := n1_; have BK302 := n2_; have HB := n3_; clear n0_ n1_ n2_ n3_; have hcz19_0 : w18.cell? ⟨gb301, 0, none⟩ = some (.bool true) := (bc_ BK301.out 0).trans rfl; have hcz19_1 : w18.cell? ⟨gb301, 1, none⟩ = some (.slice A0_1 l0_1.length c0_1) := (bc_ BK301.out 1).trans rfl; have hfz19_0 := bf_ BK301.out 0; have hfz19_1 := bf_ BK301.out 1) | ((with_reducible refine gate_callee (f := 47) rfl ?_); refine goesL_ (some 8) rfl rfl Try.func47 (by kernel_rfl) rfl #[.agg #[.bool true, .slice A0_1 l0_1.length c0_1]] rfl (by (try simp only [List.map_toArray, List.map_cons, List.map_nil]); first | done | rfl | (simp only [List.length_drop, List.length_take]; rfl)) ?_; (with_reducible refine (clevisref01_clean.calls k true (fun k_ => ((P0_1_ k_ ∨ w.heap.size ≤ k_) ∧ (k_ ≠ gb301 ∧ k_ ≠ gb302))) _ _ l0_1 t214 t215 _ ?side1 A13.out).mono ?_); (case side1 => exact HO0_1.out); rintro e w20 ⟨v216, rfl, ho0, hb⟩; refine ⟨_, rfl, ?_⟩; have n0_ := A_ (Kd.V_below (by (with_reducible repeat (first | apply va_ | apply vn_ | apply vd_)); exact HO0_1.out) hb); have n1_ := A_ (Kd.V_lower (vm_ (ok' := fun k_ => (P0_1_ k_ ∨ w.heap.size ≤ k_) ∧ k_ ≠ gb301 ∧ k_ ≠ gb302) ho0 (fun k_ hk_ => ⟨Or.elim hk_ (fun hs_ => hs_.1) (fun hn_ => (.inr (Nat.le_trans (bz_ bw_) hn_))), Or.elim hk_ (fun hs_ => hs_.2.1) (fun hn_ => (Kd.freshB (g := gb301) (o := .cells #[.bool true, .slice A0_1 l0_1.length c0_1] 32 (0, 0)) bk_ k_ hn_)), Or.elim hk_ (fun hs_ => hs_.2.2) (fun hn_ => (Kd.freshB (g := gb302) (o := .cells #[.bool false, .slice none 0 0] 32 (0, 0)) bk_ k_ hn_))⟩)) (bz_ bw_)); have n2_ := A_ (kb_ BK301 hb); have n3_ := A_ (kb_ BK302 hb); have n4_ := A_ (bs_ bw_ hb); clear HO0_1; clear BK301; clear BK302; clear HB; have HO0_1 := n0_; have HO217 := n1_; have BK301 := n2_; have BK302 := n3_; have HB := n4_; clear n0_ n1_ n2_ n3_ n4_; (try clear hb); (try clear hb2); (try clear hk); (try clear hi); (try clear ho0); have hcz21_0 : w20.cell? ⟨gb302, 0, none⟩ = some (.bool false) := (bc_ BK302.out 0).trans rfl; have hcz21_1 : w20.cell? ⟨gb302, 1, none⟩ = some (.slice none 0 0) := (bc_ BK302.out 1).trans rfl; have hfz21_0 := bf_ BK302.out 0; have hfz21_1 := bf_ BK302.out 1; obtain ⟨Ao22, co22, eo22⟩ := Kd.V_slice HO217.out; subst eo22))
  refine bodyPost_ret (results_cell_row rfl _ _ gb302 32 #[.bool t214, .slice Ao22 t215.length co22] (0, 0) _ rfl (by (with_reducible repeat (first | refine bn_ ?_ _ | refine bd_ ?_ | refine ba_ ?_ _)); refine bp_ (cs := #[.bool t214, .slice none 0 0]) ?_ 1 _ rfl; (with_reducible repeat (first | refine bn_ ?_ _ | refine bd_ ?_ | refine ba_ ?_ _)); refine bp_ (cs := #[.bool false, .slice none 0 0]) ?_ 0 _ rfl; (with_reducible repeat (first | refine bn_ ?_ _ | refine bd_ ?_ | refine ba_ ?_ _)); exact BK302.out) Try.underlying32 rfl (by kernel_rfl)) rfl ?_
  exact ⟨_, by first | rfl | (simp [errW_none, errW_some] <;> rfl) | (simp [*, errW_none, errW_some] <;> rfl), by (with_reducible repeat (first | apply va_ | apply vn_ | apply vd_)); exact vm_ (Kd.V_far (p := ⟨gb302, 1, none⟩) (Kd.V_far (p := ⟨gb302, 0, none⟩) (vm_ HO217.out (fun k_ hk => (⟨hk, hk.2.2⟩ : _ ∧ k_ ≠ gb302))) (fun _ hk => hk.2) (.bool t214)) (fun _ hk => hk.2) (.slice Ao22 t215.length co22)) (fun _ hk => hk.1.1), bw_⟩
end Go.Proofs.Ytjbcigiffihjaaa.Fx
end
section
namespace Go.Proofs.Ytjbcigiffihjaaa.Fc
set_option linter.unusedSimpArgs false
set_option linter.unusedVariables false
open Go Go.RowKit Go.Proofs.Ytjbcigiffihjaaa.Fx Go.Proofs.YtjbcigiffihjaaaW.PrintWords Go.Proofs.Ytjbcigiffihjaaa.Fv
theorem w64 {n : Int} (h0 : -9223372036854775808 ≤ n) (h1 : n ≤ 9223372036854775807) : wrap64 n = n := by unfold wrap64; omega
theorem rd_at (d : List Int) (i : Nat) : rd d (i : Int) = d.getD i 0 := by unfold rd; rw [Int.toNat_natCast]
theorem getLast_getD (d : List Int) (h : d ≠ []) : d.getLast h = d.getD (d.length - 1) 0 := by
  have hl : 0 < d.length := List.length_pos_iff.2 h
  rw [List.getLast_eq_getElem, List.getD_eq_getElem?_getD, List.getElem?_eq_getElem (by omega)]
  rfl
theorem clean (neg : Bool) : ∀ (n : Nat) (d : List Int), d.length = n → n ≤ 1000000 → Ds d → ∃ K d', (∀ e, clevisref01_clean.f (K + e) neg d = some (if d' = [] then false else neg, d')) ∧ V d' = V d ∧ Ds d' ∧ Top d' ∧ d'.length ≤ d.length
  | 0, d, hn, hl, hd => by
    have e0 : d = [] := List.eq_nil_of_length_eq_zero hn
    subst e0
    refine ⟨1, [], fun e => ?_, rfl, hd, fun h => absurd rfl h, Nat.le_refl _⟩
    unfold clevisref01_clean.f
    rw [show 1 + e = e + 1 by omega, clevisref01_clean.l0]
    simp
  | n + 1, d, hn, hl, hd => by
    have hne : d ≠ [] := fun e => by rw [e] at hn; simp at hn
    have hw : wrap64 ((d.length : Int) - 1) = ((n : Nat) : Int) := by rw [hn]; unfold wrap64; omega
    by_cases h0 : d.getD n 0 = 0
    · have hlt : (d.take n).length = n := by rw [List.length_take]; omega
      obtain ⟨K, d', h1, h2, h3, h4, h5⟩ := clean neg n (d.take n) hlt (by omega) (hd.take n)
      refine ⟨K + 1, d', fun e => ?_, ?_, h3, h4, by omega⟩
      · have h6 := h1 e
        unfold clevisref01_clean.f at h6 ⊢
        rw [show K + 1 + e = (K + e) + 1 by omega, clevisref01_clean.l0, hw, rd_at, if_pos (by omega), if_pos (by omega), if_pos (by omega), if_pos h0, if_pos (by omega), Int.toNat_natCast]
        exact h6
      · rw [h2]
        have h7 := V_take_succ d n
        rw [h0, List.take_of_length_le (by omega)] at h7
        omega
    · refine ⟨1, d, fun e => ?_, rfl, hd, fun h => ?_, Nat.le_refl _⟩
      · unfold clevisref01_clean.f
        rw [show 1 + e = e + 1 by omega, clevisref01_clean.l0, hw, rd_at, if_pos (by omega), if_pos (by omega), if_pos (by omega), if_neg h0, if_neg (by omega), if_neg hne]
      · rw [getLast_getD d h, hn, Nat.add_sub_cancel]
        exact h0
theorem clean_good (neg : Bool) (d : List Int) (hd : Ds d) (hl : d.length ≤ 1000000) (v : Int) (hv : val neg d = v) : ∃ K n' d', (∀ e, clevisref01_clean.f (K + e) neg d = some (n', d')) ∧ Nm v n' d' ∧ d'.length ≤ d.length := by
  obtain ⟨K, d', h1, h2, h3, h4, h5⟩ := clean neg d.length d rfl hl hd
  refine ⟨K, _, d', h1, ⟨h3, h4, fun h => ?_, ?_, by omega⟩, h5⟩
  · intro e
    rw [if_pos e] at h
    cases h
  · rw [← hv]
    unfold val
    by_cases e : d' = []
    · rw [if_pos e]
      have h6 : V d = 0 := by rw [← h2, e]; rfl
      rw [h6, e]
      simp [V]
    · rw [if_neg e, h2]
theorem size_l0 (a b : List Int) (ha : Ds a) (hb : Ds b) (hl : a.length = b.length) (hl2 : a.length ≤ 1000000) : ∀ i : Nat, i ≤ a.length → ∃ K, ∀ e, clevisref01_size.l0 (K + e) a b ((i : Int) - 1) = some (sgn (V (a.take i)) (V (b.take i)))
  | 0, _ => ⟨1, fun e => by
    rw [show 1 + e = e + 1 by omega, clevisref01_size.l0, if_neg (by omega)]
    simp [sgn]⟩
  | i + 1, h => by
    obtain ⟨K, hK⟩ := size_l0 a b ha hb hl hl2 i (by omega)
    refine ⟨K + 1, fun e => ?_⟩
    have hx : ((i + 1 : Nat) : Int) - 1 = (i : Int) := by omega
    have hva := V_take_succ a i
    have hvb := V_take_succ b i
    have la := take_lt ha i
    have lb := take_lt hb i
    have na := V_nonneg (ha.take i)
    have nb := V_nonneg (hb.take i)
    have hB := B_pos i
    rw [show K + 1 + e = (K + e) + 1 by omega, clevisref01_size.l0, hx, rd_at, rd_at, if_pos (by omega), if_pos (by omega), if_pos (by omega), if_pos (by omega)]
    have key : ∀ p q : Int, p < q → B i * p + B i ≤ B i * q := fun p q h => by
      have h1 : B i * (p + 1) ≤ B i * q := Int.mul_le_mul_of_nonneg_left (by omega) (by omega)
      rw [Int.mul_add, Int.mul_one] at h1
      exact h1
    rcases Int.lt_trichotomy (a.getD i 0) (b.getD i 0) with q | q | q
    · have k1 := key _ _ q
      rw [if_pos q, hva, hvb]
      unfold sgn
      rw [if_pos (by omega)]
    · rw [if_neg (by omega), if_neg (by omega), w64 (by omega) (by omega), hK e, hva, hvb, q]
      generalize B i * b.getD i 0 = z
      unfold sgn
      congr 1
      (repeat' split)
      all_goals omega
    · have k1 := key _ _ q
      rw [if_neg (by omega), if_pos (by omega), hva, hvb]
      unfold sgn
      rw [if_neg (by omega), if_pos (by omega)]
theorem size_f (a b : List Int) (ha : Ds a) (hb : Ds b) (hta : Top a) (htb : Top b) (hla : a.length ≤ 1000000) (hlb : b.length ≤ 1000000) : ∃ K, ∀ e, clevisref01_size.f (K + e) a b = some (sgn (V a) (V b)) := by
  by_cases hl : a.length = b.length
  · obtain ⟨K, hK⟩ := size_l0 a b ha hb hl hla a.length (Nat.le_refl _)
    refine ⟨K, fun e => ?_⟩
    unfold clevisref01_size.f
    rw [if_pos (by omega), w64 (by omega) (by omega), hK e, List.take_length, hl, List.take_length]
  · refine ⟨0, fun e => ?_⟩
    unfold clevisref01_size.f
    rw [if_neg (by omega)]
    by_cases h : a.length < b.length
    · have h1 : ¬ V b ≤ V a := fun q => by have := len_le hb htb ha q; omega
      rw [if_pos (by omega)]
      unfold sgn
      rw [if_pos (by omega)]
    · have h1 : ¬ V a ≤ V b := fun q => by have := len_le ha hta hb q; omega
      rw [if_neg (by omega)]
      unfold sgn
      rw [if_neg (by omega), if_pos (by omega)]
theorem Compare_f {a b : Int} {na nb : Bool} {da db : List Int} (ha : Nm a na da) (hb : Nm b nb db) : ∃ K, ∀ e, clevisref01_Compare.f (K + e) na da nb db = some (sgn a b) := by
  obtain ⟨K, hK⟩ := size_f da db ha.ds hb.ds ha.top hb.top ha.len hb.len
  have va := ha.val
  have vb := hb.val
  unfold val at va vb
  refine ⟨K, fun e => ?_⟩
  unfold clevisref01_Compare.f
  cases na <;> cases nb
  · rw [if_neg (by simp), hK e, Option.bind_some, if_neg (by simp)]
    simp at va vb
    rw [va, vb]
  · have h1 := ha.pos rfl
    have h2 := hb.zero rfl
    rw [if_pos (by simp), if_neg (by simp)]
    unfold sgn
    rw [if_neg (by omega), if_pos (by omega)]
  · have h1 := hb.pos rfl
    have h2 := ha.zero rfl
    rw [if_pos (by simp), if_pos rfl]
    unfold sgn
    rw [if_pos (by omega)]
  · rw [if_neg (by simp), hK e, Option.bind_some, if_pos rfl]
    simp at va vb
    have e1 : V da = -a := by omega
    have e2 : V db = -b := by omega
    rw [e1, e2]
    have e3 : ∀ x : Int, x = -1 ∨ x = 0 ∨ x = 1 → wrap64 (-x) = -x := fun x h => w64 (by omega) (by omega)
    have e4 : sgn (-a) (-b) = -1 ∨ sgn (-a) (-b) = 0 ∨ sgn (-a) (-b) = 1 := by
      unfold sgn
      (repeat' split)
      all_goals omega
    rw [e3 _ e4]
    unfold sgn
    congr 1
    (repeat' split)
    all_goals omega
theorem Neg_f {a : Int} {na : Bool} {da : List Int} (ha : Nm a na da) : ∃ K n d, (∀ e, clevisref01_Neg.f (K + e) na da = some (n, d)) ∧ Nm (-a) n d ∧ d.length ≤ da.length := by
  have va := ha.val
  unfold val at va
  cases na
  · obtain ⟨K, n, d, h1, h2, h3⟩ := clean_good true da ha.ds ha.len (-a) (by unfold val; simp at va; simp; omega)
    refine ⟨K, n, d, fun e => ?_, h2, h3⟩
    unfold clevisref01_Neg.f
    rw [if_neg (by simp), h1 e]
    rfl
  · obtain ⟨K, n, d, h1, h2, h3⟩ := clean_good false da ha.ds ha.len (-a) (by unfold val; simp at va; simp; omega)
    refine ⟨K, n, d, fun e => ?_, h2, h3⟩
    unfold clevisref01_Neg.f
    rw [if_pos rfl, h1 e]
    rfl
end Go.Proofs.Ytjbcigiffihjaaa.Fc
end
section
namespace Go.Proofs.Ytjbcigiffihjaaa.Fx
open Go.RowKit Go.Proofs.YtjbcigiffihjaaaW.PrintWords Go.Proofs.YtjbcigiffihjaaaW.PrintLast Go.Proofs.YtjbcigiffihjaaaW.PrintMore
attribute [local go_sem] max2_int min2_int max_two min_two max_three min_three max_four min_four   -- for this text's walks alone
set_option linter.unusedVariables false
set_option linter.unusedSimpArgs false
attribute [local go_sem] run_add64_any
def clevisref01_Small.f (k : Nat) (a0 : Int) : Option (Bool × List Int) := if a0 < 0 then ((clevisref01_clean.f k true (([Int.tmod (wrap64 (-a0)) 65536, Int.tmod (wrap64 (Int.tdiv (wrap64 (-a0)) 65536)) 65536, wrap64 (Int.tdiv (wrap64 (Int.tdiv (wrap64 (-a0)) 65536)) 65536)] : List Int))).bind fun bt264 => (some (bt264.1, bt264.2))) else ((clevisref01_clean.f k false (([Int.tmod a0 65536, Int.tmod (wrap64 (Int.tdiv a0 65536)) 65536, wrap64 (Int.tdiv (wrap64 (Int.tdiv a0 65536)) 65536)] : List Int))).bind fun bt271 => (some (bt271.1, bt271.2)))
set_option maxHeartbeats 8000000 in
set_option maxRecDepth 100000 in
theorem clevisref01_Small.calls (k : Nat) (a0 : Int) (r1 : Bool) (r2 : List Int) (w : World) (h : clevisref01_Small.f k a0 = some (r1, r2)) :
  Calls Try.prog 41 #[.int .i64 a0] w fun e w' => ∃ v1_ : Value, e = .returned (.agg #[.bool r1, v1_]) ∧ Kd.V (Kd.int .i64) 3 w' w.heap.size (fun k_ => (w.heap.size ≤ k_)) v1_ r2 ∧ Below w.heap.size w w' := by
 have hu32 := Try.underlying32
 have HB := A_ (Below.refl w.heap.size w)
 have H : (if a0 < 0 then ((clevisref01_clean.f k true (([Int.tmod (wrap64 (-a0)) 65536, Int.tmod (wrap64 (Int.tdiv (wrap64 (-a0)) 65536)) 65536, wrap64 (Int.tdiv (wrap64 (Int.tdiv (wrap64 (-a0)) 65536)) 65536)] : List Int))).bind fun bt264 => (some (bt264.1, bt264.2))) else ((clevisref01_clean.f k false (([Int.tmod a0 65536, Int.tmod (wrap64 (Int.tdiv a0 65536)) 65536, wrap64 (Int.tdiv (wrap64 (Int.tdiv a0 65536)) 65536)] : List Int))).bind fun bt271 => (some (bt271.1, bt271.2)))) = some (r1, r2) := h
 clear h
 by_cases c2 : a0 < 0
 ·
  rw [if_pos c2] at H
  have c2b0 : decide (a0 < 0) = true := decide_eq_true c2
  clear c2
  obtain ⟨y261, hy261⟩ : ∃ y_ : List Int, y_ = (([Int.tmod (wrap64 (-a0)) 65536, Int.tmod (wrap64 (Int.tdiv (wrap64 (-a0)) 65536)) 65536, wrap64 (Int.tdiv (wrap64 (Int.tdiv (wrap64 (-a0)) 65536)) 65536)] : List Int)) := ⟨_, rfl⟩
  replace H : ((clevisref01_clean.f k true y261).bind fun bt264 => (some (bt264.1, bt264.2))) = some (r1, r2) := by first | (rw [hy261]; with_reducible exact H) | (have H2_ := (Option.bind_some _ _).symm.trans H; rw [hy261]; with_reducible exact H2_) | (have H2_ := (Option.bind_some _ _).symm.trans H; with_reducible exact H2_) | with_reducible exact H | (rw [hy261]; exact H) | exact H
  have Ny261 := A_ hy261
  clear hy261
  replace H := os_ H
  obtain ⟨⟨t264, t265⟩, A30, H⟩ := H
  replace H : (some (t264, t265)) = some (r1, r2) := H
  have A3 := A_ A30
  clear A30
  simp only [Option.some.injEq, Prod.mk.injEq] at H
  obtain ⟨rfl, rfl⟩ := H
  go_enter Try.func41, Try.ntmps41
  go_wp2_with (first | ((with_reducible refine gate_dst (N := 2) rfl ?_); refine box_event ?hg (N := 2) ?hd (cs := #[.bool false, .slice none 0 0]) (t := 32) ?hr ?_; (case hd => rfl); (case hg => rfl); (case hr => first | (go_simp; done) | (go_simp; rfl)); intro gb302 hg w4 hbox hb; have n0_ := A_ (bs_ bw_ hb); have n1_ := A_ (hbox); have n2_ := A_ ((by rw [hg]; exact (bz_ bw_) : w.heap.size ≤ gb302)); have n3_ := A_ ((by rw [hg]; exact (bz_ bw_) : w.heap.size ≤ gb302)); clear HB; have HB := n0_; have BK302 := n1_; have GW302 := n2_; have GE302 := n3_; clear n0_ n1_ n2_ n3_; clear hb hbox hg) | ((with_reducible refine gate_dst (N := 3) rfl ?_); refine box_event ?hg (N := 3) ?hd (cs := #[.bool false, .slice none 0 0]) (t := 32) ?hr ?_; (case hd => rfl); (case hg => rfl); (case hr => first | (go_simp; done) | (go_simp; rfl)); intro gb303 hg w5 hbox hb; have n0_ := A_ (kb_ BK302 hb); have n1_ := A_ (bs_ bw_ hb); have n2_ := A_ (hbox); have n3_ := A_ ((by rw [hg]; exact (bz_ bw_) : w.heap.size ≤ gb303)); have n4_ := A_ ((by rw [hg]; exact (bz_ bw_) : w.heap.size ≤ gb303)); have n5_ := A_ ((by rw [hg]; exact nl_ (lt_ BK302) : gb302 ≠ gb303)); have n6_ := A_ ((by rw [hg]; exact ng_ (lt_ BK302) : gb303 ≠ gb302)); clear BK302; clear HB; have BK302 := n0_; have HB := n1_; have BK303 := n2_; have GW303 := n3_; have GE303 := n4_; have NB302_303 := n5_; have NB303_302 := n6_; clear n0_ n1_ n2_ n3_ n4_ n5_ n6_; clear hb hbox hg; have hnb6 := NB303_302.out; have hnc6 := NB302_303.out; have hcz7_0 : w5.cell? ⟨gb303, 0, none⟩ = some (.bool false) := (bc_ BK303.out 0).trans rfl; have hcz7_1 : w5.cell? ⟨gb303, 1, none⟩ = some (.slice none 0 0) := (bc_ BK303.out 1).trans rfl; have hfz7_0 := bf_ BK303.out 0; have hfz7_1 := bf_ BK303.out 1) | ((with_reducible refine gate_dst (N := 19) rfl ?_); refine Kd.R_lit (Kd.int .i64) _ 3 ?hg (N := 19) ?hd (xs := ([Int.tmod (wrap64 (-a0)) 65536, Int.tmod (wrap64 (Int.tdiv (wrap64 (-a0)) 65536)) 65536, wrap64 (Int.tdiv (wrap64 (Int.tdiv (wrap64 (-a0)) 65536)) 65536)] : List Int)) (inner := [.int .i64 (Int.tmod (wrap64 (-a0)) 65536), .int .i64 (Int.tmod (wrap64 (Int.tdiv (wrap64 (-a0)) 65536)) 65536), .int .i64 (wrap64 (Int.tdiv (wrap64 (Int.tdiv (wrap64 (-a0)) 65536)) 65536))]) (ok := fun _ => True) (okp := fun _ => True) ?hr ?hp (fun _ hk => hk) trivial (Below.refl _ _) (Nat.le_refl _) (by simp) ?_; (case hd => rfl); (case hg => rfl); (case hr => first | (go_simp; done) | (go_simp; rfl)); (case hp => exact (Reps.one (show Kd.M (Kd.int .i64) _ _ _ (Int.tmod (wrap64 (-a0)) 65536) [.int .i64 (Int.tmod (wrap64 (-a0)) 65536)] from rfl) (Reps.one (show Kd.M (Kd.int .i64) _ _ _ (Int.tmod (wrap64 (Int.tdiv (wrap64 (-a0)) 65536)) 65536) [.int .i64 (Int.tmod (wrap64 (Int.tdiv (wrap64 (-a0)) 65536)) 65536)] from rfl) (Reps.one (show Kd.M (Kd.int .i64) _ _ _ (wrap64 (Int.tdiv (wrap64 (Int.tdiv (wrap64 (-a0)) 65536)) 65536)) [.int .i64 (wrap64 (Int.tdiv (wrap64 (Int.tdiv (wrap64 (-a0)) 65536)) 65536))] from rfl) (Reps.none _ _))))); intro v262 w8 ho9 hb hg_ hnew_; clear hg_ hnew_; (first | rw [← Ny261.out] at ho9 | (simp only [Int.reduceToNat] at ho9; rw [← Ny261.out] at ho9)); have n0_ := A_ (Kd.R_lower (Kd.R_newM (M := fun k_ => (w.heap.size ≤ k_)) ho9 (bz_ bw_) (fun k_ h_ => h_)) (bz_ bw_)); have n1_ := A_ (kb_ BK302 hb); have n2_ := A_ (blk_below (g := gb303) (o := .cells #[.bool true, .slice none 0 0] 32 (0, 0)) (by (with_reducible repeat (first | refine bn_ ?_ _ | refine bd_ ?_ | refine ba_ ?_ _)); refine bp_ (cs := #[.bool true, .slice none 0 0]) ?_ 1 _ rfl; (with_reducible repeat (first | refine bn_ ?_ _ | refine bd_ ?_ | refine ba_ ?_ _)); refine bp_ (cs := #[.bool false, .slice none 0 0]) ?_ 0 _ rfl; (with_reducible repeat (first | refine bn_ ?_ _ | refine bd_ ?_ | refine ba_ ?_ _)); exact BK303.out) hb); have n3_ := A_ (bs_ bw_ hb); clear BK302; clear BK303; clear HB; have HO263 := n0_; have BK302 := n1_; have BK303 := n2_; have HB := n3_; clear n0_ n1_ n2_ n3_; clear hb ho9; obtain ⟨Ao10, co10, eo10⟩ := Kd.R_slice HO263.out; subst eo10; have hcz11_0 : w8.cell? ⟨gb303, 0, none⟩ = some (.bool true) := (bc_ BK303.out 0).trans rfl; have hcz11_1 : w8.cell? ⟨gb303, 1, none⟩ = some (.slice none 0 0) := (bc_ BK303.out 1).trans rfl; have hfz11_0 := bf_ BK303.out 0; have hfz11_1 := bf_ BK303.out 1) | ((with_reducible refine gate_store (t := 30) (p := 20) rfl ?_); (first | (refine store_event (t := 30) (p := 20) (v := ?vo_w12) (w1 := (w8.setCell ⟨gb303, 1, none⟩ (.slice Ao10 y261.length co10))) ?hg ?ho ?hn ?hr ?_; (case ho => rfl); (case hg => rfl); (case hn => rfl); (case hr => first | (go_simp; done) | (go_simp; rfl)); intro w12 hw) | (refine store_event (t := 30) (p := 20) (v := ?vo_w12) (w1 := ((w8.drewN ?ndq_w12).setCell ⟨gb303, 1, none⟩ (.slice Ao10 y261.length co10))) ?hg ?ho ?hn ?hr ?_; (case ho => rfl); (case hg => rfl); (case hn => rfl); (case hr => first | (go_simp; done) | (go_simp; rfl)); intro w12 hw; rw [sd_eq] at hw)); have n0_ : Aside0 (Kd.R (Kd.int .i64) 3 w12 w.heap.size (fun k_ => (w.heap.size ≤ k_)) (.slice Ao10 y261.length co10) y261) := ⟨(by rw [hw]; first | (with_reducible exact (by (with_reducible repeat (first | apply Kd.R_alloc | apply Kd.R_drewN | apply Kd.R_drew)); exact Kd.R_mono (Kd.R_far (p := ⟨gb303, 1, none⟩) (Kd.R_types HO263.out BK303.out (by decide)) (fun _ hk => hk.2) (.slice Ao10 y261.length co10)) (fun _ hk => hk.1.1))) | (exact grown_dn ((by (with_reducible repeat (first | apply Kd.R_alloc | apply Kd.R_drewN | apply Kd.R_drew)); exact Kd.R_mono (Kd.R_far (p := ⟨gb303, 1, none⟩) (Kd.R_types HO263.out BK303.out (by decide)) (fun _ hk => hk.2) (.slice Ao10 y261.length co10)) (fun _ hk => hk.1.1))) _) | (exact pn_ ((by (with_reducible repeat (first | apply Kd.R_alloc | apply Kd.R_drewN | apply Kd.R_drew)); exact Kd.R_mono (Kd.R_far (p := ⟨gb303, 1, none⟩) (Kd.R_types HO263.out BK303.out (by decide)) (fun _ hk => hk.2) (.slice Ao10 y261.length co10)) (fun _ hk => hk.1.1))) _) | (exact Kd.R_drewN ((by (with_reducible repeat (first | apply Kd.R_alloc | apply Kd.R_drewN | apply Kd.R_drew)); exact Kd.R_mono (Kd.R_far (p := ⟨gb303, 1, none⟩) (Kd.R_types HO263.out BK303.out (by decide)) (fun _ hk => hk.2) (.slice Ao10 y261.length co10)) (fun _ hk => hk.1.1))) _) | exact (by (with_reducible repeat (first | apply Kd.R_alloc | apply Kd.R_drewN | apply Kd.R_drew)); exact Kd.R_mono (Kd.R_far (p := ⟨gb303, 1, none⟩) (Kd.R_types HO263.out BK303.out (by decide)) (fun _ hk => hk.2) (.slice Ao10 y261.length co10)) (fun _ hk => hk.1.1)))⟩; have n1_ : Aside0 (w12.heap[gb302]? = some (.cells #[.bool false, .slice none 0 0] 32 (0, 0))) := ⟨(by rw [hw]; first | (with_reducible exact bk_) | (exact grown_dn (bk_) _) | (exact pn_ (bk_) _) | (exact Kd.R_drewN (bk_) _) | exact bk_)⟩; have n2_ : Aside0 (w12.heap[gb303]? = some (.cells #[.bool true, .slice Ao10 y261.length co10] 32 (0, 0))) := ⟨(by rw [hw]; first | (with_reducible exact (by (with_reducible repeat (first | refine bn_ ?_ _ | refine bd_ ?_ | refine ba_ ?_ _)); refine bp_ (cs := #[.bool true, .slice none 0 0]) ?_ 1 _ rfl; (with_reducible repeat (first | refine bn_ ?_ _ | refine bd_ ?_ | refine ba_ ?_ _)); exact BK303.out)) | (exact grown_dn ((by (with_reducible repeat (first | refine bn_ ?_ _ | refine bd_ ?_ | refine ba_ ?_ _)); refine bp_ (cs := #[.bool true, .slice none 0 0]) ?_ 1 _ rfl; (with_reducible repeat (first | refine bn_ ?_ _ | refine bd_ ?_ | refine ba_ ?_ _)); exact BK303.out)) _) | (exact pn_ ((by (with_reducible repeat (first | refine bn_ ?_ _ | refine bd_ ?_ | refine ba_ ?_ _)); refine bp_ (cs := #[.bool true, .slice none 0 0]) ?_ 1 _ rfl; (with_reducible repeat (first | refine bn_ ?_ _ | refine bd_ ?_ | refine ba_ ?_ _)); exact BK303.out)) _) | (exact Kd.R_drewN ((by (with_reducible repeat (first | refine bn_ ?_ _ | refine bd_ ?_ | refine ba_ ?_ _)); refine bp_ (cs := #[.bool true, .slice none 0 0]) ?_ 1 _ rfl; (with_reducible repeat (first | refine bn_ ?_ _ | refine bd_ ?_ | refine ba_ ?_ _)); exact BK303.out)) _) | exact (by (with_reducible repeat (first | refine bn_ ?_ _ | refine bd_ ?_ | refine ba_ ?_ _)); refine bp_ (cs := #[.bool true, .slice none 0 0]) ?_ 1 _ rfl; (with_reducible repeat (first | refine bn_ ?_ _ | refine bd_ ?_ | refine ba_ ?_ _)); exact BK303.out))⟩; have n3_ : Aside0 (Below w.heap.size w w12) := ⟨(by rw [hw]; first | (with_reducible exact bw_) | (exact grown_dn (bw_) _) | (exact pn_ (bw_) _) | (exact Kd.R_drewN (bw_) _) | exact bw_)⟩; clear hw; clear HO263; clear BK302; clear BK303; clear HB; have HO263 := n0_; have BK302 := n1_; have BK303 := n2_; have HB := n3_; clear n0_ n1_ n2_ n3_; have hcz13_0 : w12.cell? ⟨gb303, 0, none⟩ = some (.bool true) := (bc_ BK303.out 0).trans rfl; have hcz13_1 : w12.cell? ⟨gb303, 1, none⟩ = some (.slice Ao10 y261.length co10) := (bc_ BK303.out 1).trans rfl; have hfz13_0 := bf_ BK303.out 0; have hfz13_1 := bf_ BK303.out 1) | ((with_reducible refine gate_callee (f := 47) rfl ?_); refine goesL_ (some 22) rfl rfl Try.func47 (by kernel_rfl) rfl #[.agg #[.bool true, .slice Ao10 y261.length co10]] rfl (by (try simp only [List.map_toArray, List.map_cons, List.map_nil]); first | done | rfl | (simp only [List.length_drop, List.length_take]; rfl)) ?_; (with_reducible refine (clevisref01_clean.calls k true (fun k_ => some k_ = (.slice Ao10 y261.length co10 : Value).ownBlock) _ _ y261 t264 t265 _ ?side1 A3.out).mono ?_); (case side1 => exact Kd.R_V (Kd.R_tight rfl (Kd.R_types (Kd.R_types (HO263.out) BK302.out (by decide)) BK303.out (by decide)))); rintro e w14 ⟨v266, rfl, ho0, hb⟩; refine ⟨_, rfl, ?_⟩; have n0_ := A_ (Kd.R_below (by (with_reducible repeat (first | apply Kd.R_alloc | apply Kd.R_drewN | apply Kd.R_drew)); exact HO263.out) hb); have n1_ := A_ (Kd.V_lower (vm_ (ok' := fun k_ => (w.heap.size ≤ k_) ∧ k_ ≠ gb302 ∧ k_ ≠ gb303) ho0 (fun k_ hk_ => ⟨Or.elim hk_ (fun hs_ => ((Kd.R_types (Kd.R_types (HO263.out) BK302.out (by decide)) BK303.out (by decide)).1 k_ hs_.symm).1.1) (fun hn_ => (Nat.le_trans (bz_ bw_) hn_)), Or.elim hk_ (fun hs_ => ((Kd.R_types (Kd.R_types (HO263.out) BK302.out (by decide)) BK303.out (by decide)).1 k_ hs_.symm).1.2) (fun hn_ => (Kd.freshB (g := gb302) (o := .cells #[.bool false, .slice none 0 0] 32 (0, 0)) bk_ k_ hn_)), Or.elim hk_ (fun hs_ => ((Kd.R_types (Kd.R_types (HO263.out) BK302.out (by decide)) BK303.out (by decide)).1 k_ hs_.symm).2) (fun hn_ => (Kd.freshB (g := gb303) (o := .cells #[.bool true, .slice Ao10 y261.length co10] 32 (0, 0)) bk_ k_ hn_))⟩)) (bz_ bw_)); have n2_ := A_ (kb_ BK302 hb); have n3_ := A_ (kb_ BK303 hb); have n4_ := A_ (bs_ bw_ hb); clear HO263; clear BK302; clear BK303; clear HB; have HO263 := n0_; have HO267 := n1_; have BK302 := n2_; have BK303 := n3_; have HB := n4_; clear n0_ n1_ n2_ n3_ n4_; (try clear hb); (try clear hb2); (try clear hk); (try clear hi); (try clear ho0); have hcz15_0 : w14.cell? ⟨gb302, 0, none⟩ = some (.bool false) := (bc_ BK302.out 0).trans rfl; have hcz15_1 : w14.cell? ⟨gb302, 1, none⟩ = some (.slice none 0 0) := (bc_ BK302.out 1).trans rfl; have hfz15_0 := bf_ BK302.out 0; have hfz15_1 := bf_ BK302.out 1; obtain ⟨Ao16, co16, eo16⟩ := Kd.V_slice HO267.out; subst eo16))
  refine bodyPost_ret (results_cell_row rfl _ _ gb302 32 #[.bool t264, .slice Ao16 t265.length co16] (0, 0) _ rfl (by (with_reducible repeat (first | refine bn_ ?_ _ | refine bd_ ?_ | refine ba_ ?_ _)); refine bp_ (cs := #[.bool t264, .slice none 0 0]) ?_ 1 _ rfl; (with_reducible repeat (first | refine bn_ ?_ _ | refine bd_ ?_ | refine ba_ ?_ _)); refine bp_ (cs := #[.bool false, .slice none 0 0]) ?_ 0 _ rfl; (with_reducible repeat (first | refine bn_ ?_ _ | refine bd_ ?_ | refine ba_ ?_ _)); exact BK302.out) Try.underlying32 rfl (by kernel_rfl)) rfl ?_
  exact ⟨_, by first | rfl | (simp [errW_none, errW_some] <;> rfl) | (simp [*, errW_none, errW_some] <;> rfl), by (with_reducible repeat (first | apply va_ | apply vn_ | apply vd_)); exact vm_ (Kd.V_far (p := ⟨gb302, 1, none⟩) (Kd.V_far (p := ⟨gb302, 0, none⟩) (vm_ HO267.out (fun k_ hk => (⟨hk, hk.2.1⟩ : _ ∧ k_ ≠ gb302))) (fun _ hk => hk.2) (.bool t264)) (fun _ hk => hk.2) (.slice Ao16 t265.length co16)) (fun _ hk => hk.1.1), bw_⟩
 ·
  rw [if_neg c2] at H
  have c2b0 : decide (a0 < 0) = false := decide_eq_false c2
  clear c2
  obtain ⟨y268, hy268⟩ : ∃ y_ : List Int, y_ = (([Int.tmod a0 65536, Int.tmod (wrap64 (Int.tdiv a0 65536)) 65536, wrap64 (Int.tdiv (wrap64 (Int.tdiv a0 65536)) 65536)] : List Int)) := ⟨_, rfl⟩
  replace H : ((clevisref01_clean.f k false y268).bind fun bt271 => (some (bt271.1, bt271.2))) = some (r1, r2) := by first | (rw [hy268]; with_reducible exact H) | (have H2_ := (Option.bind_some _ _).symm.trans H; rw [hy268]; with_reducible exact H2_) | (have H2_ := (Option.bind_some _ _).symm.trans H; with_reducible exact H2_) | with_reducible exact H | (rw [hy268]; exact H) | exact H
  have Ny268 := A_ hy268
  clear hy268
  replace H := os_ H
  obtain ⟨⟨t271, t272⟩, A170, H⟩ := H
  replace H : (some (t271, t272)) = some (r1, r2) := H
  have A17 := A_ A170
  clear A170
  simp only [Option.some.injEq, Prod.mk.injEq] at H
  obtain ⟨rfl, rfl⟩ := H
  go_enter Try.func41, Try.ntmps41
  go_wp2_with (first | ((with_reducible refine gate_dst (N := 2) rfl ?_); refine box_event ?hg (N := 2) ?hd (cs := #[.bool false, .slice none 0 0]) (t := 32) ?hr ?_; (case hd => rfl); (case hg => rfl); (case hr => first | (go_simp; done) | (go_simp; rfl)); intro gb302 hg w18 hbox hb; have n0_ := A_ (bs_ bw_ hb); have n1_ := A_ (hbox); have n2_ := A_ ((by rw [hg]; exact (bz_ bw_) : w.heap.size ≤ gb302)); have n3_ := A_ ((by rw [hg]; exact (bz_ bw_) : w.heap.size ≤ gb302)); clear HB; have HB := n0_; have BK302 := n1_; have GW302 := n2_; have GE302 := n3_; clear n0_ n1_ n2_ n3_; clear hb hbox hg) | ((with_reducible refine gate_dst (N := 3) rfl ?_); refine box_event ?hg (N := 3) ?hd (cs := #[.bool false, .slice none 0 0]) (t := 32) ?hr ?_; (case hd => rfl); (case hg => rfl); (case hr => first | (go_simp; done) | (go_simp; rfl)); intro gb303 hg w19 hbox hb; have n0_ := A_ (kb_ BK302 hb); have n1_ := A_ (bs_ bw_ hb); have n2_ := A_ (hbox); have n3_ := A_ ((by rw [hg]; exact (bz_ bw_) : w.heap.size ≤ gb303)); have n4_ := A_ ((by rw [hg]; exact (bz_ bw_) : w.heap.size ≤ gb303)); have n5_ := A_ ((by rw [hg]; exact nl_ (lt_ BK302) : gb302 ≠ gb303)); have n6_ := A_ ((by rw [hg]; exact ng_ (lt_ BK302) : gb303 ≠ gb302)); clear BK302; clear HB; have BK302 := n0_; have HB := n1_; have BK303 := n2_; have GW303 := n3_; have GE303 := n4_; have NB302_303 := n5_; have NB303_302 := n6_; clear n0_ n1_ n2_ n3_ n4_ n5_ n6_; clear hb hbox hg; have hnb20 := NB303_302.out; have hnc20 := NB302_303.out; have hcz21_0 : w19.cell? ⟨gb303, 0, none⟩ = some (.bool false) := (bc_ BK303.out 0).trans rfl; have hcz21_1 : w19.cell? ⟨gb303, 1, none⟩ = some (.slice none 0 0) := (bc_ BK303.out 1).trans rfl; have hfz21_0 := bf_ BK303.out 0; have hfz21_1 := bf_ BK303.out 1) | ((with_reducible refine gate_dst (N := 19) rfl ?_); refine Kd.R_lit (Kd.int .i64) _ 3 ?hg (N := 19) ?hd (xs := ([Int.tmod a0 65536, Int.tmod (wrap64 (Int.tdiv a0 65536)) 65536, wrap64 (Int.tdiv (wrap64 (Int.tdiv a0 65536)) 65536)] : List Int)) (inner := [.int .i64 (Int.tmod a0 65536), .int .i64 (Int.tmod (wrap64 (Int.tdiv a0 65536)) 65536), .int .i64 (wrap64 (Int.tdiv (wrap64 (Int.tdiv a0 65536)) 65536))]) (ok := fun _ => True) (okp := fun _ => True) ?hr ?hp (fun _ hk => hk) trivial (Below.refl _ _) (Nat.le_refl _) (by simp) ?_; (case hd => rfl); (case hg => rfl); (case hr => first | (go_simp; done) | (go_simp; rfl)); (case hp => exact (Reps.one (show Kd.M (Kd.int .i64) _ _ _ (Int.tmod a0 65536) [.int .i64 (Int.tmod a0 65536)] from rfl) (Reps.one (show Kd.M (Kd.int .i64) _ _ _ (Int.tmod (wrap64 (Int.tdiv a0 65536)) 65536) [.int .i64 (Int.tmod (wrap64 (Int.tdiv a0 65536)) 65536)] from rfl) (Reps.one (show Kd.M (Kd.int .i64) _ _ _ (wrap64 (Int.tdiv (wrap64 (Int.tdiv a0 65536)) 65536)) [.int .i64 (wrap64 (Int.tdiv (wrap64 (Int.tdiv a0 65536)) 65536))] from rfl) (Reps.none _ _))))); intro v269 w22 ho23 hb hg_ hnew_; clear hg_ hnew_; (first | rw [← Ny268.out] at ho23 | (simp only [Int.reduceToNat] at ho23; rw [← Ny268.out] at ho23)); have n0_ := A_ (Kd.R_lower (Kd.R_newM (M := fun k_ => (w.heap.size ≤ k_)) ho23 (bz_ bw_) (fun k_ h_ => h_)) (bz_ bw_)); have n1_ := A_ (kb_ BK302 hb); have n2_ := A_ (blk_below (g := gb303) (o := .cells #[.bool false, .slice none 0 0] 32 (0, 0)) (by (with_reducible repeat (first | refine bn_ ?_ _ | refine bd_ ?_ | refine ba_ ?_ _)); refine bp_ (cs := #[.bool false, .slice none 0 0]) ?_ 1 _ rfl; (with_reducible repeat (first | refine bn_ ?_ _ | refine bd_ ?_ | refine ba_ ?_ _)); refine bp_ (cs := #[.bool false, .slice none 0 0]) ?_ 0 _ rfl; (with_reducible repeat (first | refine bn_ ?_ _ | refine bd_ ?_ | refine ba_ ?_ _)); exact BK303.out) hb); have n3_ := A_ (bs_ bw_ hb); clear BK302; clear BK303; clear HB; have HO270 := n0_; have BK302 := n1_; have BK303 := n2_; have HB := n3_; clear n0_ n1_ n2_ n3_; clear hb ho23; obtain ⟨Ao24, co24, eo24⟩ := Kd.R_slice HO270.out; subst eo24; have hcz25_0 : w22.cell? ⟨gb303, 0, none⟩ = some (.bool false) := (bc_ BK303.out 0).trans rfl; have hcz25_1 : w22.cell? ⟨gb303, 1, none⟩ = some (.slice none 0 0) := (bc_ BK303.out 1).trans rfl; have hfz25_0 := bf_ BK303.out 0; have hfz25_1 := bf_ BK303.out 1) | ((with_reducible refine gate_store (t := 30) (p := 20) rfl ?_); (first | (refine store_event (t := 30) (p := 20) (v := ?vo_w26) (w1 := (w22.setCell ⟨gb303, 1, none⟩ (.slice Ao24 y268.length co24))) ?hg ?ho ?hn ?hr ?_; (case ho => rfl); (case hg => rfl); (case hn => rfl); (case hr => first | (go_simp; done) | (go_simp; rfl)); intro w26 hw) | (refine store_event (t := 30) (p := 20) (v := ?vo_w26) (w1 := ((w22.drewN ?ndq_w26).setCell ⟨gb303, 1, none⟩ (.slice Ao24 y268.length co24))) ?hg ?ho ?hn ?hr ?_; (case ho => rfl); (case hg => rfl); (case hn => rfl); (case hr => first | (go_simp; done) | (go_simp; rfl)); intro w26 hw; rw [sd_eq] at hw)); have n0_ : Aside0 (Kd.R (Kd.int .i64) 3 w26 w.heap.size (fun k_ => (w.heap.size ≤ k_)) (.slice Ao24 y268.length co24) y268) := ⟨(by rw [hw]; first | (with_reducible exact (by (with_reducible repeat (first | apply Kd.R_alloc | apply Kd.R_drewN | apply Kd.R_drew)); exact Kd.R_mono (Kd.R_far (p := ⟨gb303, 1, none⟩) (Kd.R_types HO270.out BK303.out (by decide)) (fun _ hk => hk.2) (.slice Ao24 y268.length co24)) (fun _ hk => hk.1.1))) | (exact grown_dn ((by (with_reducible repeat (first | apply Kd.R_alloc | apply Kd.R_drewN | apply Kd.R_drew)); exact Kd.R_mono (Kd.R_far (p := ⟨gb303, 1, none⟩) (Kd.R_types HO270.out BK303.out (by decide)) (fun _ hk => hk.2) (.slice Ao24 y268.length co24)) (fun _ hk => hk.1.1))) _) | (exact pn_ ((by (with_reducible repeat (first | apply Kd.R_alloc | apply Kd.R_drewN | apply Kd.R_drew)); exact Kd.R_mono (Kd.R_far (p := ⟨gb303, 1, none⟩) (Kd.R_types HO270.out BK303.out (by decide)) (fun _ hk => hk.2) (.slice Ao24 y268.length co24)) (fun _ hk => hk.1.1))) _) | (exact Kd.R_drewN ((by (with_reducible repeat (first | apply Kd.R_alloc | apply Kd.R_drewN | apply Kd.R_drew)); exact Kd.R_mono (Kd.R_far (p := ⟨gb303, 1, none⟩) (Kd.R_types HO270.out BK303.out (by decide)) (fun _ hk => hk.2) (.slice Ao24 y268.length co24)) (fun _ hk => hk.1.1))) _) | exact (by (with_reducible repeat (first | apply Kd.R_alloc | apply Kd.R_drewN | apply Kd.R_drew)); exact Kd.R_mono (Kd.R_far (p := ⟨gb303, 1, none⟩) (Kd.R_types HO270.out BK303.out (by decide)) (fun _ hk => hk.2) (.slice Ao24 y268.length co24)) (fun _ hk => hk.1.1)))⟩; have n1_ : Aside0 (w26.heap[gb302]? = some (.cells #[.bool false, .slice none 0 0] 32 (0, 0))) := ⟨(by rw [hw]; first | (with_reducible exact bk_) | (exact grown_dn (bk_) _) | (exact pn_ (bk_) _) | (exact Kd.R_drewN (bk_) _) | exact bk_)⟩; have n2_ : Aside0 (w26.heap[gb303]? = some (.cells #[.bool false, .slice Ao24 y268.length co24] 32 (0, 0))) := ⟨(by rw [hw]; first | (with_reducible exact (by (with_reducible repeat (first | refine bn_ ?_ _ | refine bd_ ?_ | refine ba_ ?_ _)); refine bp_ (cs := #[.bool false, .slice none 0 0]) ?_ 1 _ rfl; (with_reducible repeat (first | refine bn_ ?_ _ | refine bd_ ?_ | refine ba_ ?_ _)); exact BK303.out)) | (exact grown_dn ((by (with_reducible repeat (first | refine bn_ ?_ _ | refine bd_ ?_ | refine ba_ ?_ _)); refine bp_ (cs := #[.bool false, .slice none 0 0]) ?_ 1 _ rfl; (with_reducible repeat (first | refine bn_ ?_ _ | refine bd_ ?_ | refine ba_ ?_ _)); exact BK303.out)) _) | (exact pn_ ((by (with_reducible repeat (first | refine bn_ ?_ _ | refine bd_ ?_ | refine ba_ ?_ _)); refine bp_ (cs := #[.bool false, .slice none 0 0]) ?_ 1 _ rfl; (with_reducible repeat (first | refine bn_ ?_ _ | refine bd_ ?_ | refine ba_ ?_ _)); exact BK303.out)) _) | (exact Kd.R_drewN ((by (with_reducible repeat (first | refine bn_ ?_ _ | refine bd_ ?_ | refine ba_ ?_ _)); refine bp_ (cs := #[.bool false, .slice none 0 0]) ?_ 1 _ rfl; (with_reducible repeat (first | refine bn_ ?_ _ | refine bd_ ?_ | refine ba_ ?_ _)); exact BK303.out)) _) | exact (by (with_reducible repeat (first | refine bn_ ?_ _ | refine bd_ ?_ | refine ba_ ?_ _)); refine bp_ (cs := #[.bool false, .slice none 0 0]) ?_ 1 _ rfl; (with_reducible repeat (first | refine bn_ ?_ _ | refine bd_ ?_ | refine ba_ ?_ _)); exact BK303.out))⟩; have n3_ : Aside0 (Below w.heap.size w w26) := ⟨(by rw [hw]; first | (with_reducible exact bw_) | (exact grown_dn (bw_) _) | (exact pn_ (bw_) _) | (exact Kd.R_drewN (bw_) _) | exact bw_)⟩; clear hw; clear HO270; clear BK302; clear BK303; clear HB; have HO270 := n0_; have BK302 := n1_; have BK303 := n2_; have HB := n3_; clear n0_ n1_ n2_ n3_; have hcz27_0 : w26.cell? ⟨gb303, 0, none⟩ = some (.bool false) := (bc_ BK303.out 0).trans rfl; have hcz27_1 : w26.cell? ⟨gb303, 1, none⟩ = some (.slice Ao24 y268.length co24) := (bc_ BK303.out 1).trans rfl; have hfz27_0 := bf_ BK303.out 0; have hfz27_1 := bf_ BK303.out 1) | ((with_reducible refine gate_callee (f := 47) rfl ?_); refine goesL_ (some 22) rfl rfl Try.func47 (by kernel_rfl) rfl #[.agg #[.bool false, .slice Ao24 y268.length co24]] rfl (by (try simp only [List.map_toArray, List.map_cons, List.map_nil]); first | done | rfl | (simp only [List.length_drop, List.length_take]; rfl)) ?_; (with_reducible refine (clevisref01_clean.calls k false (fun k_ => some k_ = (.slice Ao24 y268.length co24 : Value).ownBlock) _ _ y268 t271 t272 _ ?side1 A17.out).mono ?_); (case side1 => exact Kd.R_V (Kd.R_tight rfl (Kd.R_types (Kd.R_types (HO270.out) BK302.out (by decide)) BK303.out (by decide)))); rintro e w28 ⟨v273, rfl, ho0, hb⟩; refine ⟨_, rfl, ?_⟩; have n0_ := A_ (Kd.R_below (by (with_reducible repeat (first | apply Kd.R_alloc | apply Kd.R_drewN | apply Kd.R_drew)); exact HO270.out) hb); have n1_ := A_ (Kd.V_lower (vm_ (ok' := fun k_ => (w.heap.size ≤ k_) ∧ k_ ≠ gb302 ∧ k_ ≠ gb303) ho0 (fun k_ hk_ => ⟨Or.elim hk_ (fun hs_ => ((Kd.R_types (Kd.R_types (HO270.out) BK302.out (by decide)) BK303.out (by decide)).1 k_ hs_.symm).1.1) (fun hn_ => (Nat.le_trans (bz_ bw_) hn_)), Or.elim hk_ (fun hs_ => ((Kd.R_types (Kd.R_types (HO270.out) BK302.out (by decide)) BK303.out (by decide)).1 k_ hs_.symm).1.2) (fun hn_ => (Kd.freshB (g := gb302) (o := .cells #[.bool false, .slice none 0 0] 32 (0, 0)) bk_ k_ hn_)), Or.elim hk_ (fun hs_ => ((Kd.R_types (Kd.R_types (HO270.out) BK302.out (by decide)) BK303.out (by decide)).1 k_ hs_.symm).2) (fun hn_ => (Kd.freshB (g := gb303) (o := .cells #[.bool false, .slice Ao24 y268.length co24] 32 (0, 0)) bk_ k_ hn_))⟩)) (bz_ bw_)); have n2_ := A_ (kb_ BK302 hb); have n3_ := A_ (kb_ BK303 hb); have n4_ := A_ (bs_ bw_ hb); clear HO270; clear BK302; clear BK303; clear HB; have HO270 := n0_; have HO274 := n1_; have BK302 := n2_; have BK303 := n3_; have HB := n4_; clear n0_ n1_ n2_ n3_ n4_; (try clear hb); (try clear hb2); (try clear hk); (try clear hi); (try clear ho0); have hcz29_0 : w28.cell? ⟨gb302, 0, none⟩ = some (.bool false) := (bc_ BK302.out 0).trans rfl; have hcz29_1 : w28.cell? ⟨gb302, 1, none⟩ = some (.slice none 0 0) := (bc_ BK302.out 1).trans rfl; have hfz29_0 := bf_ BK302.out 0; have hfz29_1 := bf_ BK302.out 1; obtain ⟨Ao30, co30, eo30⟩ := Kd.V_slice HO274.out; subst eo30))
  refine bodyPost_ret (results_cell_row rfl _ _ gb302 32 #[.bool t271, .slice Ao30 t272.length co30] (0, 0) _ rfl (by (with_reducible repeat (first | refine bn_ ?_ _ | refine bd_ ?_ | refine ba_ ?_ _)); refine bp_ (cs := #[.bool t271, .slice none 0 0]) ?_ 1 _ rfl; (with_reducible repeat (first | refine bn_ ?_ _ | refine bd_ ?_ | refine ba_ ?_ _)); refine bp_ (cs := #[.bool false, .slice none 0 0]) ?_ 0 _ rfl; (with_reducible repeat (first | refine bn_ ?_ _ | refine bd_ ?_ | refine ba_ ?_ _)); exact BK302.out) Try.underlying32 rfl (by kernel_rfl)) rfl ?_
  exact ⟨_, by first | rfl | (simp [errW_none, errW_some] <;> rfl) | (simp [*, errW_none, errW_some] <;> rfl), by (with_reducible repeat (first | apply va_ | apply vn_ | apply vd_)); exact vm_ (Kd.V_far (p := ⟨gb302, 1, none⟩) (Kd.V_far (p := ⟨gb302, 0, none⟩) (vm_ HO274.out (fun k_ hk => (⟨hk, hk.2.1⟩ : _ ∧ k_ ≠ gb302))) (fun _ hk => hk.2) (.bool t271)) (fun _ hk => hk.2) (.slice Ao30 t272.length co30)) (fun _ hk => hk.1.1), bw_⟩
end Go.Proofs.Ytjbcigiffihjaaa.Fx
end
section
namespace Go.Proofs.Ytjbcigiffihjaaa.Fx
open Go.RowKit Go.Proofs.YtjbcigiffihjaaaW.PrintWords Go.Proofs.YtjbcigiffihjaaaW.PrintLast Go.Proofs.YtjbcigiffihjaaaW.PrintMore
attribute [local go_sem] max2_int min2_int max_two min_two max_three min_three max_four min_four   -- for this text's walks alone
set_option linter.unusedVariables false
set_option linter.unusedSimpArgs false
attribute [local go_sem] run_add64_any
def clevisref01_Bits.l0 : Nat → List Int → Int → Int → Bool → List Int → Option (Bool × List Int)
 | 0, _, _, _, _, _ => none
 | k + 1, x0, x4, x5, x304000, x304001 => if x5 < (x0.length : Int) then (if 0 ≤ x5 then (if x304000 = true then (if x304001.length < 17592186044416 then (clevisref01_Bits.l0 k x0 (wrap64 (Int.tdiv (wrap64 ((wrap64 (65535 - (rd x0 x5))) + x4)) 65536)) (wrap64 (x5 + 1)) x304000 (x304001 ++ [Int.tmod (wrap64 ((wrap64 (65535 - (rd x0 x5))) + x4)) 65536])) else (none)) else (if x304001.length < 17592186044416 then (clevisref01_Bits.l0 k x0 x4 (wrap64 (x5 + 1)) x304000 (x304001 ++ [rd x0 x5])) else (none))) else (none)) else (if x304000 = true then (if x4 > 0 then (if x304001.length < 17592186044416 then ((clevisref01_clean.f k x304000 (x304001 ++ [x4])).bind fun bt320 => (some (bt320.1, bt320.2))) else (none)) else ((clevisref01_clean.f k x304000 x304001).bind fun bt324 => (some (bt324.1, bt324.2)))) else ((clevisref01_clean.f k x304000 x304001).bind fun bt328 => (some (bt328.1, bt328.2))))
def clevisref01_Bits.f (k : Nat) (l0 : List Int) : Option (Bool × List Int) := if 0 ≤ (wrap64 ((l0.length : Int) - 1)) then (if (wrap64 ((l0.length : Int) - 1)) < (l0.length : Int) then (if (rd l0 (wrap64 ((l0.length : Int) - 1))) ≥ 32768 then (clevisref01_Bits.l0 k l0 1 0 true ([] : List Int)) else (clevisref01_Bits.l0 k l0 1 0 false ([] : List Int))) else (none)) else (none)
set_option maxHeartbeats 8000000 in
set_option maxRecDepth 100000 in
theorem clevisref01_Bits.calls (k : Nat) (A0 : Option Addr) (c0 : Nat) (l0 : List Int) (r1 : Bool) (r2 : List Int) (w : World) (hr0 : Kd.C (Kd.int .i64) w A0 l0.length l0) (hc0 : l0.length ≤ c0) (h : clevisref01_Bits.f k l0 = some (r1, r2)) :
  Calls Try.prog 45 #[.slice A0 l0.length c0] w fun e w' => ∃ v1_ : Value, e = .returned (.agg #[.bool r1, v1_]) ∧ Kd.V (Kd.int .i64) 3 w' w.heap.size (fun k_ => (w.heap.size ≤ k_)) v1_ r2 ∧ Below w.heap.size w w' := by
 have hu32 := Try.underlying32
 have HR0 := A_ hr0
 have HC0 := A_ hc0
 clear hr0 hc0
 have HB := A_ (Below.refl w.heap.size w)
 have H : (if 0 ≤ (wrap64 ((l0.length : Int) - 1)) then (if (wrap64 ((l0.length : Int) - 1)) < (l0.length : Int) then (if (rd l0 (wrap64 ((l0.length : Int) - 1))) ≥ 32768 then (clevisref01_Bits.l0 k l0 1 0 true ([] : List Int)) else (clevisref01_Bits.l0 k l0 1 0 false ([] : List Int))) else (none)) else (none)) = some (r1, r2) := h
 clear h
 obtain ⟨ji2, hji2⟩ : ∃ j_ : Int, (wrap64 ((l0.length : Int) - 1)) = j_ := ⟨_, rfl⟩
 replace H : (if 0 ≤ (ji2) then (if (ji2) < (l0.length : Int) then (if (rd l0 (ji2)) ≥ 32768 then (clevisref01_Bits.l0 k l0 1 0 true ([] : List Int)) else (clevisref01_Bits.l0 k l0 1 0 false ([] : List Int))) else (none)) else (none)) = some (r1, r2) := by first | (rw [hji2] at H; exact H) | (simp only [hji2] at H ⊢; exact H)
 have hji2w : (IntKind.i64.wrap ((l0.length : Int) - 1)) = ji2 := (i64_w _).trans hji2
 by_cases c3 : 0 ≤ (ji2)
 ·
  rw [if_pos c3] at H
  have c3b0 : decide (0 ≤ (ji2)) = true := decide_eq_true c3
  clear c3
  by_cases c4 : (ji2) < (l0.length : Int)
  ·
   rw [if_pos c4] at H
   have c4b0 : decide ((ji2) < (l0.length : Int)) = true := decide_eq_true c4
   clear c4
   by_cases c5 : (rd l0 (ji2)) ≥ 32768
   ·
    rw [if_pos c5] at H
    have c5b0 : decide (32768 ≤ (rd l0 (ji2))) = true := decide_eq_true c5
    clear c5
    have H' := A_ H
    clear H
    go_enter Try.func45, Try.ntmps45
    go_wp2_with (first | ((with_reducible refine gate_dst (N := 2) rfl ?_); refine box_event ?hg (N := 2) ?hd (cs := #[.bool false, .slice none 0 0]) (t := 32) ?hr ?_; (case hd => rfl); (case hg => rfl); (case hr => first | (go_simp; done) | (go_simp; rfl)); intro gb302 hg w6 hbox hb; have n0_ := A_ (bs_ bw_ hb); have n1_ := A_ (hbox); have n2_ := A_ ((by rw [hg]; exact (bz_ bw_) : w.heap.size ≤ gb302)); have n3_ := A_ ((by rw [hg]; exact (bz_ bw_) : w.heap.size ≤ gb302)); clear HB; have HB := n0_; have BK302 := n1_; have GW302 := n2_; have GE302 := n3_; clear n0_ n1_ n2_ n3_; clear hb hbox hg; have p309 : 0 ≤ ((ji2) : Int) := od_ (by first | (with_reducible assumption) | assumption); have q309 : (ji2) < (l0.length : Int) := od_ (by first | (with_reducible assumption) | assumption); obtain ⟨ad309, e309, hx309_0⟩ := Kd.at_int HR0.out (ji2) p309 q309; cases e309; replace hx309_0 := (HB.out.cell (World.block_lt_of_cell? w _ hx309_0)).trans hx309_0; replace p309 := eq_true p309; replace q309 := eq_true q309) | ((with_reducible refine gate_dst (N := 3) rfl ?_); refine box_event ?hg (N := 3) ?hd (cs := #[.bool false, .slice none 0 0]) (t := 32) ?hr ?_; (case hd => rfl); (case hg => rfl); (case hr => first | (go_simp; done) | (go_simp; rfl)); intro gb303 hg w7 hbox hb; have n0_ := A_ (kb_ BK302 hb); have n1_ := A_ (bs_ bw_ hb); have n2_ := A_ (hbox); have n3_ := A_ ((by rw [hg]; exact (bz_ bw_) : w.heap.size ≤ gb303)); have n4_ := A_ ((by rw [hg]; exact (bz_ bw_) : w.heap.size ≤ gb303)); have n5_ := A_ ((by rw [hg]; exact nl_ (lt_ BK302) : gb302 ≠ gb303)); have n6_ := A_ ((by rw [hg]; exact ng_ (lt_ BK302) : gb303 ≠ gb302)); clear BK302; clear HB; have BK302 := n0_; have HB := n1_; have BK303 := n2_; have GW303 := n3_; have GE303 := n4_; have NB302_303 := n5_; have NB303_302 := n6_; clear n0_ n1_ n2_ n3_ n4_ n5_ n6_; clear hb hbox hg; have hnb8 := NB303_302.out; have hnc8 := NB302_303.out; have hcz9_0 : w7.cell? ⟨gb303, 0, none⟩ = some (.bool false) := (bc_ BK303.out 0).trans rfl; have hcz9_1 : w7.cell? ⟨gb303, 1, none⟩ = some (.slice none 0 0) := (bc_ BK303.out 1).trans rfl; have hfz9_0 := bf_ BK303.out 0; have hfz9_1 := bf_ BK303.out 1))
    (try simp only [Act.put, sA_, sZ_, sS_])
    go_loopg [4, 5] k (fun kq v4 v5 w' => ∃ (x4_1 : Int) (x5_1 : Int) (x304001_1 : List Int) (u304001 : Value), v4 = .int .i64 x4_1 ∧ v5 = .int .i64 x5_1 ∧ Aside0 (clevisref01_Bits.l0 kq l0 x4_1 x5_1 true x304001_1 = some (r1, r2)) ∧ Aside0 (kq ≤ k) ∧ Aside0 (Kd.R (Kd.int .i64) 3 w' w.heap.size (fun k_ => (w.heap.size ≤ k_)) u304001 x304001_1) ∧ Aside0 (w'.heap[gb302]? = some (.cells #[.bool false, (.slice none 0 0)] 32 (0, 0))) ∧ Aside0 (w'.heap[gb303]? = some (.cells #[.bool true, u304001] 32 (0, 0))) ∧ Aside0 (Below w.heap.size w w'))
    case atStart => exact ⟨(1), (0), (([] : List Int)), (.slice none 0 0), (by first | rfl | (simp; done) | (simp [*]; done)), (by first | rfl | (simp; done) | (simp [*]; done)), H', ⟨Nat.le_refl _⟩, ⟨by first | exact Kd.R_nil _ _ _ _ _ | exact Kd.N_nil _ _ _ _ _ | exact Kd.V_nil _ _ _ _ _ | exact Kd.Q_nil _ _ _ _ _ | exact Kd.S_nil _ _ _ _ _⟩, ⟨bk_⟩, ⟨by (with_reducible repeat (first | refine bn_ ?_ _ | refine bd_ ?_ | refine ba_ ?_ _)); refine bp_ (cs := #[.bool true, .slice none 0 0]) ?_ 1 _ rfl; (with_reducible repeat (first | refine bn_ ?_ _ | refine bd_ ?_ | refine ba_ ?_ _)); refine bp_ (cs := #[.bool false, .slice none 0 0]) ?_ 0 _ rfl; (with_reducible repeat (first | refine bn_ ?_ _ | refine bd_ ?_ | refine ba_ ?_ _)); exact BK303.out⟩, ⟨bw_⟩⟩
    case round =>
     clear H'
     try clear p2
     try clear c3
     try clear c3b0
     try clear p3
     try clear q3
     try clear hx3
     try clear c4
     try clear c4b0
     try clear c5
     try clear c5b0
     try clear p6
     try clear c8
     try clear hcz9_0
     try clear hcz9_1
     try clear hfz9_0
     try clear hfz9_1
     try clear hx309_0
     try clear p309
     try clear q309
     obtain ⟨x4_1, x5_1, x304001_1, u304001, rfl, rfl, HA, HK1, HO_304001, BK302, BK303, HB⟩ := hrel
     cases gk with
     | zero => exact absurd HA.out (by simp [clevisref01_Bits.l0])
     | succ k1 =>
      have H := HA.out
      clear HA
      simp only [clevisref01_Bits.l0] at H
      by_cases c10 : x5_1 < (l0.length : Int)
      ·
       rw [if_pos c10] at H
       have c10b0 : decide (x5_1 < (l0.length : Int)) = true := decide_eq_true c10
       clear c10
       by_cases c11 : 0 ≤ x5_1
       ·
        rw [if_pos c11] at H
        have c11b0 : decide (0 ≤ x5_1) = true := decide_eq_true c11
        clear c11
        replace H : (if x304001_1.length < 17592186044416 then (clevisref01_Bits.l0 k1 l0 (wrap64 (Int.tdiv (wrap64 ((wrap64 (65535 - (rd l0 x5_1))) + x4_1)) 65536)) (wrap64 (x5_1 + 1)) true (x304001_1 ++ [Int.tmod (wrap64 ((wrap64 (65535 - (rd l0 x5_1))) + x4_1)) 65536])) else (none)) = some (r1, r2) := by first | exact H | (rw [if_pos rfl] at H; exact H) | (rw [if_neg (by decide)] at H; exact H) | simpa using H
        by_cases c12 : x304001_1.length < 17592186044416
        ·
         rw [if_pos c12] at H
         have LMc12 := A_ c12
         clear c12
         obtain ⟨y311, hy311⟩ : ∃ y_ : List Int, y_ = (x304001_1 ++ [Int.tmod (wrap64 ((wrap64 (65535 - (rd l0 x5_1))) + x4_1)) 65536]) := ⟨_, rfl⟩
         replace H : (clevisref01_Bits.l0 k1 l0 (wrap64 (Int.tdiv (wrap64 ((wrap64 (65535 - (rd l0 x5_1))) + x4_1)) 65536)) (wrap64 (x5_1 + 1)) true y311) = some (r1, r2) := by first | (rw [hy311]; with_reducible exact H) | (have H2_ := (Option.bind_some _ _).symm.trans H; rw [hy311]; with_reducible exact H2_) | (have H2_ := (Option.bind_some _ _).symm.trans H; with_reducible exact H2_) | with_reducible exact H | (rw [hy311]; exact H) | exact H
         have Ny311 := A_ hy311
         clear hy311
         have H' := A_ H
         clear H
         have p310 : 0 ≤ (x5_1 : Int) := od_ (by first | (with_reducible assumption) | assumption)
         have q310 : x5_1 < (l0.length : Int) := od_ (by first | (with_reducible assumption) | assumption)
         obtain ⟨ad310, e310, hx310_0⟩ := Kd.at_int HR0.out x5_1 p310 q310
         obtain rfl : ad309 = ad310 := (by injection e310)
         replace hx310_0 := (HB.out.cell (World.block_lt_of_cell? w _ hx310_0)).trans hx310_0
         replace p310 := eq_true p310
         replace q310 := eq_true q310
         have hnb13 := NB303_302.out
         have hnc13 := NB302_303.out
         have hcz14_0 : wr.cell? ⟨gb303, 0, none⟩ = some (.bool true) := (bc_ BK303.out 0).trans rfl
         have hcz14_1 : wr.cell? ⟨gb303, 1, none⟩ = some (u304001) := (bc_ BK303.out 1).trans rfl
         have hfz14_0 := bf_ BK303.out 0
         have hfz14_1 := bf_ BK303.out 1
         go_wp2_with (((with_reducible refine gate_builtin (b := .append) (xs := #[.tmp 36, .tmp 38]) rfl ?_); at_builtin; refine Kd.R_append (Kd.int .i64) (w0 := w) w.heap.size rfl (.tmp 36) (.tmp 38) 30 3 (.int .i64 0) 8 rfl Try.underlying30 info3 rfl (by decide) (by omega) u304001 x304001_1 (Int.tmod (wrap64 ((wrap64 (65535 - (rd l0 x5_1))) + x4_1)) 65536) [.int .i64 (Int.tmod (wrap64 ((wrap64 (65535 - (rd l0 x5_1))) + x4_1)) 65536)] (fun k_ => (w.heap.size ≤ k_)) (fun _ => False) rfl rfl ?aP (fun _ hk => hk.elim) ?aF ?aO ?aB ?aS ?aL ?_; (case aP => exact rfl); (case aB => exact bw_); (case aF => exact (fun k_ hk => (Nat.le_trans (bz_ bw_) hk))); (case aO => exact (by (with_reducible repeat (first | apply Kd.R_alloc | apply Kd.R_drewN | apply Kd.R_drew)); exact HO_304001.out)); (case aS => exact (bz_ bw_)); (case aL => have := LMc12.out; omega); intro v312 w15 ho hb hg hat; rw [← Ny311.out] at ho; have n0_ := A_ (blk_grown (g := gb302) (o := .cells #[.bool false, .slice none 0 0] 32 (0, 0)) bk_ hg (Kd.R_ne HO_304001.out BK302.out (by decide))); have n1_ := A_ (blk_grown (g := gb303) (o := .cells #[.bool true, u304001] 32 (0, 0)) bk_ hg (Kd.R_ne HO_304001.out BK303.out (by decide))); have n2_ := A_ (hb); have n3_ := A_ (ho); clear BK302; clear BK303; clear HB; clear HO_304001; have BK302 := n0_; have BK303 := n1_; have HB := n2_; have HO313 := n3_; clear n0_ n1_ n2_ n3_; clear ho hb hg hat; obtain ⟨Ao16, co16, eo16⟩ := Kd.R_slice HO313.out; subst eo16; have hcz17_0 : w15.cell? ⟨gb303, 0, none⟩ = some (.bool true) := (bc_ BK303.out 0).trans rfl; have hcz17_1 : w15.cell? ⟨gb303, 1, none⟩ = some (u304001) := (bc_ BK303.out 1).trans rfl; have hfz17_0 := bf_ BK303.out 0; have hfz17_1 := bf_ BK303.out 1))
         go_roundg k1
         case measure => have := HK1.out; omega
         case rel => exact ⟨(wrap64 (Int.tdiv (wrap64 ((wrap64 (65535 - (rd l0 x5_1))) + x4_1)) 65536)), (wrap64 (x5_1 + 1)), (y311), (.slice Ao16 y311.length co16), (by first | rfl | (simp; done) | (simp [*]; done)), (by first | rfl | (simp; done) | (simp [*]; done)), H', ⟨by have := HK1.out; omega⟩, ⟨by (with_reducible repeat (first | apply Kd.R_alloc | apply Kd.R_drewN | apply Kd.R_drew)); exact Kd.R_mono (Kd.R_far (p := ⟨gb303, 1, none⟩) (Kd.R_types HO313.out BK303.out (by decide)) (fun _ hk => hk.2) (.slice Ao16 y311.length co16)) (fun _ hk => hk.1)⟩, ⟨bk_⟩, ⟨by (with_reducible repeat (first | refine bn_ ?_ _ | refine bd_ ?_ | refine ba_ ?_ _)); refine bp_ (cs := #[.bool true, u304001]) ?_ 1 _ rfl; (with_reducible repeat (first | refine bn_ ?_ _ | refine bd_ ?_ | refine ba_ ?_ _)); exact BK303.out⟩, ⟨bw_⟩⟩
        ·
         rw [if_neg c12] at H
         exact absurd H (by simp)
       ·
        rw [if_neg c11] at H
        exact absurd H (by simp)
      ·
       rw [if_neg c10] at H
       have c10b0 : decide (x5_1 < (l0.length : Int)) = false := decide_eq_false c10
       clear c10
       replace H : (if x4_1 > 0 then (if x304001_1.length < 17592186044416 then ((clevisref01_clean.f k1 true (x304001_1 ++ [x4_1])).bind fun bt320 => (some (bt320.1, bt320.2))) else (none)) else ((clevisref01_clean.f k1 true x304001_1).bind fun bt324 => (some (bt324.1, bt324.2)))) = some (r1, r2) := by first | exact H | (rw [if_pos rfl] at H; exact H) | (rw [if_neg (by decide)] at H; exact H) | simpa using H
       by_cases c18 : x4_1 > 0
       ·
        rw [if_pos c18] at H
        have c18b0 : decide (0 < x4_1) = true := decide_eq_true c18
        clear c18
        by_cases c19 : x304001_1.length < 17592186044416
        ·
         rw [if_pos c19] at H
         have LMc19 := A_ c19
         clear c19
         obtain ⟨y317, hy317⟩ : ∃ y_ : List Int, y_ = (x304001_1 ++ [x4_1]) := ⟨_, rfl⟩
         replace H : ((clevisref01_clean.f k1 true y317).bind fun bt320 => (some (bt320.1, bt320.2))) = some (r1, r2) := by first | (rw [hy317]; with_reducible exact H) | (have H2_ := (Option.bind_some _ _).symm.trans H; rw [hy317]; with_reducible exact H2_) | (have H2_ := (Option.bind_some _ _).symm.trans H; with_reducible exact H2_) | with_reducible exact H | (rw [hy317]; exact H) | exact H
         have Ny317 := A_ hy317
         clear hy317
         replace H := os_ H
         obtain ⟨⟨t320, t321⟩, A200, H⟩ := H
         replace H : (some (t320, t321)) = some (r1, r2) := H
         have A20 := A_ A200
         clear A200
         simp only [Option.some.injEq, Prod.mk.injEq] at H
         obtain ⟨rfl, rfl⟩ := H
         have hnb21 := NB303_302.out
         have hnc21 := NB302_303.out
         have hcz22_0 : wr.cell? ⟨gb303, 0, none⟩ = some (.bool true) := (bc_ BK303.out 0).trans rfl
         have hcz22_1 : wr.cell? ⟨gb303, 1, none⟩ = some (u304001) := (bc_ BK303.out 1).trans rfl
         have hfz22_0 := bf_ BK303.out 0
         have hfz22_1 := bf_ BK303.out 1
         go_wp2_with (first | ((with_reducible refine gate_builtin (b := .append) (xs := #[.tmp 48, .tmp 50]) rfl ?_); at_builtin; refine Kd.R_append (Kd.int .i64) (w0 := w) w.heap.size rfl (.tmp 48) (.tmp 50) 30 3 (.int .i64 0) 8 rfl Try.underlying30 info3 rfl (by decide) (by omega) u304001 x304001_1 x4_1 [.int .i64 x4_1] (fun k_ => (w.heap.size ≤ k_)) (fun _ => False) rfl rfl ?aP (fun _ hk => hk.elim) ?aF ?aO ?aB ?aS ?aL ?_; (case aP => exact rfl); (case aB => exact bw_); (case aF => exact (fun k_ hk => (Nat.le_trans (bz_ bw_) hk))); (case aO => exact (by (with_reducible repeat (first | apply Kd.R_alloc | apply Kd.R_drewN | apply Kd.R_drew)); exact HO_304001.out)); (case aS => exact (bz_ bw_)); (case aL => have := LMc19.out; omega); intro v318 w23 ho hb hg hat; rw [← Ny317.out] at ho; have n0_ := A_ (blk_grown (g := gb302) (o := .cells #[.bool false, .slice none 0 0] 32 (0, 0)) bk_ hg (Kd.R_ne HO_304001.out BK302.out (by decide))); have n1_ := A_ (blk_grown (g := gb303) (o := .cells #[.bool true, u304001] 32 (0, 0)) bk_ hg (Kd.R_ne HO_304001.out BK303.out (by decide))); have n2_ := A_ (hb); have n3_ := A_ (ho); clear BK302; clear BK303; clear HB; clear HO_304001; have BK302 := n0_; have BK303 := n1_; have HB := n2_; have HO319 := n3_; clear n0_ n1_ n2_ n3_; clear ho hb hg hat; obtain ⟨Ao24, co24, eo24⟩ := Kd.R_slice HO319.out; subst eo24; have hcz25_0 : w23.cell? ⟨gb303, 0, none⟩ = some (.bool true) := (bc_ BK303.out 0).trans rfl; have hcz25_1 : w23.cell? ⟨gb303, 1, none⟩ = some (u304001) := (bc_ BK303.out 1).trans rfl; have hfz25_0 := bf_ BK303.out 0; have hfz25_1 := bf_ BK303.out 1) | ((with_reducible refine gate_store (t := 30) (p := 52) rfl ?_); (first | (refine store_event (t := 30) (p := 52) (v := ?vo_w26) (w1 := (w23.setCell ⟨gb303, 1, none⟩ (.slice Ao24 y317.length co24))) ?hg ?ho ?hn ?hr ?_; (case ho => rfl); (case hg => rfl); (case hn => rfl); (case hr => first | (go_simp; done) | (go_simp; rfl)); intro w26 hw) | (refine store_event (t := 30) (p := 52) (v := ?vo_w26) (w1 := ((w23.drewN ?ndq_w26).setCell ⟨gb303, 1, none⟩ (.slice Ao24 y317.length co24))) ?hg ?ho ?hn ?hr ?_; (case ho => rfl); (case hg => rfl); (case hn => rfl); (case hr => first | (go_simp; done) | (go_simp; rfl)); intro w26 hw; rw [sd_eq] at hw)); have n0_ : Aside0 (Kd.R (Kd.int .i64) 3 w26 w.heap.size (fun k_ => (w.heap.size ≤ k_)) (.slice Ao24 y317.length co24) y317) := ⟨(by rw [hw]; first | (with_reducible exact (by (with_reducible repeat (first | apply Kd.R_alloc | apply Kd.R_drewN | apply Kd.R_drew)); exact Kd.R_mono (Kd.R_far (p := ⟨gb303, 1, none⟩) (Kd.R_types HO319.out BK303.out (by decide)) (fun _ hk => hk.2) (.slice Ao24 y317.length co24)) (fun _ hk => hk.1))) | (exact grown_dn ((by (with_reducible repeat (first | apply Kd.R_alloc | apply Kd.R_drewN | apply Kd.R_drew)); exact Kd.R_mono (Kd.R_far (p := ⟨gb303, 1, none⟩) (Kd.R_types HO319.out BK303.out (by decide)) (fun _ hk => hk.2) (.slice Ao24 y317.length co24)) (fun _ hk => hk.1))) _) | (exact pn_ ((by (with_reducible repeat (first | apply Kd.R_alloc | apply Kd.R_drewN | apply Kd.R_drew)); exact Kd.R_mono (Kd.R_far (p := ⟨gb303, 1, none⟩) (Kd.R_types HO319.out BK303.out (by decide)) (fun _ hk => hk.2) (.slice Ao24 y317.length co24)) (fun _ hk => hk.1))) _) | (exact Kd.R_drewN ((by (with_reducible repeat (first | apply Kd.R_alloc | apply Kd.R_drewN | apply Kd.R_drew)); exact Kd.R_mono (Kd.R_far (p := ⟨gb303, 1, none⟩) (Kd.R_types HO319.out BK303.out (by decide)) (fun _ hk => hk.2) (.slice Ao24 y317.length co24)) (fun _ hk => hk.1))) _) | exact (by (with_reducible repeat (first | apply Kd.R_alloc | apply Kd.R_drewN | apply Kd.R_drew)); exact Kd.R_mono (Kd.R_far (p := ⟨gb303, 1, none⟩) (Kd.R_types HO319.out BK303.out (by decide)) (fun _ hk => hk.2) (.slice Ao24 y317.length co24)) (fun _ hk => hk.1)))⟩; have n1_ : Aside0 (w26.heap[gb302]? = some (.cells #[.bool false, .slice none 0 0] 32 (0, 0))) := ⟨(by rw [hw]; first | (with_reducible exact bk_) | (exact grown_dn (bk_) _) | (exact pn_ (bk_) _) | (exact Kd.R_drewN (bk_) _) | exact bk_)⟩; have n2_ : Aside0 (w26.heap[gb303]? = some (.cells #[.bool true, .slice Ao24 y317.length co24] 32 (0, 0))) := ⟨(by rw [hw]; first | (with_reducible exact (by (with_reducible repeat (first | refine bn_ ?_ _ | refine bd_ ?_ | refine ba_ ?_ _)); refine bp_ (cs := #[.bool true, u304001]) ?_ 1 _ rfl; (with_reducible repeat (first | refine bn_ ?_ _ | refine bd_ ?_ | refine ba_ ?_ _)); exact BK303.out)) | (exact grown_dn ((by (with_reducible repeat (first | refine bn_ ?_ _ | refine bd_ ?_ | refine ba_ ?_ _)); refine bp_ (cs := #[.bool true, u304001]) ?_ 1 _ rfl; (with_reducible repeat (first | refine bn_ ?_ _ | refine bd_ ?_ | refine ba_ ?_ _)); exact BK303.out)) _) | (exact pn_ ((by (with_reducible repeat (first | refine bn_ ?_ _ | refine bd_ ?_ | refine ba_ ?_ _)); refine bp_ (cs := #[.bool true, u304001]) ?_ 1 _ rfl; (with_reducible repeat (first | refine bn_ ?_ _ | refine bd_ ?_ | refine ba_ ?_ _)); exact BK303.out)) _) | (exact Kd.R_drewN ((by (with_reducible repeat (first | refine bn_ ?_ _ | refine bd_ ?_ | refine ba_ ?_ _)); refine bp_ (cs := #[.bool true, u304001]) ?_ 1 _ rfl; (with_reducible repeat (first | refine bn_ ?_ _ | refine bd_ ?_ | refine ba_ ?_ _)); exact BK303.out)) _) | exact (by (with_reducible repeat (first | refine bn_ ?_ _ | refine bd_ ?_ | refine ba_ ?_ _)); refine bp_ (cs := #[.bool true, u304001]) ?_ 1 _ rfl; (with_reducible repeat (first | refine bn_ ?_ _ | refine bd_ ?_ | refine ba_ ?_ _)); exact BK303.out))⟩; have n3_ : Aside0 (Below w.heap.size w w26) := ⟨(by rw [hw]; first | (with_reducible exact bw_) | (exact grown_dn (bw_) _) | (exact pn_ (bw_) _) | (exact Kd.R_drewN (bw_) _) | exact bw_)⟩; clear hw; clear HO319; clear BK302; clear BK303; clear HB; have HO319 := n0_; have BK302 := n1_; have BK303 := n2_; have HB := n3_; clear n0_ n1_ n2_ n3_; have hcz27_0 : w26.cell? ⟨gb303, 0, none⟩ = some (.bool true) := (bc_ BK303.out 0).trans rfl; have hcz27_1 : w26.cell? ⟨gb303, 1, none⟩ = some (.slice Ao24 y317.length co24) := (bc_ BK303.out 1).trans rfl; have hfz27_0 := bf_ BK303.out 0; have hfz27_1 := bf_ BK303.out 1) | ((with_reducible refine gate_callee (f := 47) rfl ?_); refine goesL_ (some 54) rfl rfl Try.func47 (by kernel_rfl) rfl #[.agg #[.bool true, .slice Ao24 y317.length co24]] rfl (by (try simp only [List.map_toArray, List.map_cons, List.map_nil]); first | done | rfl | (simp only [List.length_drop, List.length_take]; rfl)) ?_; (with_reducible refine (clevisref01_clean.calls k1 true (fun k_ => some k_ = (.slice Ao24 y317.length co24 : Value).ownBlock) _ _ y317 t320 t321 _ ?side1 A20.out).mono ?_); (case side1 => exact Kd.R_V (Kd.R_tight rfl (Kd.R_types (Kd.R_types (HO319.out) BK302.out (by decide)) BK303.out (by decide)))); rintro e w28 ⟨v322, rfl, ho0, hb⟩; refine ⟨_, rfl, ?_⟩; have n0_ := A_ (Kd.R_below (by (with_reducible repeat (first | apply Kd.R_alloc | apply Kd.R_drewN | apply Kd.R_drew)); exact HO319.out) hb); have n1_ := A_ (Kd.V_lower (vm_ (ok' := fun k_ => (w.heap.size ≤ k_) ∧ k_ ≠ gb302 ∧ k_ ≠ gb303) ho0 (fun k_ hk_ => ⟨Or.elim hk_ (fun hs_ => ((Kd.R_types (Kd.R_types (HO319.out) BK302.out (by decide)) BK303.out (by decide)).1 k_ hs_.symm).1.1) (fun hn_ => (Nat.le_trans (bz_ bw_) hn_)), Or.elim hk_ (fun hs_ => ((Kd.R_types (Kd.R_types (HO319.out) BK302.out (by decide)) BK303.out (by decide)).1 k_ hs_.symm).1.2) (fun hn_ => (Kd.freshB (g := gb302) (o := .cells #[.bool false, .slice none 0 0] 32 (0, 0)) bk_ k_ hn_)), Or.elim hk_ (fun hs_ => ((Kd.R_types (Kd.R_types (HO319.out) BK302.out (by decide)) BK303.out (by decide)).1 k_ hs_.symm).2) (fun hn_ => (Kd.freshB (g := gb303) (o := .cells #[.bool true, .slice Ao24 y317.length co24] 32 (0, 0)) bk_ k_ hn_))⟩)) (bz_ bw_)); have n2_ := A_ (kb_ BK302 hb); have n3_ := A_ (kb_ BK303 hb); have n4_ := A_ (bs_ bw_ hb); clear HO319; clear BK302; clear BK303; clear HB; have HO319 := n0_; have HO323 := n1_; have BK302 := n2_; have BK303 := n3_; have HB := n4_; clear n0_ n1_ n2_ n3_ n4_; (try clear hb); (try clear hb2); (try clear hk); (try clear hi); (try clear ho0); have hcz29_0 : w28.cell? ⟨gb302, 0, none⟩ = some (.bool false) := (bc_ BK302.out 0).trans rfl; have hcz29_1 : w28.cell? ⟨gb302, 1, none⟩ = some (.slice none 0 0) := (bc_ BK302.out 1).trans rfl; have hfz29_0 := bf_ BK302.out 0; have hfz29_1 := bf_ BK302.out 1; obtain ⟨Ao30, co30, eo30⟩ := Kd.V_slice HO323.out; subst eo30))
         refine bodyPost_ret (results_cell_row rfl _ _ gb302 32 #[.bool t320, .slice Ao30 t321.length co30] (0, 0) _ rfl (by (with_reducible repeat (first | refine bn_ ?_ _ | refine bd_ ?_ | refine ba_ ?_ _)); refine bp_ (cs := #[.bool t320, .slice none 0 0]) ?_ 1 _ rfl; (with_reducible repeat (first | refine bn_ ?_ _ | refine bd_ ?_ | refine ba_ ?_ _)); refine bp_ (cs := #[.bool false, .slice none 0 0]) ?_ 0 _ rfl; (with_reducible repeat (first | refine bn_ ?_ _ | refine bd_ ?_ | refine ba_ ?_ _)); exact BK302.out) Try.underlying32 rfl (by kernel_rfl)) rfl ?_
         exact ⟨_, by first | rfl | (simp [errW_none, errW_some] <;> rfl) | (simp only [← hji2]; first | rfl | (simp [errW_none, errW_some] <;> rfl)) | (simp [*, errW_none, errW_some] <;> rfl), by (with_reducible repeat (first | apply va_ | apply vn_ | apply vd_)); exact vm_ (Kd.V_far (p := ⟨gb302, 1, none⟩) (Kd.V_far (p := ⟨gb302, 0, none⟩) (vm_ HO323.out (fun k_ hk => (⟨hk, hk.2.1⟩ : _ ∧ k_ ≠ gb302))) (fun _ hk => hk.2) (.bool t320)) (fun _ hk => hk.2) (.slice Ao30 t321.length co30)) (fun _ hk => hk.1.1), bw_⟩
        ·
         rw [if_neg c19] at H
         exact absurd H (by simp)
       ·
        rw [if_neg c18] at H
        have c18b0 : decide (0 < x4_1) = false := decide_eq_false c18
        clear c18
        replace H := os_ H
        obtain ⟨⟨t324, t325⟩, A310, H⟩ := H
        replace H : (some (t324, t325)) = some (r1, r2) := H
        have A31 := A_ A310
        clear A310
        simp only [Option.some.injEq, Prod.mk.injEq] at H
        obtain ⟨rfl, rfl⟩ := H
        have hnb32 := NB303_302.out
        have hnc32 := NB302_303.out
        have hcz33_0 : wr.cell? ⟨gb303, 0, none⟩ = some (.bool true) := (bc_ BK303.out 0).trans rfl
        have hcz33_1 : wr.cell? ⟨gb303, 1, none⟩ = some (u304001) := (bc_ BK303.out 1).trans rfl
        have hfz33_0 := bf_ BK303.out 0
        have hfz33_1 := bf_ BK303.out 1
        obtain ⟨Ao34, co34, eo34⟩ := Kd.R_slice HO_304001.out
        subst eo34
        go_wp2_with (((with_reducible refine gate_callee (f := 47) rfl ?_); refine goesL_ (some 54) rfl rfl Try.func47 (by kernel_rfl) rfl #[.agg #[.bool true, .slice Ao34 x304001_1.length co34]] rfl (by (try simp only [List.map_toArray, List.map_cons, List.map_nil]); first | done | rfl | (simp only [List.length_drop, List.length_take]; rfl)) ?_; (with_reducible refine (clevisref01_clean.calls k1 true (fun k_ => some k_ = (.slice Ao34 x304001_1.length co34 : Value).ownBlock) _ _ x304001_1 t324 t325 _ ?side1 A31.out).mono ?_); (case side1 => exact Kd.R_V (Kd.R_tight rfl (Kd.R_types (Kd.R_types (HO_304001.out) BK302.out (by decide)) BK303.out (by decide)))); rintro e w35 ⟨v326, rfl, ho0, hb⟩; refine ⟨_, rfl, ?_⟩; have n0_ := A_ (Kd.R_below (by (with_reducible repeat (first | apply Kd.R_alloc | apply Kd.R_drewN | apply Kd.R_drew)); exact HO_304001.out) hb); have n1_ := A_ (Kd.V_lower (vm_ (ok' := fun k_ => (w.heap.size ≤ k_) ∧ k_ ≠ gb302 ∧ k_ ≠ gb303) ho0 (fun k_ hk_ => ⟨Or.elim hk_ (fun hs_ => ((Kd.R_types (Kd.R_types (HO_304001.out) BK302.out (by decide)) BK303.out (by decide)).1 k_ hs_.symm).1.1) (fun hn_ => (Nat.le_trans (bz_ bw_) hn_)), Or.elim hk_ (fun hs_ => ((Kd.R_types (Kd.R_types (HO_304001.out) BK302.out (by decide)) BK303.out (by decide)).1 k_ hs_.symm).1.2) (fun hn_ => (Kd.freshB (g := gb302) (o := .cells #[.bool false, .slice none 0 0] 32 (0, 0)) bk_ k_ hn_)), Or.elim hk_ (fun hs_ => ((Kd.R_types (Kd.R_types (HO_304001.out) BK302.out (by decide)) BK303.out (by decide)).1 k_ hs_.symm).2) (fun hn_ => (Kd.freshB (g := gb303) (o := .cells #[.bool true, .slice Ao34 x304001_1.length co34] 32 (0, 0)) bk_ k_ hn_))⟩)) (bz_ bw_)); have n2_ := A_ (kb_ BK302 hb); have n3_ := A_ (kb_ BK303 hb); have n4_ := A_ (bs_ bw_ hb); clear HO_304001; clear BK302; clear BK303; clear HB; have HO_304001 := n0_; have HO327 := n1_; have BK302 := n2_; have BK303 := n3_; have HB := n4_; clear n0_ n1_ n2_ n3_ n4_; (try clear hb); (try clear hb2); (try clear hk); (try clear hi); (try clear ho0); have hcz36_0 : w35.cell? ⟨gb302, 0, none⟩ = some (.bool false) := (bc_ BK302.out 0).trans rfl; have hcz36_1 : w35.cell? ⟨gb302, 1, none⟩ = some (.slice none 0 0) := (bc_ BK302.out 1).trans rfl; have hfz36_0 := bf_ BK302.out 0; have hfz36_1 := bf_ BK302.out 1; obtain ⟨Ao37, co37, eo37⟩ := Kd.V_slice HO327.out; subst eo37))
        refine bodyPost_ret (results_cell_row rfl _ _ gb302 32 #[.bool t324, .slice Ao37 t325.length co37] (0, 0) _ rfl (by (with_reducible repeat (first | refine bn_ ?_ _ | refine bd_ ?_ | refine ba_ ?_ _)); refine bp_ (cs := #[.bool t324, .slice none 0 0]) ?_ 1 _ rfl; (with_reducible repeat (first | refine bn_ ?_ _ | refine bd_ ?_ | refine ba_ ?_ _)); refine bp_ (cs := #[.bool false, .slice none 0 0]) ?_ 0 _ rfl; (with_reducible repeat (first | refine bn_ ?_ _ | refine bd_ ?_ | refine ba_ ?_ _)); exact BK302.out) Try.underlying32 rfl (by kernel_rfl)) rfl ?_
        exact ⟨_, by first | rfl | (simp [errW_none, errW_some] <;> rfl) | (simp only [← hji2]; first | rfl | (simp [errW_none, errW_some] <;> rfl)) | (simp [*, errW_none, errW_some] <;> rfl), by (with_reducible repeat (first | apply va_ | apply vn_ | apply vd_)); exact vm_ (Kd.V_far (p := ⟨gb302, 1, none⟩) (Kd.V_far (p := ⟨gb302, 0, none⟩) (vm_ HO327.out (fun k_ hk => (⟨hk, hk.2.1⟩ : _ ∧ k_ ≠ gb302))) (fun _ hk => hk.2) (.bool t324)) (fun _ hk => hk.2) (.slice Ao37 t325.length co37)) (fun _ hk => hk.1.1), bw_⟩
   ·
    rw [if_neg c5] at H
    have c5b0 : decide (32768 ≤ (rd l0 (ji2))) = false := decide_eq_false c5
    clear c5
    have H' := A_ H
    clear H
    go_enter Try.func45, Try.ntmps45
    go_wp2_with (first | ((with_reducible refine gate_dst (N := 2) rfl ?_); refine box_event ?hg (N := 2) ?hd (cs := #[.bool false, .slice none 0 0]) (t := 32) ?hr ?_; (case hd => rfl); (case hg => rfl); (case hr => first | (go_simp; done) | (go_simp; rfl)); intro gb302 hg w38 hbox hb; have n0_ := A_ (bs_ bw_ hb); have n1_ := A_ (hbox); have n2_ := A_ ((by rw [hg]; exact (bz_ bw_) : w.heap.size ≤ gb302)); have n3_ := A_ ((by rw [hg]; exact (bz_ bw_) : w.heap.size ≤ gb302)); clear HB; have HB := n0_; have BK302 := n1_; have GW302 := n2_; have GE302 := n3_; clear n0_ n1_ n2_ n3_; clear hb hbox hg; have p309 : 0 ≤ ((ji2) : Int) := od_ (by first | (with_reducible assumption) | assumption); have q309 : (ji2) < (l0.length : Int) := od_ (by first | (with_reducible assumption) | assumption); obtain ⟨ad309, e309, hx309_0⟩ := Kd.at_int HR0.out (ji2) p309 q309; cases e309; replace hx309_0 := (HB.out.cell (World.block_lt_of_cell? w _ hx309_0)).trans hx309_0; replace p309 := eq_true p309; replace q309 := eq_true q309) | ((with_reducible refine gate_dst (N := 3) rfl ?_); refine box_event ?hg (N := 3) ?hd (cs := #[.bool false, .slice none 0 0]) (t := 32) ?hr ?_; (case hd => rfl); (case hg => rfl); (case hr => first | (go_simp; done) | (go_simp; rfl)); intro gb303 hg w39 hbox hb; have n0_ := A_ (kb_ BK302 hb); have n1_ := A_ (bs_ bw_ hb); have n2_ := A_ (hbox); have n3_ := A_ ((by rw [hg]; exact (bz_ bw_) : w.heap.size ≤ gb303)); have n4_ := A_ ((by rw [hg]; exact (bz_ bw_) : w.heap.size ≤ gb303)); have n5_ := A_ ((by rw [hg]; exact nl_ (lt_ BK302) : gb302 ≠ gb303)); have n6_ := A_ ((by rw [hg]; exact ng_ (lt_ BK302) : gb303 ≠ gb302)); clear BK302; clear HB; have BK302 := n0_; have HB := n1_; have BK303 := n2_; have GW303 := n3_; have GE303 := n4_; have NB302_303 := n5_; have NB303_302 := n6_; clear n0_ n1_ n2_ n3_ n4_ n5_ n6_; clear hb hbox hg; have hnb40 := NB303_302.out; have hnc40 := NB302_303.out; have hcz41_0 : w39.cell? ⟨gb303, 0, none⟩ = some (.bool false) := (bc_ BK303.out 0).trans rfl; have hcz41_1 : w39.cell? ⟨gb303, 1, none⟩ = some (.slice none 0 0) := (bc_ BK303.out 1).trans rfl; have hfz41_0 := bf_ BK303.out 0; have hfz41_1 := bf_ BK303.out 1))
    (try simp only [Act.put, sA_, sZ_, sS_])
    go_loopg [4, 5] k (fun kq v4 v5 w' => ∃ (x4_1 : Int) (x5_1 : Int) (x304001_1 : List Int) (u304001 : Value), v4 = .int .i64 x4_1 ∧ v5 = .int .i64 x5_1 ∧ Aside0 (clevisref01_Bits.l0 kq l0 x4_1 x5_1 false x304001_1 = some (r1, r2)) ∧ Aside0 (kq ≤ k) ∧ Aside0 (Kd.R (Kd.int .i64) 3 w' w.heap.size (fun k_ => (w.heap.size ≤ k_)) u304001 x304001_1) ∧ Aside0 (w'.heap[gb302]? = some (.cells #[.bool false, (.slice none 0 0)] 32 (0, 0))) ∧ Aside0 (w'.heap[gb303]? = some (.cells #[.bool false, u304001] 32 (0, 0))) ∧ Aside0 (Below w.heap.size w w'))
    case atStart => exact ⟨(1), (0), (([] : List Int)), (.slice none 0 0), (by first | rfl | (simp; done) | (simp [*]; done)), (by first | rfl | (simp; done) | (simp [*]; done)), H', ⟨Nat.le_refl _⟩, ⟨by first | exact Kd.R_nil _ _ _ _ _ | exact Kd.N_nil _ _ _ _ _ | exact Kd.V_nil _ _ _ _ _ | exact Kd.Q_nil _ _ _ _ _ | exact Kd.S_nil _ _ _ _ _⟩, ⟨bk_⟩, ⟨by (with_reducible repeat (first | refine bn_ ?_ _ | refine bd_ ?_ | refine ba_ ?_ _)); refine bp_ (cs := #[.bool false, .slice none 0 0]) ?_ 1 _ rfl; (with_reducible repeat (first | refine bn_ ?_ _ | refine bd_ ?_ | refine ba_ ?_ _)); refine bp_ (cs := #[.bool false, .slice none 0 0]) ?_ 0 _ rfl; (with_reducible repeat (first | refine bn_ ?_ _ | refine bd_ ?_ | refine ba_ ?_ _)); exact BK303.out⟩, ⟨bw_⟩⟩
    case round =>
     clear H'
     try clear c1
     try clear c2
     try clear p2
     try clear c3
     try clear c3b0
     try clear p3
     try clear q3
     try clear hx3
     try clear c4
     try clear c4b0
     try clear c5
     try clear c5b0
     try clear p6
     try clear c8
     try clear c10
     try clear c10b0
     try clear c11
     try clear c11b0
     try clear c12
     try clear c13
     try clear c18
     try clear c18b0
     try clear c19
     try clear c21
     try clear p30
     try clear q30
     try clear hx30
     try clear p31
     try clear q31
     try clear hx31
     try clear c32
     try clear c40
     try clear hcz14_0
     try clear hcz14_1
     try clear hcz17_0
     try clear hcz17_1
     try clear hcz22_0
     try clear hcz22_1
     try clear hcz25_0
     try clear hcz25_1
     try clear hcz27_0
     try clear hcz27_1
     try clear hcz29_0
     try clear hcz29_1
     try clear hcz33_0
     try clear hcz33_1
     try clear hcz36_0
     try clear hcz36_1
     try clear hcz41_0
     try clear hcz41_1
     try clear hcz9_0
     try clear hcz9_1
     try clear hfz14_0
     try clear hfz14_1
     try clear hfz17_0
     try clear hfz17_1
     try clear hfz22_0
     try clear hfz22_1
     try clear hfz25_0
     try clear hfz25_1
     try clear hfz27_0
     try clear hfz27_1
     try clear hfz29_0
     try clear hfz29_1
     try clear hfz33_0
     try clear hfz33_1
     try clear hfz36_0
     try clear hfz36_1
     try clear hfz41_0
     try clear hfz41_1
     try clear hfz9_0
     try clear hfz9_1
     try clear hx309_0
     try clear hx310_0
     try clear p2
     try clear p3
     try clear p309
     try clear p310
     try clear p6
     try clear q3
     try clear q309
     try clear q310
     obtain ⟨x4_1, x5_1, x304001_1, u304001, rfl, rfl, HA, HK1, HO_304001, BK302, BK303, HB⟩ := hrel
     cases gk with
     | zero => exact absurd HA.out (by simp [clevisref01_Bits.l0])
     | succ k1 =>
      have H := HA.out
      clear HA
      simp only [clevisref01_Bits.l0] at H
      by_cases c42 : x5_1 < (l0.length : Int)
      ·
       rw [if_pos c42] at H
       have c42b0 : decide (x5_1 < (l0.length : Int)) = true := decide_eq_true c42
       clear c42
       by_cases c43 : 0 ≤ x5_1
       ·
        rw [if_pos c43] at H
        have c43b0 : decide (0 ≤ x5_1) = true := decide_eq_true c43
        clear c43
        replace H : (if x304001_1.length < 17592186044416 then (clevisref01_Bits.l0 k1 l0 x4_1 (wrap64 (x5_1 + 1)) false (x304001_1 ++ [rd l0 x5_1])) else (none)) = some (r1, r2) := by first | exact H | (rw [if_pos rfl] at H; exact H) | (rw [if_neg (by decide)] at H; exact H) | simpa using H
        by_cases c44 : x304001_1.length < 17592186044416
        ·
         rw [if_pos c44] at H
         have LMc44 := A_ c44
         clear c44
         obtain ⟨y314, hy314⟩ : ∃ y_ : List Int, y_ = (x304001_1 ++ [rd l0 x5_1]) := ⟨_, rfl⟩
         replace H : (clevisref01_Bits.l0 k1 l0 x4_1 (wrap64 (x5_1 + 1)) false y314) = some (r1, r2) := by first | (rw [hy314]; with_reducible exact H) | (have H2_ := (Option.bind_some _ _).symm.trans H; rw [hy314]; with_reducible exact H2_) | (have H2_ := (Option.bind_some _ _).symm.trans H; with_reducible exact H2_) | with_reducible exact H | (rw [hy314]; exact H) | exact H
         have Ny314 := A_ hy314
         clear hy314
         have H' := A_ H
         clear H
         have p310 : 0 ≤ (x5_1 : Int) := od_ (by first | (with_reducible assumption) | assumption)
         have q310 : x5_1 < (l0.length : Int) := od_ (by first | (with_reducible assumption) | assumption)
         obtain ⟨ad310, e310, hx310_0⟩ := Kd.at_int HR0.out x5_1 p310 q310
         obtain rfl : ad309 = ad310 := (by injection e310)
         replace hx310_0 := (HB.out.cell (World.block_lt_of_cell? w _ hx310_0)).trans hx310_0
         replace p310 := eq_true p310
         replace q310 := eq_true q310
         have hnb45 := NB303_302.out
         have hnc45 := NB302_303.out
         have hcz46_0 : wr.cell? ⟨gb303, 0, none⟩ = some (.bool false) := (bc_ BK303.out 0).trans rfl
         have hcz46_1 : wr.cell? ⟨gb303, 1, none⟩ = some (u304001) := (bc_ BK303.out 1).trans rfl
         have hfz46_0 := bf_ BK303.out 0
         have hfz46_1 := bf_ BK303.out 1
         go_wp2_with (((with_reducible refine gate_builtin (b := .append) (xs := #[.tmp 36, .tmp 38]) rfl ?_); at_builtin; refine Kd.R_append (Kd.int .i64) (w0 := w) w.heap.size rfl (.tmp 36) (.tmp 38) 30 3 (.int .i64 0) 8 rfl Try.underlying30 info3 rfl (by decide) (by omega) u304001 x304001_1 (rd l0 x5_1) [.int .i64 (rd l0 x5_1)] (fun k_ => (w.heap.size ≤ k_)) (fun _ => False) rfl rfl ?aP (fun _ hk => hk.elim) ?aF ?aO ?aB ?aS ?aL ?_; (case aP => exact rfl); (case aB => exact bw_); (case aF => exact (fun k_ hk => (Nat.le_trans (bz_ bw_) hk))); (case aO => exact (by (with_reducible repeat (first | apply Kd.R_alloc | apply Kd.R_drewN | apply Kd.R_drew)); exact HO_304001.out)); (case aS => exact (bz_ bw_)); (case aL => have := LMc44.out; omega); intro v315 w47 ho hb hg hat; rw [← Ny314.out] at ho; have n0_ := A_ (blk_grown (g := gb302) (o := .cells #[.bool false, .slice none 0 0] 32 (0, 0)) bk_ hg (Kd.R_ne HO_304001.out BK302.out (by decide))); have n1_ := A_ (blk_grown (g := gb303) (o := .cells #[.bool false, u304001] 32 (0, 0)) bk_ hg (Kd.R_ne HO_304001.out BK303.out (by decide))); have n2_ := A_ (hb); have n3_ := A_ (ho); clear BK302; clear BK303; clear HB; clear HO_304001; have BK302 := n0_; have BK303 := n1_; have HB := n2_; have HO316 := n3_; clear n0_ n1_ n2_ n3_; clear ho hb hg hat; obtain ⟨Ao48, co48, eo48⟩ := Kd.R_slice HO316.out; subst eo48; have hcz49_0 : w47.cell? ⟨gb303, 0, none⟩ = some (.bool false) := (bc_ BK303.out 0).trans rfl; have hcz49_1 : w47.cell? ⟨gb303, 1, none⟩ = some (u304001) := (bc_ BK303.out 1).trans rfl; have hfz49_0 := bf_ BK303.out 0; have hfz49_1 := bf_ BK303.out 1))
         go_roundg k1
         case measure => have := HK1.out; omega
         case rel => exact ⟨(x4_1), (wrap64 (x5_1 + 1)), (y314), (.slice Ao48 y314.length co48), (by first | rfl | (simp; done) | (simp [*]; done)), (by first | rfl | (simp; done) | (simp [*]; done)), H', ⟨by have := HK1.out; omega⟩, ⟨by (with_reducible repeat (first | apply Kd.R_alloc | apply Kd.R_drewN | apply Kd.R_drew)); exact Kd.R_mono (Kd.R_far (p := ⟨gb303, 1, none⟩) (Kd.R_types HO316.out BK303.out (by decide)) (fun _ hk => hk.2) (.slice Ao48 y314.length co48)) (fun _ hk => hk.1)⟩, ⟨bk_⟩, ⟨by (with_reducible repeat (first | refine bn_ ?_ _ | refine bd_ ?_ | refine ba_ ?_ _)); refine bp_ (cs := #[.bool false, u304001]) ?_ 1 _ rfl; (with_reducible repeat (first | refine bn_ ?_ _ | refine bd_ ?_ | refine ba_ ?_ _)); exact BK303.out⟩, ⟨bw_⟩⟩
        ·
         rw [if_neg c44] at H
         exact absurd H (by simp)
       ·
        rw [if_neg c43] at H
        exact absurd H (by simp)
      ·
       rw [if_neg c42] at H
       have c42b0 : decide (x5_1 < (l0.length : Int)) = false := decide_eq_false c42
       clear c42
       replace H : ((clevisref01_clean.f k1 false x304001_1).bind fun bt328 => (some (bt328.1, bt328.2))) = some (r1, r2) := by first | exact H | (rw [if_pos rfl] at H; exact H) | (rw [if_neg (by decide)] at H; exact H) | simpa using H
       replace H := os_ H
       obtain ⟨⟨t328, t329⟩, A500, H⟩ := H
       replace H : (some (t328, t329)) = some (r1, r2) := H
       have A50 := A_ A500
       clear A500
       simp only [Option.some.injEq, Prod.mk.injEq] at H
       obtain ⟨rfl, rfl⟩ := H
       have hnb51 := NB303_302.out
       have hnc51 := NB302_303.out
       have hcz52_0 : wr.cell? ⟨gb303, 0, none⟩ = some (.bool false) := (bc_ BK303.out 0).trans rfl
       have hcz52_1 : wr.cell? ⟨gb303, 1, none⟩ = some (u304001) := (bc_ BK303.out 1).trans rfl
       have hfz52_0 := bf_ BK303.out 0
       have hfz52_1 := bf_ BK303.out 1
       obtain ⟨Ao53, co53, eo53⟩ := Kd.R_slice HO_304001.out
       subst eo53
       go_wp2_with (((with_reducible refine gate_callee (f := 47) rfl ?_); refine goesL_ (some 54) rfl rfl Try.func47 (by kernel_rfl) rfl #[.agg #[.bool false, .slice Ao53 x304001_1.length co53]] rfl (by (try simp only [List.map_toArray, List.map_cons, List.map_nil]); first | done | rfl | (simp only [List.length_drop, List.length_take]; rfl)) ?_; (with_reducible refine (clevisref01_clean.calls k1 false (fun k_ => some k_ = (.slice Ao53 x304001_1.length co53 : Value).ownBlock) _ _ x304001_1 t328 t329 _ ?side1 A50.out).mono ?_); (case side1 => exact Kd.R_V (Kd.R_tight rfl (Kd.R_types (Kd.R_types (HO_304001.out) BK302.out (by decide)) BK303.out (by decide)))); rintro e w54 ⟨v330, rfl, ho0, hb⟩; refine ⟨_, rfl, ?_⟩; have n0_ := A_ (Kd.R_below (by (with_reducible repeat (first | apply Kd.R_alloc | apply Kd.R_drewN | apply Kd.R_drew)); exact HO_304001.out) hb); have n1_ := A_ (Kd.V_lower (vm_ (ok' := fun k_ => (w.heap.size ≤ k_) ∧ k_ ≠ gb302 ∧ k_ ≠ gb303) ho0 (fun k_ hk_ => ⟨Or.elim hk_ (fun hs_ => ((Kd.R_types (Kd.R_types (HO_304001.out) BK302.out (by decide)) BK303.out (by decide)).1 k_ hs_.symm).1.1) (fun hn_ => (Nat.le_trans (bz_ bw_) hn_)), Or.elim hk_ (fun hs_ => ((Kd.R_types (Kd.R_types (HO_304001.out) BK302.out (by decide)) BK303.out (by decide)).1 k_ hs_.symm).1.2) (fun hn_ => (Kd.freshB (g := gb302) (o := .cells #[.bool false, .slice none 0 0] 32 (0, 0)) bk_ k_ hn_)), Or.elim hk_ (fun hs_ => ((Kd.R_types (Kd.R_types (HO_304001.out) BK302.out (by decide)) BK303.out (by decide)).1 k_ hs_.symm).2) (fun hn_ => (Kd.freshB (g := gb303) (o := .cells #[.bool false, .slice Ao53 x304001_1.length co53] 32 (0, 0)) bk_ k_ hn_))⟩)) (bz_ bw_)); have n2_ := A_ (kb_ BK302 hb); have n3_ := A_ (kb_ BK303 hb); have n4_ := A_ (bs_ bw_ hb); clear HO_304001; clear BK302; clear BK303; clear HB; have HO_304001 := n0_; have HO331 := n1_; have BK302 := n2_; have BK303 := n3_; have HB := n4_; clear n0_ n1_ n2_ n3_ n4_; (try clear hb); (try clear hb2); (try clear hk); (try clear hi); (try clear ho0); have hcz55_0 : w54.cell? ⟨gb302, 0, none⟩ = some (.bool false) := (bc_ BK302.out 0).trans rfl; have hcz55_1 : w54.cell? ⟨gb302, 1, none⟩ = some (.slice none 0 0) := (bc_ BK302.out 1).trans rfl; have hfz55_0 := bf_ BK302.out 0; have hfz55_1 := bf_ BK302.out 1; obtain ⟨Ao56, co56, eo56⟩ := Kd.V_slice HO331.out; subst eo56))
       refine bodyPost_ret (results_cell_row rfl _ _ gb302 32 #[.bool t328, .slice Ao56 t329.length co56] (0, 0) _ rfl (by (with_reducible repeat (first | refine bn_ ?_ _ | refine bd_ ?_ | refine ba_ ?_ _)); refine bp_ (cs := #[.bool t328, .slice none 0 0]) ?_ 1 _ rfl; (with_reducible repeat (first | refine bn_ ?_ _ | refine bd_ ?_ | refine ba_ ?_ _)); refine bp_ (cs := #[.bool false, .slice none 0 0]) ?_ 0 _ rfl; (with_reducible repeat (first | refine bn_ ?_ _ | refine bd_ ?_ | refine ba_ ?_ _)); exact BK302.out) Try.underlying32 rfl (by kernel_rfl)) rfl ?_
       exact ⟨_, by first | rfl | (simp [errW_none, errW_some] <;> rfl) | (simp only [← hji2]; first | rfl | (simp [errW_none, errW_some] <;> rfl)) | (simp [*, errW_none, errW_some] <;> rfl), by (with_reducible repeat (first | apply va_ | apply vn_ | apply vd_)); exact vm_ (Kd.V_far (p := ⟨gb302, 1, none⟩) (Kd.V_far (p := ⟨gb302, 0, none⟩) (vm_ HO331.out (fun k_ hk => (⟨hk, hk.2.1⟩ : _ ∧ k_ ≠ gb302))) (fun _ hk => hk.2) (.bool t328)) (fun _ hk => hk.2) (.slice Ao56 t329.length co56)) (fun _ hk => hk.1.1), bw_⟩
  ·
   rw [if_neg c4] at H
   exact absurd H (by simp)
 ·
  rw [if_neg c3] at H
  exact absurd H (by simp)
end Go.Proofs.Ytjbcigiffihjaaa.Fx
end
section
namespace Go.Proofs.Ytjbcigiffihjaaa.Fx
open Go.RowKit Go.Proofs.YtjbcigiffihjaaaW.PrintWords Go.Proofs.YtjbcigiffihjaaaW.PrintLast Go.Proofs.YtjbcigiffihjaaaW.PrintMore
attribute [local go_sem] max2_int min2_int max_two min_two max_three min_three max_four min_four   -- for this text's walks alone
set_option linter.unusedVariables false
set_option linter.unusedSimpArgs false
attribute [local go_sem] run_add64_any
def clevisref01_words.l0 : Nat → Int → Int → List Int → Int → Option (List Int)
 | 0, _, _, _, _ => none
 | k + 1, x0, x1, x5, x6 => if x6 < x1 then (if x5.length < 17592186044416 then (clevisref01_words.l0 k (IntKind.u64.wrap (Int.tdiv x0 65536)) x1 (x5 ++ [wrap64 (Int.tmod x0 65536)]) (wrap64 (x6 + 1))) else (none)) else (some x5)
def clevisref01_words.f (k : Nat) (a0 : Int) (a1 : Int) : Option (List Int) := clevisref01_words.l0 k a0 a1 ([] : List Int) 0
set_option maxHeartbeats 8000000 in
set_option maxRecDepth 100000 in
theorem clevisref01_words.calls (k : Nat) (a0 : Int) (a1 : Int) (r : List Int) (w : World) (h : clevisref01_words.f k a0 a1 = some r) :
  Calls Try.prog 46 #[.int .u64 a0, .int .i64 a1] w fun e w' => ∃ v0_ : Value, e = .returned (v0_) ∧ Kd.R (Kd.int .i64) 3 w' w.heap.size (fun _ => True) v0_ r ∧ Below w.heap.size w w' := by
 have HB := A_ (Below.refl w.heap.size w)
 have H : (clevisref01_words.l0 k a0 a1 ([] : List Int) 0) = some r := h
 clear h
 have H' := A_ H
 clear H
 go_enter Try.func46, Try.ntmps46
 go_wp2
 (try simp only [Act.put, sA_, sZ_, sS_])
 go_loopg [0, 5, 6] k (fun kq v0 v5 v6 w' => ∃ (x0_1 : Int) (x5_1 : List Int) (x6_1 : Int), v0 = .int .u64 x0_1 ∧ v6 = .int .i64 x6_1 ∧ Aside0 (clevisref01_words.l0 kq x0_1 a1 x5_1 x6_1 = some r) ∧ Aside0 (kq ≤ k) ∧ Aside0 (Kd.R (Kd.int .i64) 3 w' w.heap.size (fun _ => True) v5 x5_1) ∧ Aside0 (Below w.heap.size w w'))
 case atStart => exact ⟨(a0), (([] : List Int)), (0), (by first | rfl | (simp; done) | (simp [*]; done)), (by first | rfl | (simp; done) | (simp [*]; done)), H', ⟨Nat.le_refl _⟩, ⟨by first | exact Kd.R_nil _ _ _ _ _ | exact Kd.N_nil _ _ _ _ _ | exact Kd.V_nil _ _ _ _ _ | exact Kd.Q_nil _ _ _ _ _ | exact Kd.S_nil _ _ _ _ _⟩, ⟨bw_⟩⟩
 case round =>
  clear H'
  try clear p2
  obtain ⟨x0_1, x5_1, x6_1, rfl, rfl, HA, HK1, HO_5, HB⟩ := hrel
  cases gk with
  | zero => exact absurd HA.out (by simp [clevisref01_words.l0])
  | succ k1 =>
   have H := HA.out
   clear HA
   simp only [clevisref01_words.l0] at H
   by_cases c3 : x6_1 < a1
   ·
    rw [if_pos c3] at H
    have c3b0 : decide (x6_1 < a1) = true := decide_eq_true c3
    clear c3
    by_cases c4 : x5_1.length < 17592186044416
    ·
     rw [if_pos c4] at H
     have LMc4 := A_ c4
     clear c4
     obtain ⟨y332, hy332⟩ : ∃ y_ : List Int, y_ = (x5_1 ++ [wrap64 (Int.tmod x0_1 65536)]) := ⟨_, rfl⟩
     replace H : (clevisref01_words.l0 k1 (IntKind.u64.wrap (Int.tdiv x0_1 65536)) a1 y332 (wrap64 (x6_1 + 1))) = some r := by first | (rw [hy332]; with_reducible exact H) | (have H2_ := (Option.bind_some _ _).symm.trans H; rw [hy332]; with_reducible exact H2_) | (have H2_ := (Option.bind_some _ _).symm.trans H; with_reducible exact H2_) | with_reducible exact H | (rw [hy332]; exact H) | exact H
     have Ny332 := A_ hy332
     clear hy332
     have H' := A_ H
     clear H
     go_wp2_with (((with_reducible refine gate_builtin (b := .append) (xs := #[.tmp 12, .tmp 16]) rfl ?_); at_builtin; refine Kd.R_append (Kd.int .i64) (w0 := w) w.heap.size rfl (.tmp 12) (.tmp 16) 30 3 (.int .i64 0) 8 rfl Try.underlying30 info3 rfl (by decide) (by omega) u5 x5_1 (wrap64 (Int.tmod x0_1 65536)) [.int .i64 (wrap64 (Int.tmod x0_1 65536))] (fun _ => True) (fun _ => False) rfl rfl ?aP (fun _ hk => hk.elim) ?aF ?aO ?aB ?aS ?aL ?_; (case aP => exact rfl); (case aB => exact bw_); (case aF => exact (fun _ _ => trivial)); (case aO => exact (by (with_reducible repeat (first | apply Kd.R_alloc | apply Kd.R_drewN | apply Kd.R_drew)); exact HO_5.out)); (case aS => exact (bz_ bw_)); (case aL => have := LMc4.out; omega); intro v333 w5 ho hb hg hat; rw [← Ny332.out] at ho; have n0_ := A_ (hb); have n1_ := A_ (ho); clear HB; clear HO_5; have HB := n0_; have HO334 := n1_; clear n0_ n1_; clear ho hb hg hat))
     go_roundg k1
     case measure => have := HK1.out; omega
     case rel => exact ⟨(IntKind.u64.wrap (Int.tdiv x0_1 65536)), (y332), (wrap64 (x6_1 + 1)), (by first | rfl | (simp; done) | (simp [*]; done)), (by first | rfl | (simp; done) | (simp [*]; done)), H', ⟨by have := HK1.out; omega⟩, ⟨by (with_reducible repeat (first | apply Kd.R_alloc | apply Kd.R_drewN | apply Kd.R_drew)); exact HO334.out⟩, ⟨bw_⟩⟩
    ·
     rw [if_neg c4] at H
     exact absurd H (by simp)
   ·
    rw [if_neg c3] at H
    have c3b0 : decide (x6_1 < a1) = false := decide_eq_false c3
    clear c3
    obtain rfl := Option.some.inj H
    go_wp2
    go_ret
    exact ⟨_, by first | rfl | (simp [errW_none, errW_some] <;> rfl) | (simp [*, errW_none, errW_some] <;> rfl), by (with_reducible repeat (first | apply Kd.R_alloc | apply Kd.R_drewN | apply Kd.R_drew)); exact HO_5.out, bw_⟩
end Go.Proofs.Ytjbcigiffihjaaa.Fx
end
section
namespace Go.Proofs.Ytjbcigiffihjaaa.Fx
open Go.RowKit Go.Proofs.YtjbcigiffihjaaaW.PrintWords Go.Proofs.YtjbcigiffihjaaaW.PrintLast Go.Proofs.YtjbcigiffihjaaaW.PrintMore
attribute [local go_sem] max2_int min2_int max_two min_two max_three min_three max_four min_four   -- for this text's walks alone
set_option linter.unusedVariables false
set_option linter.unusedSimpArgs false
attribute [local go_sem] run_add64_any
def clevisref01_Wide.f (k : Nat) (a0 : Int) (a1 : Int) : Option (Bool × List Int) := (clevisref01_words.f k a1 4).bind fun t335 => ((clevisref01_words.f k (IntKind.u64.wrap (a0)) 4).bind fun t338 => (if t335.length + t338.length < 17592186044416 then ((clevisref01_Bits.f k (t335 ++ t338)).bind fun bt344 => (some (bt344.1, bt344.2))) else (none)))
set_option maxHeartbeats 8000000 in
set_option maxRecDepth 100000 in
theorem clevisref01_Wide.calls (k : Nat) (a0 : Int) (a1 : Int) (r1 : Bool) (r2 : List Int) (w : World) (h : clevisref01_Wide.f k a0 a1 = some (r1, r2)) :
  Calls Try.prog 44 #[.int .i64 a0, .int .u64 a1] w fun e w' => ∃ v1_ : Value, e = .returned (.agg #[.bool r1, v1_]) ∧ Kd.V (Kd.int .i64) 3 w' w.heap.size (fun k_ => (w.heap.size ≤ k_)) v1_ r2 ∧ Below w.heap.size w w' := by
 have hu32 := Try.underlying32
 have HB := A_ (Below.refl w.heap.size w)
 have H : ((clevisref01_words.f k a1 4).bind fun t335 => ((clevisref01_words.f k (IntKind.u64.wrap (a0)) 4).bind fun t338 => (if t335.length + t338.length < 17592186044416 then ((clevisref01_Bits.f k (t335 ++ t338)).bind fun bt344 => (some (bt344.1, bt344.2))) else (none)))) = some (r1, r2) := h
 clear h
 replace H := os_ H
 obtain ⟨t335, A30, H⟩ := H
 replace H : ((clevisref01_words.f k (IntKind.u64.wrap (a0)) 4).bind fun t338 => (if t335.length + t338.length < 17592186044416 then ((clevisref01_Bits.f k (t335 ++ t338)).bind fun bt344 => (some (bt344.1, bt344.2))) else (none))) = some (r1, r2) := H
 have A3 := A_ A30
 clear A30
 replace H := os_ H
 obtain ⟨t338, A40, H⟩ := H
 replace H : (if t335.length + t338.length < 17592186044416 then ((clevisref01_Bits.f k (t335 ++ t338)).bind fun bt344 => (some (bt344.1, bt344.2))) else (none)) = some (r1, r2) := H
 have A4 := A_ A40
 clear A40
 by_cases c5 : t335.length + t338.length < 17592186044416
 ·
  rw [if_pos c5] at H
  have LMc5 := A_ c5
  clear c5
  obtain ⟨y341, hy341⟩ : ∃ y_ : List Int, y_ = (t335 ++ t338) := ⟨_, rfl⟩
  replace H : ((clevisref01_Bits.f k y341).bind fun bt344 => (some (bt344.1, bt344.2))) = some (r1, r2) := by first | (rw [hy341]; with_reducible exact H) | (have H2_ := (Option.bind_some _ _).symm.trans H; rw [hy341]; with_reducible exact H2_) | (have H2_ := (Option.bind_some _ _).symm.trans H; with_reducible exact H2_) | with_reducible exact H | (rw [hy341]; exact H) | exact H
  have Ny341 := A_ hy341
  clear hy341
  replace H := os_ H
  obtain ⟨⟨t344, t345⟩, A60, H⟩ := H
  replace H : (some (t344, t345)) = some (r1, r2) := H
  have A6 := A_ A60
  clear A60
  simp only [Option.some.injEq, Prod.mk.injEq] at H
  obtain ⟨rfl, rfl⟩ := H
  go_enter Try.func44, Try.ntmps44
  go_wp2_with (first | ((with_reducible refine gate_dst (N := 4) rfl ?_); refine box_event ?hg (N := 4) ?hd (cs := #[.bool false, .slice none 0 0]) (t := 32) ?hr ?_; (case hd => rfl); (case hg => rfl); (case hr => first | (go_simp; done) | (go_simp; rfl)); intro gb304 hg w7 hbox hb; have n0_ := A_ (bs_ bw_ hb); have n1_ := A_ (hbox); have n2_ := A_ ((by rw [hg]; exact (bz_ bw_) : w.heap.size ≤ gb304)); have n3_ := A_ ((by rw [hg]; exact (bz_ bw_) : w.heap.size ≤ gb304)); clear HB; have HB := n0_; have BK304 := n1_; have GW304 := n2_; have GE304 := n3_; clear n0_ n1_ n2_ n3_; clear hb hbox hg) | ((with_reducible refine gate_callee (f := 46) rfl ?_); refine goesL_ (some 6) rfl rfl Try.func46 (by kernel_rfl) rfl #[.int .u64 a1, .int .i64 4] rfl (by (try simp only [List.map_toArray, List.map_cons, List.map_nil]); first | done | rfl | (simp only [List.length_drop, List.length_take]; rfl)) ?_; (with_reducible refine (clevisref01_words.calls k a1 4 t335 _ A3.out).mono ?_); rintro e w8 ⟨v336, rfl, ho0, hb⟩; refine ⟨_, rfl, ?_⟩; have n0_ := A_ (Kd.R_lower (Kd.R_newM (M := fun k_ => (w.heap.size ≤ k_)) ho0 (bz_ bw_) (fun k_ h_ => h_)) (bz_ bw_)); have n1_ := A_ (kb_ BK304 hb); have n2_ := A_ (bs_ bw_ hb); clear BK304; clear HB; have HO337 := n0_; have BK304 := n1_; have HB := n2_; clear n0_ n1_ n2_; (try clear hb); (try clear hb2); (try clear hk); (try clear hi); (try clear ho0)) | ((with_reducible refine gate_callee (f := 46) rfl ?_); refine goesL_ (some 9) rfl rfl Try.func46 (by kernel_rfl) rfl #[.int .u64 (IntKind.u64.wrap (a0)), .int .i64 4] rfl (by (try simp only [List.map_toArray, List.map_cons, List.map_nil]); first | done | rfl | (simp only [List.length_drop, List.length_take]; rfl)) ?_; (with_reducible refine (clevisref01_words.calls k (IntKind.u64.wrap (a0)) 4 t338 _ A4.out).mono ?_); rintro e w9 ⟨v339, rfl, ho0, hb⟩; refine ⟨_, rfl, ?_⟩; have n0_ := A_ (Kd.R_elder' (by (with_reducible repeat (first | apply Kd.R_alloc | apply Kd.R_drewN | apply Kd.R_drew)); exact HO337.out) (Kd.R_base ho0) hb); have n1_ := A_ (Kd.R_lower (Kd.R_new' (Kd.R_newM (M := fun k_ => (w.heap.size ≤ k_)) ho0 (bz_ bw_) (fun k_ h_ => h_)) (Kd.R_lt (by (with_reducible repeat (first | apply Kd.R_alloc | apply Kd.R_drewN | apply Kd.R_drew)); exact HO337.out))) (bz_ bw_)); have n2_ := A_ (kb_ BK304 hb); have n3_ := A_ (bs_ bw_ hb); clear HO337; clear BK304; clear HB; have HO337 := n0_; have HO340 := n1_; have BK304 := n2_; have HB := n3_; clear n0_ n1_ n2_ n3_; (try clear hb); (try clear hb2); (try clear hk); (try clear hi); (try clear ho0); obtain ⟨Ao11, co11, eo11⟩ := Kd.R_slice HO340.out; subst eo11) | ((with_reducible refine gate_builtin (b := .append) (xs := #[.tmp 6, .tmp 9]) rfl ?_); at_builtin; refine Kd.R_append_rows (Kd.int .i64) (w0 := w) w.heap.size rfl (.tmp 6) (.tmp 9) 30 3 (.int .i64 0) 8 rfl Try.underlying30 info3 rfl (by decide) (by omega) v336 t335 t338 _ _ _ (fun k_ => (w.heap.size ≤ k_) ∧ some k_ ≠ (.slice Ao11 t338.length co11 : Value).ownBlock) (fun _ => False) rfl rfl ?aO ?aR (fun _ _ h => h) (fun _ h => h.elim) ?aF ?aB ?aS ?aL ?_; (case aR => repeat (first | exact (Kd.R_reads' HO340.out).2.2 | (with_reducible refine ca_ ?_ _) | (with_reducible refine cn_ ?_ _) | (with_reducible refine cd_ ?_))); (case aB => exact bw_); (case aF => exact (fun k_ hk => ⟨(Nat.le_trans (bz_ bw_) hk), Kd.fresh' (Kd.R_lt (by (with_reducible repeat (first | apply Kd.R_alloc | apply Kd.R_drewN | apply Kd.R_drew)); exact HO340.out)) k_ hk⟩)); (case aO => exact (by (with_reducible repeat (first | apply Kd.R_alloc | apply Kd.R_drewN | apply Kd.R_drew)); exact Kd.R_mono HO337.out (fun _ hk => ⟨hk.1.1, hk.2⟩))); (case aS => exact (bz_ bw_)); (case aL => have := LMc5.out; omega); intro v342 w10 ho hb hg hat; rw [← Ny341.out] at ho; have n0_ := A_ (blk_grown (g := gb304) (o := .cells #[.bool false, .slice none 0 0] 32 (0, 0)) bk_ hg (Kd.R_ne HO337.out BK304.out (by decide))); have n1_ := A_ (Kd.R_after (ok := (fun k_ => (w.heap.size ≤ k_))) (by (with_reducible repeat (first | apply Kd.R_alloc | apply Kd.R_drewN | apply Kd.R_drew)); exact Kd.R_mono HO340.out (fun _ hk => ⟨hk.1.1, hk.2⟩)) hg hat); have n2_ := A_ (hb); have n3_ := A_ (ho); clear BK304; clear HO340; clear HB; clear HO337; have BK304 := n0_; have HO340 := n1_; have HB := n2_; have HO343 := n3_; clear n0_ n1_ n2_ n3_; clear ho hb hg hat; obtain ⟨Ao12, co12, eo12⟩ := Kd.R_slice HO343.out; subst eo12) | ((with_reducible refine gate_callee (f := 45) rfl ?_); refine goesL_ (some 11) rfl rfl Try.func45 (by kernel_rfl) rfl #[.slice Ao12 y341.length co12] rfl (by (try simp only [List.map_toArray, List.map_cons, List.map_nil]); first | done | rfl | (simp only [List.length_drop, List.length_take]; rfl)) ?_; (with_reducible refine (clevisref01_Bits.calls k _ _ y341 t344 t345 _ ?side1 ?side2 A6.out).mono ?_); (case side1 => repeat (first | exact (Kd.R_reads' HO343.out).2.2 | (with_reducible refine ca_ ?_ _) | (with_reducible refine cn_ ?_ _) | (with_reducible refine cd_ ?_))); (case side2 => exact (Kd.R_reads' HO343.out).2.1); rintro e w13 ⟨v346, rfl, ho0, hb⟩; refine ⟨_, rfl, ?_⟩; have n0_ := A_ (Kd.R_below (by (with_reducible repeat (first | apply Kd.R_alloc | apply Kd.R_drewN | apply Kd.R_drew)); exact HO340.out) hb); have n1_ := A_ (Kd.R_below (by (with_reducible repeat (first | apply Kd.R_alloc | apply Kd.R_drewN | apply Kd.R_drew)); exact HO343.out) hb); have n2_ := A_ (Kd.V_lower (vm_ (ok' := fun k_ => (w.heap.size ≤ k_) ∧ some k_ ≠ (.slice Ao11 t338.length co11 : Value).ownBlock ∧ some k_ ≠ (.slice Ao12 y341.length co12 : Value).ownBlock ∧ k_ ≠ gb304) ho0 (fun k_ hk_ => ⟨(Nat.le_trans (bz_ bw_) hk_), (Kd.fresh' (Kd.R_lt (by (with_reducible repeat (first | apply Kd.R_alloc | apply Kd.R_drewN | apply Kd.R_drew)); exact HO340.out)) k_ hk_), (Kd.fresh' (Kd.R_lt (by (with_reducible repeat (first | apply Kd.R_alloc | apply Kd.R_drewN | apply Kd.R_drew)); exact HO343.out)) k_ hk_), (Kd.freshB (g := gb304) (o := .cells #[.bool false, .slice none 0 0] 32 (0, 0)) bk_ k_ hk_)⟩)) (bz_ bw_)); have n3_ := A_ (kb_ BK304 hb); have n4_ := A_ (bs_ bw_ hb); clear HO340; clear HO343; clear BK304; clear HB; have HO340 := n0_; have HO343 := n1_; have HO347 := n2_; have BK304 := n3_; have HB := n4_; clear n0_ n1_ n2_ n3_ n4_; (try clear hb); (try clear hb2); (try clear hk); (try clear hi); (try clear ho0); have hcz14_0 : w13.cell? ⟨gb304, 0, none⟩ = some (.bool false) := (bc_ BK304.out 0).trans rfl; have hcz14_1 : w13.cell? ⟨gb304, 1, none⟩ = some (.slice none 0 0) := (bc_ BK304.out 1).trans rfl; have hfz14_0 := bf_ BK304.out 0; have hfz14_1 := bf_ BK304.out 1; obtain ⟨Ao15, co15, eo15⟩ := Kd.V_slice HO347.out; subst eo15))
  refine bodyPost_ret (results_cell_row rfl _ _ gb304 32 #[.bool t344, .slice Ao15 t345.length co15] (0, 0) _ rfl (by (with_reducible repeat (first | refine bn_ ?_ _ | refine bd_ ?_ | refine ba_ ?_ _)); refine bp_ (cs := #[.bool t344, .slice none 0 0]) ?_ 1 _ rfl; (with_reducible repeat (first | refine bn_ ?_ _ | refine bd_ ?_ | refine ba_ ?_ _)); refine bp_ (cs := #[.bool false, .slice none 0 0]) ?_ 0 _ rfl; (with_reducible repeat (first | refine bn_ ?_ _ | refine bd_ ?_ | refine ba_ ?_ _)); exact BK304.out) Try.underlying32 rfl (by kernel_rfl)) rfl ?_
  exact ⟨_, by first | rfl | (simp [errW_none, errW_some] <;> rfl) | (simp [*, errW_none, errW_some] <;> rfl), by (with_reducible repeat (first | apply va_ | apply vn_ | apply vd_)); exact vm_ (Kd.V_far (p := ⟨gb304, 1, none⟩) (Kd.V_far (p := ⟨gb304, 0, none⟩) (vm_ HO347.out (fun k_ hk => (⟨hk, hk.2.2.2⟩ : _ ∧ k_ ≠ gb304))) (fun _ hk => hk.2) (.bool t344)) (fun _ hk => hk.2) (.slice Ao15 t345.length co15)) (fun _ hk => hk.1.1), bw_⟩
 ·
  rw [if_neg c5] at H
  exact absurd H (by simp)
end Go.Proofs.Ytjbcigiffihjaaa.Fx
end
section
namespace Go.Proofs.Ytjbcigiffihjaaa.Fx
open Go.RowKit Go.Proofs.YtjbcigiffihjaaaW.PrintWords Go.Proofs.YtjbcigiffihjaaaW.PrintLast Go.Proofs.YtjbcigiffihjaaaW.PrintMore
attribute [local go_sem] max2_int min2_int max_two min_two max_three min_three max_four min_four   -- for this text's walks alone
set_option linter.unusedVariables false
set_option linter.unusedSimpArgs false
attribute [local go_sem] run_add64_any
def clevislaw01_Num.f (k : Nat) (a0_0 : Int) (a0_1 : Int) : Option (Bool × List Int) := (clevisref01_Wide.f k a0_0 a0_1).bind fun bt348 => (some (bt348.1, bt348.2))
set_option maxHeartbeats 8000000 in
set_option maxRecDepth 100000 in
theorem clevislaw01_Num.calls (k : Nat) (a0_0 : Int) (a0_1 : Int) (r1 : Bool) (r2 : List Int) (w : World) (h : clevislaw01_Num.f k a0_0 a0_1 = some (r1, r2)) :
  Calls Try.prog 11 #[.agg #[.int .i64 a0_0, .int .u64 a0_1]] w fun e w' => ∃ v1_ : Value, e = .returned (.agg #[.bool r1, v1_]) ∧ Kd.V (Kd.int .i64) 3 w' w.heap.size (fun k_ => (w.heap.size ≤ k_)) v1_ r2 ∧ Below w.heap.size w w' := by
 have hu24 := Try.underlying24
 have hu32 := Try.underlying32
 have HB := A_ (Below.refl w.heap.size w)
 have H : ((clevisref01_Wide.f k a0_0 a0_1).bind fun bt348 => (some (bt348.1, bt348.2))) = some (r1, r2) := h
 clear h
 replace H := os_ H
 obtain ⟨⟨t348, t349⟩, A20, H⟩ := H
 replace H : (some (t348, t349)) = some (r1, r2) := H
 have A2 := A_ A20
 clear A20
 simp only [Option.some.injEq, Prod.mk.injEq] at H
 obtain ⟨rfl, rfl⟩ := H
 go_enter Try.func11, Try.ntmps11
 go_wp2_with (first | ((with_reducible refine gate_dst (N := 1) rfl ?_); refine box_event ?hg (N := 1) ?hd (cs := #[.int .i64 a0_0, .int .u64 a0_1]) (t := 24) ?hr ?_; (case hd => rfl); (case hg => rfl); (case hr => first | (go_simp; done) | (go_simp; rfl)); intro gb301 hg w3 hbox hb; have n0_ := A_ (bs_ bw_ hb); have n1_ := A_ (hbox); have n2_ := A_ ((by rw [hg]; exact (bz_ bw_) : w.heap.size ≤ gb301)); have n3_ := A_ ((by rw [hg]; exact (bz_ bw_) : w.heap.size ≤ gb301)); clear HB; have HB := n0_; have BK301 := n1_; have GW301 := n2_; have GE301 := n3_; clear n0_ n1_ n2_ n3_; clear hb hbox hg) | ((with_reducible refine gate_dst (N := 2) rfl ?_); refine box_event ?hg (N := 2) ?hd (cs := #[.bool false, .slice none 0 0]) (t := 32) ?hr ?_; (case hd => rfl); (case hg => rfl); (case hr => first | (go_simp; done) | (go_simp; rfl)); intro gb302 hg w4 hbox hb; have n0_ := A_ (kb_ BK301 hb); have n1_ := A_ (bs_ bw_ hb); have n2_ := A_ (hbox); have n3_ := A_ ((by rw [hg]; exact (bz_ bw_) : w.heap.size ≤ gb302)); have n4_ := A_ ((by rw [hg]; exact (bz_ bw_) : w.heap.size ≤ gb302)); have n5_ := A_ ((by rw [hg]; exact nl_ (lt_ BK301) : gb301 ≠ gb302)); have n6_ := A_ ((by rw [hg]; exact ng_ (lt_ BK301) : gb302 ≠ gb301)); clear BK301; clear HB; have BK301 := n0_; have HB := n1_; have BK302 := n2_; have GW302 := n3_; have GE302 := n4_; have NB301_302 := n5_; have NB302_301 := n6_; clear n0_ n1_ n2_ n3_ n4_ n5_ n6_; clear hb hbox hg; have hnb5 := NB301_302.out; have hnc5 := NB302_301.out; have hcz6_0 : w4.cell? ⟨gb301, 0, none⟩ = some (.int .i64 a0_0) := (bc_ BK301.out 0).trans rfl; have hcz6_1 : w4.cell? ⟨gb301, 1, none⟩ = some (.int .u64 a0_1) := (bc_ BK301.out 1).trans rfl; have hfz6_0 := bf_ BK301.out 0; have hfz6_1 := bf_ BK301.out 1) | ((with_reducible refine gate_callee (f := 44) rfl ?_); refine goesL_ (some 7) rfl rfl Try.func44 (by kernel_rfl) rfl #[.int .i64 a0_0, .int .u64 a0_1] rfl (by (try simp only [List.map_toArray, List.map_cons, List.map_nil]); first | done | rfl | (simp only [List.length_drop, List.length_take]; rfl)) ?_; (with_reducible refine (clevisref01_Wide.calls k a0_0 a0_1 t348 t349 _ A2.out).mono ?_); rintro e w7 ⟨v350, rfl, ho0, hb⟩; refine ⟨_, rfl, ?_⟩; have n0_ := A_ (Kd.V_lower (vm_ (ok' := fun k_ => (w.heap.size ≤ k_) ∧ k_ ≠ gb301 ∧ k_ ≠ gb302) ho0 (fun k_ hk_ => ⟨(Nat.le_trans (bz_ bw_) hk_), (Kd.freshB (g := gb301) (o := .cells #[.int .i64 a0_0, .int .u64 a0_1] 24 (0, 0)) bk_ k_ hk_), (Kd.freshB (g := gb302) (o := .cells #[.bool false, .slice none 0 0] 32 (0, 0)) bk_ k_ hk_)⟩)) (bz_ bw_)); have n1_ := A_ (kb_ BK301 hb); have n2_ := A_ (kb_ BK302 hb); have n3_ := A_ (bs_ bw_ hb); clear BK301; clear BK302; clear HB; have HO351 := n0_; have BK301 := n1_; have BK302 := n2_; have HB := n3_; clear n0_ n1_ n2_ n3_; (try clear hb); (try clear hb2); (try clear hk); (try clear hi); (try clear ho0); have hcz8_0 : w7.cell? ⟨gb302, 0, none⟩ = some (.bool false) := (bc_ BK302.out 0).trans rfl; have hcz8_1 : w7.cell? ⟨gb302, 1, none⟩ = some (.slice none 0 0) := (bc_ BK302.out 1).trans rfl; have hfz8_0 := bf_ BK302.out 0; have hfz8_1 := bf_ BK302.out 1; obtain ⟨Ao9, co9, eo9⟩ := Kd.V_slice HO351.out; subst eo9))
 refine bodyPost_ret (results_cell_row rfl _ _ gb302 32 #[.bool t348, .slice Ao9 t349.length co9] (0, 0) _ rfl (by (with_reducible repeat (first | refine bn_ ?_ _ | refine bd_ ?_ | refine ba_ ?_ _)); refine bp_ (cs := #[.bool t348, .slice none 0 0]) ?_ 1 _ rfl; (with_reducible repeat (first | refine bn_ ?_ _ | refine bd_ ?_ | refine ba_ ?_ _)); refine bp_ (cs := #[.bool false, .slice none 0 0]) ?_ 0 _ rfl; (with_reducible repeat (first | refine bn_ ?_ _ | refine bd_ ?_ | refine ba_ ?_ _)); exact BK302.out) Try.underlying32 rfl (by kernel_rfl)) rfl ?_
 exact ⟨_, by first | rfl | (simp [errW_none, errW_some] <;> rfl) | (simp [*, errW_none, errW_some] <;> rfl), by (with_reducible repeat (first | apply va_ | apply vn_ | apply vd_)); exact vm_ (Kd.V_far (p := ⟨gb302, 1, none⟩) (Kd.V_far (p := ⟨gb302, 0, none⟩) (vm_ HO351.out (fun k_ hk => (⟨hk, hk.2.2⟩ : _ ∧ k_ ≠ gb302))) (fun _ hk => hk.2) (.bool t348)) (fun _ hk => hk.2) (.slice Ao9 t349.length co9)) (fun _ hk => hk.1.1), bw_⟩
end Go.Proofs.Ytjbcigiffihjaaa.Fx
end
section
namespace Go.Proofs.Ytjbcigiffihjaaa.Fx
open Go.RowKit Go.Proofs.YtjbcigiffihjaaaW.PrintWords Go.Proofs.YtjbcigiffihjaaaW.PrintLast Go.Proofs.YtjbcigiffihjaaaW.PrintMore
attribute [local go_sem] max2_int min2_int max_two min_two max_three min_three max_four min_four   -- for this text's walks alone
set_option linter.unusedVariables false
set_option linter.unusedSimpArgs false
attribute [local go_sem] run_add64_any
end Go.Proofs.Ytjbcigiffihjaaa.Fx
end
section
namespace Go.Proofs.Ytjbcigiffihjaaa.Fx
open Go.RowKit Go.Proofs.YtjbcigiffihjaaaW.PrintWords Go.Proofs.YtjbcigiffihjaaaW.PrintLast Go.Proofs.YtjbcigiffihjaaaW.PrintMore
attribute [local go_sem] max2_int min2_int max_two min_two max_three min_three max_four min_four   -- for this text's walks alone
set_option linter.unusedVariables false
set_option linter.unusedSimpArgs false
attribute [local go_sem] run_add64_any
end Go.Proofs.Ytjbcigiffihjaaa.Fx
end
section
namespace Go.Proofs.Ytjbcigiffihjaaa.Fx
open Go.RowKit Go.Proofs.YtjbcigiffihjaaaW.PrintWords Go.Proofs.YtjbcigiffihjaaaW.PrintLast Go.Proofs.YtjbcigiffihjaaaW.PrintMore
attribute [local go_sem] max2_int min2_int max_two min_two max_three min_three max_four min_four   -- for this text's walks alone
set_option linter.unusedVariables false
set_option linter.unusedSimpArgs false
attribute [local go_sem] run_add64_any
theorem eqA24 (d : Nat) (w : World) (x0 y0 : Int) (x1 y1 : Int) :
  (Op.equalIn (d + 2) 24 (.agg #[.int .i64 x0, .int .u64 x1]) (.agg #[.int .i64 y0, .int .u64 y1])).run Try.prog w = .ok (x0 == y0 && (x1 == y1)) w := by
 refine eqA_of Try.underlying24 (by kernel_rfl) ?_
 refine eqf_cons (by rfl) (by go_simp; rfl) (by go_simp; rfl) (by go_simp) ?_
 exact eqf_last (by rfl) (by go_simp; rfl) (by go_simp; rfl) (by go_simp)
end Go.Proofs.Ytjbcigiffihjaaa.Fx
end
