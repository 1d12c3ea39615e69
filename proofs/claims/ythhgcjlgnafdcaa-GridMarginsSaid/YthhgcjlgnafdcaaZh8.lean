/- Texts of this seat, put together (Zh8). -/
import Derived.Test.YthhgcjlgnafdcaaProg
import Derived.Below
import Derived.Deep.Draws
import Derived.Deep.AppendLies
import Derived.Maps.AppendAt
import Derived.OwnWalk
import Derived.Laws.BytesArg
import Derived.Laws.MakeOwn
import Derived.Laws.OwnMore
import Derived.Deep.OwnRows
import Derived.Tactics
import Derived.Lib.ConvBytes
import Derived.Laws.Slices
import Derived.WalkKit
import Derived.KernelRfl
import Derived.RowKit3
import Derived.Deep.LoopGhost
import Derived.Deep.QuietTactic
import Derived.BigQuiet
import Derived.WideLaws
import Derived.Deep.DeepCutAuto
import Derived.Deep.CutBlock
import Derived.Deep.RegionHeld3
import Derived.Laws.Rows
import Derived.Lib.AppendStr
import Derived.ArgAppend
import Derived.Laws.IdiomCopy
import Derived.OrdersHeld
import Derived.Laws.BitsLemmas
import Derived.RowKit
import Derived.Laws.Externs
import Derived.WalkSpells
import Derived.WalkLawsBesides
import Derived.RegionTactic
import Derived.ChangeAlike
import Derived.BigRegion
import Derived.Test.YthhgcjlgnafdcaaZh0
import Derived.Test.YthhgcjlgnafdcaaZh1
import Derived.Test.YthhgcjlgnafdcaaZh2
import Derived.Test.YthhgcjlgnafdcaaZh6
import Derived.Test.YthhgcjlgnafdcaaZh7
section
namespace Go.Proofs.Ythhgcjlgnafdcaa.Px
open Go.RowKit Go.Proofs.YthhgcjlgnafdcaaW.PrintWords Go.Proofs.YthhgcjlgnafdcaaW.PrintLast Go.Proofs.YthhgcjlgnafdcaaW.PrintMore
attribute [local go_sem] max2_int min2_int max_two min_two max_three min_three max_four min_four   -- for this text's walks alone
set_option linter.unusedVariables false
set_option linter.unusedSimpArgs false
def errW : Option Int → Value
 | none => .nilIface
 | some c => .iface 0 (.int .i64 c)
theorem errW_none : errW none = .nilIface := rfl
theorem errW_some (c : Int) : errW (some c) = .iface 0 (.int .i64 c) := rfl
def addLo (x y c : Int) : Int := (x.toNat + y.toNat + c.toNat) % 18446744073709551616
def addHi (x y c : Int) : Int := (x.toNat + y.toNat + c.toNat) / 18446744073709551616
theorem run_add64_any (x y c : Int) (hc : decide (c ≤ 1) = true) (w : World) : (callFunc 99 #[.int .u64 x, .int .u64 y, .int .u64 c]).run Try.prog w = .ok (.value (.tuple #[.int .u64 (addLo x y c), .int .u64 (addHi x y c)])) w := by
 have hc' : c ≤ 1 := od_ hc
 rw [run_callFunc_extern Try.func99 (by kernel_rfl) (by kernel_rfl) (by kernel_rfl) (e := add64Entry) (by kernel_rfl)]
 have key : (add64Entry #[.int .u64 x, .int .u64 y, .int .u64 c]).run Try.prog w = .ok (.tuple #[.int .u64 (addLo x y c), .int .u64 (addHi x y c)]) w := by
  cases c with
  | ofNat m =>
   have hm : m = 0 ∨ m = 1 := by have : (m : Int) ≤ 1 := hc'; omega
   rcases hm with rfl | rfl <;> rfl
  | negSucc m => rfl
 rw [key]
 rfl
theorem conv_V (W : World) (e : TypeId) (s : ByteArray) (hs : s.size ≤ 9223372036854775807) : Kd.V (Kd.int .u8) e (Lib.bytesWorld W e s) W.heap.size (fun k => W.heap.size ≤ k) (.slice (some ⟨W.heap.size, 0, none⟩) s.size (grownCap W s.size 0 e)) (bytesOf s) := by
 refine ⟨some ⟨W.heap.size, 0, none⟩, grownCap W s.size 0 e, by rw [bytesOf_length], by rw [bytesOf_length]; exact grownCap_ge _ _ _ _, ?_⟩
 intro W' hW
 have hb : W'.heap[W.heap.size]? = (Lib.bytesWorld W e s).heap[W.heap.size]? := hW _ (Nat.le_refl _) (by rw [Lib.bytesWorld_size]; omega)
 have hr := bytes_reads W e s hs
 rw [bytesOf_length]
 refine Kd.C_of_reads (enc := Value.int .u8) (d := (0 : Int)) (readsInt_of.1 ⟨hr.1, hr.2.1, fun hn => ?_⟩)
 obtain ⟨ad, ea, hc⟩ := hr.2.2 hn
 injection ea with ea
 subst ea
 refine ⟨_, rfl, fun j hj => ?_⟩
 have := hc j hj
 rw [add_plain] at this ⊢
 simpa only [World.cell?, hb] using this
section
variable {P : Program} {ops : Array Oper} {Q : Exit → Act → World → Prop} {rest : List Oper} {o : Oper} {a : Act}
theorem conv_event {w0 W : World} (base : Nat) (e : TypeId) (hgd : o.guard = none) {N : Tmp} (_hN : o.dst = some N) (s : ByteArray) (hm : s.size ≤ 9223372036854775807)
  (hrun : (execOp a.eval o).run P W = .ok (.value (.slice (some ⟨W.heap.size, 0, none⟩) s.size (grownCap W s.size 0 e))) (Lib.bytesWorld W e s)) (HB : Below base w0 W) (hbase : base ≤ W.heap.size)
  (h : ∀ v1 w1, Kd.V (Kd.int .u8) e w1 W.heap.size (fun k => W.heap.size ≤ k) v1 (bytesOf s) → Below base w0 w1 → W.grownBy w1 none → True → wpList P ops Q rest (a.put o.dst v1) w1) : wpList P ops Q (o :: rest) a W :=
 Kd.event_run hgd hrun (h _ _ (conv_V W e s hm) (bytes_below HB hbase e s) (grown_of_below (bytes_below (Below.refl _ _) (Nat.le_refl _) e s) none) trivial)
end
theorem info3 : (Try.prog.info? 3).map (fun i => (i.zero, i.size, i.bytes)) = some (some (.int .i64 0), 1, 8) := by kernel_rfl
structure S43 where
 f0 : Int
 f1 : Int
def z43 : S43 := ⟨(0 : Int), (0 : Int)⟩
def k43 : Kd S43 := Kd.iso (Kd.pair (Kd.int .i64) (Kd.int .u64)) (fun x : S43 => (x.f0, x.f1))
theorem k43_open {w : World} {x : S43} {cs : List Value} (h : k43.K w x cs) : cs = [.int .i64 x.f0, .int .u64 x.f1] := by
 obtain ⟨_, _, rfl, rfl, rfl⟩ := h
 exact rfl
theorem k43_mk (w : World) (x : S43)  : k43.K w x [.int .i64 x.f0, .int .u64 x.f1] := ⟨[.int .i64 x.f0], [.int .u64 x.f1], rfl, rfl, rfl⟩
def rd_T43 (xs : List S43) (i : Int) : S43 := xs.getD i.toNat z43
theorem at_T43 {w : World} {A : Option Addr} {n : Nat} {xs : List S43} (h : Kd.C k43 w A n xs) (i : Int) (h0 : 0 ≤ i) (h1 : i < n) : ∃ ad , A = some ad ∧ w.cell? (ad.add (i.toNat * 2)) = some (.int .i64 (rd_T43 xs i).f0) ∧ w.cell? ⟨(ad.add (i.toNat * 2)).block, (ad.add (i.toNat * 2)).off + 1, none⟩ = some (.int .u64 (rd_T43 xs i).f1) := by
 obtain ⟨ad, c, e, _, hK, hc0⟩ := Kd.C_get h z43 i h0 h1
 have hc : ∀ j u, c[j]? = some u → w.cell? (ad.add (i.toNat * 2 + j)) = some u := hc0
 obtain rfl := k43_open hK
 exact ⟨ad, e, hc 0 _ rfl, by rw [← add_field _ _ 1 (by omega)]; exact hc 1 _ rfl⟩
structure S79 where
 f0 : ByteArray
 f1 : Int
def z79 : S79 := ⟨(⟨#[]⟩ : ByteArray), (0 : Int)⟩
def k79 : Kd S79 := Kd.iso (Kd.pair Kd.string (Kd.int .i64)) (fun x : S79 => (x.f0, x.f1))
theorem k79_open {w : World} {x : S79} {cs : List Value} (h : k79.K w x cs) : cs = [.string x.f0, .int .i64 x.f1] := by
 obtain ⟨_, _, rfl, rfl, rfl⟩ := h
 exact rfl
theorem k79_mk (w : World) (x : S79)  : k79.K w x [.string x.f0, .int .i64 x.f1] := ⟨[.string x.f0], [.int .i64 x.f1], rfl, rfl, rfl⟩
def rd_T79 (xs : List S79) (i : Int) : S79 := xs.getD i.toNat z79
theorem at_T79 {w : World} {A : Option Addr} {n : Nat} {xs : List S79} (h : Kd.C k79 w A n xs) (i : Int) (h0 : 0 ≤ i) (h1 : i < n) : ∃ ad , A = some ad ∧ w.cell? (ad.add (i.toNat * 2)) = some (.string (rd_T79 xs i).f0) ∧ w.cell? ⟨(ad.add (i.toNat * 2)).block, (ad.add (i.toNat * 2)).off + 1, none⟩ = some (.int .i64 (rd_T79 xs i).f1) := by
 obtain ⟨ad, c, e, _, hK, hc0⟩ := Kd.C_get h z79 i h0 h1
 have hc : ∀ j u, c[j]? = some u → w.cell? (ad.add (i.toNat * 2 + j)) = some u := hc0
 obtain rfl := k79_open hK
 exact ⟨ad, e, hc 0 _ rfl, by rw [← add_field _ _ 1 (by omega)]; exact hc 1 _ rfl⟩
structure S71 where
 f0 : ByteArray
 f1 : Int
end Go.Proofs.Ythhgcjlgnafdcaa.Px
end
section
namespace Go.Proofs.Ythhgcjlgnafdcaa.Px
open Go.RowKit Go.Proofs.YthhgcjlgnafdcaaW.PrintWords Go.Proofs.YthhgcjlgnafdcaaW.PrintLast Go.Proofs.YthhgcjlgnafdcaaW.PrintMore
attribute [local go_sem] max2_int min2_int max_two min_two max_three min_three max_four min_four   -- for this text's walks alone
set_option linter.unusedVariables false
set_option linter.unusedSimpArgs false
attribute [local go_sem] run_add64_any
def fixed_Of.f (a0 : Int) : Option (Int × Int) := some (a0 / 9223372036854775808, IntKind.u64.wrap (a0))
set_option maxHeartbeats 8000000 in
set_option maxRecDepth 100000 in
theorem fixed_Of.calls (a0 : Int) (r1 : Int) (r2 : Int) (w : World) (h : fixed_Of.f a0 = some (r1, r2)) :
  Calls Try.prog 35 #[.int .i64 a0] w fun e w' => e = .returned (.agg #[.int .i64 r1, .int .u64 r2]) ∧ Below w.heap.size w w' := by
 have hu43 := Try.underlying43
 have HB := A_ (Below.refl w.heap.size w)
 have H : (some (a0 / 9223372036854775808, IntKind.u64.wrap (a0))) = some (r1, r2) := h
 clear h
 simp only [Option.some.injEq, Prod.mk.injEq] at H
 obtain ⟨rfl, rfl⟩ := H
 go_enter Try.func35, Try.ntmps35
 go_wp2_with (first | ((with_reducible refine gate_dst (N := 2) rfl ?_); refine box_event ?hg (N := 2) ?hd (cs := #[.int .i64 0, .int .u64 0]) (t := 43) ?hr ?_; (case hd => rfl); (case hg => rfl); (case hr => first | (go_simp; done) | (go_simp; rfl)); intro gb302 hg w2 hbox hb; have n0_ := A_ (bs_ bw_ hb); have n1_ := A_ (hbox); have n2_ := A_ ((by rw [hg]; exact (bz_ bw_) : w.heap.size ≤ gb302)); have n3_ := A_ ((by rw [hg]; exact (bz_ bw_) : w.heap.size ≤ gb302)); clear HB; have HB := n0_; have BK302 := n1_; have GW302 := n2_; have GE302 := n3_; clear n0_ n1_ n2_ n3_; clear hb hbox hg; have hcz3_0 : w2.cell? ⟨gb302, 0, none⟩ = some (.int .i64 0) := (bc_ BK302.out 0).trans rfl; have hcz3_1 : w2.cell? ⟨gb302, 1, none⟩ = some (.int .u64 0) := (bc_ BK302.out 1).trans rfl; have hfz3_0 := bf_ BK302.out 0; have hfz3_1 := bf_ BK302.out 1))
 refine bodyPost_ret (results_cell_row rfl _ _ gb302 43 #[.int .i64 (a0 / 9223372036854775808), .int .u64 (IntKind.u64.wrap (a0))] (0, 0) _ rfl (by (with_reducible repeat (first | refine bn_ ?_ _ | refine bd_ ?_ | refine ba_ ?_ _)); refine bp_ (cs := #[.int .i64 (a0 / 9223372036854775808), .int .u64 0]) ?_ 1 _ rfl; (with_reducible repeat (first | refine bn_ ?_ _ | refine bd_ ?_ | refine ba_ ?_ _)); refine bp_ (cs := #[.int .i64 0, .int .u64 0]) ?_ 0 _ rfl; (with_reducible repeat (first | refine bn_ ?_ _ | refine bd_ ?_ | refine ba_ ?_ _)); exact BK302.out) Try.underlying43 rfl (by kernel_rfl)) rfl ?_
 exact ⟨by first | rfl | (simp [errW_none, errW_some] <;> rfl) | (simp [*, errW_none, errW_some] <;> rfl), bw_⟩
end Go.Proofs.Ythhgcjlgnafdcaa.Px
end
section
namespace Go.Proofs.Ythhgcjlgnafdcaa.Px
open Go.RowKit Go.Proofs.YthhgcjlgnafdcaaW.PrintWords Go.Proofs.YthhgcjlgnafdcaaW.PrintLast Go.Proofs.YthhgcjlgnafdcaaW.PrintMore
attribute [local go_sem] max2_int min2_int max_two min_two max_three min_three max_four min_four   -- for this text's walks alone
set_option linter.unusedVariables false
set_option linter.unusedSimpArgs false
attribute [local go_sem] run_add64_any
def fixed_size.f (a0 : Int) : Option (Int) := if a0 < 0 then (some (IntKind.u64.wrap (-(IntKind.u64.wrap (a0))))) else (some (IntKind.u64.wrap (a0)))
set_option maxHeartbeats 8000000 in
set_option maxRecDepth 100000 in
theorem fixed_size.calls (a0 : Int) (r : Int) (w : World) (h : fixed_size.f a0 = some r) :
  Calls Try.prog 96 #[.int .i64 a0] w fun e w' => e = .returned (.int .u64 r) ∧ Drawn0 w w' := by
 have H : (if a0 < 0 then (some (IntKind.u64.wrap (-(IntKind.u64.wrap (a0))))) else (some (IntKind.u64.wrap (a0)))) = some r := h
 clear h
 by_cases c2 : a0 < 0
 ·
  rw [if_pos c2] at H
  have c2b0 : decide (a0 < 0) = true := decide_eq_true c2
  clear c2
  obtain rfl := Option.some.inj H
  go_enter Try.func96, Try.ntmps96
  go_wp2
  go_ret
  exact ⟨by first | rfl | (simp; done) | (simp [*]; done), by repeat (first | exact Drawn0.refl _ | apply Drawn0.step)⟩
 ·
  rw [if_neg c2] at H
  have c2b0 : decide (a0 < 0) = false := decide_eq_false c2
  clear c2
  obtain rfl := Option.some.inj H
  go_enter Try.func96, Try.ntmps96
  go_wp2
  go_ret
  exact ⟨by first | rfl | (simp; done) | (simp [*]; done), by repeat (first | exact Drawn0.refl _ | apply Drawn0.step)⟩
end Go.Proofs.Ythhgcjlgnafdcaa.Px
end
section
namespace Go.Proofs.Ythhgcjlgnafdcaa.Px
open Go.RowKit Go.Proofs.YthhgcjlgnafdcaaW.PrintWords Go.Proofs.YthhgcjlgnafdcaaW.PrintLast Go.Proofs.YthhgcjlgnafdcaaW.PrintMore
attribute [local go_sem] max2_int min2_int max_two min_two max_three min_three max_four min_four   -- for this text's walks alone
set_option linter.unusedVariables false
set_option linter.unusedSimpArgs false
attribute [local go_sem] run_add64_any
def bits_Mul64.f (a0 : Int) (a1 : Int) : Option (Int × Int) := some (IntKind.u64.wrap ((IntKind.u64.wrap ((IntKind.u64.wrap ((a0 / 4294967296) * (a1 / 4294967296))) + ((IntKind.u64.wrap ((IntKind.u64.wrap ((a0 / 4294967296) * (Go.bits .and .u64 a1 4294967295))) + ((IntKind.u64.wrap ((Go.bits .and .u64 a0 4294967295) * (Go.bits .and .u64 a1 4294967295))) / 4294967296))) / 4294967296))) + ((IntKind.u64.wrap ((Go.bits .and .u64 (IntKind.u64.wrap ((IntKind.u64.wrap ((a0 / 4294967296) * (Go.bits .and .u64 a1 4294967295))) + ((IntKind.u64.wrap ((Go.bits .and .u64 a0 4294967295) * (Go.bits .and .u64 a1 4294967295))) / 4294967296))) 4294967295) + (IntKind.u64.wrap ((Go.bits .and .u64 a0 4294967295) * (a1 / 4294967296))))) / 4294967296)), IntKind.u64.wrap (a0 * a1))
set_option maxHeartbeats 8000000 in
set_option maxRecDepth 100000 in
theorem bits_Mul64.calls (a0 : Int) (a1 : Int) (r1 : Int) (r2 : Int) (w : World) (h : bits_Mul64.f a0 a1 = some (r1, r2)) :
  Calls Try.prog 101 #[.int .u64 a0, .int .u64 a1] w fun e w' => e = .returned (.tuple #[.int .u64 r1, .int .u64 r2]) ∧ Drawn0 w w' := by
 have H : (some (IntKind.u64.wrap ((IntKind.u64.wrap ((IntKind.u64.wrap ((a0 / 4294967296) * (a1 / 4294967296))) + ((IntKind.u64.wrap ((IntKind.u64.wrap ((a0 / 4294967296) * (Go.bits .and .u64 a1 4294967295))) + ((IntKind.u64.wrap ((Go.bits .and .u64 a0 4294967295) * (Go.bits .and .u64 a1 4294967295))) / 4294967296))) / 4294967296))) + ((IntKind.u64.wrap ((Go.bits .and .u64 (IntKind.u64.wrap ((IntKind.u64.wrap ((a0 / 4294967296) * (Go.bits .and .u64 a1 4294967295))) + ((IntKind.u64.wrap ((Go.bits .and .u64 a0 4294967295) * (Go.bits .and .u64 a1 4294967295))) / 4294967296))) 4294967295) + (IntKind.u64.wrap ((Go.bits .and .u64 a0 4294967295) * (a1 / 4294967296))))) / 4294967296)), IntKind.u64.wrap (a0 * a1))) = some (r1, r2) := h
 clear h
 simp only [Option.some.injEq, Prod.mk.injEq] at H
 obtain ⟨rfl, rfl⟩ := H
 go_enter Try.func101, Try.ntmps101
 go_wp2
 go_ret2
 exact ⟨by first | rfl | (simp; done) | (simp [*]; done), by repeat (first | exact Drawn0.refl _ | apply Drawn0.step)⟩
end Go.Proofs.Ythhgcjlgnafdcaa.Px
end
section
namespace Go.Proofs.Ythhgcjlgnafdcaa.Px
open Go.RowKit Go.Proofs.YthhgcjlgnafdcaaW.PrintWords Go.Proofs.YthhgcjlgnafdcaaW.PrintLast Go.Proofs.YthhgcjlgnafdcaaW.PrintMore
attribute [local go_sem] max2_int min2_int max_two min_two max_three min_three max_four min_four   -- for this text's walks alone
set_option linter.unusedVariables false
set_option linter.unusedSimpArgs false
attribute [local go_sem] run_add64_any
def fixed_turned.f (a0_0 : Int) (a0_1 : Int) : Option (Int × Int) := some (wrap64 (IntKind.u64.wrap ((Go.bits .xor .u64 18446744073709551615 (IntKind.u64.wrap (a0_0))) + (addHi (Go.bits .xor .u64 18446744073709551615 a0_1) 1 0))), addLo (Go.bits .xor .u64 18446744073709551615 a0_1) 1 0)
set_option maxHeartbeats 8000000 in
set_option maxRecDepth 100000 in
theorem fixed_turned.calls (a0_0 : Int) (a0_1 : Int) (r1 : Int) (r2 : Int) (w : World) (h : fixed_turned.f a0_0 a0_1 = some (r1, r2)) :
  Calls Try.prog 102 #[.agg #[.int .i64 a0_0, .int .u64 a0_1]] w fun e w' => e = .returned (.agg #[.int .i64 r1, .int .u64 r2]) ∧ Below w.heap.size w w' := by
 have hu43 := Try.underlying43
 have HB := A_ (Below.refl w.heap.size w)
 have H : (some (wrap64 (IntKind.u64.wrap ((Go.bits .xor .u64 18446744073709551615 (IntKind.u64.wrap (a0_0))) + (addHi (Go.bits .xor .u64 18446744073709551615 a0_1) 1 0))), addLo (Go.bits .xor .u64 18446744073709551615 a0_1) 1 0)) = some (r1, r2) := h
 clear h
 simp only [Option.some.injEq, Prod.mk.injEq] at H
 obtain ⟨rfl, rfl⟩ := H
 go_enter Try.func102, Try.ntmps102
 go_wp2_with (first | ((with_reducible refine gate_dst (N := 1) rfl ?_); refine box_event ?hg (N := 1) ?hd (cs := #[.int .i64 a0_0, .int .u64 a0_1]) (t := 43) ?hr ?_; (case hd => rfl); (case hg => rfl); (case hr => first | (go_simp; done) | (go_simp; rfl)); intro gb301 hg w2 hbox hb; have n0_ := A_ (bs_ bw_ hb); have n1_ := A_ (hbox); have n2_ := A_ ((by rw [hg]; exact (bz_ bw_) : w.heap.size ≤ gb301)); have n3_ := A_ ((by rw [hg]; exact (bz_ bw_) : w.heap.size ≤ gb301)); clear HB; have HB := n0_; have BK301 := n1_; have GW301 := n2_; have GE301 := n3_; clear n0_ n1_ n2_ n3_; clear hb hbox hg) | ((with_reducible refine gate_dst (N := 2) rfl ?_); refine box_event ?hg (N := 2) ?hd (cs := #[.int .i64 0, .int .u64 0]) (t := 43) ?hr ?_; (case hd => rfl); (case hg => rfl); (case hr => first | (go_simp; done) | (go_simp; rfl)); intro gb302 hg w3 hbox hb; have n0_ := A_ (kb_ BK301 hb); have n1_ := A_ (bs_ bw_ hb); have n2_ := A_ (hbox); have n3_ := A_ ((by rw [hg]; exact (bz_ bw_) : w.heap.size ≤ gb302)); have n4_ := A_ ((by rw [hg]; exact (bz_ bw_) : w.heap.size ≤ gb302)); have n5_ := A_ ((by rw [hg]; exact nl_ (lt_ BK301) : gb301 ≠ gb302)); have n6_ := A_ ((by rw [hg]; exact ng_ (lt_ BK301) : gb302 ≠ gb301)); clear BK301; clear HB; have BK301 := n0_; have HB := n1_; have BK302 := n2_; have GW302 := n3_; have GE302 := n4_; have NB301_302 := n5_; have NB302_301 := n6_; clear n0_ n1_ n2_ n3_ n4_ n5_ n6_; clear hb hbox hg; have hnb4 := NB301_302.out; have hnc4 := NB302_301.out; have hcz5_0 : w3.cell? ⟨gb301, 0, none⟩ = some (.int .i64 a0_0) := (bc_ BK301.out 0).trans rfl; have hcz5_1 : w3.cell? ⟨gb301, 1, none⟩ = some (.int .u64 a0_1) := (bc_ BK301.out 1).trans rfl; have hfz5_0 := bf_ BK301.out 0; have hfz5_1 := bf_ BK301.out 1; have hcz6_0 : w3.cell? ⟨gb302, 0, none⟩ = some (.int .i64 0) := (bc_ BK302.out 0).trans rfl; have hcz6_1 : w3.cell? ⟨gb302, 1, none⟩ = some (.int .u64 0) := (bc_ BK302.out 1).trans rfl; have hfz6_0 := bf_ BK302.out 0; have hfz6_1 := bf_ BK302.out 1))
 refine bodyPost_ret (results_cell_row rfl _ _ gb302 43 #[.int .i64 (wrap64 (IntKind.u64.wrap ((Go.bits .xor .u64 18446744073709551615 (IntKind.u64.wrap (a0_0))) + (addHi (Go.bits .xor .u64 18446744073709551615 a0_1) 1 0)))), .int .u64 (addLo (Go.bits .xor .u64 18446744073709551615 a0_1) 1 0)] (0, 0) _ rfl (by (with_reducible repeat (first | refine bn_ ?_ _ | refine bd_ ?_ | refine ba_ ?_ _)); refine bp_ (cs := #[.int .i64 (wrap64 (IntKind.u64.wrap ((Go.bits .xor .u64 18446744073709551615 (IntKind.u64.wrap (a0_0))) + (addHi (Go.bits .xor .u64 18446744073709551615 a0_1) 1 0)))), .int .u64 0]) ?_ 1 _ rfl; (with_reducible repeat (first | refine bn_ ?_ _ | refine bd_ ?_ | refine ba_ ?_ _)); refine bp_ (cs := #[.int .i64 0, .int .u64 0]) ?_ 0 _ rfl; (with_reducible repeat (first | refine bn_ ?_ _ | refine bd_ ?_ | refine ba_ ?_ _)); exact BK302.out) Try.underlying43 rfl (by kernel_rfl)) rfl ?_
 exact ⟨by first | rfl | (simp [errW_none, errW_some] <;> rfl) | (simp [*, errW_none, errW_some] <;> rfl), bw_⟩
end Go.Proofs.Ythhgcjlgnafdcaa.Px
end
section
namespace Go.Proofs.Ythhgcjlgnafdcaa.Px
open Go.RowKit Go.Proofs.YthhgcjlgnafdcaaW.PrintWords Go.Proofs.YthhgcjlgnafdcaaW.PrintLast Go.Proofs.YthhgcjlgnafdcaaW.PrintMore
attribute [local go_sem] max2_int min2_int max_two min_two max_three min_three max_four min_four   -- for this text's walks alone
set_option linter.unusedVariables false
set_option linter.unusedSimpArgs false
attribute [local go_sem] run_add64_any
def fixed_Times.f (a0 : Int) (a1 : Int) : Option (Int × Int) := (fixed_size.f a0).bind fun t125 => ((fixed_size.f a1).bind fun t126 => ((bits_Mul64.f t125 t126).bind fun bt127 => (if ((decide (a0 < 0)) != (decide (a1 < 0))) = true then ((fixed_turned.f (wrap64 (bt127.1)) bt127.2).bind fun bt129 => (some (bt129.1, bt129.2))) else (some (wrap64 (bt127.1), bt127.2)))))
set_option maxHeartbeats 8000000 in
set_option maxRecDepth 100000 in
theorem fixed_Times.calls (a0 : Int) (a1 : Int) (r1 : Int) (r2 : Int) (w : World) (h : fixed_Times.f a0 a1 = some (r1, r2)) :
  Calls Try.prog 61 #[.int .i64 a0, .int .i64 a1] w fun e w' => e = .returned (.agg #[.int .i64 r1, .int .u64 r2]) ∧ Below w.heap.size w w' := by
 have hu43 := Try.underlying43
 have HB := A_ (Below.refl w.heap.size w)
 have H : ((fixed_size.f a0).bind fun t125 => ((fixed_size.f a1).bind fun t126 => ((bits_Mul64.f t125 t126).bind fun bt127 => (if ((decide (a0 < 0)) != (decide (a1 < 0))) = true then ((fixed_turned.f (wrap64 (bt127.1)) bt127.2).bind fun bt129 => (some (bt129.1, bt129.2))) else (some (wrap64 (bt127.1), bt127.2)))))) = some (r1, r2) := h
 clear h
 replace H := os_ H
 obtain ⟨t125, A30, H⟩ := H
 replace H : ((fixed_size.f a1).bind fun t126 => ((bits_Mul64.f t125 t126).bind fun bt127 => (if ((decide (a0 < 0)) != (decide (a1 < 0))) = true then ((fixed_turned.f (wrap64 (bt127.1)) bt127.2).bind fun bt129 => (some (bt129.1, bt129.2))) else (some (wrap64 (bt127.1), bt127.2))))) = some (r1, r2) := H
 have A3 := A_ A30
 clear A30
 replace H := os_ H
 obtain ⟨t126, A40, H⟩ := H
 replace H : ((bits_Mul64.f t125 t126).bind fun bt127 => (if ((decide (a0 < 0)) != (decide (a1 < 0))) = true then ((fixed_turned.f (wrap64 (bt127.1)) bt127.2).bind fun bt129 => (some (bt129.1, bt129.2))) else (some (wrap64 (bt127.1), bt127.2)))) = some (r1, r2) := H
 have A4 := A_ A40
 clear A40
 replace H := os_ H
 obtain ⟨⟨t127, t128⟩, A50, H⟩ := H
 replace H : (if ((decide (a0 < 0)) != (decide (a1 < 0))) = true then ((fixed_turned.f (wrap64 (t127)) t128).bind fun bt129 => (some (bt129.1, bt129.2))) else (some (wrap64 (t127), t128))) = some (r1, r2) := H
 have A5 := A_ A50
 clear A50
 by_cases c6 : ((decide (a0 < 0)) != (decide (a1 < 0))) = true
 ·
  rw [if_pos c6] at H
  have c6b0 : ((decide (a0 < 0)) != (decide (a1 < 0))) = true := c6
  (try (have c6b1 : decide ((decide (a0 < 0)) = (decide (a1 < 0))) = false := by simpa using c6))
  (try (have c6b2 : ((decide (a0 < 0)) == (decide (a1 < 0))) = false := by simpa using c6))
  (try (have c6b3 : ¬ ((decide (a0 < 0)) = (decide (a1 < 0))) := by simpa using c6))
  clear c6
  replace H := os_ H
  obtain ⟨⟨t129, t130⟩, A70, H⟩ := H
  replace H : (some (t129, t130)) = some (r1, r2) := H
  have A7 := A_ A70
  clear A70
  simp only [Option.some.injEq, Prod.mk.injEq] at H
  obtain ⟨rfl, rfl⟩ := H
  go_enter Try.func61, Try.ntmps61
  go_wp2_with (first | ((with_reducible refine gate_dst (N := 4) rfl ?_); refine box_event ?hg (N := 4) ?hd (cs := #[.int .i64 0, .int .u64 0]) (t := 43) ?hr ?_; (case hd => rfl); (case hg => rfl); (case hr => first | (go_simp; done) | (go_simp; rfl)); intro gb304 hg w8 hbox hb; have n0_ := A_ (bs_ bw_ hb); have n1_ := A_ (hbox); have n2_ := A_ ((by rw [hg]; exact (bz_ bw_) : w.heap.size ≤ gb304)); have n3_ := A_ ((by rw [hg]; exact (bz_ bw_) : w.heap.size ≤ gb304)); clear HB; have HB := n0_; have BK304 := n1_; have GW304 := n2_; have GE304 := n3_; clear n0_ n1_ n2_ n3_; clear hb hbox hg) | ((with_reducible refine gate_callee (f := 96) rfl ?_); refine goesL_ (some 10) rfl rfl Try.func96 (by kernel_rfl) rfl #[.int .i64 a0] rfl (by (try simp only [List.map_toArray, List.map_cons, List.map_nil]); first | done | rfl | (simp only [List.length_drop, List.length_take]; rfl)) ?_; (with_reducible refine (fixed_size.calls a0 t125 _ A3.out).mono ?_); rintro e w' ⟨rfl, ⟨nd, rfl⟩⟩; refine ⟨_, rfl, ?_⟩; (try (rw [drewN_self w8]; generalize hq_ : World.drewN w8 _ = w8; have n0_ : Aside0 (w8.heap[gb304]? = some (.cells #[.int .i64 0, .int .u64 0] 43 (0, 0))) := ⟨by rw [← hq_]; exact bk_⟩; have n1_ : Aside0 (Below w.heap.size w w8) := ⟨by rw [← hq_]; exact bw_⟩; clear BK304 HB hq_; have BK304 := n0_; have HB := n1_; clear n0_ n1_))) | ((with_reducible refine gate_callee (f := 96) rfl ?_); refine goesL_ (some 12) rfl rfl Try.func96 (by kernel_rfl) rfl #[.int .i64 a1] rfl (by (try simp only [List.map_toArray, List.map_cons, List.map_nil]); first | done | rfl | (simp only [List.length_drop, List.length_take]; rfl)) ?_; (with_reducible refine (fixed_size.calls a1 t126 _ A4.out).mono ?_); rintro e w' ⟨rfl, ⟨nd, rfl⟩⟩; refine ⟨_, rfl, ?_⟩; (try (rw [drewN_self w8]; generalize hq_ : World.drewN w8 _ = w8; have n0_ : Aside0 (w8.heap[gb304]? = some (.cells #[.int .i64 0, .int .u64 0] 43 (0, 0))) := ⟨by rw [← hq_]; exact bk_⟩; have n1_ : Aside0 (Below w.heap.size w w8) := ⟨by rw [← hq_]; exact bw_⟩; clear BK304 HB hq_; have BK304 := n0_; have HB := n1_; clear n0_ n1_))) | ((with_reducible refine gate_callee (f := 101) rfl ?_); refine goesL_ (some 13) rfl rfl Try.func101 (by kernel_rfl) rfl #[.int .u64 t125, .int .u64 t126] rfl (by (try simp only [List.map_toArray, List.map_cons, List.map_nil]); first | done | rfl | (simp only [List.length_drop, List.length_take]; rfl)) ?_; (with_reducible refine (bits_Mul64.calls t125 t126 t127 t128 _ A5.out).mono ?_); rintro e w' ⟨rfl, ⟨nd, rfl⟩⟩; refine ⟨_, rfl, ?_⟩; (try (rw [drewN_self w8]; generalize hq_ : World.drewN w8 _ = w8; have n0_ : Aside0 (w8.heap[gb304]? = some (.cells #[.int .i64 0, .int .u64 0] 43 (0, 0))) := ⟨by rw [← hq_]; exact bk_⟩; have n1_ : Aside0 (Below w.heap.size w w8) := ⟨by rw [← hq_]; exact bw_⟩; clear BK304 HB hq_; have BK304 := n0_; have HB := n1_; clear n0_ n1_))) | ((with_reducible refine gate_dst (N := 7) rfl ?_); refine box_event ?hg (N := 7) ?hd (cs := #[.int .i64 0, .int .u64 0]) (t := 43) ?hr ?_; (case hd => rfl); (case hg => rfl); (case hr => first | (go_simp; done) | (go_simp; rfl)); intro gb307 hg w9 hbox hb; have n0_ := A_ (kb_ BK304 hb); have n1_ := A_ (bs_ bw_ hb); have n2_ := A_ (hbox); have n3_ := A_ ((by rw [hg]; exact (bz_ bw_) : w.heap.size ≤ gb307)); have n4_ := A_ ((by rw [hg]; exact (bz_ bw_) : w.heap.size ≤ gb307)); have n5_ := A_ ((by rw [hg]; exact nl_ (lt_ BK304) : gb304 ≠ gb307)); have n6_ := A_ ((by rw [hg]; exact ng_ (lt_ BK304) : gb307 ≠ gb304)); clear BK304; clear HB; have BK304 := n0_; have HB := n1_; have BK307 := n2_; have GW307 := n3_; have GE307 := n4_; have NB304_307 := n5_; have NB307_304 := n6_; clear n0_ n1_ n2_ n3_ n4_ n5_ n6_; clear hb hbox hg; have hnb10 := NB307_304.out; have hnc10 := NB304_307.out; have hcz11_0 : w9.cell? ⟨gb307, 0, none⟩ = some (.int .i64 0) := (bc_ BK307.out 0).trans rfl; have hcz11_1 : w9.cell? ⟨gb307, 1, none⟩ = some (.int .u64 0) := (bc_ BK307.out 1).trans rfl; have hfz11_0 := bf_ BK307.out 0; have hfz11_1 := bf_ BK307.out 1) | ((with_reducible refine gate_callee (f := 102) rfl ?_); refine goesL_ (some 26) rfl rfl Try.func102 (by kernel_rfl) rfl #[.agg #[.int .i64 (wrap64 (t127)), .int .u64 t128]] rfl (by (try simp only [List.map_toArray, List.map_cons, List.map_nil]); first | done | rfl | (simp only [List.length_drop, List.length_take]; rfl)) ?_; (with_reducible refine (fixed_turned.calls (wrap64 (t127)) t128 t129 t130 _ A7.out).mono ?_); rintro e w12 ⟨rfl, hb⟩; refine ⟨_, rfl, ?_⟩; have n0_ := A_ (kb_ BK304 hb); have n1_ := A_ (blk_below (g := gb307) (o := .cells #[.int .i64 (wrap64 (t127)), .int .u64 t128] 43 (0, 0)) (by (with_reducible repeat (first | refine bn_ ?_ _ | refine bd_ ?_ | refine ba_ ?_ _)); refine bp_ (cs := #[.int .i64 (wrap64 (t127)), .int .u64 0]) ?_ 1 _ rfl; (with_reducible repeat (first | refine bn_ ?_ _ | refine bd_ ?_ | refine ba_ ?_ _)); refine bp_ (cs := #[.int .i64 0, .int .u64 0]) ?_ 0 _ rfl; (with_reducible repeat (first | refine bn_ ?_ _ | refine bd_ ?_ | refine ba_ ?_ _)); exact BK307.out) hb); have n2_ := A_ (bs_ bw_ hb); clear BK304; clear BK307; clear HB; have BK304 := n0_; have BK307 := n1_; have HB := n2_; clear n0_ n1_ n2_; (try clear hb); (try clear hb2); (try clear hk); (try clear hi); have hcz13_0 : w12.cell? ⟨gb304, 0, none⟩ = some (.int .i64 0) := (bc_ BK304.out 0).trans rfl; have hcz13_1 : w12.cell? ⟨gb304, 1, none⟩ = some (.int .u64 0) := (bc_ BK304.out 1).trans rfl; have hfz13_0 := bf_ BK304.out 0; have hfz13_1 := bf_ BK304.out 1))
  refine bodyPost_ret (results_cell_row rfl _ _ gb304 43 #[.int .i64 t129, .int .u64 t130] (0, 0) _ rfl (by (with_reducible repeat (first | refine bn_ ?_ _ | refine bd_ ?_ | refine ba_ ?_ _)); refine bp_ (cs := #[.int .i64 t129, .int .u64 0]) ?_ 1 _ rfl; (with_reducible repeat (first | refine bn_ ?_ _ | refine bd_ ?_ | refine ba_ ?_ _)); refine bp_ (cs := #[.int .i64 0, .int .u64 0]) ?_ 0 _ rfl; (with_reducible repeat (first | refine bn_ ?_ _ | refine bd_ ?_ | refine ba_ ?_ _)); exact BK304.out) Try.underlying43 rfl (by kernel_rfl)) rfl ?_
  exact ⟨by first | rfl | (simp [errW_none, errW_some] <;> rfl) | (simp [*, errW_none, errW_some] <;> rfl), bw_⟩
 ·
  rw [if_neg c6] at H
  have c6b0 : ((decide (a0 < 0)) != (decide (a1 < 0))) = false := by simpa using c6
  (try (have c6b1 : decide ((decide (a0 < 0)) = (decide (a1 < 0))) = true := by simpa using c6))
  (try (have c6b2 : ((decide (a0 < 0)) == (decide (a1 < 0))) = true := by simpa using c6))
  clear c6
  simp only [Option.some.injEq, Prod.mk.injEq] at H
  obtain ⟨rfl, rfl⟩ := H
  go_enter Try.func61, Try.ntmps61
  go_wp2_with (first | ((with_reducible refine gate_dst (N := 4) rfl ?_); refine box_event ?hg (N := 4) ?hd (cs := #[.int .i64 0, .int .u64 0]) (t := 43) ?hr ?_; (case hd => rfl); (case hg => rfl); (case hr => first | (go_simp; done) | (go_simp; rfl)); intro gb304 hg w14 hbox hb; have n0_ := A_ (bs_ bw_ hb); have n1_ := A_ (hbox); have n2_ := A_ ((by rw [hg]; exact (bz_ bw_) : w.heap.size ≤ gb304)); have n3_ := A_ ((by rw [hg]; exact (bz_ bw_) : w.heap.size ≤ gb304)); clear HB; have HB := n0_; have BK304 := n1_; have GW304 := n2_; have GE304 := n3_; clear n0_ n1_ n2_ n3_; clear hb hbox hg) | ((with_reducible refine gate_callee (f := 96) rfl ?_); refine goesL_ (some 10) rfl rfl Try.func96 (by kernel_rfl) rfl #[.int .i64 a0] rfl (by (try simp only [List.map_toArray, List.map_cons, List.map_nil]); first | done | rfl | (simp only [List.length_drop, List.length_take]; rfl)) ?_; (with_reducible refine (fixed_size.calls a0 t125 _ A3.out).mono ?_); rintro e w' ⟨rfl, ⟨nd, rfl⟩⟩; refine ⟨_, rfl, ?_⟩; (try (rw [drewN_self w14]; generalize hq_ : World.drewN w14 _ = w14; have n0_ : Aside0 (w14.heap[gb304]? = some (.cells #[.int .i64 0, .int .u64 0] 43 (0, 0))) := ⟨by rw [← hq_]; exact bk_⟩; have n1_ : Aside0 (Below w.heap.size w w14) := ⟨by rw [← hq_]; exact bw_⟩; clear BK304 HB hq_; have BK304 := n0_; have HB := n1_; clear n0_ n1_))) | ((with_reducible refine gate_callee (f := 96) rfl ?_); refine goesL_ (some 12) rfl rfl Try.func96 (by kernel_rfl) rfl #[.int .i64 a1] rfl (by (try simp only [List.map_toArray, List.map_cons, List.map_nil]); first | done | rfl | (simp only [List.length_drop, List.length_take]; rfl)) ?_; (with_reducible refine (fixed_size.calls a1 t126 _ A4.out).mono ?_); rintro e w' ⟨rfl, ⟨nd, rfl⟩⟩; refine ⟨_, rfl, ?_⟩; (try (rw [drewN_self w14]; generalize hq_ : World.drewN w14 _ = w14; have n0_ : Aside0 (w14.heap[gb304]? = some (.cells #[.int .i64 0, .int .u64 0] 43 (0, 0))) := ⟨by rw [← hq_]; exact bk_⟩; have n1_ : Aside0 (Below w.heap.size w w14) := ⟨by rw [← hq_]; exact bw_⟩; clear BK304 HB hq_; have BK304 := n0_; have HB := n1_; clear n0_ n1_))) | ((with_reducible refine gate_callee (f := 101) rfl ?_); refine goesL_ (some 13) rfl rfl Try.func101 (by kernel_rfl) rfl #[.int .u64 t125, .int .u64 t126] rfl (by (try simp only [List.map_toArray, List.map_cons, List.map_nil]); first | done | rfl | (simp only [List.length_drop, List.length_take]; rfl)) ?_; (with_reducible refine (bits_Mul64.calls t125 t126 t127 t128 _ A5.out).mono ?_); rintro e w' ⟨rfl, ⟨nd, rfl⟩⟩; refine ⟨_, rfl, ?_⟩; (try (rw [drewN_self w14]; generalize hq_ : World.drewN w14 _ = w14; have n0_ : Aside0 (w14.heap[gb304]? = some (.cells #[.int .i64 0, .int .u64 0] 43 (0, 0))) := ⟨by rw [← hq_]; exact bk_⟩; have n1_ : Aside0 (Below w.heap.size w w14) := ⟨by rw [← hq_]; exact bw_⟩; clear BK304 HB hq_; have BK304 := n0_; have HB := n1_; clear n0_ n1_))) | ((with_reducible refine gate_dst (N := 7) rfl ?_); refine box_event ?hg (N := 7) ?hd (cs := #[.int .i64 0, .int .u64 0]) (t := 43) ?hr ?_; (case hd => rfl); (case hg => rfl); (case hr => first | (go_simp; done) | (go_simp; rfl)); intro gb307 hg w15 hbox hb; have n0_ := A_ (kb_ BK304 hb); have n1_ := A_ (bs_ bw_ hb); have n2_ := A_ (hbox); have n3_ := A_ ((by rw [hg]; exact (bz_ bw_) : w.heap.size ≤ gb307)); have n4_ := A_ ((by rw [hg]; exact (bz_ bw_) : w.heap.size ≤ gb307)); have n5_ := A_ ((by rw [hg]; exact nl_ (lt_ BK304) : gb304 ≠ gb307)); have n6_ := A_ ((by rw [hg]; exact ng_ (lt_ BK304) : gb307 ≠ gb304)); clear BK304; clear HB; have BK304 := n0_; have HB := n1_; have BK307 := n2_; have GW307 := n3_; have GE307 := n4_; have NB304_307 := n5_; have NB307_304 := n6_; clear n0_ n1_ n2_ n3_ n4_ n5_ n6_; clear hb hbox hg; have hnb16 := NB307_304.out; have hnc16 := NB304_307.out; have hcz17_0 : w15.cell? ⟨gb307, 0, none⟩ = some (.int .i64 0) := (bc_ BK307.out 0).trans rfl; have hcz17_1 : w15.cell? ⟨gb307, 1, none⟩ = some (.int .u64 0) := (bc_ BK307.out 1).trans rfl; have hfz17_0 := bf_ BK307.out 0; have hfz17_1 := bf_ BK307.out 1; have hcz18_0 : w15.cell? ⟨gb304, 0, none⟩ = some (.int .i64 0) := (bc_ BK304.out 0).trans rfl; have hcz18_1 : w15.cell? ⟨gb304, 1, none⟩ = some (.int .u64 0) := (bc_ BK304.out 1).trans rfl; have hfz18_0 := bf_ BK304.out 0; have hfz18_1 := bf_ BK304.out 1))
  refine bodyPost_ret (results_cell_row rfl _ _ gb304 43 #[.int .i64 (wrap64 (t127)), .int .u64 t128] (0, 0) _ rfl (by (with_reducible repeat (first | refine bn_ ?_ _ | refine bd_ ?_ | refine ba_ ?_ _)); refine bp_ (cs := #[.int .i64 (wrap64 (t127)), .int .u64 0]) ?_ 1 _ rfl; (with_reducible repeat (first | refine bn_ ?_ _ | refine bd_ ?_ | refine ba_ ?_ _)); refine bp_ (cs := #[.int .i64 0, .int .u64 0]) ?_ 0 _ rfl; (with_reducible repeat (first | refine bn_ ?_ _ | refine bd_ ?_ | refine ba_ ?_ _)); refine br_ ?_ NB304_307.out _; (with_reducible repeat (first | refine bn_ ?_ _ | refine bd_ ?_ | refine ba_ ?_ _)); refine br_ ?_ NB304_307.out _; (with_reducible repeat (first | refine bn_ ?_ _ | refine bd_ ?_ | refine ba_ ?_ _)); exact BK304.out) Try.underlying43 rfl (by kernel_rfl)) rfl ?_
  exact ⟨by first | rfl | (simp [errW_none, errW_some] <;> rfl) | (simp [*, errW_none, errW_some] <;> rfl), bw_⟩
end Go.Proofs.Ythhgcjlgnafdcaa.Px
end
section
namespace Go.Proofs.Ythhgcjlgnafdcaa.Px
open Go.RowKit Go.Proofs.YthhgcjlgnafdcaaW.PrintWords Go.Proofs.YthhgcjlgnafdcaaW.PrintLast Go.Proofs.YthhgcjlgnafdcaaW.PrintMore
attribute [local go_sem] max2_int min2_int max_two min_two max_three min_three max_four min_four   -- for this text's walks alone
set_option linter.unusedVariables false
set_option linter.unusedSimpArgs false
attribute [local go_sem] run_add64_any
def IsS149 (w0 W : World) (g : Nat) (f0 : Int) (f1 : Int) (f2 : Int) : Prop := W.heap[g]? = some (.cells #[.int .i64 f0, .int .u64 f1, .int .u64 f2] 149 (0, 0)) ∧ w0.heap.size ≤ g
theorem IsS149.grown {w0 W : World} {g : Nat} {f0 : Int} {f1 : Int} {f2 : Int} {W1 : World} {row : Option Nat} (h : IsS149 w0 W g f0 f1 f2) (hw : W.grownBy W1 row) (hne : some g ≠ row) : IsS149 w0 W1 g f0 f1 f2 := by
 obtain ⟨hb, hg⟩ := h
 exact ⟨blk_grown hb hw hne, hg⟩
theorem IsS149.kept {w0 W : World} {g : Nat} {f0 : Int} {f1 : Int} {f2 : Int} {W1 : World} {S : Nat → Prop} (h : IsS149 w0 W g f0 f1 f2) (hk : Kept W W1 S) (hne : ¬ S g) : IsS149 w0 W1 g f0 f1 f2 := by
 obtain ⟨hb, hg⟩ := h
 exact ⟨blk_kept hb hk hne, hg⟩
theorem IsS149.below {w0 W : World} {g : Nat} {f0 : Int} {f1 : Int} {f2 : Int} {W1 : World} (h : IsS149 w0 W g f0 f1 f2) (hw : Below W.heap.size W W1) : IsS149 w0 W1 g f0 f1 f2 := h.grown (grown_of_below hw none) (by simp)
theorem IsS149.alloc {w0 W : World} {g : Nat} {f0 : Int} {f1 : Int} {f2 : Int} (h : IsS149 w0 W g f0 f1 f2) (o : Obj) : IsS149 w0 (W.alloc o) g f0 f1 f2 := h.below (bl_ (Below.refl _ _) o)
theorem IsS149.drewN {w0 W : World} {g : Nat} {f0 : Int} {f1 : Int} {f2 : Int} (h : IsS149 w0 W g f0 f1 f2) (m : Nat) : IsS149 w0 (W.drewN m) g f0 f1 f2 := h
theorem IsS149.drew {w0 W : World} {g : Nat} {f0 : Int} {f1 : Int} {f2 : Int} (h : IsS149 w0 W g f0 f1 f2) : IsS149 w0 W.drew g f0 f1 f2 := h
theorem IsS149.at_ {w0 W : World} {g : Nat} {f0 : Int} {f1 : Int} {f2 : Int} {w' : World} {m : Nat} (hq : W.drewN m = w') (h : IsS149 w0 W g f0 f1 f2) : IsS149 w0 w' g f0 f1 f2 := by subst hq; exact IsS149.drewN h m
theorem IsS149.apart {w0 W : World} {g : Nat} {f0 : Int} {f1 : Int} {f2 : Int} {α : Type} {d : Kd α} {e : Nat} {base : Nat} {ok : Nat → Prop} {v : Value} {xs : List α} (h : IsS149 w0 W g f0 f1 f2) (ho : d.R e W base ok v xs) (ht : ∀ q, q ∈ e :: d.E → q ≠ 149) : d.R e W base (fun k => ok k ∧ k ≠ g) v xs := by
 obtain ⟨hb, hg⟩ := h
 exact Kd.R_types ho hb ht
theorem IsS149.lt {w0 W : World} {g : Nat} {f0 : Int} {f1 : Int} {f2 : Int} (h : IsS149 w0 W g f0 f1 f2) : g < W.heap.size := by
 obtain ⟨hb, hg⟩ := h
 exact blk_lt hb
theorem IsS149.new (w0 W : World) (f0 : Int) (f1 : Int) (f2 : Int) (hB : Below w0.heap.size w0 W) : IsS149 w0 (W.alloc (.cells #[.int .i64 f0, .int .u64 f1, .int .u64 f2] 149)) W.heap.size f0 f1 f2 := ⟨by simpa using heap_alloc_new W _, hB.size⟩
def fixed_long_add.f (s0 s1 s2 a0 a1 : Int) : Option (Int × Int × Int) := if addHi s2 a1 0 ≤ 1 then some (wrap64 (s0 + wrap64 (a0 / 9223372036854775808 + wrap64 (addHi s1 (IntKind.u64.wrap a0) (addHi s2 a1 0)))), addLo s1 (IntKind.u64.wrap a0) (addHi s2 a1 0), addLo s2 a1 0) else none
section
attribute [local go_sem] run_add64_any
set_option maxHeartbeats 1000000 in
theorem fixed_long_add.walk (g : Nat) (s0_0 s0_1 s0_2 a1_0 a1_1 : Int) (w : World) (h0 : w.cell? ⟨g, 0, none⟩ = some (.int .i64 s0_0)) (h1 : w.cell? ⟨g, 1, none⟩ = some (.int .u64 s0_1)) (h2 : w.cell? ⟨g, 2, none⟩ = some (.int .u64 s0_2)) (f0 : w.frozen? ⟨g, 0, none⟩ = false) (f1 : w.frozen? ⟨g, 1, none⟩ = false) (f2 : w.frozen? ⟨g, 2, none⟩ = false) (hg : g < w.heap.size) (hc : decide (addHi s0_2 a1_1 0 ≤ 1) = true) :
  Calls Try.prog 77 #[.pointer (some ⟨g, 0, none⟩), .agg #[.int .i64 a1_0, .int .u64 a1_1]] w fun e w' => e = .returned (.tuple #[]) ∧ w' = ((((w.setCell ⟨g, 2, none⟩ (.int .u64 (addLo s0_2 a1_1 0))).setCell ⟨g, 1, none⟩ (.int .u64 (addLo s0_1 (IntKind.u64.wrap a1_0) (addHi s0_2 a1_1 0)))).setCell ⟨g, 0, none⟩ (.int .i64 (wrap64 (s0_0 + wrap64 (a1_0 / 9223372036854775808 + wrap64 (addHi s0_1 (IntKind.u64.wrap a1_0) (addHi s0_2 a1_1 0))))))).alloc (.cells #[.int .i64 a1_0, .int .u64 a1_1] 43)).drew.drew.drew := by
 go_enter Try.func77, Try.ntmps77
 go_wp2
 go_region
 go_wp2
 go_region
 go_wp2
 go_region
 go_wp2
 go_end0
 exact ⟨rfl, rfl⟩
end
theorem fixed_long_add.walkf (g : Nat) (s0_0 s0_1 s0_2 a1_0 a1_1 r1 r2 r3 : Int) (w : World) (h : fixed_long_add.f s0_0 s0_1 s0_2 a1_0 a1_1 = some (r1, r2, r3)) (h0 : w.cell? ⟨g, 0, none⟩ = some (.int .i64 s0_0)) (h1 : w.cell? ⟨g, 1, none⟩ = some (.int .u64 s0_1)) (h2 : w.cell? ⟨g, 2, none⟩ = some (.int .u64 s0_2)) (f0 : w.frozen? ⟨g, 0, none⟩ = false) (f1 : w.frozen? ⟨g, 1, none⟩ = false) (f2 : w.frozen? ⟨g, 2, none⟩ = false) (hg : g < w.heap.size) :
  Calls Try.prog 77 #[.pointer (some ⟨g, 0, none⟩), .agg #[.int .i64 a1_0, .int .u64 a1_1]] w fun e w' => e = .returned (.tuple #[]) ∧ w' = ((((w.setCell ⟨g, 2, none⟩ (.int .u64 r3)).setCell ⟨g, 1, none⟩ (.int .u64 r2)).setCell ⟨g, 0, none⟩ (.int .i64 r1)).alloc (.cells #[.int .i64 a1_0, .int .u64 a1_1] 43)).drew.drew.drew := by
 unfold fixed_long_add.f at h
 split at h
 case isFalse => cases h
 rename_i hc
 simp only [Option.some.injEq, Prod.mk.injEq] at h
 obtain ⟨rfl, rfl, rfl⟩ := h
 exact fixed_long_add.walk g s0_0 s0_1 s0_2 a1_0 a1_1 w h0 h1 h2 f0 f1 f2 hg (decide_eq_true hc)
end Go.Proofs.Ythhgcjlgnafdcaa.Px
end
section
namespace Go.Proofs.Ythhgcjlgnafdcaa.Px
open Go.RowKit Go.Proofs.YthhgcjlgnafdcaaW.PrintWords Go.Proofs.YthhgcjlgnafdcaaW.PrintLast Go.Proofs.YthhgcjlgnafdcaaW.PrintMore
attribute [local go_sem] max2_int min2_int max_two min_two max_three min_three max_four min_four   -- for this text's walks alone
set_option linter.unusedVariables false
set_option linter.unusedSimpArgs false
attribute [local go_sem] run_add64_any
def fixed_fits.f (a0_0 : Int) (a0_1 : Int) (a1 : Bool) : Option (Int × Int × Int) := if a1 = true then (some (a0_0, a0_1, 0)) else (some (0, 0, 4))
set_option maxHeartbeats 8000000 in
set_option maxRecDepth 100000 in
theorem fixed_fits.calls (a0_0 : Int) (a0_1 : Int) (a1 : Bool) (r1 : Int) (r2 : Int) (r3 : Int) (w : World) (h : fixed_fits.f a0_0 a0_1 a1 = some (r1, r2, r3)) :
  Calls Try.prog 78 #[.agg #[.int .i64 a0_0, .int .u64 a0_1], .bool a1] w fun e w' => e = .returned (.tuple #[.agg #[.int .i64 r1, .int .u64 r2], .int .i64 r3]) ∧ Below w.heap.size w w' := by
 have hu43 := Try.underlying43
 have HB := A_ (Below.refl w.heap.size w)
 have H : (if a1 = true then (some (a0_0, a0_1, 0)) else (some (0, 0, 4))) = some (r1, r2, r3) := h
 clear h
 by_cases c3 : a1 = true
 ·
  subst c3
  have H1 : (some (a0_0, a0_1, 0)) = some (r1, r2, r3) := by rw [if_pos rfl] at H; exact H
  clear H
  have H := H1
  clear H1
  simp only [Option.some.injEq, Prod.mk.injEq] at H
  obtain ⟨rfl, rfl, rfl⟩ := H
  go_enter Try.func78, Try.ntmps78
  go_wp2_with (first | ((with_reducible refine gate_dst (N := 2) rfl ?_); refine box_event ?hg (N := 2) ?hd (cs := #[.int .i64 a0_0, .int .u64 a0_1]) (t := 43) ?hr ?_; (case hd => rfl); (case hg => rfl); (case hr => first | (go_simp; done) | (go_simp; rfl)); intro gb302 hg w4 hbox hb; have n0_ := A_ (bs_ bw_ hb); have n1_ := A_ (hbox); have n2_ := A_ ((by rw [hg]; exact (bz_ bw_) : w.heap.size ≤ gb302)); have n3_ := A_ ((by rw [hg]; exact (bz_ bw_) : w.heap.size ≤ gb302)); clear HB; have HB := n0_; have BK302 := n1_; have GW302 := n2_; have GE302 := n3_; clear n0_ n1_ n2_ n3_; clear hb hbox hg) | ((with_reducible refine gate_dst (N := 4) rfl ?_); refine box_event ?hg (N := 4) ?hd (cs := #[.int .i64 0, .int .u64 0]) (t := 43) ?hr ?_; (case hd => rfl); (case hg => rfl); (case hr => first | (go_simp; done) | (go_simp; rfl)); intro gb304 hg w5 hbox hb; have n0_ := A_ (kb_ BK302 hb); have n1_ := A_ (bs_ bw_ hb); have n2_ := A_ (hbox); have n3_ := A_ ((by rw [hg]; exact (bz_ bw_) : w.heap.size ≤ gb304)); have n4_ := A_ ((by rw [hg]; exact (bz_ bw_) : w.heap.size ≤ gb304)); have n5_ := A_ ((by rw [hg]; exact nl_ (lt_ BK302) : gb302 ≠ gb304)); have n6_ := A_ ((by rw [hg]; exact ng_ (lt_ BK302) : gb304 ≠ gb302)); clear BK302; clear HB; have BK302 := n0_; have HB := n1_; have BK304 := n2_; have GW304 := n3_; have GE304 := n4_; have NB302_304 := n5_; have NB304_302 := n6_; clear n0_ n1_ n2_ n3_ n4_ n5_ n6_; clear hb hbox hg; have hnb6 := NB302_304.out; have hnc6 := NB304_302.out; have hcz7_0 : w5.cell? ⟨gb302, 0, none⟩ = some (.int .i64 a0_0) := (bc_ BK302.out 0).trans rfl; have hcz7_1 : w5.cell? ⟨gb302, 1, none⟩ = some (.int .u64 a0_1) := (bc_ BK302.out 1).trans rfl; have hfz7_0 := bf_ BK302.out 0; have hfz7_1 := bf_ BK302.out 1; have hcz8_0 : w5.cell? ⟨gb304, 0, none⟩ = some (.int .i64 0) := (bc_ BK304.out 0).trans rfl; have hcz8_1 : w5.cell? ⟨gb304, 1, none⟩ = some (.int .u64 0) := (bc_ BK304.out 1).trans rfl; have hfz8_0 := bf_ BK304.out 0; have hfz8_1 := bf_ BK304.out 1))
  refine bodyPost_ret (results_ct rfl _ _ gb304 43 #[.int .i64 a0_0, .int .u64 a0_1] (0, 0) _ rfl (by (with_reducible repeat (first | refine bn_ ?_ _ | refine bd_ ?_ | refine ba_ ?_ _)); refine bp_ (cs := #[.int .i64 a0_0, .int .u64 0]) ?_ 1 _ rfl; (with_reducible repeat (first | refine bn_ ?_ _ | refine bd_ ?_ | refine ba_ ?_ _)); refine bp_ (cs := #[.int .i64 0, .int .u64 0]) ?_ 0 _ rfl; (with_reducible repeat (first | refine bn_ ?_ _ | refine bd_ ?_ | refine ba_ ?_ _)); exact BK304.out) Try.underlying43 rfl (by kernel_rfl)) rfl ?_
  exact ⟨by first | rfl | (simp [errW_none, errW_some] <;> rfl) | (simp [*, errW_none, errW_some] <;> rfl), bw_⟩
 ·
  replace c3 := Bool.eq_false_iff.mpr c3
  subst c3
  have H1 : (some (0, 0, 4)) = some (r1, r2, r3) := by rw [if_neg (show ¬ (false = true) by decide)] at H; exact H
  clear H
  have H := H1
  clear H1
  simp only [Option.some.injEq, Prod.mk.injEq] at H
  obtain ⟨rfl, rfl, rfl⟩ := H
  go_enter Try.func78, Try.ntmps78
  go_wp2_with (first | ((with_reducible refine gate_dst (N := 2) rfl ?_); refine box_event ?hg (N := 2) ?hd (cs := #[.int .i64 a0_0, .int .u64 a0_1]) (t := 43) ?hr ?_; (case hd => rfl); (case hg => rfl); (case hr => first | (go_simp; done) | (go_simp; rfl)); intro gb302 hg w9 hbox hb; have n0_ := A_ (bs_ bw_ hb); have n1_ := A_ (hbox); have n2_ := A_ ((by rw [hg]; exact (bz_ bw_) : w.heap.size ≤ gb302)); have n3_ := A_ ((by rw [hg]; exact (bz_ bw_) : w.heap.size ≤ gb302)); clear HB; have HB := n0_; have BK302 := n1_; have GW302 := n2_; have GE302 := n3_; clear n0_ n1_ n2_ n3_; clear hb hbox hg) | ((with_reducible refine gate_dst (N := 4) rfl ?_); refine box_event ?hg (N := 4) ?hd (cs := #[.int .i64 0, .int .u64 0]) (t := 43) ?hr ?_; (case hd => rfl); (case hg => rfl); (case hr => first | (go_simp; done) | (go_simp; rfl)); intro gb304 hg w10 hbox hb; have n0_ := A_ (kb_ BK302 hb); have n1_ := A_ (bs_ bw_ hb); have n2_ := A_ (hbox); have n3_ := A_ ((by rw [hg]; exact (bz_ bw_) : w.heap.size ≤ gb304)); have n4_ := A_ ((by rw [hg]; exact (bz_ bw_) : w.heap.size ≤ gb304)); have n5_ := A_ ((by rw [hg]; exact nl_ (lt_ BK302) : gb302 ≠ gb304)); have n6_ := A_ ((by rw [hg]; exact ng_ (lt_ BK302) : gb304 ≠ gb302)); clear BK302; clear HB; have BK302 := n0_; have HB := n1_; have BK304 := n2_; have GW304 := n3_; have GE304 := n4_; have NB302_304 := n5_; have NB304_302 := n6_; clear n0_ n1_ n2_ n3_ n4_ n5_ n6_; clear hb hbox hg; have hnb11 := NB304_302.out; have hnc11 := NB302_304.out; have hcz12_0 : w10.cell? ⟨gb304, 0, none⟩ = some (.int .i64 0) := (bc_ BK304.out 0).trans rfl; have hcz12_1 : w10.cell? ⟨gb304, 1, none⟩ = some (.int .u64 0) := (bc_ BK304.out 1).trans rfl; have hfz12_0 := bf_ BK304.out 0; have hfz12_1 := bf_ BK304.out 1))
  refine bodyPost_ret (results_ct rfl _ _ gb304 43 #[.int .i64 0, .int .u64 0] (0, 0) _ rfl (by (with_reducible repeat (first | refine bn_ ?_ _ | refine bd_ ?_ | refine ba_ ?_ _)); refine bp_ (cs := #[.int .i64 0, .int .u64 0]) ?_ 1 _ rfl; (with_reducible repeat (first | refine bn_ ?_ _ | refine bd_ ?_ | refine ba_ ?_ _)); refine bp_ (cs := #[.int .i64 0, .int .u64 0]) ?_ 0 _ rfl; (with_reducible repeat (first | refine bn_ ?_ _ | refine bd_ ?_ | refine ba_ ?_ _)); exact BK304.out) Try.underlying43 rfl (by kernel_rfl)) rfl ?_
  exact ⟨by first | rfl | (simp [errW_none, errW_some] <;> rfl) | (simp [*, errW_none, errW_some] <;> rfl), bw_⟩
end Go.Proofs.Ythhgcjlgnafdcaa.Px
end
section
namespace Go.Proofs.Ythhgcjlgnafdcaa.Px
open Go.RowKit Go.Proofs.YthhgcjlgnafdcaaW.PrintWords Go.Proofs.YthhgcjlgnafdcaaW.PrintLast Go.Proofs.YthhgcjlgnafdcaaW.PrintMore
attribute [local go_sem] max2_int min2_int max_two min_two max_three min_three max_four min_four   -- for this text's walks alone
set_option linter.unusedVariables false
set_option linter.unusedSimpArgs false
attribute [local go_sem] run_add64_any
set_option maxHeartbeats 1000000 in
theorem fixed_long_wide.walk (g : Nat) (s0_0 s0_1 s0_2 : Int) (w : World) (h0 : w.cell? ⟨g, 0, none⟩ = some (.int .i64 s0_0)) (h1 : w.cell? ⟨g, 1, none⟩ = some (.int .u64 s0_1)) (h2 : w.cell? ⟨g, 2, none⟩ = some (.int .u64 s0_2)) (hg : g < w.heap.size) :
  Calls Try.prog 79 #[.pointer (some ⟨g, 0, none⟩)] w fun e w' => e = .returned (.tuple #[.agg #[.int .i64 (wrap64 s0_1), .int .u64 s0_2], .bool (s0_0 == wrap64 s0_1 / 9223372036854775808)]) ∧ w' = ((w.alloc (.cells #[.int .i64 (wrap64 s0_1), .int .u64 s0_2] 43)).alloc (.cells #[.int .i64 (wrap64 s0_1), .int .u64 s0_2] 43)).drew.drew := by
 go_enter Try.func79, Try.ntmps79
 go_wp2
 go_region
 go_wp2
 go_region
 go_wp2
 refine bodyPost_ret (v := .tuple #[.agg #[.int .i64 (wrap64 s0_1), .int .u64 s0_2], .bool (s0_0 == wrap64 s0_1 / 9223372036854775808)]) (by simp [results, Try.results79, go_sem]) rfl ⟨rfl, rfl⟩
theorem bcell {W w1 : World} (hb : Below W.heap.size W w1) : (∀ b o, b < W.heap.size → w1.cell? ⟨b, o, none⟩ = W.cell? ⟨b, o, none⟩) ∧ (∀ b o, b < W.heap.size → w1.frozen? ⟨b, o, none⟩ = W.frozen? ⟨b, o, none⟩) :=
 ⟨fun b o h => hb.cell (p := ⟨b, o, none⟩) h, fun b o h => hb.frozen (p := ⟨b, o, none⟩) h⟩
def longWide (s : Int × Int × Int) : Option (Int × Int × Int) := fixed_fits.f (wrap64 s.2.1) s.2.2 (s.1 == wrap64 s.2.1 / 9223372036854775808)
end Go.Proofs.Ythhgcjlgnafdcaa.Px
end
section
namespace Go.Proofs.Ythhgcjlgnafdcaa.Px
open Go.RowKit Go.Proofs.YthhgcjlgnafdcaaW.PrintWords Go.Proofs.YthhgcjlgnafdcaaW.PrintLast Go.Proofs.YthhgcjlgnafdcaaW.PrintMore
attribute [local go_sem] max2_int min2_int max_two min_two max_three min_three max_four min_four   -- for this text's walks alone
set_option linter.unusedVariables false
set_option linter.unusedSimpArgs false
attribute [local go_sem] run_add64_any
def longAll : List S43 → Int × Int × Int → Option (Int × Int × Int)
 | [], s => some s
 | a :: l, s => (fixed_long_add.f s.1 s.2.1 s.2.2 a.f0 a.f1).bind fun t => longAll l t
def fixed_Plus.f (l0 : List S43) : Option (Int × Int × Int) := (longAll l0 (0, 0, 0)).bind longWide
theorem longAll_step {l : List S43} {k : Nat} (hk : k < l.length) {s sf : Int × Int × Int} (h : longAll (l.drop k) s = some sf) :
  ∃ r1 r2 r3, fixed_long_add.f s.1 s.2.1 s.2.2 (rd_T43 l k).f0 (rd_T43 l k).f1 = some (r1, r2, r3) ∧ longAll (l.drop (k + 1)) (r1, r2, r3) = some sf := by
 rw [List.drop_eq_getElem_cons hk, longAll] at h
 obtain ⟨⟨r1, r2, r3⟩, h1, h2⟩ := os_ h
 have e : rd_T43 l k = l[k] := by simp [rd_T43, List.getD_eq_getElem?_getD, List.getElem?_eq_getElem hk]
 exact ⟨r1, r2, r3, by rw [e]; exact h1, h2⟩
set_option maxHeartbeats 2000000 in
theorem fixed_Plus.calls (A0 : Option Addr) (c0 : Nat) (l0 : List S43) (r1 r2 r3 : Int) (w : World) (hr0 : Kd.C k43 w A0 l0.length l0) (hc0 : l0.length ≤ c0) (h : fixed_Plus.f l0 = some (r1, r2, r3)) :
  Calls Try.prog 38 #[.slice A0 l0.length c0] w fun e w' => e = .returned (.tuple #[.agg #[.int .i64 r1, .int .u64 r2], .int .i64 r3]) ∧ Below w.heap.size w w' := by
 unfold fixed_Plus.f at h
 obtain ⟨⟨z1, z2, z3⟩, h1, h⟩ := os_ h
 have H1 := A_ h1
 have H := A_ h
 have HR := A_ hr0
 have hmax : l0.length ≤ 9223372036854775807 := Kd.C_max hr0
 clear h h1 hr0
 go_enter Try.func38, Try.ntmps38
 go_wp2
 go_loopw [9] (fun v9 wr => ∃ (k : Nat) (s1 s2 s3 : Int), k ≤ l0.length ∧ v9 = .int .i64 k ∧ Aside0 (longAll (l0.drop k) (s1, s2, s3) = some (z1, z2, z3)) ∧ Aside0 (wr.heap[w.heap.size + 1]? = some (.cells #[.int .i64 s1, .int .u64 s2, .int .u64 s3] 149 (0, 0))) ∧ Aside0 (wr.heap[w.heap.size]? = some (.cells #[.int .i64 0, .int .u64 0] 43 (0, 0))) ∧ Aside0 (Below w.heap.size w wr)) (fun v9 _ => l0.length - (intOf v9).toNat)
 case atStart => exact ⟨0, 0, 0, 0, Nat.zero_le _, rfl, H1, ⟨by simpa using heap_alloc_new (w.alloc (.cells #[.int .i64 0, .int .u64 0] 43)) _⟩, ⟨by rw [Below.heap_alloc _ _ _ (by simp)]; exact heap_alloc_new w _⟩, ⟨bl_ (bl_ (Below.refl _ _) _) _⟩⟩
 case round =>
  obtain ⟨k, s1, s2, s3, hk, rfl, HA, HX, HZ, HB⟩ := hrel
  have hx := HX.out
  have hx0 : wr.cell? ⟨w.heap.size + 1, 0, none⟩ = some (.int .i64 s1) := (bc_ hx 0).trans rfl
  have hx1 : wr.cell? ⟨w.heap.size + 1, 1, none⟩ = some (.int .u64 s2) := (bc_ hx 1).trans rfl
  have hx2 : wr.cell? ⟨w.heap.size + 1, 2, none⟩ = some (.int .u64 s3) := (bc_ hx 2).trans rfl
  have hf0 := bf_ hx 0
  have hf1 := bf_ hx 1
  have hf2 := bf_ hx 2
  have hlt : w.heap.size + 1 < wr.heap.size := blk_lt hx
  clear hx
  by_cases hkl : k < l0.length
  ·
   obtain ⟨r1', r2', r3', ha, hn⟩ := longAll_step hkl HA.out
   have HAd := A_ ha
   have HAn := A_ hn
   clear ha hn
   obtain ⟨ad, rfl, he0, he1⟩ := at_T43 (cb_ HR.out HB.out) (k : Int) (by omega) (by omega)
   simp only [Int.toNat_natCast] at he0 he1
   go_wp2_with (go_at_call 77; refine (fixed_long_add.walkf (w.heap.size + 1) s1 s2 s3 _ _ r1' r2' r3' _ HAd.out ?c0 ?c1 ?c2 ?f0 ?f1 ?f2 ?g).mono ?_; (case c0 => go_simp); (case c1 => go_simp); (case c2 => go_simp); (case f0 => go_simp); (case f1 => go_simp); (case f2 => go_simp); (case g => (simp; omega)); rintro e w' ⟨rfl, rfl⟩)
   go_roundw
   case rel =>
    refine ⟨k + 1, r1', r2', r3', by omega, by go_num, HAn, ⟨?_⟩, ⟨?_⟩, ⟨?_⟩⟩
    ·
     refine bd_ (bd_ (bd_ (ba_ (ba_ ?_ _) _)))
     exact bp_ (bp_ (bp_ HX.out 2 _ rfl) 1 _ rfl) 0 _ rfl
    ·
     refine bd_ (bd_ (bd_ (ba_ (ba_ ?_ _) _)))
     exact br_ (br_ (br_ HZ.out (by simp) _) (by simp) _) (by simp) _
    ·
     exact b1_ (b1_ (b1_ (bl_ (bl_ (bt_ (bt_ (bt_ HB.out (by omega)) (by omega)) (by omega)) _) _)))
   case measure => simp [intOf]; omega
  ·
   obtain rfl : k = l0.length := by omega
   have e : longAll (l0.drop l0.length) (s1, s2, s3) = some (s1, s2, s3) := by rw [List.drop_length]; rfl
   have hh := Option.some.inj (e.symm.trans HA.out)
   simp only [Prod.mk.injEq] at hh
   obtain ⟨rfl, rfl, rfl⟩ := hh
   have hz := HZ.out
   have hz0 : wr.cell? ⟨w.heap.size, 0, none⟩ = some (.int .i64 0) := (bc_ hz 0).trans rfl
   have hz1 : wr.cell? ⟨w.heap.size, 1, none⟩ = some (.int .u64 0) := (bc_ hz 1).trans rfl
   have hy0 := bf_ hz 0
   have hy1 := bf_ hz 1
   have hlz : w.heap.size < wr.heap.size := blk_lt hz
   clear hz e
   go_wp2_with fail
   refine (fixed_long_wide.walk (w.heap.size + 1) s1 s2 s3 _ hx0 hx1 hx2 hlt).mono ?_
   rintro e w' ⟨rfl, rfl⟩
   go_wp2_with fail
   refine (fixed_fits.calls _ _ _ _ _ _ _ H.out).mono ?_
   rintro e w' ⟨rfl, hb⟩
   have hall : Below wr.heap.size wr w' := below_weaken (by repeat (first | exact Below.refl _ _ | apply b1_ | apply bl_)) (by simp; omega) hb
   have q0 := pw_cell_below hall hz0
   have q1 := pw_cell_below hall hz1
   have y0 := (hall.frozen (p := ⟨w.heap.size, 0, none⟩) hlz).trans hy0
   have y1 := (hall.frozen (p := ⟨w.heap.size, 1, none⟩) hlz).trans hy1
   have hs := hall.size
   have hB := A_ (below_weaken HB.out HB.out.size hall)
   clear hb hall hx0 hx1 hx2 hz0 hz1 hf0 hf1 hf2 hy0 hy1
   go_wp2
   refine bodyPost_ret (v := .tuple #[.agg #[.int .i64 r1, .int .u64 r2], .int .i64 r3]) (by simp [results, Try.results38, go_sem, q0, q1]) rfl ⟨rfl, ?_⟩
   exact bt_ (bt_ hB.out (Nat.le_refl _)) (Nat.le_refl _)
end Go.Proofs.Ythhgcjlgnafdcaa.Px
end
section
namespace Go.Proofs.Ythhgcjlgnafdcaa.Px
open Go.RowKit Go.Proofs.YthhgcjlgnafdcaaW.PrintWords Go.Proofs.YthhgcjlgnafdcaaW.PrintLast Go.Proofs.YthhgcjlgnafdcaaW.PrintMore
attribute [local go_sem] max2_int min2_int max_two min_two max_three min_three max_four min_four   -- for this text's walks alone
set_option linter.unusedVariables false
set_option linter.unusedSimpArgs false
attribute [local go_sem] run_add64_any
def fixed_Int.f (a0_0 : Int) (a0_1 : Int) : Option (Int × Int) := if a0_0 = ((wrap64 (a0_1)) / 9223372036854775808) then (some (wrap64 (a0_1), 0)) else (some (0, 4))
set_option maxHeartbeats 8000000 in
set_option maxRecDepth 100000 in
theorem fixed_Int.calls (a0_0 : Int) (a0_1 : Int) (r1 : Int) (r2 : Int) (w : World) (h : fixed_Int.f a0_0 a0_1 = some (r1, r2)) :
  Calls Try.prog 62 #[.agg #[.int .i64 a0_0, .int .u64 a0_1]] w fun e w' => e = .returned (.tuple #[.int .i64 r1, .int .i64 r2]) ∧ Below w.heap.size w w' := by
 have hu43 := Try.underlying43
 have HB := A_ (Below.refl w.heap.size w)
 have H : (if a0_0 = ((wrap64 (a0_1)) / 9223372036854775808) then (some (wrap64 (a0_1), 0)) else (some (0, 4))) = some (r1, r2) := h
 clear h
 by_cases c2 : a0_0 = ((wrap64 (a0_1)) / 9223372036854775808)
 ·
  rw [if_pos c2] at H
  have c2b0 : (a0_0 == ((wrap64 (a0_1)) / 9223372036854775808)) = true := q1_ c2
  have c2b1 : (a0_0 != ((wrap64 (a0_1)) / 9223372036854775808)) = false := q3_ c2
  clear c2
  simp only [Option.some.injEq, Prod.mk.injEq] at H
  obtain ⟨rfl, rfl⟩ := H
  go_enter Try.func62, Try.ntmps62
  go_wp2_with (first | ((with_reducible refine gate_dst (N := 1) rfl ?_); refine box_event ?hg (N := 1) ?hd (cs := #[.int .i64 a0_0, .int .u64 a0_1]) (t := 43) ?hr ?_; (case hd => rfl); (case hg => rfl); (case hr => first | (go_simp; done) | (go_simp; rfl)); intro gb301 hg w3 hbox hb; have n0_ := A_ (bs_ bw_ hb); have n1_ := A_ (hbox); have n2_ := A_ ((by rw [hg]; exact (bz_ bw_) : w.heap.size ≤ gb301)); have n3_ := A_ ((by rw [hg]; exact (bz_ bw_) : w.heap.size ≤ gb301)); clear HB; have HB := n0_; have BK301 := n1_; have GW301 := n2_; have GE301 := n3_; clear n0_ n1_ n2_ n3_; clear hb hbox hg; have hcz4_0 : w3.cell? ⟨gb301, 0, none⟩ = some (.int .i64 a0_0) := (bc_ BK301.out 0).trans rfl; have hcz4_1 : w3.cell? ⟨gb301, 1, none⟩ = some (.int .u64 a0_1) := (bc_ BK301.out 1).trans rfl; have hfz4_0 := bf_ BK301.out 0; have hfz4_1 := bf_ BK301.out 1))
  go_ret2
  exact ⟨by first | rfl | (simp [errW_none, errW_some] <;> rfl) | (simp [*, errW_none, errW_some] <;> rfl), bw_⟩
 ·
  rw [if_neg c2] at H
  have c2b0 : (a0_0 == ((wrap64 (a0_1)) / 9223372036854775808)) = false := q4_ c2
  have c2b1 : (a0_0 != ((wrap64 (a0_1)) / 9223372036854775808)) = true := q2_ c2
  simp only [Option.some.injEq, Prod.mk.injEq] at H
  obtain ⟨rfl, rfl⟩ := H
  go_enter Try.func62, Try.ntmps62
  go_wp2_with (first | ((with_reducible refine gate_dst (N := 1) rfl ?_); refine box_event ?hg (N := 1) ?hd (cs := #[.int .i64 a0_0, .int .u64 a0_1]) (t := 43) ?hr ?_; (case hd => rfl); (case hg => rfl); (case hr => first | (go_simp; done) | (go_simp; rfl)); intro gb301 hg w5 hbox hb; have n0_ := A_ (bs_ bw_ hb); have n1_ := A_ (hbox); have n2_ := A_ ((by rw [hg]; exact (bz_ bw_) : w.heap.size ≤ gb301)); have n3_ := A_ ((by rw [hg]; exact (bz_ bw_) : w.heap.size ≤ gb301)); clear HB; have HB := n0_; have BK301 := n1_; have GW301 := n2_; have GE301 := n3_; clear n0_ n1_ n2_ n3_; clear hb hbox hg; have hcz6_0 : w5.cell? ⟨gb301, 0, none⟩ = some (.int .i64 a0_0) := (bc_ BK301.out 0).trans rfl; have hcz6_1 : w5.cell? ⟨gb301, 1, none⟩ = some (.int .u64 a0_1) := (bc_ BK301.out 1).trans rfl; have hfz6_0 := bf_ BK301.out 0; have hfz6_1 := bf_ BK301.out 1))
  go_ret2
  exact ⟨by first | rfl | (simp [errW_none, errW_some] <;> rfl) | (simp [*, errW_none, errW_some] <;> rfl), bw_⟩
end Go.Proofs.Ythhgcjlgnafdcaa.Px
end
section
namespace Go.Proofs.Ythhgcjlgnafdcaa.Px
open Go.RowKit Go.Proofs.YthhgcjlgnafdcaaW.PrintWords Go.Proofs.YthhgcjlgnafdcaaW.PrintLast Go.Proofs.YthhgcjlgnafdcaaW.PrintMore
attribute [local go_sem] max2_int min2_int max_two min_two max_three min_three max_four min_four   -- for this text's walks alone
set_option linter.unusedVariables false
set_option linter.unusedSimpArgs false
attribute [local go_sem] run_add64_any
def fixed_Minus.f (a0_0 a0_1 a1_0 a1_1 : Int) : Option (Int × Int × Int) :=
 (fixed_long_add.f 0 0 0 a0_0 a0_1).bind fun x1 => (fixed_long_add.f x1.1 x1.2.1 x1.2.2 (Go.bits .xor .i64 (-1) a1_0) (Go.bits .xor .u64 18446744073709551615 a1_1)).bind fun x2 =>
  (fixed_long_add.f x2.1 x2.2.1 x2.2.2 0 1).bind fun x3 => longWide x3
set_option maxHeartbeats 1000000 in
theorem fixed_Minus.calls (a0_0 a0_1 a1_0 a1_1 : Int) (r1 r2 r3 : Int) (w : World) (h : fixed_Minus.f a0_0 a0_1 a1_0 a1_1 = some (r1, r2, r3)) :
  Calls Try.prog 80 #[.agg #[.int .i64 a0_0, .int .u64 a0_1], .agg #[.int .i64 a1_0, .int .u64 a1_1]] w fun e w' => e = .returned (.tuple #[.agg #[.int .i64 r1, .int .u64 r2], .int .i64 r3]) ∧ Below w.heap.size w w' := by
 unfold fixed_Minus.f at h
 obtain ⟨⟨x1, x2, x3⟩, h1, h⟩ := os_ h
 obtain ⟨⟨y1, y2, y3⟩, h2, h⟩ := os_ h
 obtain ⟨⟨z1, z2, z3⟩, h3, h⟩ := os_ h
 have H1 := A_ h1
 have H2 := A_ h2
 have H3 := A_ h3
 have H := A_ h
 clear h h1 h2 h3
 go_enter Try.func80, Try.ntmps80
 go_wp2_with fail
 refine (fixed_long_add.walkf (w.heap.size + 3) _ _ _ _ _ _ _ _ _ H1.out ?c10 ?c11 ?c12 ?f10 ?f11 ?f12 ?g1).mono ?_
 case c10 => go_simp
 case c11 => go_simp
 case c12 => go_simp
 case f10 => go_simp
 case f11 => go_simp
 case f12 => go_simp
 case g1 => go_simp
 rintro e w' ⟨rfl, rfl⟩
 go_wp2_with fail
 refine (fixed_long_add.walkf (w.heap.size + 3) _ _ _ _ _ _ _ _ _ H2.out ?c20 ?c21 ?c22 ?f20 ?f21 ?f22 ?g2).mono ?_
 case c20 => go_simp
 case c21 => go_simp
 case c22 => go_simp
 case f20 => go_simp
 case f21 => go_simp
 case f22 => go_simp
 case g2 => go_simp
 rintro e w' ⟨rfl, rfl⟩
 go_wp2_with fail
 refine (fixed_long_add.walkf (w.heap.size + 3) _ _ _ _ _ _ _ _ _ H3.out ?c30 ?c31 ?c32 ?f30 ?f31 ?f32 ?g3).mono ?_
 case c30 => go_simp
 case c31 => go_simp
 case c32 => go_simp
 case f30 => go_simp
 case f31 => go_simp
 case f32 => go_simp
 case g3 => go_simp
 rintro e w' ⟨rfl, rfl⟩
 go_wp2_with fail
 refine (fixed_long_wide.walk (w.heap.size + 3) z1 z2 z3 _ ?w0 ?w1 ?w2 ?w3).mono ?_
 case w0 => go_simp
 case w1 => go_simp
 case w2 => go_simp
 case w3 => go_simp
 rintro e w' ⟨rfl, rfl⟩
 go_wp2_with fail
 refine (fixed_fits.calls _ _ _ _ _ _ _ H.out).mono ?_
 rintro e w' ⟨rfl, hb⟩
 obtain ⟨hc, _⟩ := bcell hb
 have hB := A_ hb
 clear hb
 go_wp2
 refine bodyPost_ret (v := .tuple #[.agg #[.int .i64 r1, .int .u64 r2], .int .i64 r3]) (by simp [results, Try.results80, go_sem, hc]) rfl ⟨rfl, ?_⟩
 refine bt_ (bt_ (below_weaken ?_ ?_ hB.out) (by omega)) (by omega)
 ·
  repeat (first | exact Below.refl _ _ | apply b1_ | apply bl_)
 ·
  simp; omega
end Go.Proofs.Ythhgcjlgnafdcaa.Px
end
section
namespace Go.Proofs.Ythhgcjlgnafdcaa.Px
open Go.RowKit Go.Proofs.YthhgcjlgnafdcaaW.PrintWords Go.Proofs.YthhgcjlgnafdcaaW.PrintLast Go.Proofs.YthhgcjlgnafdcaaW.PrintMore
attribute [local go_sem] max2_int min2_int max_two min_two max_three min_three max_four min_four   -- for this text's walks alone
set_option linter.unusedVariables false
set_option linter.unusedSimpArgs false
attribute [local go_sem] run_add64_any
end Go.Proofs.Ythhgcjlgnafdcaa.Px
end
section
namespace Go.Proofs.Ythhgcjlgnafdcaa.Px
open Go.RowKit Go.Proofs.YthhgcjlgnafdcaaW.PrintWords Go.Proofs.YthhgcjlgnafdcaaW.PrintLast Go.Proofs.YthhgcjlgnafdcaaW.PrintMore
attribute [local go_sem] max2_int min2_int max_two min_two max_three min_three max_four min_four   -- for this text's walks alone
set_option linter.unusedVariables false
set_option linter.unusedSimpArgs false
attribute [local go_sem] run_add64_any
def fixed_narrow.f (a0_0 : Int) (a0_1 : Int) (a1 : Int) : Option (Int × Int) := if a1 = 0 then ((fixed_Int.f a0_0 a0_1).bind fun bt153 => (some (bt153.1, bt153.2))) else (some (0, a1))
set_option maxHeartbeats 8000000 in
set_option maxRecDepth 100000 in
theorem fixed_narrow.calls (a0_0 : Int) (a0_1 : Int) (a1 : Int) (r1 : Int) (r2 : Int) (w : World) (h : fixed_narrow.f a0_0 a0_1 a1 = some (r1, r2)) :
  Calls Try.prog 90 #[.agg #[.int .i64 a0_0, .int .u64 a0_1], .int .i64 a1] w fun e w' => e = .returned (.tuple #[.int .i64 r1, .int .i64 r2]) ∧ Below w.heap.size w w' := by
 have hu43 := Try.underlying43
 have HB := A_ (Below.refl w.heap.size w)
 have H : (if a1 = 0 then ((fixed_Int.f a0_0 a0_1).bind fun bt153 => (some (bt153.1, bt153.2))) else (some (0, a1))) = some (r1, r2) := h
 clear h
 by_cases c3 : a1 = 0
 ·
  rw [if_pos c3] at H
  have c3b0 : (a1 == 0) = true := q1_ c3
  have c3b1 : (a1 != 0) = false := q3_ c3
  clear c3
  replace H := os_ H
  obtain ⟨⟨t153, t154⟩, A40, H⟩ := H
  replace H : (some (t153, t154)) = some (r1, r2) := H
  have A4 := A_ A40
  clear A40
  simp only [Option.some.injEq, Prod.mk.injEq] at H
  obtain ⟨rfl, rfl⟩ := H
  go_enter Try.func90, Try.ntmps90
  go_wp2_with (first | ((with_reducible refine gate_dst (N := 2) rfl ?_); refine box_event ?hg (N := 2) ?hd (cs := #[.int .i64 a0_0, .int .u64 a0_1]) (t := 43) ?hr ?_; (case hd => rfl); (case hg => rfl); (case hr => first | (go_simp; done) | (go_simp; rfl)); intro gb302 hg w5 hbox hb; have n0_ := A_ (bs_ bw_ hb); have n1_ := A_ (hbox); have n2_ := A_ ((by rw [hg]; exact (bz_ bw_) : w.heap.size ≤ gb302)); have n3_ := A_ ((by rw [hg]; exact (bz_ bw_) : w.heap.size ≤ gb302)); clear HB; have HB := n0_; have BK302 := n1_; have GW302 := n2_; have GE302 := n3_; clear n0_ n1_ n2_ n3_; clear hb hbox hg; have hcz6_0 : w5.cell? ⟨gb302, 0, none⟩ = some (.int .i64 a0_0) := (bc_ BK302.out 0).trans rfl; have hcz6_1 : w5.cell? ⟨gb302, 1, none⟩ = some (.int .u64 a0_1) := (bc_ BK302.out 1).trans rfl; have hfz6_0 := bf_ BK302.out 0; have hfz6_1 := bf_ BK302.out 1) | ((with_reducible refine gate_callee (f := 62) rfl ?_); refine goesL_ (some 10) rfl rfl Try.func62 (by kernel_rfl) rfl #[.agg #[.int .i64 a0_0, .int .u64 a0_1]] rfl (by (try simp only [List.map_toArray, List.map_cons, List.map_nil]); first | done | rfl | (simp only [List.length_drop, List.length_take]; rfl)) ?_; (with_reducible refine (fixed_Int.calls a0_0 a0_1 t153 t154 _ A4.out).mono ?_); rintro e w7 ⟨rfl, hb⟩; refine ⟨_, rfl, ?_⟩; have n0_ := A_ (kb_ BK302 hb); have n1_ := A_ (bs_ bw_ hb); clear BK302; clear HB; have BK302 := n0_; have HB := n1_; clear n0_ n1_; (try clear hb); (try clear hb2); (try clear hk); (try clear hi)))
  go_ret2
  exact ⟨by first | rfl | (simp [errW_none, errW_some] <;> rfl) | (simp [*, errW_none, errW_some] <;> rfl), bw_⟩
 ·
  rw [if_neg c3] at H
  have c3b0 : (a1 == 0) = false := q4_ c3
  have c3b1 : (a1 != 0) = true := q2_ c3
  simp only [Option.some.injEq, Prod.mk.injEq] at H
  obtain ⟨rfl, rfl⟩ := H
  go_enter Try.func90, Try.ntmps90
  go_wp2_with (first | ((with_reducible refine gate_dst (N := 2) rfl ?_); refine box_event ?hg (N := 2) ?hd (cs := #[.int .i64 a0_0, .int .u64 a0_1]) (t := 43) ?hr ?_; (case hd => rfl); (case hg => rfl); (case hr => first | (go_simp; done) | (go_simp; rfl)); intro gb302 hg w8 hbox hb; have n0_ := A_ (bs_ bw_ hb); have n1_ := A_ (hbox); have n2_ := A_ ((by rw [hg]; exact (bz_ bw_) : w.heap.size ≤ gb302)); have n3_ := A_ ((by rw [hg]; exact (bz_ bw_) : w.heap.size ≤ gb302)); clear HB; have HB := n0_; have BK302 := n1_; have GW302 := n2_; have GE302 := n3_; clear n0_ n1_ n2_ n3_; clear hb hbox hg))
  go_ret2
  exact ⟨by first | rfl | (simp [errW_none, errW_some] <;> rfl) | (simp [*, errW_none, errW_some] <;> rfl), bw_⟩
end Go.Proofs.Ythhgcjlgnafdcaa.Px
end
section
namespace Go.Proofs.Ythhgcjlgnafdcaa.Px
open Go.RowKit Go.Proofs.YthhgcjlgnafdcaaW.PrintWords Go.Proofs.YthhgcjlgnafdcaaW.PrintLast Go.Proofs.YthhgcjlgnafdcaaW.PrintMore
attribute [local go_sem] max2_int min2_int max_two min_two max_three min_three max_four min_four   -- for this text's walks alone
set_option linter.unusedVariables false
set_option linter.unusedSimpArgs false
attribute [local go_sem] run_add64_any
def fixed_Sub.f (a0 : Int) (a1 : Int) : Option (Int × Int) := (fixed_Of.f a0).bind fun bt155 => ((fixed_Of.f a1).bind fun bt157 => ((fixed_Minus.f bt155.1 bt155.2 bt157.1 bt157.2).bind fun bt159 => ((fixed_narrow.f bt159.1 bt159.2.1 bt159.2.2).bind fun bt162 => (some (bt162.1, bt162.2)))))
set_option maxHeartbeats 8000000 in
set_option maxRecDepth 100000 in
theorem fixed_Sub.calls (a0 : Int) (a1 : Int) (r1 : Int) (r2 : Int) (w : World) (h : fixed_Sub.f a0 a1 = some (r1, r2)) :
  Calls Try.prog 55 #[.int .i64 a0, .int .i64 a1] w fun e w' => e = .returned (.tuple #[.int .i64 r1, .int .i64 r2]) ∧ Below w.heap.size w w' := by
 have HB := A_ (Below.refl w.heap.size w)
 have H : ((fixed_Of.f a0).bind fun bt155 => ((fixed_Of.f a1).bind fun bt157 => ((fixed_Minus.f bt155.1 bt155.2 bt157.1 bt157.2).bind fun bt159 => ((fixed_narrow.f bt159.1 bt159.2.1 bt159.2.2).bind fun bt162 => (some (bt162.1, bt162.2)))))) = some (r1, r2) := h
 clear h
 replace H := os_ H
 obtain ⟨⟨t155, t156⟩, A30, H⟩ := H
 replace H : ((fixed_Of.f a1).bind fun bt157 => ((fixed_Minus.f t155 t156 bt157.1 bt157.2).bind fun bt159 => ((fixed_narrow.f bt159.1 bt159.2.1 bt159.2.2).bind fun bt162 => (some (bt162.1, bt162.2))))) = some (r1, r2) := H
 have A3 := A_ A30
 clear A30
 replace H := os_ H
 obtain ⟨⟨t157, t158⟩, A40, H⟩ := H
 replace H : ((fixed_Minus.f t155 t156 t157 t158).bind fun bt159 => ((fixed_narrow.f bt159.1 bt159.2.1 bt159.2.2).bind fun bt162 => (some (bt162.1, bt162.2)))) = some (r1, r2) := H
 have A4 := A_ A40
 clear A40
 replace H := os_ H
 obtain ⟨⟨t159, t160, t161⟩, A50, H⟩ := H
 replace H : ((fixed_narrow.f t159 t160 t161).bind fun bt162 => (some (bt162.1, bt162.2))) = some (r1, r2) := H
 have A5 := A_ A50
 clear A50
 replace H := os_ H
 obtain ⟨⟨t162, t163⟩, A60, H⟩ := H
 replace H : (some (t162, t163)) = some (r1, r2) := H
 have A6 := A_ A60
 clear A60
 simp only [Option.some.injEq, Prod.mk.injEq] at H
 obtain ⟨rfl, rfl⟩ := H
 go_enter Try.func55, Try.ntmps55
 go_wp2_with (first | ((with_reducible refine gate_callee (f := 35) rfl ?_); refine goesL_ (some 7) rfl rfl Try.func35 (by kernel_rfl) rfl #[.int .i64 a0] rfl (by (try simp only [List.map_toArray, List.map_cons, List.map_nil]); first | done | rfl | (simp only [List.length_drop, List.length_take]; rfl)) ?_; (with_reducible refine (fixed_Of.calls a0 t155 t156 _ A3.out).mono ?_); rintro e w7 ⟨rfl, hb⟩; refine ⟨_, rfl, ?_⟩; have n0_ := A_ (bs_ bw_ hb); clear HB; have HB := n0_; clear n0_; (try clear hb); (try clear hb2); (try clear hk); (try clear hi)) | ((with_reducible refine gate_callee (f := 35) rfl ?_); refine goesL_ (some 9) rfl rfl Try.func35 (by kernel_rfl) rfl #[.int .i64 a1] rfl (by (try simp only [List.map_toArray, List.map_cons, List.map_nil]); first | done | rfl | (simp only [List.length_drop, List.length_take]; rfl)) ?_; (with_reducible refine (fixed_Of.calls a1 t157 t158 _ A4.out).mono ?_); rintro e w8 ⟨rfl, hb⟩; refine ⟨_, rfl, ?_⟩; have n0_ := A_ (bs_ bw_ hb); clear HB; have HB := n0_; clear n0_; (try clear hb); (try clear hb2); (try clear hk); (try clear hi)) | ((with_reducible refine gate_callee (f := 80) rfl ?_); refine goesL_ (some 10) rfl rfl Try.func80 (by kernel_rfl) rfl #[.agg #[.int .i64 t155, .int .u64 t156], .agg #[.int .i64 t157, .int .u64 t158]] rfl (by (try simp only [List.map_toArray, List.map_cons, List.map_nil]); first | done | rfl | (simp only [List.length_drop, List.length_take]; rfl)) ?_; (with_reducible refine (fixed_Minus.calls t155 t156 t157 t158 t159 t160 t161 _ A5.out).mono ?_); rintro e w9 ⟨rfl, hb⟩; refine ⟨_, rfl, ?_⟩; have n0_ := A_ (bs_ bw_ hb); clear HB; have HB := n0_; clear n0_; (try clear hb); (try clear hb2); (try clear hk); (try clear hi)) | ((with_reducible refine gate_callee (f := 90) rfl ?_); refine goesL_ (some 13) rfl rfl Try.func90 (by kernel_rfl) rfl #[.agg #[.int .i64 t159, .int .u64 t160], .int .i64 t161] rfl (by (try simp only [List.map_toArray, List.map_cons, List.map_nil]); first | done | rfl | (simp only [List.length_drop, List.length_take]; rfl)) ?_; (with_reducible refine (fixed_narrow.calls t159 t160 t161 t162 t163 _ A6.out).mono ?_); rintro e w10 ⟨rfl, hb⟩; refine ⟨_, rfl, ?_⟩; have n0_ := A_ (bs_ bw_ hb); clear HB; have HB := n0_; clear n0_; (try clear hb); (try clear hb2); (try clear hk); (try clear hi)))
 go_ret2
 exact ⟨by first | rfl | (simp [errW_none, errW_some] <;> rfl) | (simp [*, errW_none, errW_some] <;> rfl), bw_⟩
end Go.Proofs.Ythhgcjlgnafdcaa.Px
end
section
namespace Go.Proofs.Ythhgcjlgnafdcaa.Px
open Go.RowKit Go.Proofs.YthhgcjlgnafdcaaW.PrintWords Go.Proofs.YthhgcjlgnafdcaaW.PrintLast Go.Proofs.YthhgcjlgnafdcaaW.PrintMore
attribute [local go_sem] max2_int min2_int max_two min_two max_three min_three max_four min_four   -- for this text's walks alone
set_option linter.unusedVariables false
set_option linter.unusedSimpArgs false
attribute [local go_sem] run_add64_any
def cmp_Or_int.l0 : Nat → Int → List Int → Int → Int → Option (Int)
 | 0, _, _, _, _ => none
 | k + 1, x3, x6, x7, x8 => if x8 < x7 then (if 0 ≤ x8 then (if x8 < (x6.length : Int) then (if (rd x6 x8) = x3 then (cmp_Or_int.l0 k x3 x6 x7 (wrap64 (x8 + 1))) else (some (rd x6 x8))) else (none)) else (none)) else (some x3)
def cmp_Or_int.f (k : Nat) (l0 : List Int) : Option (Int) := cmp_Or_int.l0 k 0 l0 (l0.length : Int) 0
set_option maxHeartbeats 8000000 in
set_option maxRecDepth 100000 in
theorem cmp_Or_int.calls (k : Nat) (A0 : Option Addr) (c0 : Nat) (l0 : List Int) (r : Int) (w : World) (hr0 : Kd.C (Kd.int .i64) w A0 l0.length l0) (hc0 : l0.length ≤ c0) (h : cmp_Or_int.f k l0 = some r) :
  Calls Try.prog 91 #[.slice A0 l0.length c0] w fun e w' => e = .returned (.int .i64 r) ∧ Drawn0 w w' := by
 have HR0 := A_ hr0
 have HC0 := A_ hc0
 clear hr0 hc0
 have H : (cmp_Or_int.l0 k 0 l0 (l0.length : Int) 0) = some r := h
 clear h
 have H' := A_ H
 clear H
 go_enter Try.func91, Try.ntmps91
 go_wp2
 (try simp only [Act.put, sA_, sZ_, sS_])
 go_loopg [8] k (fun kq v8 w' => ∃ (x8_1 : Int), v8 = .int .i64 x8_1 ∧ Aside0 (cmp_Or_int.l0 kq 0 l0 (l0.length : Int) x8_1 = some r) ∧ Aside0 (kq ≤ k) ∧ Drawn0 w w')
 case atStart => exact ⟨(0), (by first | rfl | (simp; done) | (simp [*]; done)), H', ⟨Nat.le_refl _⟩, by repeat (first | exact Drawn0.refl _ | apply Drawn0.step)⟩
 case round =>
  clear H'
  obtain ⟨x8_1, rfl, HA, HK1, ⟨m1, rfl⟩⟩ := hrel
  cases gk with
  | zero => exact absurd HA.out (by simp [cmp_Or_int.l0])
  | succ k1 =>
   have H := HA.out
   clear HA
   simp only [cmp_Or_int.l0] at H
   by_cases c2 : x8_1 < (l0.length : Int)
   ·
    rw [if_pos c2] at H
    have c2b0 : decide (x8_1 < (l0.length : Int)) = true := decide_eq_true c2
    clear c2
    by_cases c3 : 0 ≤ x8_1
    ·
     rw [if_pos c3] at H
     have c3b0 : decide (0 ≤ x8_1) = true := decide_eq_true c3
     clear c3
     by_cases c4 : x8_1 < (l0.length : Int)
     ·
      rw [if_pos c4] at H
      have c4b0 : decide (x8_1 < (l0.length : Int)) = true := decide_eq_true c4
      clear c4
      by_cases c5 : (rd l0 x8_1) = 0
      ·
       rw [if_pos c5] at H
       have c5b0 : ((rd l0 x8_1) == 0) = true := q1_ c5
       have c5b1 : ((rd l0 x8_1) != 0) = false := q3_ c5
       clear c5
       have H' := A_ H
       clear H
       have p164 : 0 ≤ (x8_1 : Int) := od_ (by first | (with_reducible assumption) | assumption)
       have q164 : x8_1 < (l0.length : Int) := od_ (by first | (with_reducible assumption) | assumption)
       obtain ⟨ad164, e164, hx164_0⟩ := Kd.at_int HR0.out x8_1 p164 q164
       cases e164
       replace p164 := eq_true p164
       replace q164 := eq_true q164
       go_wp2
       go_roundg k1
       case measure => have := HK1.out; omega
       case rel => exact ⟨(wrap64 (x8_1 + 1)), (by first | rfl | (simp; done) | (simp [*]; done)), H', ⟨by have := HK1.out; omega⟩, by repeat (first | exact Drawn0.refl _ | apply Drawn0.step)⟩
      ·
       rw [if_neg c5] at H
       have c5b0 : ((rd l0 x8_1) == 0) = false := q4_ c5
       have c5b1 : ((rd l0 x8_1) != 0) = true := q2_ c5
       obtain rfl := Option.some.inj H
       have p164 : 0 ≤ (x8_1 : Int) := od_ (by first | (with_reducible assumption) | assumption)
       have q164 : x8_1 < (l0.length : Int) := od_ (by first | (with_reducible assumption) | assumption)
       obtain ⟨ad164, e164, hx164_0⟩ := Kd.at_int HR0.out x8_1 p164 q164
       cases e164
       replace p164 := eq_true p164
       replace q164 := eq_true q164
       go_wp2
       go_ret
       exact ⟨by first | rfl | (simp; done) | (simp [*]; done), by repeat (first | exact Drawn0.refl _ | apply Drawn0.step)⟩
     ·
      rw [if_neg c4] at H
      exact absurd H (by simp)
    ·
     rw [if_neg c3] at H
     exact absurd H (by simp)
   ·
    rw [if_neg c2] at H
    have c2b0 : decide (x8_1 < (l0.length : Int)) = false := decide_eq_false c2
    clear c2
    obtain rfl := Option.some.inj H
    go_wp2
    go_ret
    exact ⟨by first | rfl | (simp; done) | (simp [*]; done), by repeat (first | exact Drawn0.refl _ | apply Drawn0.step)⟩
end Go.Proofs.Ythhgcjlgnafdcaa.Px
end
section
namespace Go.Proofs.Ythhgcjlgnafdcaa.Px
open Go.RowKit Go.Proofs.YthhgcjlgnafdcaaW.PrintWords Go.Proofs.YthhgcjlgnafdcaaW.PrintLast Go.Proofs.YthhgcjlgnafdcaaW.PrintMore
attribute [local go_sem] max2_int min2_int max_two min_two max_three min_three max_four min_four   -- for this text's walks alone
set_option linter.unusedVariables false
set_option linter.unusedSimpArgs false
attribute [local go_sem] run_add64_any
def cmp_isNaN_int64.f (a0 : Int) : Option (Bool) := some (a0 != a0)
set_option maxHeartbeats 8000000 in
set_option maxRecDepth 100000 in
theorem cmp_isNaN_int64.calls (a0 : Int) (r : Bool) (w : World) (h : cmp_isNaN_int64.f a0 = some r) :
  Calls Try.prog 120 #[.int .i64 a0] w fun e w' => e = .returned (.bool r) ∧ Drawn0 w w' := by
 have H : (some (a0 != a0)) = some r := h
 clear h
 obtain rfl := Option.some.inj H
 go_enter Try.func120, Try.ntmps120
 go_wp2
 go_ret
 exact ⟨by first | rfl | (simp; done) | (simp [*]; done), by repeat (first | exact Drawn0.refl _ | apply Drawn0.step)⟩
end Go.Proofs.Ythhgcjlgnafdcaa.Px
end
section
namespace Go.Proofs.Ythhgcjlgnafdcaa.Px
open Go.RowKit Go.Proofs.YthhgcjlgnafdcaaW.PrintWords Go.Proofs.YthhgcjlgnafdcaaW.PrintLast Go.Proofs.YthhgcjlgnafdcaaW.PrintMore
attribute [local go_sem] max2_int min2_int max_two min_two max_three min_three max_four min_four   -- for this text's walks alone
set_option linter.unusedVariables false
set_option linter.unusedSimpArgs false
attribute [local go_sem] run_add64_any
def cmp_Compare_int64.f (a0 : Int) (a1 : Int) : Option (Int) := (cmp_isNaN_int64.f a0).bind fun t165 => ((cmp_isNaN_int64.f a1).bind fun t166 => (if t165 = true then (if t166 = true then (some 0) else (some (-1))) else (if t166 = true then (some 1) else (if a0 < a1 then (some (-1)) else (if a0 > a1 then (some 1) else (some 0))))))
set_option maxHeartbeats 8000000 in
set_option maxRecDepth 100000 in
theorem cmp_Compare_int64.calls (a0 : Int) (a1 : Int) (r : Int) (w : World) (h : cmp_Compare_int64.f a0 a1 = some r) :
  Calls Try.prog 92 #[.int .i64 a0, .int .i64 a1] w fun e w' => e = .returned (.int .i64 r) ∧ Drawn0 w w' := by
 have H : ((cmp_isNaN_int64.f a0).bind fun t165 => ((cmp_isNaN_int64.f a1).bind fun t166 => (if t165 = true then (if t166 = true then (some 0) else (some (-1))) else (if t166 = true then (some 1) else (if a0 < a1 then (some (-1)) else (if a0 > a1 then (some 1) else (some 0))))))) = some r := h
 clear h
 replace H := os_ H
 obtain ⟨t165, A30, H⟩ := H
 replace H : ((cmp_isNaN_int64.f a1).bind fun t166 => (if t165 = true then (if t166 = true then (some 0) else (some (-1))) else (if t166 = true then (some 1) else (if a0 < a1 then (some (-1)) else (if a0 > a1 then (some 1) else (some 0)))))) = some r := H
 have A3 := A_ A30
 clear A30
 replace H := os_ H
 obtain ⟨t166, A40, H⟩ := H
 replace H : (if t165 = true then (if t166 = true then (some 0) else (some (-1))) else (if t166 = true then (some 1) else (if a0 < a1 then (some (-1)) else (if a0 > a1 then (some 1) else (some 0))))) = some r := H
 have A4 := A_ A40
 clear A40
 by_cases c5 : t165 = true
 ·
  subst c5
  have H1 : (if t166 = true then (some 0) else (some (-1))) = some r := by rw [if_pos rfl] at H; exact H
  clear H
  have H := H1
  clear H1
  by_cases c6 : t166 = true
  ·
   subst c6
   have H1 : (some 0) = some r := by rw [if_pos rfl] at H; exact H
   clear H
   have H := H1
   clear H1
   obtain rfl := Option.some.inj H
   go_enter Try.func92, Try.ntmps92
   go_wp2_with (first | ((with_reducible refine gate_callee (f := 120) rfl ?_); refine goesL_ (some 8) rfl rfl Try.func120 (by kernel_rfl) rfl #[.int .i64 a0] rfl (by (try simp only [List.map_toArray, List.map_cons, List.map_nil]); first | done | rfl | (simp only [List.length_drop, List.length_take]; rfl)) ?_; (with_reducible refine (cmp_isNaN_int64.calls a0 true _ A3.out).mono ?_); rintro e w' ⟨rfl, ⟨nd, rfl⟩⟩; refine ⟨_, rfl, ?_⟩) | ((with_reducible refine gate_callee (f := 120) rfl ?_); refine goesL_ (some 10) rfl rfl Try.func120 (by kernel_rfl) rfl #[.int .i64 a1] rfl (by (try simp only [List.map_toArray, List.map_cons, List.map_nil]); first | done | rfl | (simp only [List.length_drop, List.length_take]; rfl)) ?_; (with_reducible refine (cmp_isNaN_int64.calls a1 true _ A4.out).mono ?_); rintro e w' ⟨rfl, ⟨nd, rfl⟩⟩; refine ⟨_, rfl, ?_⟩))
   go_ret
   exact ⟨by first | rfl | (simp; done) | (simp [*]; done), by repeat (first | exact Drawn0.refl _ | apply Drawn0.step)⟩
  ·
   replace c6 := Bool.eq_false_iff.mpr c6
   subst c6
   have H1 : (some (-1)) = some r := by rw [if_neg (show ¬ (false = true) by decide)] at H; exact H
   clear H
   have H := H1
   clear H1
   obtain rfl := Option.some.inj H
   go_enter Try.func92, Try.ntmps92
   go_wp2_with (first | ((with_reducible refine gate_callee (f := 120) rfl ?_); refine goesL_ (some 8) rfl rfl Try.func120 (by kernel_rfl) rfl #[.int .i64 a0] rfl (by (try simp only [List.map_toArray, List.map_cons, List.map_nil]); first | done | rfl | (simp only [List.length_drop, List.length_take]; rfl)) ?_; (with_reducible refine (cmp_isNaN_int64.calls a0 true _ A3.out).mono ?_); rintro e w' ⟨rfl, ⟨nd, rfl⟩⟩; refine ⟨_, rfl, ?_⟩) | ((with_reducible refine gate_callee (f := 120) rfl ?_); refine goesL_ (some 10) rfl rfl Try.func120 (by kernel_rfl) rfl #[.int .i64 a1] rfl (by (try simp only [List.map_toArray, List.map_cons, List.map_nil]); first | done | rfl | (simp only [List.length_drop, List.length_take]; rfl)) ?_; (with_reducible refine (cmp_isNaN_int64.calls a1 false _ A4.out).mono ?_); rintro e w' ⟨rfl, ⟨nd, rfl⟩⟩; refine ⟨_, rfl, ?_⟩))
   go_ret
   exact ⟨by first | rfl | (simp; done) | (simp [*]; done), by repeat (first | exact Drawn0.refl _ | apply Drawn0.step)⟩
 ·
  replace c5 := Bool.eq_false_iff.mpr c5
  subst c5
  have H1 : (if t166 = true then (some 1) else (if a0 < a1 then (some (-1)) else (if a0 > a1 then (some 1) else (some 0)))) = some r := by rw [if_neg (show ¬ (false = true) by decide)] at H; exact H
  clear H
  have H := H1
  clear H1
  by_cases c7 : t166 = true
  ·
   subst c7
   have H1 : (some 1) = some r := by rw [if_pos rfl] at H; exact H
   clear H
   have H := H1
   clear H1
   obtain rfl := Option.some.inj H
   go_enter Try.func92, Try.ntmps92
   go_wp2_with (first | ((with_reducible refine gate_callee (f := 120) rfl ?_); refine goesL_ (some 8) rfl rfl Try.func120 (by kernel_rfl) rfl #[.int .i64 a0] rfl (by (try simp only [List.map_toArray, List.map_cons, List.map_nil]); first | done | rfl | (simp only [List.length_drop, List.length_take]; rfl)) ?_; (with_reducible refine (cmp_isNaN_int64.calls a0 false _ A3.out).mono ?_); rintro e w' ⟨rfl, ⟨nd, rfl⟩⟩; refine ⟨_, rfl, ?_⟩) | ((with_reducible refine gate_callee (f := 120) rfl ?_); refine goesL_ (some 10) rfl rfl Try.func120 (by kernel_rfl) rfl #[.int .i64 a1] rfl (by (try simp only [List.map_toArray, List.map_cons, List.map_nil]); first | done | rfl | (simp only [List.length_drop, List.length_take]; rfl)) ?_; (with_reducible refine (cmp_isNaN_int64.calls a1 true _ A4.out).mono ?_); rintro e w' ⟨rfl, ⟨nd, rfl⟩⟩; refine ⟨_, rfl, ?_⟩))
   go_ret
   exact ⟨by first | rfl | (simp; done) | (simp [*]; done), by repeat (first | exact Drawn0.refl _ | apply Drawn0.step)⟩
  ·
   replace c7 := Bool.eq_false_iff.mpr c7
   subst c7
   have H1 : (if a0 < a1 then (some (-1)) else (if a0 > a1 then (some 1) else (some 0))) = some r := by rw [if_neg (show ¬ (false = true) by decide)] at H; exact H
   clear H
   have H := H1
   clear H1
   by_cases c8 : a0 < a1
   ·
    rw [if_pos c8] at H
    have c8b0 : decide (a0 < a1) = true := decide_eq_true c8
    clear c8
    obtain rfl := Option.some.inj H
    go_enter Try.func92, Try.ntmps92
    go_wp2_with (first | ((with_reducible refine gate_callee (f := 120) rfl ?_); refine goesL_ (some 8) rfl rfl Try.func120 (by kernel_rfl) rfl #[.int .i64 a0] rfl (by (try simp only [List.map_toArray, List.map_cons, List.map_nil]); first | done | rfl | (simp only [List.length_drop, List.length_take]; rfl)) ?_; (with_reducible refine (cmp_isNaN_int64.calls a0 false _ A3.out).mono ?_); rintro e w' ⟨rfl, ⟨nd, rfl⟩⟩; refine ⟨_, rfl, ?_⟩) | ((with_reducible refine gate_callee (f := 120) rfl ?_); refine goesL_ (some 10) rfl rfl Try.func120 (by kernel_rfl) rfl #[.int .i64 a1] rfl (by (try simp only [List.map_toArray, List.map_cons, List.map_nil]); first | done | rfl | (simp only [List.length_drop, List.length_take]; rfl)) ?_; (with_reducible refine (cmp_isNaN_int64.calls a1 false _ A4.out).mono ?_); rintro e w' ⟨rfl, ⟨nd, rfl⟩⟩; refine ⟨_, rfl, ?_⟩))
    go_ret
    exact ⟨by first | rfl | (simp; done) | (simp [*]; done), by repeat (first | exact Drawn0.refl _ | apply Drawn0.step)⟩
   ·
    rw [if_neg c8] at H
    have c8b0 : decide (a0 < a1) = false := decide_eq_false c8
    clear c8
    by_cases c9 : a0 > a1
    ·
     rw [if_pos c9] at H
     have c9b0 : decide (a1 < a0) = true := decide_eq_true c9
     clear c9
     obtain rfl := Option.some.inj H
     go_enter Try.func92, Try.ntmps92
     go_wp2_with (first | ((with_reducible refine gate_callee (f := 120) rfl ?_); refine goesL_ (some 8) rfl rfl Try.func120 (by kernel_rfl) rfl #[.int .i64 a0] rfl (by (try simp only [List.map_toArray, List.map_cons, List.map_nil]); first | done | rfl | (simp only [List.length_drop, List.length_take]; rfl)) ?_; (with_reducible refine (cmp_isNaN_int64.calls a0 false _ A3.out).mono ?_); rintro e w' ⟨rfl, ⟨nd, rfl⟩⟩; refine ⟨_, rfl, ?_⟩) | ((with_reducible refine gate_callee (f := 120) rfl ?_); refine goesL_ (some 10) rfl rfl Try.func120 (by kernel_rfl) rfl #[.int .i64 a1] rfl (by (try simp only [List.map_toArray, List.map_cons, List.map_nil]); first | done | rfl | (simp only [List.length_drop, List.length_take]; rfl)) ?_; (with_reducible refine (cmp_isNaN_int64.calls a1 false _ A4.out).mono ?_); rintro e w' ⟨rfl, ⟨nd, rfl⟩⟩; refine ⟨_, rfl, ?_⟩))
     go_ret
     exact ⟨by first | rfl | (simp; done) | (simp [*]; done), by repeat (first | exact Drawn0.refl _ | apply Drawn0.step)⟩
    ·
     rw [if_neg c9] at H
     have c9b0 : decide (a1 < a0) = false := decide_eq_false c9
     clear c9
     obtain rfl := Option.some.inj H
     go_enter Try.func92, Try.ntmps92
     go_wp2_with (first | ((with_reducible refine gate_callee (f := 120) rfl ?_); refine goesL_ (some 8) rfl rfl Try.func120 (by kernel_rfl) rfl #[.int .i64 a0] rfl (by (try simp only [List.map_toArray, List.map_cons, List.map_nil]); first | done | rfl | (simp only [List.length_drop, List.length_take]; rfl)) ?_; (with_reducible refine (cmp_isNaN_int64.calls a0 false _ A3.out).mono ?_); rintro e w' ⟨rfl, ⟨nd, rfl⟩⟩; refine ⟨_, rfl, ?_⟩) | ((with_reducible refine gate_callee (f := 120) rfl ?_); refine goesL_ (some 10) rfl rfl Try.func120 (by kernel_rfl) rfl #[.int .i64 a1] rfl (by (try simp only [List.map_toArray, List.map_cons, List.map_nil]); first | done | rfl | (simp only [List.length_drop, List.length_take]; rfl)) ?_; (with_reducible refine (cmp_isNaN_int64.calls a1 false _ A4.out).mono ?_); rintro e w' ⟨rfl, ⟨nd, rfl⟩⟩; refine ⟨_, rfl, ?_⟩))
     go_ret
     exact ⟨by first | rfl | (simp; done) | (simp [*]; done), by repeat (first | exact Drawn0.refl _ | apply Drawn0.step)⟩
end Go.Proofs.Ythhgcjlgnafdcaa.Px
end
section
namespace Go.Proofs.Ythhgcjlgnafdcaa.Px
open Go.RowKit Go.Proofs.YthhgcjlgnafdcaaW.PrintWords Go.Proofs.YthhgcjlgnafdcaaW.PrintLast Go.Proofs.YthhgcjlgnafdcaaW.PrintMore
attribute [local go_sem] max2_int min2_int max_two min_two max_three min_three max_four min_four   -- for this text's walks alone
set_option linter.unusedVariables false
set_option linter.unusedSimpArgs false
attribute [local go_sem] run_add64_any
def cmp_isNaN_uint64.f (a0 : Int) : Option (Bool) := some (a0 != a0)
set_option maxHeartbeats 8000000 in
set_option maxRecDepth 100000 in
theorem cmp_isNaN_uint64.calls (a0 : Int) (r : Bool) (w : World) (h : cmp_isNaN_uint64.f a0 = some r) :
  Calls Try.prog 121 #[.int .u64 a0] w fun e w' => e = .returned (.bool r) ∧ Drawn0 w w' := by
 have H : (some (a0 != a0)) = some r := h
 clear h
 obtain rfl := Option.some.inj H
 go_enter Try.func121, Try.ntmps121
 go_wp2
 go_ret
 exact ⟨by first | rfl | (simp; done) | (simp [*]; done), by repeat (first | exact Drawn0.refl _ | apply Drawn0.step)⟩
end Go.Proofs.Ythhgcjlgnafdcaa.Px
end
section
namespace Go.Proofs.Ythhgcjlgnafdcaa.Px
open Go.RowKit Go.Proofs.YthhgcjlgnafdcaaW.PrintWords Go.Proofs.YthhgcjlgnafdcaaW.PrintLast Go.Proofs.YthhgcjlgnafdcaaW.PrintMore
attribute [local go_sem] max2_int min2_int max_two min_two max_three min_three max_four min_four   -- for this text's walks alone
set_option linter.unusedVariables false
set_option linter.unusedSimpArgs false
attribute [local go_sem] run_add64_any
def cmp_Compare_uint64.f (a0 : Int) (a1 : Int) : Option (Int) := (cmp_isNaN_uint64.f a0).bind fun t167 => ((cmp_isNaN_uint64.f a1).bind fun t168 => (if t167 = true then (if t168 = true then (some 0) else (some (-1))) else (if t168 = true then (some 1) else (if a0 < a1 then (some (-1)) else (if a0 > a1 then (some 1) else (some 0))))))
set_option maxHeartbeats 8000000 in
set_option maxRecDepth 100000 in
theorem cmp_Compare_uint64.calls (a0 : Int) (a1 : Int) (r : Int) (w : World) (h : cmp_Compare_uint64.f a0 a1 = some r) :
  Calls Try.prog 93 #[.int .u64 a0, .int .u64 a1] w fun e w' => e = .returned (.int .i64 r) ∧ Drawn0 w w' := by
 have H : ((cmp_isNaN_uint64.f a0).bind fun t167 => ((cmp_isNaN_uint64.f a1).bind fun t168 => (if t167 = true then (if t168 = true then (some 0) else (some (-1))) else (if t168 = true then (some 1) else (if a0 < a1 then (some (-1)) else (if a0 > a1 then (some 1) else (some 0))))))) = some r := h
 clear h
 replace H := os_ H
 obtain ⟨t167, A30, H⟩ := H
 replace H : ((cmp_isNaN_uint64.f a1).bind fun t168 => (if t167 = true then (if t168 = true then (some 0) else (some (-1))) else (if t168 = true then (some 1) else (if a0 < a1 then (some (-1)) else (if a0 > a1 then (some 1) else (some 0)))))) = some r := H
 have A3 := A_ A30
 clear A30
 replace H := os_ H
 obtain ⟨t168, A40, H⟩ := H
 replace H : (if t167 = true then (if t168 = true then (some 0) else (some (-1))) else (if t168 = true then (some 1) else (if a0 < a1 then (some (-1)) else (if a0 > a1 then (some 1) else (some 0))))) = some r := H
 have A4 := A_ A40
 clear A40
 by_cases c5 : t167 = true
 ·
  subst c5
  have H1 : (if t168 = true then (some 0) else (some (-1))) = some r := by rw [if_pos rfl] at H; exact H
  clear H
  have H := H1
  clear H1
  by_cases c6 : t168 = true
  ·
   subst c6
   have H1 : (some 0) = some r := by rw [if_pos rfl] at H; exact H
   clear H
   have H := H1
   clear H1
   obtain rfl := Option.some.inj H
   go_enter Try.func93, Try.ntmps93
   go_wp2_with (first | ((with_reducible refine gate_callee (f := 121) rfl ?_); refine goesL_ (some 8) rfl rfl Try.func121 (by kernel_rfl) rfl #[.int .u64 a0] rfl (by (try simp only [List.map_toArray, List.map_cons, List.map_nil]); first | done | rfl | (simp only [List.length_drop, List.length_take]; rfl)) ?_; (with_reducible refine (cmp_isNaN_uint64.calls a0 true _ A3.out).mono ?_); rintro e w' ⟨rfl, ⟨nd, rfl⟩⟩; refine ⟨_, rfl, ?_⟩) | ((with_reducible refine gate_callee (f := 121) rfl ?_); refine goesL_ (some 10) rfl rfl Try.func121 (by kernel_rfl) rfl #[.int .u64 a1] rfl (by (try simp only [List.map_toArray, List.map_cons, List.map_nil]); first | done | rfl | (simp only [List.length_drop, List.length_take]; rfl)) ?_; (with_reducible refine (cmp_isNaN_uint64.calls a1 true _ A4.out).mono ?_); rintro e w' ⟨rfl, ⟨nd, rfl⟩⟩; refine ⟨_, rfl, ?_⟩))
   go_ret
   exact ⟨by first | rfl | (simp; done) | (simp [*]; done), by repeat (first | exact Drawn0.refl _ | apply Drawn0.step)⟩
  ·
   replace c6 := Bool.eq_false_iff.mpr c6
   subst c6
   have H1 : (some (-1)) = some r := by rw [if_neg (show ¬ (false = true) by decide)] at H; exact H
   clear H
   have H := H1
   clear H1
   obtain rfl := Option.some.inj H
   go_enter Try.func93, Try.ntmps93
   go_wp2_with (first | ((with_reducible refine gate_callee (f := 121) rfl ?_); refine goesL_ (some 8) rfl rfl Try.func121 (by kernel_rfl) rfl #[.int .u64 a0] rfl (by (try simp only [List.map_toArray, List.map_cons, List.map_nil]); first | done | rfl | (simp only [List.length_drop, List.length_take]; rfl)) ?_; (with_reducible refine (cmp_isNaN_uint64.calls a0 true _ A3.out).mono ?_); rintro e w' ⟨rfl, ⟨nd, rfl⟩⟩; refine ⟨_, rfl, ?_⟩) | ((with_reducible refine gate_callee (f := 121) rfl ?_); refine goesL_ (some 10) rfl rfl Try.func121 (by kernel_rfl) rfl #[.int .u64 a1] rfl (by (try simp only [List.map_toArray, List.map_cons, List.map_nil]); first | done | rfl | (simp only [List.length_drop, List.length_take]; rfl)) ?_; (with_reducible refine (cmp_isNaN_uint64.calls a1 false _ A4.out).mono ?_); rintro e w' ⟨rfl, ⟨nd, rfl⟩⟩; refine ⟨_, rfl, ?_⟩))
   go_ret
   exact ⟨by first | rfl | (simp; done) | (simp [*]; done), by repeat (first | exact Drawn0.refl _ | apply Drawn0.step)⟩
 ·
  replace c5 := Bool.eq_false_iff.mpr c5
  subst c5
  have H1 : (if t168 = true then (some 1) else (if a0 < a1 then (some (-1)) else (if a0 > a1 then (some 1) else (some 0)))) = some r := by rw [if_neg (show ¬ (false = true) by decide)] at H; exact H
  clear H
  have H := H1
  clear H1
  by_cases c7 : t168 = true
  ·
   subst c7
   have H1 : (some 1) = some r := by rw [if_pos rfl] at H; exact H
   clear H
   have H := H1
   clear H1
   obtain rfl := Option.some.inj H
   go_enter Try.func93, Try.ntmps93
   go_wp2_with (first | ((with_reducible refine gate_callee (f := 121) rfl ?_); refine goesL_ (some 8) rfl rfl Try.func121 (by kernel_rfl) rfl #[.int .u64 a0] rfl (by (try simp only [List.map_toArray, List.map_cons, List.map_nil]); first | done | rfl | (simp only [List.length_drop, List.length_take]; rfl)) ?_; (with_reducible refine (cmp_isNaN_uint64.calls a0 false _ A3.out).mono ?_); rintro e w' ⟨rfl, ⟨nd, rfl⟩⟩; refine ⟨_, rfl, ?_⟩) | ((with_reducible refine gate_callee (f := 121) rfl ?_); refine goesL_ (some 10) rfl rfl Try.func121 (by kernel_rfl) rfl #[.int .u64 a1] rfl (by (try simp only [List.map_toArray, List.map_cons, List.map_nil]); first | done | rfl | (simp only [List.length_drop, List.length_take]; rfl)) ?_; (with_reducible refine (cmp_isNaN_uint64.calls a1 true _ A4.out).mono ?_); rintro e w' ⟨rfl, ⟨nd, rfl⟩⟩; refine ⟨_, rfl, ?_⟩))
   go_ret
   exact ⟨by first | rfl | (simp; done) | (simp [*]; done), by repeat (first | exact Drawn0.refl _ | apply Drawn0.step)⟩
  ·
   replace c7 := Bool.eq_false_iff.mpr c7
   subst c7
   have H1 : (if a0 < a1 then (some (-1)) else (if a0 > a1 then (some 1) else (some 0))) = some r := by rw [if_neg (show ¬ (false = true) by decide)] at H; exact H
   clear H
   have H := H1
   clear H1
   by_cases c8 : a0 < a1
   ·
    rw [if_pos c8] at H
    have c8b0 : decide (a0 < a1) = true := decide_eq_true c8
    clear c8
    obtain rfl := Option.some.inj H
    go_enter Try.func93, Try.ntmps93
    go_wp2_with (first | ((with_reducible refine gate_callee (f := 121) rfl ?_); refine goesL_ (some 8) rfl rfl Try.func121 (by kernel_rfl) rfl #[.int .u64 a0] rfl (by (try simp only [List.map_toArray, List.map_cons, List.map_nil]); first | done | rfl | (simp only [List.length_drop, List.length_take]; rfl)) ?_; (with_reducible refine (cmp_isNaN_uint64.calls a0 false _ A3.out).mono ?_); rintro e w' ⟨rfl, ⟨nd, rfl⟩⟩; refine ⟨_, rfl, ?_⟩) | ((with_reducible refine gate_callee (f := 121) rfl ?_); refine goesL_ (some 10) rfl rfl Try.func121 (by kernel_rfl) rfl #[.int .u64 a1] rfl (by (try simp only [List.map_toArray, List.map_cons, List.map_nil]); first | done | rfl | (simp only [List.length_drop, List.length_take]; rfl)) ?_; (with_reducible refine (cmp_isNaN_uint64.calls a1 false _ A4.out).mono ?_); rintro e w' ⟨rfl, ⟨nd, rfl⟩⟩; refine ⟨_, rfl, ?_⟩))
    go_ret
    exact ⟨by first | rfl | (simp; done) | (simp [*]; done), by repeat (first | exact Drawn0.refl _ | apply Drawn0.step)⟩
   ·
    rw [if_neg c8] at H
    have c8b0 : decide (a0 < a1) = false := decide_eq_false c8
    clear c8
    by_cases c9 : a0 > a1
    ·
     rw [if_pos c9] at H
     have c9b0 : decide (a1 < a0) = true := decide_eq_true c9
     clear c9
     obtain rfl := Option.some.inj H
     go_enter Try.func93, Try.ntmps93
     go_wp2_with (first | ((with_reducible refine gate_callee (f := 121) rfl ?_); refine goesL_ (some 8) rfl rfl Try.func121 (by kernel_rfl) rfl #[.int .u64 a0] rfl (by (try simp only [List.map_toArray, List.map_cons, List.map_nil]); first | done | rfl | (simp only [List.length_drop, List.length_take]; rfl)) ?_; (with_reducible refine (cmp_isNaN_uint64.calls a0 false _ A3.out).mono ?_); rintro e w' ⟨rfl, ⟨nd, rfl⟩⟩; refine ⟨_, rfl, ?_⟩) | ((with_reducible refine gate_callee (f := 121) rfl ?_); refine goesL_ (some 10) rfl rfl Try.func121 (by kernel_rfl) rfl #[.int .u64 a1] rfl (by (try simp only [List.map_toArray, List.map_cons, List.map_nil]); first | done | rfl | (simp only [List.length_drop, List.length_take]; rfl)) ?_; (with_reducible refine (cmp_isNaN_uint64.calls a1 false _ A4.out).mono ?_); rintro e w' ⟨rfl, ⟨nd, rfl⟩⟩; refine ⟨_, rfl, ?_⟩))
     go_ret
     exact ⟨by first | rfl | (simp; done) | (simp [*]; done), by repeat (first | exact Drawn0.refl _ | apply Drawn0.step)⟩
    ·
     rw [if_neg c9] at H
     have c9b0 : decide (a1 < a0) = false := decide_eq_false c9
     clear c9
     obtain rfl := Option.some.inj H
     go_enter Try.func93, Try.ntmps93
     go_wp2_with (first | ((with_reducible refine gate_callee (f := 121) rfl ?_); refine goesL_ (some 8) rfl rfl Try.func121 (by kernel_rfl) rfl #[.int .u64 a0] rfl (by (try simp only [List.map_toArray, List.map_cons, List.map_nil]); first | done | rfl | (simp only [List.length_drop, List.length_take]; rfl)) ?_; (with_reducible refine (cmp_isNaN_uint64.calls a0 false _ A3.out).mono ?_); rintro e w' ⟨rfl, ⟨nd, rfl⟩⟩; refine ⟨_, rfl, ?_⟩) | ((with_reducible refine gate_callee (f := 121) rfl ?_); refine goesL_ (some 10) rfl rfl Try.func121 (by kernel_rfl) rfl #[.int .u64 a1] rfl (by (try simp only [List.map_toArray, List.map_cons, List.map_nil]); first | done | rfl | (simp only [List.length_drop, List.length_take]; rfl)) ?_; (with_reducible refine (cmp_isNaN_uint64.calls a1 false _ A4.out).mono ?_); rintro e w' ⟨rfl, ⟨nd, rfl⟩⟩; refine ⟨_, rfl, ?_⟩))
     go_ret
     exact ⟨by first | rfl | (simp; done) | (simp [*]; done), by repeat (first | exact Drawn0.refl _ | apply Drawn0.step)⟩
end Go.Proofs.Ythhgcjlgnafdcaa.Px
end
section
namespace Go.Proofs.Ythhgcjlgnafdcaa.Px
open Go.RowKit Go.Proofs.YthhgcjlgnafdcaaW.PrintWords Go.Proofs.YthhgcjlgnafdcaaW.PrintLast Go.Proofs.YthhgcjlgnafdcaaW.PrintMore
attribute [local go_sem] max2_int min2_int max_two min_two max_three min_three max_four min_four   -- for this text's walks alone
set_option linter.unusedVariables false
set_option linter.unusedSimpArgs false
attribute [local go_sem] run_add64_any
def fixed_Compare.f (k : Nat) (a0_0 : Int) (a0_1 : Int) (a1_0 : Int) (a1_1 : Int) : Option (Int) := (cmp_Compare_int64.f a0_0 a1_0).bind fun t169 => ((cmp_Compare_uint64.f a0_1 a1_1).bind fun t170 => ((cmp_Or_int.f k (([t169, t170] : List Int))).bind fun t174 => (some t174)))
def fixed_Compare.T1 : Bool × List (List Nat × List Nat) := (true, [([], []), ([0], [0]), ([], []), ([2], [2]), ([1, 3], [1, 3]), ([], []), ([5], [5]), ([], []), ([7], [7]), ([6, 8, 4], [6, 8]), ([4, 9], [4, 9]), ([10, 9], [10]), ([11, 11, 0, 1, 2, 3, 4, 5, 6, 7, 8, 9, 10, 11], [11])])
def fixed_Compare.B1 : List Nat := [0, 1, 0, 4, 15, 0, 32, 0, 128, 511, 1023, 2047, 4095]
theorem fixed_Compare.tab1 : rtab .any (opsOf Try.f56 1) = fixed_Compare.T1 := by kernel_rfl
theorem fixed_Compare.bits1 : waitsOk fixed_Compare.T1.2 fixed_Compare.B1 = true := by kernel_rfl
set_option maxHeartbeats 8000000 in
set_option maxRecDepth 100000 in
theorem fixed_Compare.calls (k : Nat) (a0_0 : Int) (a0_1 : Int) (a1_0 : Int) (a1_1 : Int) (r : Int) (w : World) (h : fixed_Compare.f k a0_0 a0_1 a1_0 a1_1 = some r) :
  Calls Try.prog 56 #[.agg #[.int .i64 a0_0, .int .u64 a0_1], .agg #[.int .i64 a1_0, .int .u64 a1_1]] w fun e w' => e = .returned (.int .i64 r) ∧ Below w.heap.size w w' := by
 have hu43 := Try.underlying43
 have HB := A_ (Below.refl w.heap.size w)
 have H : ((cmp_Compare_int64.f a0_0 a1_0).bind fun t169 => ((cmp_Compare_uint64.f a0_1 a1_1).bind fun t170 => ((cmp_Or_int.f k (([t169, t170] : List Int))).bind fun t174 => (some t174)))) = some r := h
 clear h
 replace H := os_ H
 obtain ⟨t169, A30, H⟩ := H
 replace H : ((cmp_Compare_uint64.f a0_1 a1_1).bind fun t170 => ((cmp_Or_int.f k (([t169, t170] : List Int))).bind fun t174 => (some t174))) = some r := H
 have A3 := A_ A30
 clear A30
 replace H := os_ H
 obtain ⟨t170, A40, H⟩ := H
 replace H : ((cmp_Or_int.f k (([t169, t170] : List Int))).bind fun t174 => (some t174)) = some r := H
 have A4 := A_ A40
 clear A40
 obtain ⟨y171, hy171⟩ : ∃ y_ : List Int, y_ = (([t169, t170] : List Int)) := ⟨_, rfl⟩
 replace H : ((cmp_Or_int.f k y171).bind fun t174 => (some t174)) = some r := by first | (rw [hy171]; with_reducible exact H) | (have H2_ := (Option.bind_some _ _).symm.trans H; rw [hy171]; with_reducible exact H2_) | (have H2_ := (Option.bind_some _ _).symm.trans H; with_reducible exact H2_) | with_reducible exact H | (rw [hy171]; exact H) | exact H
 have Ny171 := A_ hy171
 clear hy171
 replace H := os_ H
 obtain ⟨t174, A50, H⟩ := H
 replace H : (some t174) = some r := H
 have A5 := A_ A50
 clear A50
 obtain rfl := Option.some.inj H
 go_enter Try.func56, Try.ntmps56
 try go_wp2_with (first | ((with_reducible refine gate_dst (N := 2) rfl ?_); refine box_event ?hg (N := 2) ?hd (cs := #[.int .i64 a0_0, .int .u64 a0_1]) (t := 43) ?hr ?_; (case hd => rfl); (case hg => rfl); (case hr => first | (go_simp; done) | (go_simp; rfl)); intro gb302 hg w6 hbox hb; have n0_ := A_ (bs_ bw_ hb); have n1_ := A_ (hbox); have n2_ := A_ ((by rw [hg]; exact (bz_ bw_) : w.heap.size ≤ gb302)); have n3_ := A_ ((by rw [hg]; exact (bz_ bw_) : w.heap.size ≤ gb302)); clear HB; have HB := n0_; have BK302 := n1_; have GW302 := n2_; have GE302 := n3_; clear n0_ n1_ n2_ n3_; clear hb hbox hg) | ((with_reducible refine gate_dst (N := 3) rfl ?_); refine box_event ?hg (N := 3) ?hd (cs := #[.int .i64 a1_0, .int .u64 a1_1]) (t := 43) ?hr ?_; (case hd => rfl); (case hg => rfl); (case hr => first | (go_simp; done) | (go_simp; rfl)); intro gb303 hg w7 hbox hb; have n0_ := A_ (kb_ BK302 hb); have n1_ := A_ (bs_ bw_ hb); have n2_ := A_ (hbox); have n3_ := A_ ((by rw [hg]; exact (bz_ bw_) : w.heap.size ≤ gb303)); have n4_ := A_ ((by rw [hg]; exact (bz_ bw_) : w.heap.size ≤ gb303)); have n5_ := A_ ((by rw [hg]; exact nl_ (lt_ BK302) : gb302 ≠ gb303)); have n6_ := A_ ((by rw [hg]; exact ng_ (lt_ BK302) : gb303 ≠ gb302)); clear BK302; clear HB; have BK302 := n0_; have HB := n1_; have BK303 := n2_; have GW303 := n3_; have GE303 := n4_; have NB302_303 := n5_; have NB303_302 := n6_; clear n0_ n1_ n2_ n3_ n4_ n5_ n6_; clear hb hbox hg))
 have n0_ := A_ (bd_ BK302.out)
 have n1_ := A_ (bd_ BK303.out)
 have n2_ := A_ (b1_ HB.out)
 clear BK302
 clear BK303
 clear HB
 have BK302 := n0_
 have BK303 := n1_
 have HB := n2_
 clear n0_ n1_ n2_
 refine start_ (n := 13) (S := fun w' => w'.cell? ⟨gb302, 0, none⟩ = some (.int .i64 a0_0) ∧ w'.cell? ⟨gb302, 1, none⟩ = some (.int .u64 a0_1) ∧ w'.cell? ⟨gb303, 0, none⟩ = some (.int .i64 a1_0) ∧ w'.cell? ⟨gb303, 1, none⟩ = some (.int .u64 a1_1)) (ds := []) #[false, false, false, false, false, false, false, false, false, false, false, false, false] (by kernel_rfl) rfl rfl ⟨(bc_ BK302.out 0).trans rfl, (bc_ BK302.out 1).trans rfl, (bc_ BK303.out 0).trans rfl, (bc_ BK303.out 1).trans rfl⟩ (fun hHeld => ?_); refine with_tabW fixed_Compare.tab1 fixed_Compare.bits1 (fun HT_ HW_ => ?_)
 generalize w7.drew = w8 at BK302 BK303 HB hHeld ⊢
 refine pure_ (i := 0) (N := some 5) (v := ?_) (a' := ?_) #[true, false, false, false, false, false, false, false, false, false, false, false, false] rfl rfl (any_of HT_.out (by kernel_rfl)) (fun _ _ _ h => h) (Or.inl ⟨by rfl, ?_⟩) ?_ ?_
 rotate_left
 ·
  intro w'
  go_simp
  with_reducible rfl
 rotate_left
 ·
  simp only [Act.put, sA_, sZ_, sS_, i64_w, i32_w]
  rfl
 refine pure_ (i := 2) (N := some 7) (v := ?_) (a' := ?_) #[true, false, true, false, false, false, false, false, false, false, false, false, false] rfl rfl (any_of HT_.out (by kernel_rfl)) (fun _ _ _ h => h) (Or.inl ⟨by rfl, ?_⟩) ?_ ?_
 rotate_left
 ·
  intro w'
  go_simp
  with_reducible rfl
 rotate_left
 ·
  simp only [Act.put, sA_, sZ_, sS_, i64_w, i32_w]
  rfl
 refine pure_ (i := 5) (N := some 10) (v := ?_) (a' := ?_) #[true, false, true, false, false, true, false, false, false, false, false, false, false] rfl rfl (any_of HT_.out (by kernel_rfl)) (fun _ _ _ h => h) (Or.inl ⟨by rfl, ?_⟩) ?_ ?_
 rotate_left
 ·
  intro w'
  go_simp
  with_reducible rfl
 rotate_left
 ·
  simp only [Act.put, sA_, sZ_, sS_, i64_w, i32_w]
  rfl
 refine pure_ (i := 7) (N := some 12) (v := ?_) (a' := ?_) #[true, false, true, false, false, true, false, true, false, false, false, false, false] rfl rfl (any_of HT_.out (by kernel_rfl)) (fun _ _ _ h => h) (Or.inl ⟨by rfl, ?_⟩) ?_ ?_
 rotate_left
 ·
  intro w'
  go_simp
  with_reducible rfl
 rotate_left
 ·
  simp only [Act.put, sA_, sZ_, sS_, i64_w, i32_w]
  rfl
 refine take_ (i := 1) (N := some 6) (v := ?_) (a' := ?_) #[true, true, true, false, false, true, false, true, false, false, false, false, false] rfl rfl (take_ofW HT_.out HW_.out (by kernel_rfl)) (fun _ _ _ h => h) (Or.inl ⟨by rfl, ?_⟩) hHeld ?_ ?_
 rotate_left
 ·
  rintro w' ⟨s0, s1, s2, s3⟩
  go_simp
  with_reducible rfl
 rotate_left
 ·
  simp only [Act.put, sA_, sZ_, sS_, i64_w, i32_w]
  rfl
 refine take_ (i := 3) (N := some 8) (v := ?_) (a' := ?_) #[true, true, true, true, false, true, false, true, false, false, false, false, false] rfl rfl (take_ofW HT_.out HW_.out (by kernel_rfl)) (fun _ _ _ h => h) (Or.inl ⟨by rfl, ?_⟩) hHeld ?_ ?_
 rotate_left
 ·
  rintro w' ⟨s0, s1, s2, s3⟩
  go_simp
  with_reducible rfl
 rotate_left
 ·
  simp only [Act.put, sA_, sZ_, sS_, i64_w, i32_w]
  rfl
 refine take_ (i := 6) (N := some 11) (v := ?_) (a' := ?_) #[true, true, true, true, false, true, true, true, false, false, false, false, false] rfl rfl (take_ofW HT_.out HW_.out (by kernel_rfl)) (fun _ _ _ h => h) (Or.inl ⟨by rfl, ?_⟩) hHeld ?_ ?_
 rotate_left
 ·
  rintro w' ⟨s0, s1, s2, s3⟩
  go_simp
  with_reducible rfl
 rotate_left
 ·
  simp only [Act.put, sA_, sZ_, sS_, i64_w, i32_w]
  rfl
 refine take_ (i := 8) (N := some 13) (v := ?_) (a' := ?_) #[true, true, true, true, false, true, true, true, true, false, false, false, false] rfl rfl (take_ofW HT_.out HW_.out (by kernel_rfl)) (fun _ _ _ h => h) (Or.inl ⟨by rfl, ?_⟩) hHeld ?_ ?_
 rotate_left
 ·
  rintro w' ⟨s0, s1, s2, s3⟩
  go_simp
  with_reducible rfl
 rotate_left
 ·
  simp only [Act.put, sA_, sZ_, sS_, i64_w, i32_w]
  rfl
 refine one_ (i := 4) (N := some 9) #[true, true, true, true, true, true, true, true, true, false, false, false, false] rfl rfl (one_of HT_.out (by kernel_rfl)) (by decide) (fun K hK => ?_)
 refine goes_ Try.func92 (by kernel_rfl) rfl #[.int .i64 a0_0, .int .i64 a1_0] (by rfl) rfl rfl (by (try simp only [List.map_toArray, List.map_cons, List.map_nil]); first | done | rfl | (simp only [List.length_drop, List.length_take]; rfl)) ?_
 with_reducible refine (cmp_Compare_int64.calls a0_0 a1_0 t169 _ A3.out).mono ?_
 rintro e w' ⟨rfl, ⟨nd, rfl⟩⟩
 refine ⟨_, rfl, ?_⟩
 refine hK.out _ _ ⟨(bc_ BK302.out 0).trans rfl, (bc_ BK302.out 1).trans rfl, (bc_ BK303.out 0).trans rfl, (bc_ BK303.out 1).trans rfl⟩ (fun hHeld => ?_)
 clear hK K
 refine norm_ (a' := ?_) ?_ ?_
 rotate_left
 ·
  show Act.put _ (some 9) _ = _
  simp only [Act.put, sA_, sZ_, sS_, i64_w, i32_w]
  rfl
 refine one_ (i := 9) (N := some 14) #[true, true, true, true, true, true, true, true, true, true, false, false, false] rfl rfl (one_of HT_.out (by kernel_rfl)) (by decide) (fun K hK => ?_)
 refine goes_ Try.func93 (by kernel_rfl) rfl #[.int .u64 a0_1, .int .u64 a1_1] (by rfl) rfl rfl (by (try simp only [List.map_toArray, List.map_cons, List.map_nil]); first | done | rfl | (simp only [List.length_drop, List.length_take]; rfl)) ?_
 with_reducible refine (cmp_Compare_uint64.calls a0_1 a1_1 t170 _ A4.out).mono ?_
 rintro e w' ⟨rfl, ⟨nd, rfl⟩⟩
 refine ⟨_, rfl, ?_⟩
 refine hK.out _ _ ⟨(bc_ BK302.out 0).trans rfl, (bc_ BK302.out 1).trans rfl, (bc_ BK303.out 0).trans rfl, (bc_ BK303.out 1).trans rfl⟩ (fun hHeld => ?_)
 clear hK K
 refine norm_ (a' := ?_) ?_ ?_
 rotate_left
 ·
  show Act.put _ (some 14) _ = _
  simp only [Act.put, sA_, sZ_, sS_, i64_w, i32_w]
  rfl
 refine one_ (i := 10) (N := some 15) #[true, true, true, true, true, true, true, true, true, true, true, false, false] rfl rfl (one_of HT_.out (by kernel_rfl)) (by decide) (fun K hK => ?_)
 refine Kd.R_lit_step (Kd.int .i64) _ 3 ?hg (N := 15) ?hd (xs := ([t169, t170] : List Int)) (inner := [.int .i64 t169, .int .i64 t170]) (ok := fun _ => True) (okp := fun _ => True) ?hr ?hp (fun _ hk => hk) trivial (Below.refl _ _) (Nat.le_refl _) (by simp) ?_; (case hd => rfl); (case hg => rfl); (case hr => first | (go_simp; done) | (go_simp; rfl)); (case hp => exact (Reps.one (show Kd.M (Kd.int .i64) _ _ _ t169 [.int .i64 t169] from rfl) (Reps.one (show Kd.M (Kd.int .i64) _ _ _ t170 [.int .i64 t170] from rfl) (Reps.none _ _))))
 intro v172 w9 ho10 hb hg_ hnew_
 clear hg_ hnew_
 (first | rw [← Ny171.out] at ho10 | (simp only [Int.reduceToNat] at ho10; rw [← Ny171.out] at ho10))
 have n0_ := A_ (Kd.R_lower ho10 (bz_ bw_))
 have n1_ := A_ (kb_ BK302 hb)
 have n2_ := A_ (kb_ BK303 hb)
 have n3_ := A_ (bs_ bw_ hb)
 clear BK302
 clear BK303
 clear HB
 have HO173 := n0_
 have BK302 := n1_
 have BK303 := n2_
 have HB := n3_
 clear n0_ n1_ n2_ n3_
 clear hb ho10
 obtain ⟨Ao11, co11, eo11⟩ := Kd.R_slice HO173.out
 (first | subst eo11 | (injection eo11 with f1_ f2_ f3_; have f4_ := f1_.symm; have f5_ := f3_.symm; clear f1_ f2_ f3_; subst f4_; subst f5_))
 refine hK.out _ _ ⟨(bc_ BK302.out 0).trans rfl, (bc_ BK302.out 1).trans rfl, (bc_ BK303.out 0).trans rfl, (bc_ BK303.out 1).trans rfl⟩ (fun hHeld => ?_)
 clear hK K
 refine norm_ (a' := ?_) ?_ ?_
 rotate_left
 ·
  show Act.put _ (some 15) _ = _
  simp only [Act.put, sA_, sZ_, sS_, i64_w, i32_w]
  rfl
 refine one_ (i := 11) (N := some 16) #[true, true, true, true, true, true, true, true, true, true, true, true, false] rfl rfl (one_of HT_.out (by kernel_rfl)) (by decide) (fun K hK => ?_)
 refine goes_ Try.func91 (by kernel_rfl) rfl #[.slice Ao11 y171.length co11] (by rfl) rfl rfl (by (try simp only [List.map_toArray, List.map_cons, List.map_nil]); first | done | rfl | (simp only [List.length_drop, List.length_take]; rfl)) ?_
 with_reducible refine (cmp_Or_int.calls k _ _ y171 t174 _ ?side1 ?side2 A5.out).mono ?_
 (case side1 => repeat (first | exact (Kd.R_reads' HO173.out).2.2 | (with_reducible refine ca_ ?_ _) | (with_reducible refine cn_ ?_ _) | (with_reducible refine cd_ ?_)))
 (case side2 => exact (Kd.R_reads' HO173.out).2.1)
 rintro e w' ⟨rfl, ⟨nd, rfl⟩⟩
 refine ⟨_, rfl, ?_⟩
 refine hK.out _ _ ⟨(bc_ BK302.out 0).trans rfl, (bc_ BK302.out 1).trans rfl, (bc_ BK303.out 0).trans rfl, (bc_ BK303.out 1).trans rfl⟩ (fun hHeld => ?_)
 clear hK K
 refine norm_ (a' := ?_) ?_ ?_
 rotate_left
 ·
  show Act.put _ (some 16) _ = _
  simp only [Act.put, sA_, sZ_, sS_, i64_w, i32_w]
  rfl
 refine pure_ (i := 12) (N := some 4) (v := ?_) (a' := ?_) #[true, true, true, true, true, true, true, true, true, true, true, true, true] rfl rfl (any_of HT_.out (by kernel_rfl)) (fun _ _ _ h => h) (Or.inl ⟨by rfl, ?_⟩) ?_ ?_
 rotate_left
 ·
  intro w'
  go_simp
  with_reducible rfl
 rotate_left
 ·
  simp only [Act.put, sA_, sZ_, sS_, i64_w, i32_w]
  rfl
 refine done_ (done_of HT_.out (by kernel_rfl)) ?_
 try go_wp2
 go_ret
 exact ⟨by first | rfl | (simp [errW_none, errW_some] <;> rfl) | (simp [*, errW_none, errW_some] <;> rfl), bw_⟩
end Go.Proofs.Ythhgcjlgnafdcaa.Px
end
section
namespace Go.Proofs.Ythhgcjlgnafdcaa.Px
open Go.RowKit Go.Proofs.YthhgcjlgnafdcaaW.PrintWords Go.Proofs.YthhgcjlgnafdcaaW.PrintLast Go.Proofs.YthhgcjlgnafdcaaW.PrintMore
attribute [local go_sem] max2_int min2_int max_two min_two max_three min_three max_four min_four   -- for this text's walks alone
set_option linter.unusedVariables false
set_option linter.unusedSimpArgs false
attribute [local go_sem] run_add64_any
def fixed_Sign.f (k : Nat) (a0_0 : Int) (a0_1 : Int) : Option (Int) := (fixed_Compare.f k a0_0 a0_1 0 0).bind fun t175 => (some t175)
set_option maxHeartbeats 8000000 in
set_option maxRecDepth 100000 in
theorem fixed_Sign.calls (k : Nat) (a0_0 : Int) (a0_1 : Int) (r : Int) (w : World) (h : fixed_Sign.f k a0_0 a0_1 = some r) :
  Calls Try.prog 57 #[.agg #[.int .i64 a0_0, .int .u64 a0_1]] w fun e w' => e = .returned (.int .i64 r) ∧ Below w.heap.size w w' := by
 have hu43 := Try.underlying43
 have HB := A_ (Below.refl w.heap.size w)
 have H : ((fixed_Compare.f k a0_0 a0_1 0 0).bind fun t175 => (some t175)) = some r := h
 clear h
 replace H := os_ H
 obtain ⟨t175, A20, H⟩ := H
 replace H : (some t175) = some r := H
 have A2 := A_ A20
 clear A20
 obtain rfl := Option.some.inj H
 go_enter Try.func57, Try.ntmps57
 go_wp2_with (first | ((with_reducible refine gate_dst (N := 1) rfl ?_); refine box_event ?hg (N := 1) ?hd (cs := #[.int .i64 a0_0, .int .u64 a0_1]) (t := 43) ?hr ?_; (case hd => rfl); (case hg => rfl); (case hr => first | (go_simp; done) | (go_simp; rfl)); intro gb301 hg w3 hbox hb; have n0_ := A_ (bs_ bw_ hb); have n1_ := A_ (hbox); have n2_ := A_ ((by rw [hg]; exact (bz_ bw_) : w.heap.size ≤ gb301)); have n3_ := A_ ((by rw [hg]; exact (bz_ bw_) : w.heap.size ≤ gb301)); clear HB; have HB := n0_; have BK301 := n1_; have GW301 := n2_; have GE301 := n3_; clear n0_ n1_ n2_ n3_; clear hb hbox hg; have hcz4_0 : w3.cell? ⟨gb301, 0, none⟩ = some (.int .i64 a0_0) := (bc_ BK301.out 0).trans rfl; have hcz4_1 : w3.cell? ⟨gb301, 1, none⟩ = some (.int .u64 a0_1) := (bc_ BK301.out 1).trans rfl; have hfz4_0 := bf_ BK301.out 0; have hfz4_1 := bf_ BK301.out 1) | ((with_reducible refine gate_callee (f := 56) rfl ?_); refine goesL_ (some 5) rfl rfl Try.func56 (by kernel_rfl) rfl #[.agg #[.int .i64 a0_0, .int .u64 a0_1], .agg #[.int .i64 0, .int .u64 0]] rfl (by (try simp only [List.map_toArray, List.map_cons, List.map_nil]); first | done | rfl | (simp only [List.length_drop, List.length_take]; rfl)) ?_; (with_reducible refine (fixed_Compare.calls k a0_0 a0_1 0 0 t175 _ A2.out).mono ?_); rintro e w5 ⟨rfl, hb⟩; refine ⟨_, rfl, ?_⟩; have n0_ := A_ (kb_ BK301 hb); have n1_ := A_ (bs_ bw_ hb); clear BK301; clear HB; have BK301 := n0_; have HB := n1_; clear n0_ n1_; (try clear hb); (try clear hb2); (try clear hk); (try clear hi)))
 go_ret
 exact ⟨by first | rfl | (simp [errW_none, errW_some] <;> rfl) | (simp [*, errW_none, errW_some] <;> rfl), bw_⟩
end Go.Proofs.Ythhgcjlgnafdcaa.Px
end
section
namespace Go.Proofs.Ythhgcjlgnafdcaa.Px
open Go.RowKit Go.Proofs.YthhgcjlgnafdcaaW.PrintWords Go.Proofs.YthhgcjlgnafdcaaW.PrintLast Go.Proofs.YthhgcjlgnafdcaaW.PrintMore
attribute [local go_sem] max2_int min2_int max_two min_two max_three min_three max_four min_four   -- for this text's walks alone
set_option linter.unusedVariables false
set_option linter.unusedSimpArgs false
attribute [local go_sem] run_add64_any
def bits_Len64.j0 : Nat → Int → Int → Option (Int)
 | 0, _, _ => none
 | k + 1, x0, x2 => if x0 ≥ 65536 then (if (x0 / 65536) ≥ 256 then (if 0 ≤ (((x0 / 65536) / 256) % 256) then (if (((x0 / 65536) / 256) % 256) < 256 then (some (wrap64 ((wrap64 ((wrap64 (x2 + 16)) + 8)) + (wrap64 (bt (⟨#[0, 1, 2, 2, 3, 3, 3, 3, 4, 4, 4, 4, 4, 4, 4, 4, 5, 5, 5, 5, 5, 5, 5, 5, 5, 5, 5, 5, 5, 5, 5, 5, 6, 6, 6, 6, 6, 6, 6, 6, 6, 6, 6, 6, 6, 6, 6, 6, 6, 6, 6, 6, 6, 6, 6, 6, 6, 6, 6, 6, 6, 6, 6, 6, 7, 7, 7, 7, 7, 7, 7, 7, 7, 7, 7, 7, 7, 7, 7, 7, 7, 7, 7, 7, 7, 7, 7, 7, 7, 7, 7, 7, 7, 7, 7, 7, 7, 7, 7, 7, 7, 7, 7, 7, 7, 7, 7, 7, 7, 7, 7, 7, 7, 7, 7, 7, 7, 7, 7, 7, 7, 7, 7, 7, 7, 7, 7, 7, 8, 8, 8, 8, 8, 8, 8, 8, 8, 8, 8, 8, 8, 8, 8, 8, 8, 8, 8, 8, 8, 8, 8, 8, 8, 8, 8, 8, 8, 8, 8, 8, 8, 8, 8, 8, 8, 8, 8, 8, 8, 8, 8, 8, 8, 8, 8, 8, 8, 8, 8, 8, 8, 8, 8, 8, 8, 8, 8, 8, 8, 8, 8, 8, 8, 8, 8, 8, 8, 8, 8, 8, 8, 8, 8, 8, 8, 8, 8, 8, 8, 8, 8, 8, 8, 8, 8, 8, 8, 8, 8, 8, 8, 8, 8, 8, 8, 8, 8, 8, 8, 8, 8, 8, 8, 8, 8, 8, 8, 8, 8, 8, 8, 8, 8, 8, 8, 8, 8, 8, 8, 8, 8, 8, 8, 8, 8, 8]⟩ : ByteArray) (((x0 / 65536) / 256) % 256)))))) else (none)) else (none)) else (if 0 ≤ ((x0 / 65536) % 256) then (if ((x0 / 65536) % 256) < 256 then (some (wrap64 ((wrap64 (x2 + 16)) + (wrap64 (bt (⟨#[0, 1, 2, 2, 3, 3, 3, 3, 4, 4, 4, 4, 4, 4, 4, 4, 5, 5, 5, 5, 5, 5, 5, 5, 5, 5, 5, 5, 5, 5, 5, 5, 6, 6, 6, 6, 6, 6, 6, 6, 6, 6, 6, 6, 6, 6, 6, 6, 6, 6, 6, 6, 6, 6, 6, 6, 6, 6, 6, 6, 6, 6, 6, 6, 7, 7, 7, 7, 7, 7, 7, 7, 7, 7, 7, 7, 7, 7, 7, 7, 7, 7, 7, 7, 7, 7, 7, 7, 7, 7, 7, 7, 7, 7, 7, 7, 7, 7, 7, 7, 7, 7, 7, 7, 7, 7, 7, 7, 7, 7, 7, 7, 7, 7, 7, 7, 7, 7, 7, 7, 7, 7, 7, 7, 7, 7, 7, 7, 8, 8, 8, 8, 8, 8, 8, 8, 8, 8, 8, 8, 8, 8, 8, 8, 8, 8, 8, 8, 8, 8, 8, 8, 8, 8, 8, 8, 8, 8, 8, 8, 8, 8, 8, 8, 8, 8, 8, 8, 8, 8, 8, 8, 8, 8, 8, 8, 8, 8, 8, 8, 8, 8, 8, 8, 8, 8, 8, 8, 8, 8, 8, 8, 8, 8, 8, 8, 8, 8, 8, 8, 8, 8, 8, 8, 8, 8, 8, 8, 8, 8, 8, 8, 8, 8, 8, 8, 8, 8, 8, 8, 8, 8, 8, 8, 8, 8, 8, 8, 8, 8, 8, 8, 8, 8, 8, 8, 8, 8, 8, 8, 8, 8, 8, 8, 8, 8, 8, 8, 8, 8, 8, 8, 8, 8, 8, 8]⟩ : ByteArray) ((x0 / 65536) % 256)))))) else (none)) else (none))) else (if x0 ≥ 256 then (if 0 ≤ ((x0 / 256) % 256) then (if ((x0 / 256) % 256) < 256 then (some (wrap64 ((wrap64 (x2 + 8)) + (wrap64 (bt (⟨#[0, 1, 2, 2, 3, 3, 3, 3, 4, 4, 4, 4, 4, 4, 4, 4, 5, 5, 5, 5, 5, 5, 5, 5, 5, 5, 5, 5, 5, 5, 5, 5, 6, 6, 6, 6, 6, 6, 6, 6, 6, 6, 6, 6, 6, 6, 6, 6, 6, 6, 6, 6, 6, 6, 6, 6, 6, 6, 6, 6, 6, 6, 6, 6, 7, 7, 7, 7, 7, 7, 7, 7, 7, 7, 7, 7, 7, 7, 7, 7, 7, 7, 7, 7, 7, 7, 7, 7, 7, 7, 7, 7, 7, 7, 7, 7, 7, 7, 7, 7, 7, 7, 7, 7, 7, 7, 7, 7, 7, 7, 7, 7, 7, 7, 7, 7, 7, 7, 7, 7, 7, 7, 7, 7, 7, 7, 7, 7, 8, 8, 8, 8, 8, 8, 8, 8, 8, 8, 8, 8, 8, 8, 8, 8, 8, 8, 8, 8, 8, 8, 8, 8, 8, 8, 8, 8, 8, 8, 8, 8, 8, 8, 8, 8, 8, 8, 8, 8, 8, 8, 8, 8, 8, 8, 8, 8, 8, 8, 8, 8, 8, 8, 8, 8, 8, 8, 8, 8, 8, 8, 8, 8, 8, 8, 8, 8, 8, 8, 8, 8, 8, 8, 8, 8, 8, 8, 8, 8, 8, 8, 8, 8, 8, 8, 8, 8, 8, 8, 8, 8, 8, 8, 8, 8, 8, 8, 8, 8, 8, 8, 8, 8, 8, 8, 8, 8, 8, 8, 8, 8, 8, 8, 8, 8, 8, 8, 8, 8, 8, 8, 8, 8, 8, 8, 8, 8]⟩ : ByteArray) ((x0 / 256) % 256)))))) else (none)) else (none)) else (if 0 ≤ ((x0) % 256) then (if ((x0) % 256) < 256 then (some (wrap64 (x2 + (wrap64 (bt (⟨#[0, 1, 2, 2, 3, 3, 3, 3, 4, 4, 4, 4, 4, 4, 4, 4, 5, 5, 5, 5, 5, 5, 5, 5, 5, 5, 5, 5, 5, 5, 5, 5, 6, 6, 6, 6, 6, 6, 6, 6, 6, 6, 6, 6, 6, 6, 6, 6, 6, 6, 6, 6, 6, 6, 6, 6, 6, 6, 6, 6, 6, 6, 6, 6, 7, 7, 7, 7, 7, 7, 7, 7, 7, 7, 7, 7, 7, 7, 7, 7, 7, 7, 7, 7, 7, 7, 7, 7, 7, 7, 7, 7, 7, 7, 7, 7, 7, 7, 7, 7, 7, 7, 7, 7, 7, 7, 7, 7, 7, 7, 7, 7, 7, 7, 7, 7, 7, 7, 7, 7, 7, 7, 7, 7, 7, 7, 7, 7, 8, 8, 8, 8, 8, 8, 8, 8, 8, 8, 8, 8, 8, 8, 8, 8, 8, 8, 8, 8, 8, 8, 8, 8, 8, 8, 8, 8, 8, 8, 8, 8, 8, 8, 8, 8, 8, 8, 8, 8, 8, 8, 8, 8, 8, 8, 8, 8, 8, 8, 8, 8, 8, 8, 8, 8, 8, 8, 8, 8, 8, 8, 8, 8, 8, 8, 8, 8, 8, 8, 8, 8, 8, 8, 8, 8, 8, 8, 8, 8, 8, 8, 8, 8, 8, 8, 8, 8, 8, 8, 8, 8, 8, 8, 8, 8, 8, 8, 8, 8, 8, 8, 8, 8, 8, 8, 8, 8, 8, 8, 8, 8, 8, 8, 8, 8, 8, 8, 8, 8, 8, 8, 8, 8, 8, 8, 8, 8]⟩ : ByteArray) ((x0) % 256)))))) else (none)) else (none)))
def bits_Len64.f (k : Nat) (a0 : Int) : Option (Int) := if a0 ≥ 4294967296 then (bits_Len64.j0 k (a0 / 4294967296) 32) else (bits_Len64.j0 k a0 0)
set_option maxHeartbeats 8000000 in
set_option maxRecDepth 100000 in
theorem bits_Len64.calls (k : Nat) (a0 : Int) (r : Int) (w : World) (h : bits_Len64.f k a0 = some r) :
  Calls Try.prog 134 #[.int .u64 a0] w fun e w' => e = .returned (.int .i64 r) ∧ Drawn0 w w' := by
 have H : (if a0 ≥ 4294967296 then (bits_Len64.j0 k (a0 / 4294967296) 32) else (bits_Len64.j0 k a0 0)) = some r := h
 clear h
 have HC2 := A_ H
 clear H
 go_enter Try.func134, Try.ntmps134
 go_upto_if 4 with (fail)
 go_cut [0, 2] (fun v0 v2 wc => ∃ (kq : Nat) (x0_1 : Int) (x2_1 : Int), v0 = .int .u64 x0_1 ∧ v2 = .int .i64 x2_1 ∧ Aside0 (bits_Len64.j0 kq x0_1 x2_1 = some r) ∧ Aside0 (kq ≤ k) ∧ Drawn0 w wc)
 case first =>
  have H := HC2.out
  clear HC2
  by_cases c3 : a0 ≥ 4294967296
  ·
   rw [if_pos c3] at H
   have c3b0 : decide (4294967296 ≤ a0) = true := decide_eq_true c3
   clear c3
   (first | rw [c3b0] | (simp only [i64_w, i32_w]; rw [c3b0]) | skip)
   have H' := A_ H
   clear H
   go_wp2
   go_meet
   case rel => exact ⟨_, (a0 / 4294967296), (32), (by first | rfl | (simp; done) | (simp [*]; done)), (by first | rfl | (simp; done) | (simp [*]; done)), H', ⟨by first | omega | exact Nat.le_refl _⟩, by repeat (first | exact Drawn0.refl _ | apply Drawn0.step)⟩
  ·
   rw [if_neg c3] at H
   have c3b0 : decide (4294967296 ≤ a0) = false := decide_eq_false c3
   clear c3
   (first | rw [c3b0] | (simp only [i64_w, i32_w]; rw [c3b0]) | skip)
   have H' := A_ H
   clear H
   go_wp2
   go_meet
   case rel => exact ⟨_, (a0), (0), (by first | rfl | (simp; done) | (simp [*]; done)), (by first | rfl | (simp; done) | (simp [*]; done)), H', ⟨by first | omega | exact Nat.le_refl _⟩, by repeat (first | exact Drawn0.refl _ | apply Drawn0.step)⟩
 case rest =>
  clear HC2
  try clear c1
  try clear p2
  try clear c3
  try clear c3b0
  obtain ⟨kq, x0_1, x2_1, rfl, rfl, HA, HJ1, ⟨mc1, rfl⟩⟩ := hcut
  cases kq with
  | zero => exact absurd HA.out (by simp [bits_Len64.j0])
  | succ kj1 =>
   have H := HA.out
   clear HA
   simp only [bits_Len64.j0] at H
   by_cases c4 : x0_1 ≥ 65536
   ·
    rw [if_pos c4] at H
    have c4b0 : decide (65536 ≤ x0_1) = true := decide_eq_true c4
    clear c4
    by_cases c5 : (x0_1 / 65536) ≥ 256
    ·
     rw [if_pos c5] at H
     have c5b0 : decide (256 ≤ (x0_1 / 65536)) = true := decide_eq_true c5
     clear c5
     obtain ⟨ji6, hji6⟩ : ∃ j_ : Int, (((x0_1 / 65536) / 256) % 256) = j_ := ⟨_, rfl⟩
     replace H : (if 0 ≤ (ji6) then (if (ji6) < 256 then (some (wrap64 ((wrap64 ((wrap64 (x2_1 + 16)) + 8)) + (wrap64 (bt (⟨#[0, 1, 2, 2, 3, 3, 3, 3, 4, 4, 4, 4, 4, 4, 4, 4, 5, 5, 5, 5, 5, 5, 5, 5, 5, 5, 5, 5, 5, 5, 5, 5, 6, 6, 6, 6, 6, 6, 6, 6, 6, 6, 6, 6, 6, 6, 6, 6, 6, 6, 6, 6, 6, 6, 6, 6, 6, 6, 6, 6, 6, 6, 6, 6, 7, 7, 7, 7, 7, 7, 7, 7, 7, 7, 7, 7, 7, 7, 7, 7, 7, 7, 7, 7, 7, 7, 7, 7, 7, 7, 7, 7, 7, 7, 7, 7, 7, 7, 7, 7, 7, 7, 7, 7, 7, 7, 7, 7, 7, 7, 7, 7, 7, 7, 7, 7, 7, 7, 7, 7, 7, 7, 7, 7, 7, 7, 7, 7, 8, 8, 8, 8, 8, 8, 8, 8, 8, 8, 8, 8, 8, 8, 8, 8, 8, 8, 8, 8, 8, 8, 8, 8, 8, 8, 8, 8, 8, 8, 8, 8, 8, 8, 8, 8, 8, 8, 8, 8, 8, 8, 8, 8, 8, 8, 8, 8, 8, 8, 8, 8, 8, 8, 8, 8, 8, 8, 8, 8, 8, 8, 8, 8, 8, 8, 8, 8, 8, 8, 8, 8, 8, 8, 8, 8, 8, 8, 8, 8, 8, 8, 8, 8, 8, 8, 8, 8, 8, 8, 8, 8, 8, 8, 8, 8, 8, 8, 8, 8, 8, 8, 8, 8, 8, 8, 8, 8, 8, 8, 8, 8, 8, 8, 8, 8, 8, 8, 8, 8, 8, 8, 8, 8, 8, 8, 8, 8]⟩ : ByteArray) (ji6)))))) else (none)) else (none)) = some r := by first | (rw [hji6] at H; exact H) | (simp only [hji6] at H ⊢; exact H)
     by_cases c7 : 0 ≤ (ji6)
     ·
      rw [if_pos c7] at H
      have c7b0 : decide (0 ≤ (ji6)) = true := decide_eq_true c7
      clear c7
      by_cases c8 : (ji6) < 256
      ·
       rw [if_pos c8] at H
       have c8b0 : decide ((ji6) < 256) = true := decide_eq_true c8
       clear c8
       obtain rfl := Option.some.inj H
       have p9 : 0 ≤ ((ji6) : Int) := od_ (by first | (with_reducible assumption) | assumption)
       have q9 : (ji6) < (256 : Int) := od_ (by first | (with_reducible assumption) | assumption)
       have hx9 := bt_at (⟨#[0, 1, 2, 2, 3, 3, 3, 3, 4, 4, 4, 4, 4, 4, 4, 4, 5, 5, 5, 5, 5, 5, 5, 5, 5, 5, 5, 5, 5, 5, 5, 5, 6, 6, 6, 6, 6, 6, 6, 6, 6, 6, 6, 6, 6, 6, 6, 6, 6, 6, 6, 6, 6, 6, 6, 6, 6, 6, 6, 6, 6, 6, 6, 6, 7, 7, 7, 7, 7, 7, 7, 7, 7, 7, 7, 7, 7, 7, 7, 7, 7, 7, 7, 7, 7, 7, 7, 7, 7, 7, 7, 7, 7, 7, 7, 7, 7, 7, 7, 7, 7, 7, 7, 7, 7, 7, 7, 7, 7, 7, 7, 7, 7, 7, 7, 7, 7, 7, 7, 7, 7, 7, 7, 7, 7, 7, 7, 7, 8, 8, 8, 8, 8, 8, 8, 8, 8, 8, 8, 8, 8, 8, 8, 8, 8, 8, 8, 8, 8, 8, 8, 8, 8, 8, 8, 8, 8, 8, 8, 8, 8, 8, 8, 8, 8, 8, 8, 8, 8, 8, 8, 8, 8, 8, 8, 8, 8, 8, 8, 8, 8, 8, 8, 8, 8, 8, 8, 8, 8, 8, 8, 8, 8, 8, 8, 8, 8, 8, 8, 8, 8, 8, 8, 8, 8, 8, 8, 8, 8, 8, 8, 8, 8, 8, 8, 8, 8, 8, 8, 8, 8, 8, 8, 8, 8, 8, 8, 8, 8, 8, 8, 8, 8, 8, 8, 8, 8, 8, 8, 8, 8, 8, 8, 8, 8, 8, 8, 8, 8, 8, 8, 8, 8, 8, 8, 8]⟩ : ByteArray) (ji6)
       replace p9 := eq_true p9
       replace q9 := eq_true q9
       go_wp2
       go_ret
       exact ⟨by first | rfl | (simp; done) | (simp only [← hji6] <;> (first | rfl | simp)) | (simp [*]; done), by repeat (first | exact Drawn0.refl _ | apply Drawn0.step)⟩
      ·
       rw [if_neg c8] at H
       exact absurd H (by simp)
     ·
      rw [if_neg c7] at H
      exact absurd H (by simp)
    ·
     rw [if_neg c5] at H
     have c5b0 : decide (256 ≤ (x0_1 / 65536)) = false := decide_eq_false c5
     clear c5
     obtain ⟨ji10, hji10⟩ : ∃ j_ : Int, ((x0_1 / 65536) % 256) = j_ := ⟨_, rfl⟩
     replace H : (if 0 ≤ (ji10) then (if (ji10) < 256 then (some (wrap64 ((wrap64 (x2_1 + 16)) + (wrap64 (bt (⟨#[0, 1, 2, 2, 3, 3, 3, 3, 4, 4, 4, 4, 4, 4, 4, 4, 5, 5, 5, 5, 5, 5, 5, 5, 5, 5, 5, 5, 5, 5, 5, 5, 6, 6, 6, 6, 6, 6, 6, 6, 6, 6, 6, 6, 6, 6, 6, 6, 6, 6, 6, 6, 6, 6, 6, 6, 6, 6, 6, 6, 6, 6, 6, 6, 7, 7, 7, 7, 7, 7, 7, 7, 7, 7, 7, 7, 7, 7, 7, 7, 7, 7, 7, 7, 7, 7, 7, 7, 7, 7, 7, 7, 7, 7, 7, 7, 7, 7, 7, 7, 7, 7, 7, 7, 7, 7, 7, 7, 7, 7, 7, 7, 7, 7, 7, 7, 7, 7, 7, 7, 7, 7, 7, 7, 7, 7, 7, 7, 8, 8, 8, 8, 8, 8, 8, 8, 8, 8, 8, 8, 8, 8, 8, 8, 8, 8, 8, 8, 8, 8, 8, 8, 8, 8, 8, 8, 8, 8, 8, 8, 8, 8, 8, 8, 8, 8, 8, 8, 8, 8, 8, 8, 8, 8, 8, 8, 8, 8, 8, 8, 8, 8, 8, 8, 8, 8, 8, 8, 8, 8, 8, 8, 8, 8, 8, 8, 8, 8, 8, 8, 8, 8, 8, 8, 8, 8, 8, 8, 8, 8, 8, 8, 8, 8, 8, 8, 8, 8, 8, 8, 8, 8, 8, 8, 8, 8, 8, 8, 8, 8, 8, 8, 8, 8, 8, 8, 8, 8, 8, 8, 8, 8, 8, 8, 8, 8, 8, 8, 8, 8, 8, 8, 8, 8, 8, 8]⟩ : ByteArray) (ji10)))))) else (none)) else (none)) = some r := by first | (rw [hji10] at H; exact H) | (simp only [hji10] at H ⊢; exact H)
     by_cases c11 : 0 ≤ (ji10)
     ·
      rw [if_pos c11] at H
      have c11b0 : decide (0 ≤ (ji10)) = true := decide_eq_true c11
      clear c11
      by_cases c12 : (ji10) < 256
      ·
       rw [if_pos c12] at H
       have c12b0 : decide ((ji10) < 256) = true := decide_eq_true c12
       clear c12
       obtain rfl := Option.some.inj H
       have p13 : 0 ≤ ((ji10) : Int) := od_ (by first | (with_reducible assumption) | assumption)
       have q13 : (ji10) < (256 : Int) := od_ (by first | (with_reducible assumption) | assumption)
       have hx13 := bt_at (⟨#[0, 1, 2, 2, 3, 3, 3, 3, 4, 4, 4, 4, 4, 4, 4, 4, 5, 5, 5, 5, 5, 5, 5, 5, 5, 5, 5, 5, 5, 5, 5, 5, 6, 6, 6, 6, 6, 6, 6, 6, 6, 6, 6, 6, 6, 6, 6, 6, 6, 6, 6, 6, 6, 6, 6, 6, 6, 6, 6, 6, 6, 6, 6, 6, 7, 7, 7, 7, 7, 7, 7, 7, 7, 7, 7, 7, 7, 7, 7, 7, 7, 7, 7, 7, 7, 7, 7, 7, 7, 7, 7, 7, 7, 7, 7, 7, 7, 7, 7, 7, 7, 7, 7, 7, 7, 7, 7, 7, 7, 7, 7, 7, 7, 7, 7, 7, 7, 7, 7, 7, 7, 7, 7, 7, 7, 7, 7, 7, 8, 8, 8, 8, 8, 8, 8, 8, 8, 8, 8, 8, 8, 8, 8, 8, 8, 8, 8, 8, 8, 8, 8, 8, 8, 8, 8, 8, 8, 8, 8, 8, 8, 8, 8, 8, 8, 8, 8, 8, 8, 8, 8, 8, 8, 8, 8, 8, 8, 8, 8, 8, 8, 8, 8, 8, 8, 8, 8, 8, 8, 8, 8, 8, 8, 8, 8, 8, 8, 8, 8, 8, 8, 8, 8, 8, 8, 8, 8, 8, 8, 8, 8, 8, 8, 8, 8, 8, 8, 8, 8, 8, 8, 8, 8, 8, 8, 8, 8, 8, 8, 8, 8, 8, 8, 8, 8, 8, 8, 8, 8, 8, 8, 8, 8, 8, 8, 8, 8, 8, 8, 8, 8, 8, 8, 8, 8, 8]⟩ : ByteArray) (ji10)
       replace p13 := eq_true p13
       replace q13 := eq_true q13
       go_wp2
       go_ret
       exact ⟨by first | rfl | (simp; done) | (simp only [← hji10] <;> (first | rfl | simp)) | (simp [*]; done), by repeat (first | exact Drawn0.refl _ | apply Drawn0.step)⟩
      ·
       rw [if_neg c12] at H
       exact absurd H (by simp)
     ·
      rw [if_neg c11] at H
      exact absurd H (by simp)
   ·
    rw [if_neg c4] at H
    have c4b0 : decide (65536 ≤ x0_1) = false := decide_eq_false c4
    clear c4
    by_cases c14 : x0_1 ≥ 256
    ·
     rw [if_pos c14] at H
     have c14b0 : decide (256 ≤ x0_1) = true := decide_eq_true c14
     clear c14
     obtain ⟨ji15, hji15⟩ : ∃ j_ : Int, ((x0_1 / 256) % 256) = j_ := ⟨_, rfl⟩
     replace H : (if 0 ≤ (ji15) then (if (ji15) < 256 then (some (wrap64 ((wrap64 (x2_1 + 8)) + (wrap64 (bt (⟨#[0, 1, 2, 2, 3, 3, 3, 3, 4, 4, 4, 4, 4, 4, 4, 4, 5, 5, 5, 5, 5, 5, 5, 5, 5, 5, 5, 5, 5, 5, 5, 5, 6, 6, 6, 6, 6, 6, 6, 6, 6, 6, 6, 6, 6, 6, 6, 6, 6, 6, 6, 6, 6, 6, 6, 6, 6, 6, 6, 6, 6, 6, 6, 6, 7, 7, 7, 7, 7, 7, 7, 7, 7, 7, 7, 7, 7, 7, 7, 7, 7, 7, 7, 7, 7, 7, 7, 7, 7, 7, 7, 7, 7, 7, 7, 7, 7, 7, 7, 7, 7, 7, 7, 7, 7, 7, 7, 7, 7, 7, 7, 7, 7, 7, 7, 7, 7, 7, 7, 7, 7, 7, 7, 7, 7, 7, 7, 7, 8, 8, 8, 8, 8, 8, 8, 8, 8, 8, 8, 8, 8, 8, 8, 8, 8, 8, 8, 8, 8, 8, 8, 8, 8, 8, 8, 8, 8, 8, 8, 8, 8, 8, 8, 8, 8, 8, 8, 8, 8, 8, 8, 8, 8, 8, 8, 8, 8, 8, 8, 8, 8, 8, 8, 8, 8, 8, 8, 8, 8, 8, 8, 8, 8, 8, 8, 8, 8, 8, 8, 8, 8, 8, 8, 8, 8, 8, 8, 8, 8, 8, 8, 8, 8, 8, 8, 8, 8, 8, 8, 8, 8, 8, 8, 8, 8, 8, 8, 8, 8, 8, 8, 8, 8, 8, 8, 8, 8, 8, 8, 8, 8, 8, 8, 8, 8, 8, 8, 8, 8, 8, 8, 8, 8, 8, 8, 8]⟩ : ByteArray) (ji15)))))) else (none)) else (none)) = some r := by first | (rw [hji15] at H; exact H) | (simp only [hji15] at H ⊢; exact H)
     by_cases c16 : 0 ≤ (ji15)
     ·
      rw [if_pos c16] at H
      have c16b0 : decide (0 ≤ (ji15)) = true := decide_eq_true c16
      clear c16
      by_cases c17 : (ji15) < 256
      ·
       rw [if_pos c17] at H
       have c17b0 : decide ((ji15) < 256) = true := decide_eq_true c17
       clear c17
       obtain rfl := Option.some.inj H
       have p18 : 0 ≤ ((ji15) : Int) := od_ (by first | (with_reducible assumption) | assumption)
       have q18 : (ji15) < (256 : Int) := od_ (by first | (with_reducible assumption) | assumption)
       have hx18 := bt_at (⟨#[0, 1, 2, 2, 3, 3, 3, 3, 4, 4, 4, 4, 4, 4, 4, 4, 5, 5, 5, 5, 5, 5, 5, 5, 5, 5, 5, 5, 5, 5, 5, 5, 6, 6, 6, 6, 6, 6, 6, 6, 6, 6, 6, 6, 6, 6, 6, 6, 6, 6, 6, 6, 6, 6, 6, 6, 6, 6, 6, 6, 6, 6, 6, 6, 7, 7, 7, 7, 7, 7, 7, 7, 7, 7, 7, 7, 7, 7, 7, 7, 7, 7, 7, 7, 7, 7, 7, 7, 7, 7, 7, 7, 7, 7, 7, 7, 7, 7, 7, 7, 7, 7, 7, 7, 7, 7, 7, 7, 7, 7, 7, 7, 7, 7, 7, 7, 7, 7, 7, 7, 7, 7, 7, 7, 7, 7, 7, 7, 8, 8, 8, 8, 8, 8, 8, 8, 8, 8, 8, 8, 8, 8, 8, 8, 8, 8, 8, 8, 8, 8, 8, 8, 8, 8, 8, 8, 8, 8, 8, 8, 8, 8, 8, 8, 8, 8, 8, 8, 8, 8, 8, 8, 8, 8, 8, 8, 8, 8, 8, 8, 8, 8, 8, 8, 8, 8, 8, 8, 8, 8, 8, 8, 8, 8, 8, 8, 8, 8, 8, 8, 8, 8, 8, 8, 8, 8, 8, 8, 8, 8, 8, 8, 8, 8, 8, 8, 8, 8, 8, 8, 8, 8, 8, 8, 8, 8, 8, 8, 8, 8, 8, 8, 8, 8, 8, 8, 8, 8, 8, 8, 8, 8, 8, 8, 8, 8, 8, 8, 8, 8, 8, 8, 8, 8, 8, 8]⟩ : ByteArray) (ji15)
       replace p18 := eq_true p18
       replace q18 := eq_true q18
       go_wp2
       go_ret
       exact ⟨by first | rfl | (simp; done) | (simp only [← hji15] <;> (first | rfl | simp)) | (simp [*]; done), by repeat (first | exact Drawn0.refl _ | apply Drawn0.step)⟩
      ·
       rw [if_neg c17] at H
       exact absurd H (by simp)
     ·
      rw [if_neg c16] at H
      exact absurd H (by simp)
    ·
     rw [if_neg c14] at H
     have c14b0 : decide (256 ≤ x0_1) = false := decide_eq_false c14
     clear c14
     obtain ⟨ji19, hji19⟩ : ∃ j_ : Int, ((x0_1) % 256) = j_ := ⟨_, rfl⟩
     replace H : (if 0 ≤ (ji19) then (if (ji19) < 256 then (some (wrap64 (x2_1 + (wrap64 (bt (⟨#[0, 1, 2, 2, 3, 3, 3, 3, 4, 4, 4, 4, 4, 4, 4, 4, 5, 5, 5, 5, 5, 5, 5, 5, 5, 5, 5, 5, 5, 5, 5, 5, 6, 6, 6, 6, 6, 6, 6, 6, 6, 6, 6, 6, 6, 6, 6, 6, 6, 6, 6, 6, 6, 6, 6, 6, 6, 6, 6, 6, 6, 6, 6, 6, 7, 7, 7, 7, 7, 7, 7, 7, 7, 7, 7, 7, 7, 7, 7, 7, 7, 7, 7, 7, 7, 7, 7, 7, 7, 7, 7, 7, 7, 7, 7, 7, 7, 7, 7, 7, 7, 7, 7, 7, 7, 7, 7, 7, 7, 7, 7, 7, 7, 7, 7, 7, 7, 7, 7, 7, 7, 7, 7, 7, 7, 7, 7, 7, 8, 8, 8, 8, 8, 8, 8, 8, 8, 8, 8, 8, 8, 8, 8, 8, 8, 8, 8, 8, 8, 8, 8, 8, 8, 8, 8, 8, 8, 8, 8, 8, 8, 8, 8, 8, 8, 8, 8, 8, 8, 8, 8, 8, 8, 8, 8, 8, 8, 8, 8, 8, 8, 8, 8, 8, 8, 8, 8, 8, 8, 8, 8, 8, 8, 8, 8, 8, 8, 8, 8, 8, 8, 8, 8, 8, 8, 8, 8, 8, 8, 8, 8, 8, 8, 8, 8, 8, 8, 8, 8, 8, 8, 8, 8, 8, 8, 8, 8, 8, 8, 8, 8, 8, 8, 8, 8, 8, 8, 8, 8, 8, 8, 8, 8, 8, 8, 8, 8, 8, 8, 8, 8, 8, 8, 8, 8, 8]⟩ : ByteArray) (ji19)))))) else (none)) else (none)) = some r := by first | (rw [hji19] at H; exact H) | (simp only [hji19] at H ⊢; exact H)
     by_cases c20 : 0 ≤ (ji19)
     ·
      rw [if_pos c20] at H
      have c20b0 : decide (0 ≤ (ji19)) = true := decide_eq_true c20
      clear c20
      by_cases c21 : (ji19) < 256
      ·
       rw [if_pos c21] at H
       have c21b0 : decide ((ji19) < 256) = true := decide_eq_true c21
       clear c21
       obtain rfl := Option.some.inj H
       have p22 : 0 ≤ ((ji19) : Int) := od_ (by first | (with_reducible assumption) | assumption)
       have q22 : (ji19) < (256 : Int) := od_ (by first | (with_reducible assumption) | assumption)
       have hx22 := bt_at (⟨#[0, 1, 2, 2, 3, 3, 3, 3, 4, 4, 4, 4, 4, 4, 4, 4, 5, 5, 5, 5, 5, 5, 5, 5, 5, 5, 5, 5, 5, 5, 5, 5, 6, 6, 6, 6, 6, 6, 6, 6, 6, 6, 6, 6, 6, 6, 6, 6, 6, 6, 6, 6, 6, 6, 6, 6, 6, 6, 6, 6, 6, 6, 6, 6, 7, 7, 7, 7, 7, 7, 7, 7, 7, 7, 7, 7, 7, 7, 7, 7, 7, 7, 7, 7, 7, 7, 7, 7, 7, 7, 7, 7, 7, 7, 7, 7, 7, 7, 7, 7, 7, 7, 7, 7, 7, 7, 7, 7, 7, 7, 7, 7, 7, 7, 7, 7, 7, 7, 7, 7, 7, 7, 7, 7, 7, 7, 7, 7, 8, 8, 8, 8, 8, 8, 8, 8, 8, 8, 8, 8, 8, 8, 8, 8, 8, 8, 8, 8, 8, 8, 8, 8, 8, 8, 8, 8, 8, 8, 8, 8, 8, 8, 8, 8, 8, 8, 8, 8, 8, 8, 8, 8, 8, 8, 8, 8, 8, 8, 8, 8, 8, 8, 8, 8, 8, 8, 8, 8, 8, 8, 8, 8, 8, 8, 8, 8, 8, 8, 8, 8, 8, 8, 8, 8, 8, 8, 8, 8, 8, 8, 8, 8, 8, 8, 8, 8, 8, 8, 8, 8, 8, 8, 8, 8, 8, 8, 8, 8, 8, 8, 8, 8, 8, 8, 8, 8, 8, 8, 8, 8, 8, 8, 8, 8, 8, 8, 8, 8, 8, 8, 8, 8, 8, 8, 8, 8]⟩ : ByteArray) (ji19)
       replace p22 := eq_true p22
       replace q22 := eq_true q22
       go_wp2
       go_ret
       exact ⟨by first | rfl | (simp; done) | (simp only [← hji19] <;> (first | rfl | simp)) | (simp [*]; done), by repeat (first | exact Drawn0.refl _ | apply Drawn0.step)⟩
      ·
       rw [if_neg c21] at H
       exact absurd H (by simp)
     ·
      rw [if_neg c20] at H
      exact absurd H (by simp)
end Go.Proofs.Ythhgcjlgnafdcaa.Px
end
section
namespace Go.Proofs.Ythhgcjlgnafdcaa.Px
open Go.RowKit Go.Proofs.YthhgcjlgnafdcaaW.PrintWords Go.Proofs.YthhgcjlgnafdcaaW.PrintLast Go.Proofs.YthhgcjlgnafdcaaW.PrintMore
attribute [local go_sem] max2_int min2_int max_two min_two max_three min_three max_four min_four   -- for this text's walks alone
set_option linter.unusedVariables false
set_option linter.unusedSimpArgs false
attribute [local go_sem] run_add64_any
def bits_LeadingZeros64.f (k : Nat) (a0 : Int) : Option (Int) := (bits_Len64.f k a0).bind fun t133 => (some (wrap64 (64 - t133)))
set_option maxHeartbeats 8000000 in
set_option maxRecDepth 100000 in
theorem bits_LeadingZeros64.calls (k : Nat) (a0 : Int) (r : Int) (w : World) (h : bits_LeadingZeros64.f k a0 = some r) :
  Calls Try.prog 125 #[.int .u64 a0] w fun e w' => e = .returned (.int .i64 r) ∧ Drawn0 w w' := by
 have H : ((bits_Len64.f k a0).bind fun t133 => (some (wrap64 (64 - t133)))) = some r := h
 clear h
 replace H := os_ H
 obtain ⟨t133, A20, H⟩ := H
 replace H : (some (wrap64 (64 - t133))) = some r := H
 have A2 := A_ A20
 clear A20
 obtain rfl := Option.some.inj H
 go_enter Try.func125, Try.ntmps125
 go_wp2_with (first | ((with_reducible refine gate_callee (f := 134) rfl ?_); refine goesL_ (some 4) rfl rfl Try.func134 (by kernel_rfl) rfl #[.int .u64 a0] rfl (by (try simp only [List.map_toArray, List.map_cons, List.map_nil]); first | done | rfl | (simp only [List.length_drop, List.length_take]; rfl)) ?_; (with_reducible refine (bits_Len64.calls k a0 t133 _ A2.out).mono ?_); rintro e w' ⟨rfl, ⟨nd, rfl⟩⟩; refine ⟨_, rfl, ?_⟩))
 go_ret
 exact ⟨by first | rfl | (simp; done) | (simp [*]; done), by repeat (first | exact Drawn0.refl _ | apply Drawn0.step)⟩
end Go.Proofs.Ythhgcjlgnafdcaa.Px
end
section
namespace Go.Proofs.Ythhgcjlgnafdcaa.Px
open Go.RowKit Go.Proofs.YthhgcjlgnafdcaaW.PrintWords Go.Proofs.YthhgcjlgnafdcaaW.PrintLast Go.Proofs.YthhgcjlgnafdcaaW.PrintMore
attribute [local go_sem] max2_int min2_int max_two min_two max_three min_three max_four min_four   -- for this text's walks alone
set_option linter.unusedVariables false
set_option linter.unusedSimpArgs false
attribute [local go_sem] run_add64_any
mutual
def bits_Div64.j2 : Nat → Int → Int → Int → Int → Int → Int → Int → Int → Option (Int × Int)
 | 0, _, _, _, _, _, _, _, _ => none
 | k + 1, x2, x8, x9, x10, x11, x13, x14, x15 => if x9 = 0 then (none) else (bits_Div64.l1 k x2 x8 x9 x10 x14 x15 (IntKind.u64.wrap ((IntKind.u64.wrap ((IntKind.u64.wrap ((IntKind.u64.wrap (x11 * 4294967296)) + x13)) - (IntKind.u64.wrap (x15 * x2)))) - (IntKind.u64.wrap ((IntKind.u64.wrap (Int.tdiv (IntKind.u64.wrap ((IntKind.u64.wrap ((IntKind.u64.wrap (x11 * 4294967296)) + x13)) - (IntKind.u64.wrap (x15 * x2)))) x9)) * x9)))) (IntKind.u64.wrap ((IntKind.u64.wrap ((IntKind.u64.wrap (x11 * 4294967296)) + x13)) - (IntKind.u64.wrap (x15 * x2)))) (IntKind.u64.wrap (Int.tdiv (IntKind.u64.wrap ((IntKind.u64.wrap ((IntKind.u64.wrap (x11 * 4294967296)) + x13)) - (IntKind.u64.wrap (x15 * x2)))) x9)))
def bits_Div64.l1 : Nat → Int → Int → Int → Int → Int → Int → Int → Int → Int → Option (Int × Int)
 | 0, _, _, _, _, _, _, _, _, _ => none
 | k + 1, x2, x8, x9, x10, x14, x15, x16, x17, x18 => if x18 ≥ 4294967296 then (bits_Div64.j4 k x2 x8 x9 x10 x14 x15 x16 x17 x18 true) else (bits_Div64.j4 k x2 x8 x9 x10 x14 x15 x16 x17 x18 (decide ((IntKind.u64.wrap (x18 * x10)) > (IntKind.u64.wrap ((IntKind.u64.wrap (4294967296 * x16)) + x14)))))
def bits_Div64.j4 : Nat → Int → Int → Int → Int → Int → Int → Int → Int → Int → Bool → Option (Int × Int)
 | 0, _, _, _, _, _, _, _, _, _, _ => none
 | k + 1, x2, x8, x9, x10, x14, x15, x16, x17, x18, x113 => if x113 = true then (if (IntKind.u64.wrap (x16 + x9)) ≥ 4294967296 then (if 0 ≤ x8 then (some (IntKind.u64.wrap ((IntKind.u64.wrap (x15 * 4294967296)) + (IntKind.u64.wrap (x18 - 1))), shr .u64 (IntKind.u64.wrap ((IntKind.u64.wrap ((IntKind.u64.wrap (x17 * 4294967296)) + x14)) - (IntKind.u64.wrap ((IntKind.u64.wrap (x18 - 1)) * x2)))) x8)) else (none)) else (bits_Div64.l1 k x2 x8 x9 x10 x14 x15 (IntKind.u64.wrap (x16 + x9)) x17 (IntKind.u64.wrap (x18 - 1)))) else (if 0 ≤ x8 then (some (IntKind.u64.wrap ((IntKind.u64.wrap (x15 * 4294967296)) + x18), shr .u64 (IntKind.u64.wrap ((IntKind.u64.wrap ((IntKind.u64.wrap (x17 * 4294967296)) + x14)) - (IntKind.u64.wrap (x18 * x2)))) x8)) else (none))
def bits_Div64.l0 : Nat → Int → Int → Int → Int → Int → Int → Int → Int → Int → Option (Int × Int)
 | 0, _, _, _, _, _, _, _, _, _ => none
 | k + 1, x2, x8, x9, x10, x11, x13, x14, x15, x16 => if x15 ≥ 4294967296 then (bits_Div64.j1 k x2 x8 x9 x10 x11 x13 x14 x15 x16 true) else (bits_Div64.j1 k x2 x8 x9 x10 x11 x13 x14 x15 x16 (decide ((IntKind.u64.wrap (x15 * x10)) > (IntKind.u64.wrap ((IntKind.u64.wrap (4294967296 * x16)) + x13)))))
def bits_Div64.j1 : Nat → Int → Int → Int → Int → Int → Int → Int → Int → Int → Bool → Option (Int × Int)
 | 0, _, _, _, _, _, _, _, _, _, _ => none
 | k + 1, x2, x8, x9, x10, x11, x13, x14, x15, x16, x78 => if x78 = true then (if (IntKind.u64.wrap (x16 + x9)) ≥ 4294967296 then (bits_Div64.j2 k x2 x8 x9 x10 x11 x13 x14 (IntKind.u64.wrap (x15 - 1))) else (bits_Div64.l0 k x2 x8 x9 x10 x11 x13 x14 (IntKind.u64.wrap (x15 - 1)) (IntKind.u64.wrap (x16 + x9)))) else (bits_Div64.j2 k x2 x8 x9 x10 x11 x13 x14 x15)
end
def bits_Div64.f (k : Nat) (a0 : Int) (a1 : Int) (a2 : Int) : Option (Int × Int) := if a2 = 0 then (none) else (if a2 ≤ a0 then (none) else (if a0 = 0 then (some (IntKind.u64.wrap (Int.tdiv a1 a2), Int.tmod a1 a2)) else ((bits_LeadingZeros64.f k a2).bind fun t134 => (if 0 ≤ (IntKind.u64.wrap (t134)) then (if 0 ≤ (IntKind.u64.wrap (64 - (IntKind.u64.wrap (t134)))) then (if ((shl .u64 a2 (IntKind.u64.wrap (t134))) / 4294967296) = 0 then (none) else (bits_Div64.l0 k (shl .u64 a2 (IntKind.u64.wrap (t134))) (IntKind.u64.wrap (t134)) ((shl .u64 a2 (IntKind.u64.wrap (t134))) / 4294967296) (Go.bits .and .u64 (shl .u64 a2 (IntKind.u64.wrap (t134))) 4294967295) (Go.bits .or .u64 (shl .u64 a0 (IntKind.u64.wrap (t134))) (shr .u64 a1 (IntKind.u64.wrap (64 - (IntKind.u64.wrap (t134)))))) ((shl .u64 a1 (IntKind.u64.wrap (t134))) / 4294967296) (Go.bits .and .u64 (shl .u64 a1 (IntKind.u64.wrap (t134))) 4294967295) (IntKind.u64.wrap (Int.tdiv (Go.bits .or .u64 (shl .u64 a0 (IntKind.u64.wrap (t134))) (shr .u64 a1 (IntKind.u64.wrap (64 - (IntKind.u64.wrap (t134)))))) ((shl .u64 a2 (IntKind.u64.wrap (t134))) / 4294967296))) (IntKind.u64.wrap ((Go.bits .or .u64 (shl .u64 a0 (IntKind.u64.wrap (t134))) (shr .u64 a1 (IntKind.u64.wrap (64 - (IntKind.u64.wrap (t134)))))) - (IntKind.u64.wrap ((IntKind.u64.wrap (Int.tdiv (Go.bits .or .u64 (shl .u64 a0 (IntKind.u64.wrap (t134))) (shr .u64 a1 (IntKind.u64.wrap (64 - (IntKind.u64.wrap (t134)))))) ((shl .u64 a2 (IntKind.u64.wrap (t134))) / 4294967296))) * ((shl .u64 a2 (IntKind.u64.wrap (t134))) / 4294967296))))))) else (none)) else (none)))))
set_option maxHeartbeats 8000000 in
set_option maxRecDepth 100000 in
theorem bits_Div64.calls (k : Nat) (a0 : Int) (a1 : Int) (a2 : Int) (r1 : Int) (r2 : Int) (w : World) (h : bits_Div64.f k a0 a1 a2 = some (r1, r2)) :
  Calls Try.prog 97 #[.int .u64 a0, .int .u64 a1, .int .u64 a2] w fun e w' => e = .returned (.tuple #[.int .u64 r1, .int .u64 r2]) ∧ Drawn0 w w' := by
 have H : (if a2 = 0 then (none) else (if a2 ≤ a0 then (none) else (if a0 = 0 then (some (IntKind.u64.wrap (Int.tdiv a1 a2), Int.tmod a1 a2)) else ((bits_LeadingZeros64.f k a2).bind fun t134 => (if 0 ≤ (IntKind.u64.wrap (t134)) then (if 0 ≤ (IntKind.u64.wrap (64 - (IntKind.u64.wrap (t134)))) then (if ((shl .u64 a2 (IntKind.u64.wrap (t134))) / 4294967296) = 0 then (none) else (bits_Div64.l0 k (shl .u64 a2 (IntKind.u64.wrap (t134))) (IntKind.u64.wrap (t134)) ((shl .u64 a2 (IntKind.u64.wrap (t134))) / 4294967296) (Go.bits .and .u64 (shl .u64 a2 (IntKind.u64.wrap (t134))) 4294967295) (Go.bits .or .u64 (shl .u64 a0 (IntKind.u64.wrap (t134))) (shr .u64 a1 (IntKind.u64.wrap (64 - (IntKind.u64.wrap (t134)))))) ((shl .u64 a1 (IntKind.u64.wrap (t134))) / 4294967296) (Go.bits .and .u64 (shl .u64 a1 (IntKind.u64.wrap (t134))) 4294967295) (IntKind.u64.wrap (Int.tdiv (Go.bits .or .u64 (shl .u64 a0 (IntKind.u64.wrap (t134))) (shr .u64 a1 (IntKind.u64.wrap (64 - (IntKind.u64.wrap (t134)))))) ((shl .u64 a2 (IntKind.u64.wrap (t134))) / 4294967296))) (IntKind.u64.wrap ((Go.bits .or .u64 (shl .u64 a0 (IntKind.u64.wrap (t134))) (shr .u64 a1 (IntKind.u64.wrap (64 - (IntKind.u64.wrap (t134)))))) - (IntKind.u64.wrap ((IntKind.u64.wrap (Int.tdiv (Go.bits .or .u64 (shl .u64 a0 (IntKind.u64.wrap (t134))) (shr .u64 a1 (IntKind.u64.wrap (64 - (IntKind.u64.wrap (t134)))))) ((shl .u64 a2 (IntKind.u64.wrap (t134))) / 4294967296))) * ((shl .u64 a2 (IntKind.u64.wrap (t134))) / 4294967296))))))) else (none)) else (none)))))) = some (r1, r2) := h
 clear h
 by_cases c4 : a2 = 0
 ·
  rw [if_pos c4] at H
  exact absurd H (by simp)
 ·
  rw [if_neg c4] at H
  have c4b0 : (a2 == 0) = false := q4_ c4
  have c4b1 : (a2 != 0) = true := q2_ c4
  by_cases c5 : a2 ≤ a0
  ·
   rw [if_pos c5] at H
   exact absurd H (by simp)
  ·
   rw [if_neg c5] at H
   have c5b0 : decide (a2 ≤ a0) = false := decide_eq_false c5
   clear c5
   by_cases c6 : a0 = 0
   ·
    rw [if_pos c6] at H
    have c6b0 : (a0 == 0) = true := q1_ c6
    have c6b1 : (a0 != 0) = false := q3_ c6
    clear c6
    simp only [Option.some.injEq, Prod.mk.injEq] at H
    obtain ⟨rfl, rfl⟩ := H
    go_enter Try.func97, Try.ntmps97
    go_wp2
    repeat (go_quiet (fail); try go_wp2)
    go_ret2
    exact ⟨by first | rfl | (simp; done) | (simp [*]; done), by repeat (first | exact Drawn0.refl _ | apply Drawn0.step)⟩
   ·
    rw [if_neg c6] at H
    have c6b0 : (a0 == 0) = false := q4_ c6
    have c6b1 : (a0 != 0) = true := q2_ c6
    replace H := os_ H
    obtain ⟨t134, A70, H⟩ := H
    replace H : (if 0 ≤ (IntKind.u64.wrap (t134)) then (if 0 ≤ (IntKind.u64.wrap (64 - (IntKind.u64.wrap (t134)))) then (if ((shl .u64 a2 (IntKind.u64.wrap (t134))) / 4294967296) = 0 then (none) else (bits_Div64.l0 k (shl .u64 a2 (IntKind.u64.wrap (t134))) (IntKind.u64.wrap (t134)) ((shl .u64 a2 (IntKind.u64.wrap (t134))) / 4294967296) (Go.bits .and .u64 (shl .u64 a2 (IntKind.u64.wrap (t134))) 4294967295) (Go.bits .or .u64 (shl .u64 a0 (IntKind.u64.wrap (t134))) (shr .u64 a1 (IntKind.u64.wrap (64 - (IntKind.u64.wrap (t134)))))) ((shl .u64 a1 (IntKind.u64.wrap (t134))) / 4294967296) (Go.bits .and .u64 (shl .u64 a1 (IntKind.u64.wrap (t134))) 4294967295) (IntKind.u64.wrap (Int.tdiv (Go.bits .or .u64 (shl .u64 a0 (IntKind.u64.wrap (t134))) (shr .u64 a1 (IntKind.u64.wrap (64 - (IntKind.u64.wrap (t134)))))) ((shl .u64 a2 (IntKind.u64.wrap (t134))) / 4294967296))) (IntKind.u64.wrap ((Go.bits .or .u64 (shl .u64 a0 (IntKind.u64.wrap (t134))) (shr .u64 a1 (IntKind.u64.wrap (64 - (IntKind.u64.wrap (t134)))))) - (IntKind.u64.wrap ((IntKind.u64.wrap (Int.tdiv (Go.bits .or .u64 (shl .u64 a0 (IntKind.u64.wrap (t134))) (shr .u64 a1 (IntKind.u64.wrap (64 - (IntKind.u64.wrap (t134)))))) ((shl .u64 a2 (IntKind.u64.wrap (t134))) / 4294967296))) * ((shl .u64 a2 (IntKind.u64.wrap (t134))) / 4294967296))))))) else (none)) else (none)) = some (r1, r2) := H
    have A7 := A_ A70
    clear A70
    obtain ⟨ji8, hji8⟩ : ∃ j_ : Int, (IntKind.u64.wrap (t134)) = j_ := ⟨_, rfl⟩
    replace H : (if 0 ≤ (ji8) then (if 0 ≤ (IntKind.u64.wrap (64 - (ji8))) then (if ((shl .u64 a2 (ji8)) / 4294967296) = 0 then (none) else (bits_Div64.l0 k (shl .u64 a2 (ji8)) ji8 ((shl .u64 a2 (ji8)) / 4294967296) (Go.bits .and .u64 (shl .u64 a2 (ji8)) 4294967295) (Go.bits .or .u64 (shl .u64 a0 (ji8)) (shr .u64 a1 (IntKind.u64.wrap (64 - (ji8))))) ((shl .u64 a1 (ji8)) / 4294967296) (Go.bits .and .u64 (shl .u64 a1 (ji8)) 4294967295) (IntKind.u64.wrap (Int.tdiv (Go.bits .or .u64 (shl .u64 a0 (ji8)) (shr .u64 a1 (IntKind.u64.wrap (64 - (ji8))))) ((shl .u64 a2 (ji8)) / 4294967296))) (IntKind.u64.wrap ((Go.bits .or .u64 (shl .u64 a0 (ji8)) (shr .u64 a1 (IntKind.u64.wrap (64 - (ji8))))) - (IntKind.u64.wrap ((IntKind.u64.wrap (Int.tdiv (Go.bits .or .u64 (shl .u64 a0 (ji8)) (shr .u64 a1 (IntKind.u64.wrap (64 - (ji8))))) ((shl .u64 a2 (ji8)) / 4294967296))) * ((shl .u64 a2 (ji8)) / 4294967296))))))) else (none)) else (none)) = some (r1, r2) := by first | (rw [hji8] at H; exact H) | (simp only [hji8] at H ⊢; exact H)
    (try rw [hji8] at A7)
    by_cases c9 : 0 ≤ (ji8)
    ·
     rw [if_pos c9] at H
     have c9b0 := eq_true c9
     have c9b1 : decide (0 ≤ (ji8)) = true := decide_eq_true c9
     clear c9
     obtain ⟨ji10, hji10⟩ : ∃ j_ : Int, (shl .u64 a2 (ji8)) = j_ := ⟨_, rfl⟩
     replace H : (if 0 ≤ (IntKind.u64.wrap (64 - (ji8))) then (if ((ji10) / 4294967296) = 0 then (none) else (bits_Div64.l0 k ji10 ji8 ((ji10) / 4294967296) (Go.bits .and .u64 (ji10) 4294967295) (Go.bits .or .u64 (shl .u64 a0 (ji8)) (shr .u64 a1 (IntKind.u64.wrap (64 - (ji8))))) ((shl .u64 a1 (ji8)) / 4294967296) (Go.bits .and .u64 (shl .u64 a1 (ji8)) 4294967295) (IntKind.u64.wrap (Int.tdiv (Go.bits .or .u64 (shl .u64 a0 (ji8)) (shr .u64 a1 (IntKind.u64.wrap (64 - (ji8))))) ((ji10) / 4294967296))) (IntKind.u64.wrap ((Go.bits .or .u64 (shl .u64 a0 (ji8)) (shr .u64 a1 (IntKind.u64.wrap (64 - (ji8))))) - (IntKind.u64.wrap ((IntKind.u64.wrap (Int.tdiv (Go.bits .or .u64 (shl .u64 a0 (ji8)) (shr .u64 a1 (IntKind.u64.wrap (64 - (ji8))))) ((ji10) / 4294967296))) * ((ji10) / 4294967296))))))) else (none)) = some (r1, r2) := by first | (rw [hji10] at H; exact H) | (simp only [hji10] at H ⊢; exact H)
     (try rw [hji10] at A7)
     have hji10_ : (IntKind.u64.wrap (a2 * 2 ^ min (ji8).toNat 64)) = ji10 := hji10
     have hji10z : (ji8) ≤ 64 → (IntKind.u64.wrap (a2 * 2 ^ (ji8).toNat)) = ji10 := shl_small hji10
     have c11b0 := eq_true (od_ (by first | (with_reducible assumption) | assumption) : 0 ≤ (ji8))
     obtain ⟨ji12, hji12⟩ : ∃ j_ : Int, (shl .u64 a0 (ji8)) = j_ := ⟨_, rfl⟩
     replace H : (if 0 ≤ (IntKind.u64.wrap (64 - (ji8))) then (if ((ji10) / 4294967296) = 0 then (none) else (bits_Div64.l0 k ji10 ji8 ((ji10) / 4294967296) (Go.bits .and .u64 (ji10) 4294967295) (Go.bits .or .u64 (ji12) (shr .u64 a1 (IntKind.u64.wrap (64 - (ji8))))) ((shl .u64 a1 (ji8)) / 4294967296) (Go.bits .and .u64 (shl .u64 a1 (ji8)) 4294967295) (IntKind.u64.wrap (Int.tdiv (Go.bits .or .u64 (ji12) (shr .u64 a1 (IntKind.u64.wrap (64 - (ji8))))) ((ji10) / 4294967296))) (IntKind.u64.wrap ((Go.bits .or .u64 (ji12) (shr .u64 a1 (IntKind.u64.wrap (64 - (ji8))))) - (IntKind.u64.wrap ((IntKind.u64.wrap (Int.tdiv (Go.bits .or .u64 (ji12) (shr .u64 a1 (IntKind.u64.wrap (64 - (ji8))))) ((ji10) / 4294967296))) * ((ji10) / 4294967296))))))) else (none)) = some (r1, r2) := by first | (rw [hji12] at H; exact H) | (simp only [hji12] at H ⊢; exact H)
     (try rw [hji12] at A7)
     have hji12_ : (IntKind.u64.wrap (a0 * 2 ^ min (ji8).toNat 64)) = ji12 := hji12
     have hji12z : (ji8) ≤ 64 → (IntKind.u64.wrap (a0 * 2 ^ (ji8).toNat)) = ji12 := shl_small hji12
     obtain ⟨ji13, hji13⟩ : ∃ j_ : Int, (IntKind.u64.wrap (64 - (ji8))) = j_ := ⟨_, rfl⟩
     replace H : (if 0 ≤ (ji13) then (if ((ji10) / 4294967296) = 0 then (none) else (bits_Div64.l0 k ji10 ji8 ((ji10) / 4294967296) (Go.bits .and .u64 (ji10) 4294967295) (Go.bits .or .u64 (ji12) (shr .u64 a1 (ji13))) ((shl .u64 a1 (ji8)) / 4294967296) (Go.bits .and .u64 (shl .u64 a1 (ji8)) 4294967295) (IntKind.u64.wrap (Int.tdiv (Go.bits .or .u64 (ji12) (shr .u64 a1 (ji13))) ((ji10) / 4294967296))) (IntKind.u64.wrap ((Go.bits .or .u64 (ji12) (shr .u64 a1 (ji13))) - (IntKind.u64.wrap ((IntKind.u64.wrap (Int.tdiv (Go.bits .or .u64 (ji12) (shr .u64 a1 (ji13))) ((ji10) / 4294967296))) * ((ji10) / 4294967296))))))) else (none)) = some (r1, r2) := by first | (rw [hji13] at H; exact H) | (simp only [hji13] at H ⊢; exact H)
     (try rw [hji13] at A7)
     by_cases c14 : 0 ≤ (ji13)
     ·
      rw [if_pos c14] at H
      have c14b0 := eq_true c14
      have c14b1 : decide (0 ≤ (ji13)) = true := decide_eq_true c14
      clear c14
      obtain ⟨ji15, hji15⟩ : ∃ j_ : Int, (shr .u64 a1 (ji13)) = j_ := ⟨_, rfl⟩
      replace H : (if ((ji10) / 4294967296) = 0 then (none) else (bits_Div64.l0 k ji10 ji8 ((ji10) / 4294967296) (Go.bits .and .u64 (ji10) 4294967295) (Go.bits .or .u64 (ji12) (ji15)) ((shl .u64 a1 (ji8)) / 4294967296) (Go.bits .and .u64 (shl .u64 a1 (ji8)) 4294967295) (IntKind.u64.wrap (Int.tdiv (Go.bits .or .u64 (ji12) (ji15)) ((ji10) / 4294967296))) (IntKind.u64.wrap ((Go.bits .or .u64 (ji12) (ji15)) - (IntKind.u64.wrap ((IntKind.u64.wrap (Int.tdiv (Go.bits .or .u64 (ji12) (ji15)) ((ji10) / 4294967296))) * ((ji10) / 4294967296))))))) = some (r1, r2) := by first | (rw [hji15] at H; exact H) | (simp only [hji15] at H ⊢; exact H)
      (try rw [hji15] at A7)
      have hji15_ : (a1 / 2 ^ min (ji13).toNat 64) = ji15 := hji15
      have hji15z : (ji13) ≤ 64 → (a1 / 2 ^ (ji13).toNat) = ji15 := shr_small hji15
      have c16b0 := eq_true (od_ (by first | (with_reducible assumption) | assumption) : 0 ≤ (ji8))
      obtain ⟨ji17, hji17⟩ : ∃ j_ : Int, (shl .u64 a1 (ji8)) = j_ := ⟨_, rfl⟩
      replace H : (if ((ji10) / 4294967296) = 0 then (none) else (bits_Div64.l0 k ji10 ji8 ((ji10) / 4294967296) (Go.bits .and .u64 (ji10) 4294967295) (Go.bits .or .u64 (ji12) (ji15)) ((ji17) / 4294967296) (Go.bits .and .u64 (ji17) 4294967295) (IntKind.u64.wrap (Int.tdiv (Go.bits .or .u64 (ji12) (ji15)) ((ji10) / 4294967296))) (IntKind.u64.wrap ((Go.bits .or .u64 (ji12) (ji15)) - (IntKind.u64.wrap ((IntKind.u64.wrap (Int.tdiv (Go.bits .or .u64 (ji12) (ji15)) ((ji10) / 4294967296))) * ((ji10) / 4294967296))))))) = some (r1, r2) := by first | (rw [hji17] at H; exact H) | (simp only [hji17] at H ⊢; exact H)
      (try rw [hji17] at A7)
      have hji17_ : (IntKind.u64.wrap (a1 * 2 ^ min (ji8).toNat 64)) = ji17 := hji17
      have hji17z : (ji8) ≤ 64 → (IntKind.u64.wrap (a1 * 2 ^ (ji8).toNat)) = ji17 := shl_small hji17
      by_cases c18 : ((ji10) / 4294967296) = 0
      ·
       rw [if_pos c18] at H
       exact absurd H (by simp)
      ·
       rw [if_neg c18] at H
       have c18b0 : (((ji10) / 4294967296) == 0) = false := q4_ c18
       have c18b1 : (((ji10) / 4294967296) != 0) = true := q2_ c18
       have HC19 := A_ H
       clear H
       go_enter Try.func97, Try.ntmps97
       go_upto_block 0 with (first | (go_at_call 125; (with_reducible refine (bits_LeadingZeros64.calls k a2 t134 _ A7.out).mono ?_); rintro e w' ⟨rfl, ⟨nd, rfl⟩⟩; (try first | exact ⟨rfl, _, dd_ _ _ _⟩ | exact ⟨rfl, _, Eq.trans (dd_ _ _ _) (congrArg (World.drewN _) (Nat.add_assoc _ _ _))⟩)))
       repeat (go_quiet (first | (go_at_call 125; (with_reducible refine (bits_LeadingZeros64.calls k a2 t134 _ A7.out).mono ?_); rintro e w' ⟨rfl, ⟨nd, rfl⟩⟩; (try first | exact ⟨rfl, _, dd_ _ _ _⟩ | exact ⟨rfl, _, Eq.trans (dd_ _ _ _) (congrArg (World.drewN _) (Nat.add_assoc _ _ _))⟩))); go_upto_block 0 with (first | (go_at_call 125; (with_reducible refine (bits_LeadingZeros64.calls k a2 t134 _ A7.out).mono ?_); rintro e w' ⟨rfl, ⟨nd, rfl⟩⟩; (try first | exact ⟨rfl, _, dd_ _ _ _⟩ | exact ⟨rfl, _, Eq.trans (dd_ _ _ _) (congrArg (World.drewN _) (Nat.add_assoc _ _ _))⟩))))
       (try simp only [Act.put, sA_, sZ_, sS_])
       go_cut [15] (fun v15 wc => ∃ (kq : Nat) (x15_18 : Int), v15 = .int .u64 x15_18 ∧ Aside0 (bits_Div64.j2 kq ji10 ji8 ((ji10) / 4294967296) (Go.bits .and .u64 (ji10) 4294967295) (Go.bits .or .u64 (ji12) (ji15)) ((ji17) / 4294967296) (Go.bits .and .u64 (ji17) 4294967295) x15_18 = some (r1, r2)) ∧ Aside0 (kq ≤ k) ∧ Drawn0 w wc)
       case first =>
        have H := HC19.out
        clear HC19
        have H' := A_ H
        clear H
        go_wp2
        repeat (go_quiet (fail); try go_wp2)
        (try simp only [Act.put, sA_, sZ_, sS_])
        go_loopg [15, 16] k (fun kq v15 v16 w' => ∃ (x15_1 : Int) (x16_1 : Int), v15 = .int .u64 x15_1 ∧ v16 = .int .u64 x16_1 ∧ Aside0 (bits_Div64.l0 kq ji10 ji8 ((ji10) / 4294967296) (Go.bits .and .u64 (ji10) 4294967295) (Go.bits .or .u64 (ji12) (ji15)) ((ji17) / 4294967296) (Go.bits .and .u64 (ji17) 4294967295) x15_1 x16_1 = some (r1, r2)) ∧ Aside0 (kq ≤ k) ∧ Drawn0 w w')
        case atStart => exact ⟨(IntKind.u64.wrap (Int.tdiv (Go.bits .or .u64 (ji12) (ji15)) ((ji10) / 4294967296))), (IntKind.u64.wrap ((Go.bits .or .u64 (ji12) (ji15)) - (IntKind.u64.wrap ((IntKind.u64.wrap (Int.tdiv (Go.bits .or .u64 (ji12) (ji15)) ((ji10) / 4294967296))) * ((ji10) / 4294967296))))), (by first | rfl | (simp; done) | (simp only [← hji10, ← hji12, ← hji15] <;> (first | rfl | simp)) | (simp [*]; done)), (by first | rfl | (simp; done) | (simp only [← hji10, ← hji12, ← hji15] <;> (first | rfl | simp)) | (simp [*]; done)), H', ⟨Nat.le_refl _⟩, by repeat (first | exact Drawn0.refl _ | apply Drawn0.step)⟩
        case round =>
         clear H'
         try clear c1
         try clear p2
         try clear c4
         try clear c4b0
         try clear c4b1
         try clear c5
         try clear c5b0
         try clear c6
         try clear c6b0
         try clear c6b1
         try clear c9
         try clear c9b0
         try clear c9b1
         try clear c11
         try clear c11b0
         try clear c14
         try clear c14b0
         try clear c14b1
         try clear c16
         try clear c16b0
         try clear c18
         try clear c18b0
         try clear c18b1
         obtain ⟨x15_1, x16_1, rfl, rfl, HA, HK1, ⟨m1, rfl⟩⟩ := hrel
         cases gk with
         | zero => exact absurd HA.out (by simp [bits_Div64.l0])
         | succ k1 =>
          have H := HA.out
          clear HA
          simp only [bits_Div64.l0] at H
          have HC20 := A_ H
          clear H
          go_upto_region 17 with (fail)
          repeat (go_quiet (fail); go_upto_region 17 with (fail))
          go_cut [78] (fun v78 wc => ∃ (kq : Nat) (x78_19 : Bool), v78 = .bool x78_19 ∧ Aside0 (bits_Div64.j1 kq ji10 ji8 ((ji10) / 4294967296) (Go.bits .and .u64 (ji10) 4294967295) (Go.bits .or .u64 (ji12) (ji15)) ((ji17) / 4294967296) (Go.bits .and .u64 (ji17) 4294967295) x15_1 x16_1 x78_19 = some (r1, r2)) ∧ Aside0 (kq ≤ k1) ∧ Drawn0 w wc)
          case first =>
           have H := HC20.out
           clear HC20
           by_cases c21 : x15_1 ≥ 4294967296
           ·
            rw [if_pos c21] at H
            have c21b0 : decide (4294967296 ≤ x15_1) = true := decide_eq_true c21
            clear c21
            (first | rw [c21b0] | (simp only [i64_w, i32_w]; rw [c21b0]) | skip)
            have H' := A_ H
            clear H
            go_wp2
            repeat (go_quiet (fail); try go_wp2)
            go_meet
            case rel => exact ⟨_, (true), (by first | rfl | (simp; done) | (simp [*]; done)), H', ⟨by have := HK1.out; first | omega | exact Nat.le_refl _⟩, by repeat (first | exact Drawn0.refl _ | apply Drawn0.step)⟩
           ·
            rw [if_neg c21] at H
            have c21b0 : decide (4294967296 ≤ x15_1) = false := decide_eq_false c21
            clear c21
            (first | rw [c21b0] | (simp only [i64_w, i32_w]; rw [c21b0]) | skip)
            have H' := A_ H
            clear H
            go_wp2
            repeat (go_quiet (fail); try go_wp2)
            go_meet
            case rel => exact ⟨_, (decide ((IntKind.u64.wrap (x15_1 * (Go.bits .and .u64 (ji10) 4294967295))) > (IntKind.u64.wrap ((IntKind.u64.wrap (4294967296 * x16_1)) + ((ji17) / 4294967296))))), (by first | rfl | (simp; done) | (simp only [← hji10, ← hji17] <;> (first | rfl | simp)) | (simp [*]; done)), H', ⟨by have := HK1.out; first | omega | exact Nat.le_refl _⟩, by repeat (first | exact Drawn0.refl _ | apply Drawn0.step)⟩
          case rest =>
           clear HC20
           try clear c1
           try clear c2
           try clear p2
           try clear c4
           try clear c4b0
           try clear c4b1
           try clear c5
           try clear c5b0
           try clear c6
           try clear c6b0
           try clear c6b1
           try clear c9
           try clear c9b0
           try clear c9b1
           try clear c11
           try clear c11b0
           try clear c14
           try clear c14b0
           try clear c14b1
           try clear c16
           try clear c16b0
           try clear c18
           try clear c18b0
           try clear c18b1
           try clear c21
           try clear c21b0
           try clear p2
           obtain ⟨kq, x78_19, rfl, HA, HJ19, ⟨mc19, rfl⟩⟩ := hcut
           cases kq with
           | zero => exact absurd HA.out (by simp [bits_Div64.j1])
           | succ kj19 =>
            have H := HA.out
            clear HA
            simp only [bits_Div64.j1] at H
            by_cases c22 : x78_19 = true
            ·
             subst c22
             have H1 : (if (IntKind.u64.wrap (x16_1 + ((ji10) / 4294967296))) ≥ 4294967296 then (bits_Div64.j2 kj19 ji10 ji8 ((ji10) / 4294967296) (Go.bits .and .u64 (ji10) 4294967295) (Go.bits .or .u64 (ji12) (ji15)) ((ji17) / 4294967296) (Go.bits .and .u64 (ji17) 4294967295) (IntKind.u64.wrap (x15_1 - 1))) else (bits_Div64.l0 kj19 ji10 ji8 ((ji10) / 4294967296) (Go.bits .and .u64 (ji10) 4294967295) (Go.bits .or .u64 (ji12) (ji15)) ((ji17) / 4294967296) (Go.bits .and .u64 (ji17) 4294967295) (IntKind.u64.wrap (x15_1 - 1)) (IntKind.u64.wrap (x16_1 + ((ji10) / 4294967296))))) = some (r1, r2) := by rw [if_pos rfl] at H; exact H
             clear H
             have H := H1
             clear H1
             by_cases c23 : (IntKind.u64.wrap (x16_1 + ((ji10) / 4294967296))) ≥ 4294967296
             ·
              rw [if_pos c23] at H
              have c23b0 : decide (4294967296 ≤ (IntKind.u64.wrap (x16_1 + ((ji10) / 4294967296)))) = true := decide_eq_true c23
              clear c23
              have H' := A_ H
              clear H
              go_wp2
              repeat (go_quiet (fail); try go_wp2)
              go_meet
              case rel => exact ⟨_, (IntKind.u64.wrap (x15_1 - 1)), (by first | rfl | (simp; done) | (simp [*]; done)), H', ⟨by have := HK1.out; have := HJ19.out; first | omega | exact Nat.le_refl _⟩, by repeat (first | exact Drawn0.refl _ | apply Drawn0.step)⟩
             ·
              rw [if_neg c23] at H
              have c23b0 : decide (4294967296 ≤ (IntKind.u64.wrap (x16_1 + ((ji10) / 4294967296)))) = false := decide_eq_false c23
              clear c23
              have H' := A_ H
              clear H
              go_wp2
              repeat (go_quiet (fail); try go_wp2)
              go_roundg kj19
              case measure => have := HK1.out; have := HJ19.out; omega
              case rel => exact ⟨(IntKind.u64.wrap (x15_1 - 1)), (IntKind.u64.wrap (x16_1 + ((ji10) / 4294967296))), (by first | rfl | (simp; done) | (simp [*]; done)), (by first | rfl | (simp; done) | (simp only [← hji10] <;> (first | rfl | simp)) | (simp [*]; done)), H', ⟨by have := HK1.out; have := HJ19.out; omega⟩, by repeat (first | exact Drawn0.refl _ | apply Drawn0.step)⟩
            ·
             replace c22 := Bool.eq_false_iff.mpr c22
             subst c22
             have H1 : (bits_Div64.j2 kj19 ji10 ji8 ((ji10) / 4294967296) (Go.bits .and .u64 (ji10) 4294967295) (Go.bits .or .u64 (ji12) (ji15)) ((ji17) / 4294967296) (Go.bits .and .u64 (ji17) 4294967295) x15_1) = some (r1, r2) := by rw [if_neg (show ¬ (false = true) by decide)] at H; exact H
             clear H
             have H := H1
             clear H1
             have H' := A_ H
             clear H
             go_wp2
             repeat (go_quiet (fail); try go_wp2)
             go_meet
             case rel => exact ⟨_, (x15_1), (by first | rfl | (simp; done) | (simp [*]; done)), H', ⟨by have := HK1.out; have := HJ19.out; first | omega | exact Nat.le_refl _⟩, by repeat (first | exact Drawn0.refl _ | apply Drawn0.step)⟩
       case rest =>
        clear HC19
        try clear c1
        try clear c2
        try clear p2
        try clear c4
        try clear c4b0
        try clear c4b1
        try clear c5
        try clear c5b0
        try clear c6
        try clear c6b0
        try clear c6b1
        try clear c9
        try clear c9b0
        try clear c9b1
        try clear c11
        try clear c11b0
        try clear c14
        try clear c14b0
        try clear c14b1
        try clear c16
        try clear c16b0
        try clear c18
        try clear c18b0
        try clear c18b1
        try clear c19
        try clear c21
        try clear c21b0
        try clear c22
        try clear c23
        try clear c23b0
        try clear p2
        obtain ⟨kq, x15_18, rfl, HA, HJ18, ⟨mc18, rfl⟩⟩ := hcut
        cases kq with
        | zero => exact absurd HA.out (by simp [bits_Div64.j2])
        | succ kj18 =>
         have H := HA.out
         clear HA
         simp only [bits_Div64.j2] at H
         by_cases c24 : ((ji10) / 4294967296) = 0
         ·
          rw [if_pos c24] at H
          exact absurd H (by simp)
         ·
          rw [if_neg c24] at H
          have c24b0 : (((ji10) / 4294967296) == 0) = false := q4_ c24
          have c24b1 : (((ji10) / 4294967296) != 0) = true := q2_ c24
          have H' := A_ H
          clear H
          go_wp2
          repeat (go_quiet (fail); try go_wp2)
          (try simp only [Act.put, sA_, sZ_, sS_])
          go_loopg [16, 18] kj18 (fun kq v16 v18 w' => ∃ (x16_2 : Int) (x18_2 : Int), v16 = .int .u64 x16_2 ∧ v18 = .int .u64 x18_2 ∧ Aside0 (bits_Div64.l1 kq ji10 ji8 ((ji10) / 4294967296) (Go.bits .and .u64 (ji10) 4294967295) (Go.bits .and .u64 (ji17) 4294967295) x15_18 x16_2 (IntKind.u64.wrap ((IntKind.u64.wrap ((IntKind.u64.wrap ((Go.bits .or .u64 (ji12) (ji15)) * 4294967296)) + ((ji17) / 4294967296))) - (IntKind.u64.wrap (x15_18 * ji10)))) x18_2 = some (r1, r2)) ∧ Aside0 (kq ≤ kj18) ∧ Drawn0 w w')
          case atStart => exact ⟨(IntKind.u64.wrap ((IntKind.u64.wrap ((IntKind.u64.wrap ((IntKind.u64.wrap ((Go.bits .or .u64 (ji12) (ji15)) * 4294967296)) + ((ji17) / 4294967296))) - (IntKind.u64.wrap (x15_18 * ji10)))) - (IntKind.u64.wrap ((IntKind.u64.wrap (Int.tdiv (IntKind.u64.wrap ((IntKind.u64.wrap ((IntKind.u64.wrap ((Go.bits .or .u64 (ji12) (ji15)) * 4294967296)) + ((ji17) / 4294967296))) - (IntKind.u64.wrap (x15_18 * ji10)))) ((ji10) / 4294967296))) * ((ji10) / 4294967296))))), (IntKind.u64.wrap (Int.tdiv (IntKind.u64.wrap ((IntKind.u64.wrap ((IntKind.u64.wrap ((Go.bits .or .u64 (ji12) (ji15)) * 4294967296)) + ((ji17) / 4294967296))) - (IntKind.u64.wrap (x15_18 * ji10)))) ((ji10) / 4294967296))), (by first | rfl | (simp; done) | (simp only [← hji10, ← hji12, ← hji15, ← hji17] <;> (first | rfl | simp)) | (simp [*]; done)), (by first | rfl | (simp; done) | (simp only [← hji10, ← hji12, ← hji15, ← hji17] <;> (first | rfl | simp)) | (simp [*]; done)), H', ⟨Nat.le_refl _⟩, by repeat (first | exact Drawn0.refl _ | apply Drawn0.step)⟩
          case round =>
           clear H'
           try clear c1
           try clear c2
           try clear p2
           try clear c4
           try clear c4b0
           try clear c4b1
           try clear c5
           try clear c5b0
           try clear c6
           try clear c6b0
           try clear c6b1
           try clear c9
           try clear c9b0
           try clear c9b1
           try clear c11
           try clear c11b0
           try clear c14
           try clear c14b0
           try clear c14b1
           try clear c16
           try clear c16b0
           try clear c18
           try clear c18b0
           try clear c18b1
           try clear c19
           try clear c21
           try clear c21b0
           try clear c22
           try clear c23
           try clear c23b0
           try clear c24
           try clear c24b0
           try clear c24b1
           try clear p2
           obtain ⟨x16_2, x18_2, rfl, rfl, HA, HK2, ⟨m2, rfl⟩⟩ := hrel
           cases gk with
           | zero => exact absurd HA.out (by simp [bits_Div64.l1])
           | succ k2 =>
            have H := HA.out
            clear HA
            simp only [bits_Div64.l1] at H
            have HC25 := A_ H
            clear H
            go_upto_region 24 with (fail)
            repeat (go_quiet (fail); go_upto_region 24 with (fail))
            go_cut [113] (fun v113 wc => ∃ (kq : Nat) (x113_24 : Bool), v113 = .bool x113_24 ∧ Aside0 (bits_Div64.j4 kq ji10 ji8 ((ji10) / 4294967296) (Go.bits .and .u64 (ji10) 4294967295) (Go.bits .and .u64 (ji17) 4294967295) x15_18 x16_2 (IntKind.u64.wrap ((IntKind.u64.wrap ((IntKind.u64.wrap ((Go.bits .or .u64 (ji12) (ji15)) * 4294967296)) + ((ji17) / 4294967296))) - (IntKind.u64.wrap (x15_18 * ji10)))) x18_2 x113_24 = some (r1, r2)) ∧ Aside0 (kq ≤ k2) ∧ Drawn0 w wc)
            case first =>
             have H := HC25.out
             clear HC25
             by_cases c26 : x18_2 ≥ 4294967296
             ·
              rw [if_pos c26] at H
              have c26b0 : decide (4294967296 ≤ x18_2) = true := decide_eq_true c26
              clear c26
              (first | rw [c26b0] | (simp only [i64_w, i32_w]; rw [c26b0]) | skip)
              have H' := A_ H
              clear H
              go_wp2
              repeat (go_quiet (fail); try go_wp2)
              go_meet
              case rel => exact ⟨_, (true), (by first | rfl | (simp; done) | (simp [*]; done)), H', ⟨by have := HJ18.out; have := HK2.out; first | omega | exact Nat.le_refl _⟩, by repeat (first | exact Drawn0.refl _ | apply Drawn0.step)⟩
             ·
              rw [if_neg c26] at H
              have c26b0 : decide (4294967296 ≤ x18_2) = false := decide_eq_false c26
              clear c26
              (first | rw [c26b0] | (simp only [i64_w, i32_w]; rw [c26b0]) | skip)
              have H' := A_ H
              clear H
              go_wp2
              repeat (go_quiet (fail); try go_wp2)
              go_meet
              case rel => exact ⟨_, (decide ((IntKind.u64.wrap (x18_2 * (Go.bits .and .u64 (ji10) 4294967295))) > (IntKind.u64.wrap ((IntKind.u64.wrap (4294967296 * x16_2)) + (Go.bits .and .u64 (ji17) 4294967295))))), (by first | rfl | (simp; done) | (simp only [← hji10, ← hji17] <;> (first | rfl | simp)) | (simp [*]; done)), H', ⟨by have := HJ18.out; have := HK2.out; first | omega | exact Nat.le_refl _⟩, by repeat (first | exact Drawn0.refl _ | apply Drawn0.step)⟩
            case rest =>
             clear HC25
             try clear c1
             try clear c2
             try clear p2
             try clear c4
             try clear c4b0
             try clear c4b1
             try clear c5
             try clear c5b0
             try clear c6
             try clear c6b0
             try clear c6b1
             try clear c9
             try clear c9b0
             try clear c9b1
             try clear c11
             try clear c11b0
             try clear c14
             try clear c14b0
             try clear c14b1
             try clear c16
             try clear c16b0
             try clear c18
             try clear c18b0
             try clear c18b1
             try clear c19
             try clear c21
             try clear c21b0
             try clear c22
             try clear c23
             try clear c23b0
             try clear c24
             try clear c24b0
             try clear c24b1
             try clear c26
             try clear c26b0
             try clear p2
             obtain ⟨kq, x113_24, rfl, HA, HJ24, ⟨mc24, rfl⟩⟩ := hcut
             cases kq with
             | zero => exact absurd HA.out (by simp [bits_Div64.j4])
             | succ kj24 =>
              have H := HA.out
              clear HA
              simp only [bits_Div64.j4] at H
              by_cases c27 : x113_24 = true
              ·
               subst c27
               have H1 : (if (IntKind.u64.wrap (x16_2 + ((ji10) / 4294967296))) ≥ 4294967296 then (if 0 ≤ ji8 then (some (IntKind.u64.wrap ((IntKind.u64.wrap (x15_18 * 4294967296)) + (IntKind.u64.wrap (x18_2 - 1))), shr .u64 (IntKind.u64.wrap ((IntKind.u64.wrap ((IntKind.u64.wrap ((IntKind.u64.wrap ((IntKind.u64.wrap ((IntKind.u64.wrap ((Go.bits .or .u64 (ji12) (ji15)) * 4294967296)) + ((ji17) / 4294967296))) - (IntKind.u64.wrap (x15_18 * ji10)))) * 4294967296)) + (Go.bits .and .u64 (ji17) 4294967295))) - (IntKind.u64.wrap ((IntKind.u64.wrap (x18_2 - 1)) * ji10)))) ji8)) else (none)) else (bits_Div64.l1 kj24 ji10 ji8 ((ji10) / 4294967296) (Go.bits .and .u64 (ji10) 4294967295) (Go.bits .and .u64 (ji17) 4294967295) x15_18 (IntKind.u64.wrap (x16_2 + ((ji10) / 4294967296))) (IntKind.u64.wrap ((IntKind.u64.wrap ((IntKind.u64.wrap ((Go.bits .or .u64 (ji12) (ji15)) * 4294967296)) + ((ji17) / 4294967296))) - (IntKind.u64.wrap (x15_18 * ji10)))) (IntKind.u64.wrap (x18_2 - 1)))) = some (r1, r2) := by rw [if_pos rfl] at H; exact H
               clear H
               have H := H1
               clear H1
               by_cases c28 : (IntKind.u64.wrap (x16_2 + ((ji10) / 4294967296))) ≥ 4294967296
               ·
                rw [if_pos c28] at H
                have c28b0 : decide (4294967296 ≤ (IntKind.u64.wrap (x16_2 + ((ji10) / 4294967296)))) = true := decide_eq_true c28
                clear c28
                by_cases c29 : 0 ≤ ji8
                ·
                 rw [if_pos c29] at H
                 have c29b0 := eq_true c29
                 have c29b1 : decide (0 ≤ ji8) = true := decide_eq_true c29
                 clear c29
                 obtain ⟨ji30, hji30⟩ : ∃ j_ : Int, (shr .u64 (IntKind.u64.wrap ((IntKind.u64.wrap ((IntKind.u64.wrap ((IntKind.u64.wrap ((IntKind.u64.wrap ((IntKind.u64.wrap ((Go.bits .or .u64 (ji12) (ji15)) * 4294967296)) + ((ji17) / 4294967296))) - (IntKind.u64.wrap (x15_18 * ji10)))) * 4294967296)) + (Go.bits .and .u64 (ji17) 4294967295))) - (IntKind.u64.wrap ((IntKind.u64.wrap (x18_2 - 1)) * ji10)))) ji8) = j_ := ⟨_, rfl⟩
                 replace H : (some (IntKind.u64.wrap ((IntKind.u64.wrap (x15_18 * 4294967296)) + (IntKind.u64.wrap (x18_2 - 1))), ji30)) = some (r1, r2) := by first | (rw [hji30] at H; exact H) | (simp only [hji30] at H ⊢; exact H)
                 have hji30_ : ((IntKind.u64.wrap ((IntKind.u64.wrap ((IntKind.u64.wrap ((IntKind.u64.wrap ((IntKind.u64.wrap ((IntKind.u64.wrap ((Go.bits .or .u64 (ji12) (ji15)) * 4294967296)) + ((ji17) / 4294967296))) - (IntKind.u64.wrap (x15_18 * ji10)))) * 4294967296)) + (Go.bits .and .u64 (ji17) 4294967295))) - (IntKind.u64.wrap ((IntKind.u64.wrap (x18_2 - 1)) * ji10)))) / 2 ^ min ji8.toNat 64) = ji30 := hji30
                 have hji30z : ji8 ≤ 64 → ((IntKind.u64.wrap ((IntKind.u64.wrap ((IntKind.u64.wrap ((IntKind.u64.wrap ((IntKind.u64.wrap ((IntKind.u64.wrap ((Go.bits .or .u64 (ji12) (ji15)) * 4294967296)) + ((ji17) / 4294967296))) - (IntKind.u64.wrap (x15_18 * ji10)))) * 4294967296)) + (Go.bits .and .u64 (ji17) 4294967295))) - (IntKind.u64.wrap ((IntKind.u64.wrap (x18_2 - 1)) * ji10)))) / 2 ^ ji8.toNat) = ji30 := shr_small hji30
                 simp only [Option.some.injEq, Prod.mk.injEq] at H
                 obtain ⟨rfl, rfl⟩ := H
                 go_wp2
                 repeat (go_quiet (fail); try go_wp2)
                 go_ret2
                 exact ⟨by first | rfl | (simp; done) | (simp only [← hji8, ← hji10, ← hji12, ← hji13, ← hji15, ← hji17, ← hji30] <;> (first | rfl | simp)) | (simp [*]; done), by repeat (first | exact Drawn0.refl _ | apply Drawn0.step)⟩
                ·
                 rw [if_neg c29] at H
                 exact absurd H (by simp)
               ·
                rw [if_neg c28] at H
                have c28b0 : decide (4294967296 ≤ (IntKind.u64.wrap (x16_2 + ((ji10) / 4294967296)))) = false := decide_eq_false c28
                clear c28
                have H' := A_ H
                clear H
                go_wp2
                repeat (go_quiet (fail); try go_wp2)
                go_roundg kj24
                case measure => have := HJ18.out; have := HK2.out; have := HJ24.out; omega
                case rel => exact ⟨(IntKind.u64.wrap (x16_2 + ((ji10) / 4294967296))), (IntKind.u64.wrap (x18_2 - 1)), (by first | rfl | (simp; done) | (simp only [← hji10] <;> (first | rfl | simp)) | (simp [*]; done)), (by first | rfl | (simp; done) | (simp [*]; done)), H', ⟨by have := HJ18.out; have := HK2.out; have := HJ24.out; omega⟩, by repeat (first | exact Drawn0.refl _ | apply Drawn0.step)⟩
              ·
               replace c27 := Bool.eq_false_iff.mpr c27
               subst c27
               have H1 : (if 0 ≤ ji8 then (some (IntKind.u64.wrap ((IntKind.u64.wrap (x15_18 * 4294967296)) + x18_2), shr .u64 (IntKind.u64.wrap ((IntKind.u64.wrap ((IntKind.u64.wrap ((IntKind.u64.wrap ((IntKind.u64.wrap ((IntKind.u64.wrap ((Go.bits .or .u64 (ji12) (ji15)) * 4294967296)) + ((ji17) / 4294967296))) - (IntKind.u64.wrap (x15_18 * ji10)))) * 4294967296)) + (Go.bits .and .u64 (ji17) 4294967295))) - (IntKind.u64.wrap (x18_2 * ji10)))) ji8)) else (none)) = some (r1, r2) := by rw [if_neg (show ¬ (false = true) by decide)] at H; exact H
               clear H
               have H := H1
               clear H1
               by_cases c31 : 0 ≤ ji8
               ·
                rw [if_pos c31] at H
                have c31b0 := eq_true c31
                have c31b1 : decide (0 ≤ ji8) = true := decide_eq_true c31
                clear c31
                obtain ⟨ji32, hji32⟩ : ∃ j_ : Int, (shr .u64 (IntKind.u64.wrap ((IntKind.u64.wrap ((IntKind.u64.wrap ((IntKind.u64.wrap ((IntKind.u64.wrap ((IntKind.u64.wrap ((Go.bits .or .u64 (ji12) (ji15)) * 4294967296)) + ((ji17) / 4294967296))) - (IntKind.u64.wrap (x15_18 * ji10)))) * 4294967296)) + (Go.bits .and .u64 (ji17) 4294967295))) - (IntKind.u64.wrap (x18_2 * ji10)))) ji8) = j_ := ⟨_, rfl⟩
                replace H : (some (IntKind.u64.wrap ((IntKind.u64.wrap (x15_18 * 4294967296)) + x18_2), ji32)) = some (r1, r2) := by first | (rw [hji32] at H; exact H) | (simp only [hji32] at H ⊢; exact H)
                have hji32_ : ((IntKind.u64.wrap ((IntKind.u64.wrap ((IntKind.u64.wrap ((IntKind.u64.wrap ((IntKind.u64.wrap ((IntKind.u64.wrap ((Go.bits .or .u64 (ji12) (ji15)) * 4294967296)) + ((ji17) / 4294967296))) - (IntKind.u64.wrap (x15_18 * ji10)))) * 4294967296)) + (Go.bits .and .u64 (ji17) 4294967295))) - (IntKind.u64.wrap (x18_2 * ji10)))) / 2 ^ min ji8.toNat 64) = ji32 := hji32
                have hji32z : ji8 ≤ 64 → ((IntKind.u64.wrap ((IntKind.u64.wrap ((IntKind.u64.wrap ((IntKind.u64.wrap ((IntKind.u64.wrap ((IntKind.u64.wrap ((Go.bits .or .u64 (ji12) (ji15)) * 4294967296)) + ((ji17) / 4294967296))) - (IntKind.u64.wrap (x15_18 * ji10)))) * 4294967296)) + (Go.bits .and .u64 (ji17) 4294967295))) - (IntKind.u64.wrap (x18_2 * ji10)))) / 2 ^ ji8.toNat) = ji32 := shr_small hji32
                simp only [Option.some.injEq, Prod.mk.injEq] at H
                obtain ⟨rfl, rfl⟩ := H
                go_wp2
                repeat (go_quiet (fail); try go_wp2)
                go_ret2
                exact ⟨by first | rfl | (simp; done) | (simp only [← hji8, ← hji10, ← hji12, ← hji13, ← hji15, ← hji17, ← hji32] <;> (first | rfl | simp)) | (simp [*]; done), by repeat (first | exact Drawn0.refl _ | apply Drawn0.step)⟩
               ·
                rw [if_neg c31] at H
                exact absurd H (by simp)
     ·
      rw [if_neg c14] at H
      exact absurd H (by simp)
    ·
     rw [if_neg c9] at H
     exact absurd H (by simp)
end Go.Proofs.Ythhgcjlgnafdcaa.Px
end
section
namespace Go.Proofs.Ythhgcjlgnafdcaa.Px
open Go.RowKit Go.Proofs.YthhgcjlgnafdcaaW.PrintWords Go.Proofs.YthhgcjlgnafdcaaW.PrintLast Go.Proofs.YthhgcjlgnafdcaaW.PrintMore
attribute [local go_sem] max2_int min2_int max_two min_two max_three min_three max_four min_four   -- for this text's walks alone
set_option linter.unusedVariables false
set_option linter.unusedSimpArgs false
attribute [local go_sem] run_add64_any
def fixed_away.f (a0_0 : Int) (a0_1 : Int) : Option (Int × Int × Bool) := if a0_0 < 0 then ((fixed_turned.f a0_0 a0_1).bind fun bt131 => (some (IntKind.u64.wrap (bt131.1), bt131.2, true))) else (some (IntKind.u64.wrap (a0_0), a0_1, false))
set_option maxHeartbeats 8000000 in
set_option maxRecDepth 100000 in
theorem fixed_away.calls (a0_0 : Int) (a0_1 : Int) (r1 : Int) (r2 : Int) (r3 : Bool) (w : World) (h : fixed_away.f a0_0 a0_1 = some (r1, r2, r3)) :
  Calls Try.prog 95 #[.agg #[.int .i64 a0_0, .int .u64 a0_1]] w fun e w' => e = .returned (.tuple #[.int .u64 r1, .int .u64 r2, .bool r3]) ∧ Below w.heap.size w w' := by
 have hu43 := Try.underlying43
 have HB := A_ (Below.refl w.heap.size w)
 have H : (if a0_0 < 0 then ((fixed_turned.f a0_0 a0_1).bind fun bt131 => (some (IntKind.u64.wrap (bt131.1), bt131.2, true))) else (some (IntKind.u64.wrap (a0_0), a0_1, false))) = some (r1, r2, r3) := h
 clear h
 by_cases c2 : a0_0 < 0
 ·
  rw [if_pos c2] at H
  have c2b0 : decide (a0_0 < 0) = true := decide_eq_true c2
  clear c2
  replace H := os_ H
  obtain ⟨⟨t131, t132⟩, A30, H⟩ := H
  replace H : (some (IntKind.u64.wrap (t131), t132, true)) = some (r1, r2, r3) := H
  have A3 := A_ A30
  clear A30
  simp only [Option.some.injEq, Prod.mk.injEq] at H
  obtain ⟨rfl, rfl, rfl⟩ := H
  go_enter Try.func95, Try.ntmps95
  go_wp2_with (first | ((with_reducible refine gate_dst (N := 1) rfl ?_); refine box_event ?hg (N := 1) ?hd (cs := #[.int .i64 a0_0, .int .u64 a0_1]) (t := 43) ?hr ?_; (case hd => rfl); (case hg => rfl); (case hr => first | (go_simp; done) | (go_simp; rfl)); intro gb301 hg w4 hbox hb; have n0_ := A_ (bs_ bw_ hb); have n1_ := A_ (hbox); have n2_ := A_ ((by rw [hg]; exact (bz_ bw_) : w.heap.size ≤ gb301)); have n3_ := A_ ((by rw [hg]; exact (bz_ bw_) : w.heap.size ≤ gb301)); clear HB; have HB := n0_; have BK301 := n1_; have GW301 := n2_; have GE301 := n3_; clear n0_ n1_ n2_ n3_; clear hb hbox hg; have hcz5_0 : w4.cell? ⟨gb301, 0, none⟩ = some (.int .i64 a0_0) := (bc_ BK301.out 0).trans rfl; have hcz5_1 : w4.cell? ⟨gb301, 1, none⟩ = some (.int .u64 a0_1) := (bc_ BK301.out 1).trans rfl; have hfz5_0 := bf_ BK301.out 0; have hfz5_1 := bf_ BK301.out 1) | (go_at_call 102; (with_reducible refine (fixed_turned.calls a0_0 a0_1 t131 t132 _ A3.out).mono ?_); rintro e w6 ⟨rfl, hb⟩; have n0_ := A_ (kb_ BK301 hb); have n1_ := A_ (bs_ bw_ hb); clear BK301; clear HB; have BK301 := n0_; have HB := n1_; clear n0_ n1_; (try clear hb); (try clear hb2); (try clear hk); (try clear hi); have hcz7_0 : w6.cell? ⟨gb301, 0, none⟩ = some (.int .i64 a0_0) := (bc_ BK301.out 0).trans rfl; have hcz7_1 : w6.cell? ⟨gb301, 1, none⟩ = some (.int .u64 a0_1) := (bc_ BK301.out 1).trans rfl; have hfz7_0 := bf_ BK301.out 0; have hfz7_1 := bf_ BK301.out 1))
  repeat (go_quiet (first | ((with_reducible refine gate_dst (N := 1) rfl ?_); refine box_event ?hg (N := 1) ?hd (cs := #[.int .i64 a0_0, .int .u64 a0_1]) (t := 43) ?hr ?_; (case hd => rfl); (case hg => rfl); (case hr => first | (go_simp; done) | (go_simp; rfl)); intro gb301 hg w4 hbox hb; have n0_ := A_ (bs_ bw_ hb); have n1_ := A_ (hbox); have n2_ := A_ ((by rw [hg]; exact (bz_ bw_) : w.heap.size ≤ gb301)); have n3_ := A_ ((by rw [hg]; exact (bz_ bw_) : w.heap.size ≤ gb301)); clear HB; have HB := n0_; have BK301 := n1_; have GW301 := n2_; have GE301 := n3_; clear n0_ n1_ n2_ n3_; clear hb hbox hg; have hcz5_0 : w4.cell? ⟨gb301, 0, none⟩ = some (.int .i64 a0_0) := (bc_ BK301.out 0).trans rfl; have hcz5_1 : w4.cell? ⟨gb301, 1, none⟩ = some (.int .u64 a0_1) := (bc_ BK301.out 1).trans rfl; have hfz5_0 := bf_ BK301.out 0; have hfz5_1 := bf_ BK301.out 1) | (go_at_call 102; (with_reducible refine (fixed_turned.calls a0_0 a0_1 t131 t132 _ A3.out).mono ?_); rintro e w6 ⟨rfl, hb⟩; have n0_ := A_ (kb_ BK301 hb); have n1_ := A_ (bs_ bw_ hb); clear BK301; clear HB; have BK301 := n0_; have HB := n1_; clear n0_ n1_; (try clear hb); (try clear hb2); (try clear hk); (try clear hi); have hcz7_0 : w6.cell? ⟨gb301, 0, none⟩ = some (.int .i64 a0_0) := (bc_ BK301.out 0).trans rfl; have hcz7_1 : w6.cell? ⟨gb301, 1, none⟩ = some (.int .u64 a0_1) := (bc_ BK301.out 1).trans rfl; have hfz7_0 := bf_ BK301.out 0; have hfz7_1 := bf_ BK301.out 1)); try go_wp2_with (first | ((with_reducible refine gate_dst (N := 1) rfl ?_); refine box_event ?hg (N := 1) ?hd (cs := #[.int .i64 a0_0, .int .u64 a0_1]) (t := 43) ?hr ?_; (case hd => rfl); (case hg => rfl); (case hr => first | (go_simp; done) | (go_simp; rfl)); intro gb301 hg w4 hbox hb; have n0_ := A_ (bs_ bw_ hb); have n1_ := A_ (hbox); have n2_ := A_ ((by rw [hg]; exact (bz_ bw_) : w.heap.size ≤ gb301)); have n3_ := A_ ((by rw [hg]; exact (bz_ bw_) : w.heap.size ≤ gb301)); clear HB; have HB := n0_; have BK301 := n1_; have GW301 := n2_; have GE301 := n3_; clear n0_ n1_ n2_ n3_; clear hb hbox hg; have hcz5_0 : w4.cell? ⟨gb301, 0, none⟩ = some (.int .i64 a0_0) := (bc_ BK301.out 0).trans rfl; have hcz5_1 : w4.cell? ⟨gb301, 1, none⟩ = some (.int .u64 a0_1) := (bc_ BK301.out 1).trans rfl; have hfz5_0 := bf_ BK301.out 0; have hfz5_1 := bf_ BK301.out 1) | (go_at_call 102; (with_reducible refine (fixed_turned.calls a0_0 a0_1 t131 t132 _ A3.out).mono ?_); rintro e w6 ⟨rfl, hb⟩; have n0_ := A_ (kb_ BK301 hb); have n1_ := A_ (bs_ bw_ hb); clear BK301; clear HB; have BK301 := n0_; have HB := n1_; clear n0_ n1_; (try clear hb); (try clear hb2); (try clear hk); (try clear hi); have hcz7_0 : w6.cell? ⟨gb301, 0, none⟩ = some (.int .i64 a0_0) := (bc_ BK301.out 0).trans rfl; have hcz7_1 : w6.cell? ⟨gb301, 1, none⟩ = some (.int .u64 a0_1) := (bc_ BK301.out 1).trans rfl; have hfz7_0 := bf_ BK301.out 0; have hfz7_1 := bf_ BK301.out 1)))
  go_ret3
  exact ⟨by first | rfl | (simp [errW_none, errW_some] <;> rfl) | (simp [*, errW_none, errW_some] <;> rfl), bw_⟩
 ·
  rw [if_neg c2] at H
  have c2b0 : decide (a0_0 < 0) = false := decide_eq_false c2
  clear c2
  simp only [Option.some.injEq, Prod.mk.injEq] at H
  obtain ⟨rfl, rfl, rfl⟩ := H
  go_enter Try.func95, Try.ntmps95
  go_wp2_with (first | ((with_reducible refine gate_dst (N := 1) rfl ?_); refine box_event ?hg (N := 1) ?hd (cs := #[.int .i64 a0_0, .int .u64 a0_1]) (t := 43) ?hr ?_; (case hd => rfl); (case hg => rfl); (case hr => first | (go_simp; done) | (go_simp; rfl)); intro gb301 hg w8 hbox hb; have n0_ := A_ (bs_ bw_ hb); have n1_ := A_ (hbox); have n2_ := A_ ((by rw [hg]; exact (bz_ bw_) : w.heap.size ≤ gb301)); have n3_ := A_ ((by rw [hg]; exact (bz_ bw_) : w.heap.size ≤ gb301)); clear HB; have HB := n0_; have BK301 := n1_; have GW301 := n2_; have GE301 := n3_; clear n0_ n1_ n2_ n3_; clear hb hbox hg; have hcz9_0 : w8.cell? ⟨gb301, 0, none⟩ = some (.int .i64 a0_0) := (bc_ BK301.out 0).trans rfl; have hcz9_1 : w8.cell? ⟨gb301, 1, none⟩ = some (.int .u64 a0_1) := (bc_ BK301.out 1).trans rfl; have hfz9_0 := bf_ BK301.out 0; have hfz9_1 := bf_ BK301.out 1))
  repeat (go_quiet (first | ((with_reducible refine gate_dst (N := 1) rfl ?_); refine box_event ?hg (N := 1) ?hd (cs := #[.int .i64 a0_0, .int .u64 a0_1]) (t := 43) ?hr ?_; (case hd => rfl); (case hg => rfl); (case hr => first | (go_simp; done) | (go_simp; rfl)); intro gb301 hg w8 hbox hb; have n0_ := A_ (bs_ bw_ hb); have n1_ := A_ (hbox); have n2_ := A_ ((by rw [hg]; exact (bz_ bw_) : w.heap.size ≤ gb301)); have n3_ := A_ ((by rw [hg]; exact (bz_ bw_) : w.heap.size ≤ gb301)); clear HB; have HB := n0_; have BK301 := n1_; have GW301 := n2_; have GE301 := n3_; clear n0_ n1_ n2_ n3_; clear hb hbox hg; have hcz9_0 : w8.cell? ⟨gb301, 0, none⟩ = some (.int .i64 a0_0) := (bc_ BK301.out 0).trans rfl; have hcz9_1 : w8.cell? ⟨gb301, 1, none⟩ = some (.int .u64 a0_1) := (bc_ BK301.out 1).trans rfl; have hfz9_0 := bf_ BK301.out 0; have hfz9_1 := bf_ BK301.out 1)); try go_wp2_with (first | ((with_reducible refine gate_dst (N := 1) rfl ?_); refine box_event ?hg (N := 1) ?hd (cs := #[.int .i64 a0_0, .int .u64 a0_1]) (t := 43) ?hr ?_; (case hd => rfl); (case hg => rfl); (case hr => first | (go_simp; done) | (go_simp; rfl)); intro gb301 hg w8 hbox hb; have n0_ := A_ (bs_ bw_ hb); have n1_ := A_ (hbox); have n2_ := A_ ((by rw [hg]; exact (bz_ bw_) : w.heap.size ≤ gb301)); have n3_ := A_ ((by rw [hg]; exact (bz_ bw_) : w.heap.size ≤ gb301)); clear HB; have HB := n0_; have BK301 := n1_; have GW301 := n2_; have GE301 := n3_; clear n0_ n1_ n2_ n3_; clear hb hbox hg; have hcz9_0 : w8.cell? ⟨gb301, 0, none⟩ = some (.int .i64 a0_0) := (bc_ BK301.out 0).trans rfl; have hcz9_1 : w8.cell? ⟨gb301, 1, none⟩ = some (.int .u64 a0_1) := (bc_ BK301.out 1).trans rfl; have hfz9_0 := bf_ BK301.out 0; have hfz9_1 := bf_ BK301.out 1)))
  go_ret3
  exact ⟨by first | rfl | (simp [errW_none, errW_some] <;> rfl) | (simp [*, errW_none, errW_some] <;> rfl), bw_⟩
end Go.Proofs.Ythhgcjlgnafdcaa.Px
end
section
namespace Go.Proofs.Ythhgcjlgnafdcaa.Px
open Go.RowKit Go.Proofs.YthhgcjlgnafdcaaW.PrintWords Go.Proofs.YthhgcjlgnafdcaaW.PrintLast Go.Proofs.YthhgcjlgnafdcaaW.PrintMore
attribute [local go_sem] max2_int min2_int max_two min_two max_three min_three max_four min_four   -- for this text's walks alone
set_option linter.unusedVariables false
set_option linter.unusedSimpArgs false
attribute [local go_sem] run_add64_any
def fixed_up.f (a0 : Int) (a1 : Bool) (a2 : Bool) (a3 : Int) (a4 : Int) : Option (Bool) := if a3 = 0 then (some false) else (if a0 = 0 then (some a1) else (if a0 = 1 then (some (!a1)) else (if a0 = 2 then (some false) else (if a3 > (IntKind.u64.wrap (a4 - a3)) then (some true) else (if a3 = (IntKind.u64.wrap (a4 - a3)) then (some a2) else (some false))))))
set_option maxHeartbeats 8000000 in
set_option maxRecDepth 100000 in
theorem fixed_up.calls (a0 : Int) (a1 : Bool) (a2 : Bool) (a3 : Int) (a4 : Int) (r : Bool) (w : World) (h : fixed_up.f a0 a1 a2 a3 a4 = some r) :
  Calls Try.prog 98 #[.int .i64 a0, .bool a1, .bool a2, .int .u64 a3, .int .u64 a4] w fun e w' => e = .returned (.bool r) ∧ Drawn0 w w' := by
 have H : (if a3 = 0 then (some false) else (if a0 = 0 then (some a1) else (if a0 = 1 then (some (!a1)) else (if a0 = 2 then (some false) else (if a3 > (IntKind.u64.wrap (a4 - a3)) then (some true) else (if a3 = (IntKind.u64.wrap (a4 - a3)) then (some a2) else (some false))))))) = some r := h
 clear h
 by_cases c6 : a3 = 0
 ·
  rw [if_pos c6] at H
  have c6b0 : (a3 == 0) = true := q1_ c6
  have c6b1 : (a3 != 0) = false := q3_ c6
  clear c6
  obtain rfl := Option.some.inj H
  go_enter Try.func98, Try.ntmps98
  go_wp2
  go_ret
  exact ⟨by first | rfl | (simp; done) | (simp [*]; done), by repeat (first | exact Drawn0.refl _ | apply Drawn0.step)⟩
 ·
  rw [if_neg c6] at H
  have c6b0 : (a3 == 0) = false := q4_ c6
  have c6b1 : (a3 != 0) = true := q2_ c6
  by_cases c7 : a0 = 0
  ·
   rw [if_pos c7] at H
   have c7b0 : (a0 == 0) = true := q1_ c7
   have c7b1 : (a0 != 0) = false := q3_ c7
   clear c7
   obtain rfl := Option.some.inj H
   go_enter Try.func98, Try.ntmps98
   go_wp2
   go_ret
   exact ⟨by first | rfl | (simp; done) | (simp [*]; done), by repeat (first | exact Drawn0.refl _ | apply Drawn0.step)⟩
  ·
   rw [if_neg c7] at H
   have c7b0 : (a0 == 0) = false := q4_ c7
   have c7b1 : (a0 != 0) = true := q2_ c7
   by_cases c8 : a0 = 1
   ·
    rw [if_pos c8] at H
    have c8b0 : (a0 == 1) = true := q1_ c8
    have c8b1 : (a0 != 1) = false := q3_ c8
    clear c8
    obtain rfl := Option.some.inj H
    go_enter Try.func98, Try.ntmps98
    go_wp2
    go_ret
    exact ⟨by first | rfl | (simp; done) | (simp [*]; done), by repeat (first | exact Drawn0.refl _ | apply Drawn0.step)⟩
   ·
    rw [if_neg c8] at H
    have c8b0 : (a0 == 1) = false := q4_ c8
    have c8b1 : (a0 != 1) = true := q2_ c8
    by_cases c9 : a0 = 2
    ·
     rw [if_pos c9] at H
     have c9b0 : (a0 == 2) = true := q1_ c9
     have c9b1 : (a0 != 2) = false := q3_ c9
     clear c9
     obtain rfl := Option.some.inj H
     go_enter Try.func98, Try.ntmps98
     go_wp2
     go_ret
     exact ⟨by first | rfl | (simp; done) | (simp [*]; done), by repeat (first | exact Drawn0.refl _ | apply Drawn0.step)⟩
    ·
     rw [if_neg c9] at H
     have c9b0 : (a0 == 2) = false := q4_ c9
     have c9b1 : (a0 != 2) = true := q2_ c9
     by_cases c10 : a3 > (IntKind.u64.wrap (a4 - a3))
     ·
      rw [if_pos c10] at H
      have c10b0 : decide ((IntKind.u64.wrap (a4 - a3)) < a3) = true := decide_eq_true c10
      clear c10
      obtain rfl := Option.some.inj H
      go_enter Try.func98, Try.ntmps98
      go_wp2
      go_ret
      exact ⟨by first | rfl | (simp; done) | (simp [*]; done), by repeat (first | exact Drawn0.refl _ | apply Drawn0.step)⟩
     ·
      rw [if_neg c10] at H
      have c10b0 : decide ((IntKind.u64.wrap (a4 - a3)) < a3) = false := decide_eq_false c10
      clear c10
      by_cases c11 : a3 = (IntKind.u64.wrap (a4 - a3))
      ·
       rw [if_pos c11] at H
       have c11b0 : (a3 == (IntKind.u64.wrap (a4 - a3))) = true := q1_ c11
       have c11b1 : (a3 != (IntKind.u64.wrap (a4 - a3))) = false := q3_ c11
       clear c11
       obtain rfl := Option.some.inj H
       go_enter Try.func98, Try.ntmps98
       go_wp2
       go_ret
       exact ⟨by first | rfl | (simp; done) | (simp [*]; done), by repeat (first | exact Drawn0.refl _ | apply Drawn0.step)⟩
      ·
       rw [if_neg c11] at H
       have c11b0 : (a3 == (IntKind.u64.wrap (a4 - a3))) = false := q4_ c11
       have c11b1 : (a3 != (IntKind.u64.wrap (a4 - a3))) = true := q2_ c11
       obtain rfl := Option.some.inj H
       go_enter Try.func98, Try.ntmps98
       go_wp2
       go_ret
       exact ⟨by first | rfl | (simp; done) | (simp [*]; done), by repeat (first | exact Drawn0.refl _ | apply Drawn0.step)⟩
end Go.Proofs.Ythhgcjlgnafdcaa.Px
end
section
namespace Go.Proofs.Ythhgcjlgnafdcaa.Px
open Go.RowKit Go.Proofs.YthhgcjlgnafdcaaW.PrintWords Go.Proofs.YthhgcjlgnafdcaaW.PrintLast Go.Proofs.YthhgcjlgnafdcaaW.PrintMore
attribute [local go_sem] max2_int min2_int max_two min_two max_three min_three max_four min_four   -- for this text's walks alone
set_option linter.unusedVariables false
set_option linter.unusedSimpArgs false
attribute [local go_sem] run_add64_any
def fixed_signed.j0 : Nat → Int → Bool → Bool → Int → Int → Option (Int × Int × Int)
 | 0, _, _, _, _, _ => none
 | k + 1, x0, x2, x13, x309000, x309001 => if x13 = true then (some (x309000, x309001, 0)) else (if x0 ≥ 9223372036854775808 then (some (0, 0, 4)) else (if x2 = true then ((fixed_turned.f x309000 x309001).bind fun bt135 => (some (bt135.1, bt135.2, 0))) else (some (x309000, x309001, 0))))
def fixed_signed.f (k : Nat) (a0 : Int) (a1 : Int) (a2 : Bool) : Option (Int × Int × Int) := if a2 = true then (if a0 = 9223372036854775808 then (fixed_signed.j0 k a0 true (a1 == 0) (wrap64 (a0)) a1) else (fixed_signed.j0 k a0 true false (wrap64 (a0)) a1)) else (fixed_signed.j0 k a0 false false (wrap64 (a0)) a1)
set_option maxHeartbeats 8000000 in
set_option maxRecDepth 100000 in
theorem fixed_signed.calls (k : Nat) (a0 : Int) (a1 : Int) (a2 : Bool) (r1 : Int) (r2 : Int) (r3 : Int) (w : World) (h : fixed_signed.f k a0 a1 a2 = some (r1, r2, r3)) :
  Calls Try.prog 100 #[.int .u64 a0, .int .u64 a1, .bool a2] w fun e w' => e = .returned (.tuple #[.agg #[.int .i64 r1, .int .u64 r2], .int .i64 r3]) ∧ Below w.heap.size w w' := by
 have hu43 := Try.underlying43
 have HB := A_ (Below.refl w.heap.size w)
 have H : (if a2 = true then (if a0 = 9223372036854775808 then (fixed_signed.j0 k a0 true (a1 == 0) (wrap64 (a0)) a1) else (fixed_signed.j0 k a0 true false (wrap64 (a0)) a1)) else (fixed_signed.j0 k a0 false false (wrap64 (a0)) a1)) = some (r1, r2, r3) := h
 clear h
 have HC4 := A_ H
 clear H
 go_enter Try.func100, Try.ntmps100
 go_upto_region 2 with (first | ((with_reducible refine gate_dst (N := 6) rfl ?_); refine box_event ?hg (N := 6) ?hd (cs := #[.int .i64 0, .int .u64 0]) (t := 43) ?hr ?_; (case hd => rfl); (case hg => rfl); (case hr => first | (go_simp; done) | (go_simp; rfl)); intro gb306 hg w5 hbox hb; have n0_ := A_ (bs_ bw_ hb); have n1_ := A_ (hbox); have n2_ := A_ ((by rw [hg]; exact (bz_ bw_) : w.heap.size ≤ gb306)); have n3_ := A_ ((by rw [hg]; exact (bz_ bw_) : w.heap.size ≤ gb306)); clear HB; have HB := n0_; have BK306 := n1_; have GW306 := n2_; have GE306 := n3_; clear n0_ n1_ n2_ n3_; clear hb hbox hg) | ((with_reducible refine gate_dst (N := 8) rfl ?_); refine box_event ?hg (N := 8) ?hd (cs := #[.int .i64 0, .int .u64 0]) (t := 43) ?hr ?_; (case hd => rfl); (case hg => rfl); (case hr => first | (go_simp; done) | (go_simp; rfl)); intro gb308 hg w6 hbox hb; have n0_ := A_ (kb_ BK306 hb); have n1_ := A_ (bs_ bw_ hb); have n2_ := A_ (hbox); have n3_ := A_ ((by rw [hg]; exact (bz_ bw_) : w.heap.size ≤ gb308)); have n4_ := A_ ((by rw [hg]; exact (bz_ bw_) : w.heap.size ≤ gb308)); have n5_ := A_ ((by rw [hg]; exact nl_ (lt_ BK306) : gb306 ≠ gb308)); have n6_ := A_ ((by rw [hg]; exact ng_ (lt_ BK306) : gb308 ≠ gb306)); clear BK306; clear HB; have BK306 := n0_; have HB := n1_; have BK308 := n2_; have GW308 := n3_; have GE308 := n4_; have NB306_308 := n5_; have NB308_306 := n6_; clear n0_ n1_ n2_ n3_ n4_ n5_ n6_; clear hb hbox hg; have hnb7 := NB308_306.out; have hnc7 := NB306_308.out; have hcz8_0 : w6.cell? ⟨gb308, 0, none⟩ = some (.int .i64 0) := (bc_ BK308.out 0).trans rfl; have hcz8_1 : w6.cell? ⟨gb308, 1, none⟩ = some (.int .u64 0) := (bc_ BK308.out 1).trans rfl; have hfz8_0 := bf_ BK308.out 0; have hfz8_1 := bf_ BK308.out 1))
 (try simp only [Act.put, sA_, sZ_, sS_])
 go_cut [2, 13] (fun v2 v13 wc => ∃ (kq : Nat) (x2_3 : Bool) (x13_3 : Bool), v2 = .bool x2_3 ∧ v13 = .bool x13_3 ∧ Aside0 (fixed_signed.j0 kq a0 x2_3 x13_3 (wrap64 (a0)) a1 = some (r1, r2, r3)) ∧ Aside0 (kq ≤ k) ∧ Aside0 (wc.heap[gb306]? = some (.cells #[.int .i64 0, .int .u64 0] 43 (0, 0))) ∧ Aside0 (wc.heap[gb308]? = some (.cells #[.int .i64 (wrap64 (a0)), .int .u64 a1] 43 (0, 0))) ∧ Aside0 (Below w.heap.size w wc))
 case first =>
  have H := HC4.out
  clear HC4
  by_cases c9 : a2 = true
  ·
   subst c9
   have H1 : (if a0 = 9223372036854775808 then (fixed_signed.j0 k a0 true (a1 == 0) (wrap64 (a0)) a1) else (fixed_signed.j0 k a0 true false (wrap64 (a0)) a1)) = some (r1, r2, r3) := by rw [if_pos rfl] at H; exact H
   clear H
   have H := H1
   clear H1
   by_cases c10 : a0 = 9223372036854775808
   ·
    rw [if_pos c10] at H
    have c10b0 : (a0 == 9223372036854775808) = true := q1_ c10
    have c10b1 : (a0 != 9223372036854775808) = false := q3_ c10
    clear c10
    (first | rw [c10b0] | (simp only [i64_w, i32_w]; rw [c10b0]) | skip)
    have H' := A_ H
    clear H
    go_wp2
    go_meet
    case rel => exact ⟨_, (true), ((a1 == 0)), (by first | rfl | (simp; done) | (simp [*]; done)), (by first | rfl | (simp; done) | (simp [*]; done)), H', ⟨by first | omega | exact Nat.le_refl _⟩, ⟨bk_⟩, ⟨by (with_reducible repeat (first | refine bn_ ?_ _ | refine bd_ ?_ | refine ba_ ?_ _)); refine bp_ (cs := #[.int .i64 (wrap64 (a0)), .int .u64 0]) ?_ 1 _ rfl; (with_reducible repeat (first | refine bn_ ?_ _ | refine bd_ ?_ | refine ba_ ?_ _)); refine bp_ (cs := #[.int .i64 0, .int .u64 0]) ?_ 0 _ rfl; (with_reducible repeat (first | refine bn_ ?_ _ | refine bd_ ?_ | refine ba_ ?_ _)); exact BK308.out⟩, ⟨bw_⟩⟩
   ·
    rw [if_neg c10] at H
    have c10b0 : (a0 == 9223372036854775808) = false := q4_ c10
    have c10b1 : (a0 != 9223372036854775808) = true := q2_ c10
    (first | rw [c10b0] | (simp only [i64_w, i32_w]; rw [c10b0]) | skip)
    have H' := A_ H
    clear H
    go_wp2
    go_meet
    case rel => exact ⟨_, (true), (false), (by first | rfl | (simp; done) | (simp [*]; done)), (by first | rfl | (simp; done) | (simp [*]; done)), H', ⟨by first | omega | exact Nat.le_refl _⟩, ⟨bk_⟩, ⟨by (with_reducible repeat (first | refine bn_ ?_ _ | refine bd_ ?_ | refine ba_ ?_ _)); refine bp_ (cs := #[.int .i64 (wrap64 (a0)), .int .u64 0]) ?_ 1 _ rfl; (with_reducible repeat (first | refine bn_ ?_ _ | refine bd_ ?_ | refine ba_ ?_ _)); refine bp_ (cs := #[.int .i64 0, .int .u64 0]) ?_ 0 _ rfl; (with_reducible repeat (first | refine bn_ ?_ _ | refine bd_ ?_ | refine ba_ ?_ _)); exact BK308.out⟩, ⟨bw_⟩⟩
  ·
   replace c9 := Bool.eq_false_iff.mpr c9
   subst c9
   have H1 : (fixed_signed.j0 k a0 false false (wrap64 (a0)) a1) = some (r1, r2, r3) := by rw [if_neg (show ¬ (false = true) by decide)] at H; exact H
   clear H
   have H := H1
   clear H1
   have H' := A_ H
   clear H
   go_wp2
   go_meet
   case rel => exact ⟨_, (false), (false), (by first | rfl | (simp; done) | (simp [*]; done)), (by first | rfl | (simp; done) | (simp [*]; done)), H', ⟨by first | omega | exact Nat.le_refl _⟩, ⟨bk_⟩, ⟨by (with_reducible repeat (first | refine bn_ ?_ _ | refine bd_ ?_ | refine ba_ ?_ _)); refine bp_ (cs := #[.int .i64 (wrap64 (a0)), .int .u64 0]) ?_ 1 _ rfl; (with_reducible repeat (first | refine bn_ ?_ _ | refine bd_ ?_ | refine ba_ ?_ _)); refine bp_ (cs := #[.int .i64 0, .int .u64 0]) ?_ 0 _ rfl; (with_reducible repeat (first | refine bn_ ?_ _ | refine bd_ ?_ | refine ba_ ?_ _)); exact BK308.out⟩, ⟨bw_⟩⟩
 case rest =>
  clear HC4
  try clear c1
  try clear p2
  try clear p6
  try clear c7
  try clear c9
  try clear c10
  try clear c10b0
  try clear c10b1
  try clear hcz8_0
  try clear hcz8_1
  try clear hfz8_0
  try clear hfz8_1
  obtain ⟨kq, x2_3, x13_3, rfl, rfl, HA, HJ3, BK306, BK308, HB⟩ := hcut
  cases kq with
  | zero => exact absurd HA.out (by simp [fixed_signed.j0])
  | succ kj3 =>
   have H := HA.out
   clear HA
   simp only [fixed_signed.j0] at H
   by_cases c11 : x13_3 = true
   ·
    subst c11
    have H1 : (some ((wrap64 (a0)), a1, 0)) = some (r1, r2, r3) := by rw [if_pos rfl] at H; exact H
    clear H
    have H := H1
    clear H1
    simp only [Option.some.injEq, Prod.mk.injEq] at H
    obtain ⟨rfl, rfl, rfl⟩ := H
    have hnb12 := NB308_306.out
    have hnc12 := NB306_308.out
    have hcz13_0 : wc.cell? ⟨gb308, 0, none⟩ = some (.int .i64 (wrap64 (a0))) := (bc_ BK308.out 0).trans rfl
    have hcz13_1 : wc.cell? ⟨gb308, 1, none⟩ = some (.int .u64 a1) := (bc_ BK308.out 1).trans rfl
    have hfz13_0 := bf_ BK308.out 0
    have hfz13_1 := bf_ BK308.out 1
    have hcz14_0 : wc.cell? ⟨gb306, 0, none⟩ = some (.int .i64 0) := (bc_ BK306.out 0).trans rfl
    have hcz14_1 : wc.cell? ⟨gb306, 1, none⟩ = some (.int .u64 0) := (bc_ BK306.out 1).trans rfl
    have hfz14_0 := bf_ BK306.out 0
    have hfz14_1 := bf_ BK306.out 1
    go_wp2
    refine bodyPost_ret (results_ct rfl _ _ gb306 43 #[.int .i64 (wrap64 (a0)), .int .u64 a1] (0, 0) _ rfl (by (with_reducible repeat (first | refine bn_ ?_ _ | refine bd_ ?_ | refine ba_ ?_ _)); refine bp_ (cs := #[.int .i64 (wrap64 (a0)), .int .u64 0]) ?_ 1 _ rfl; (with_reducible repeat (first | refine bn_ ?_ _ | refine bd_ ?_ | refine ba_ ?_ _)); refine bp_ (cs := #[.int .i64 0, .int .u64 0]) ?_ 0 _ rfl; (with_reducible repeat (first | refine bn_ ?_ _ | refine bd_ ?_ | refine ba_ ?_ _)); exact BK306.out) Try.underlying43 rfl (by kernel_rfl)) rfl ?_
    exact ⟨by first | rfl | (simp [errW_none, errW_some] <;> rfl) | (simp [*, errW_none, errW_some] <;> rfl), bw_⟩
   ·
    replace c11 := Bool.eq_false_iff.mpr c11
    subst c11
    have H1 : (if a0 ≥ 9223372036854775808 then (some (0, 0, 4)) else (if x2_3 = true then ((fixed_turned.f (wrap64 (a0)) a1).bind fun bt135 => (some (bt135.1, bt135.2, 0))) else (some ((wrap64 (a0)), a1, 0)))) = some (r1, r2, r3) := by rw [if_neg (show ¬ (false = true) by decide)] at H; exact H
    clear H
    have H := H1
    clear H1
    by_cases c15 : a0 ≥ 9223372036854775808
    ·
     rw [if_pos c15] at H
     have c15b0 : decide (9223372036854775808 ≤ a0) = true := decide_eq_true c15
     clear c15
     simp only [Option.some.injEq, Prod.mk.injEq] at H
     obtain ⟨rfl, rfl, rfl⟩ := H
     have hnb16 := NB306_308.out
     have hnc16 := NB308_306.out
     have hcz17_0 : wc.cell? ⟨gb306, 0, none⟩ = some (.int .i64 0) := (bc_ BK306.out 0).trans rfl
     have hcz17_1 : wc.cell? ⟨gb306, 1, none⟩ = some (.int .u64 0) := (bc_ BK306.out 1).trans rfl
     have hfz17_0 := bf_ BK306.out 0
     have hfz17_1 := bf_ BK306.out 1
     go_wp2
     refine bodyPost_ret (results_ct rfl _ _ gb306 43 #[.int .i64 0, .int .u64 0] (0, 0) _ rfl (by (with_reducible repeat (first | refine bn_ ?_ _ | refine bd_ ?_ | refine ba_ ?_ _)); refine bp_ (cs := #[.int .i64 0, .int .u64 0]) ?_ 1 _ rfl; (with_reducible repeat (first | refine bn_ ?_ _ | refine bd_ ?_ | refine ba_ ?_ _)); refine bp_ (cs := #[.int .i64 0, .int .u64 0]) ?_ 0 _ rfl; (with_reducible repeat (first | refine bn_ ?_ _ | refine bd_ ?_ | refine ba_ ?_ _)); exact BK306.out) Try.underlying43 rfl (by kernel_rfl)) rfl ?_
     exact ⟨by first | rfl | (simp [errW_none, errW_some] <;> rfl) | (simp [*, errW_none, errW_some] <;> rfl), bw_⟩
    ·
     rw [if_neg c15] at H
     have c15b0 : decide (9223372036854775808 ≤ a0) = false := decide_eq_false c15
     clear c15
     by_cases c18 : x2_3 = true
     ·
      subst c18
      have H1 : ((fixed_turned.f (wrap64 (a0)) a1).bind fun bt135 => (some (bt135.1, bt135.2, 0))) = some (r1, r2, r3) := by rw [if_pos rfl] at H; exact H
      clear H
      have H := H1
      clear H1
      replace H := os_ H
      obtain ⟨⟨t135, t136⟩, A190, H⟩ := H
      replace H : (some (t135, t136, 0)) = some (r1, r2, r3) := H
      have A19 := A_ A190
      clear A190
      simp only [Option.some.injEq, Prod.mk.injEq] at H
      obtain ⟨rfl, rfl, rfl⟩ := H
      have hnb20 := NB308_306.out
      have hnc20 := NB306_308.out
      have hcz21_0 : wc.cell? ⟨gb308, 0, none⟩ = some (.int .i64 (wrap64 (a0))) := (bc_ BK308.out 0).trans rfl
      have hcz21_1 : wc.cell? ⟨gb308, 1, none⟩ = some (.int .u64 a1) := (bc_ BK308.out 1).trans rfl
      have hfz21_0 := bf_ BK308.out 0
      have hfz21_1 := bf_ BK308.out 1
      go_wp2_with (first | ((with_reducible refine gate_callee (f := 102) rfl ?_); refine goesL_ (some 31) rfl rfl Try.func102 (by kernel_rfl) rfl #[.agg #[.int .i64 (wrap64 (a0)), .int .u64 a1]] rfl (by (try simp only [List.map_toArray, List.map_cons, List.map_nil]); first | done | rfl | (simp only [List.length_drop, List.length_take]; rfl)) ?_; (with_reducible refine (fixed_turned.calls (wrap64 (a0)) a1 t135 t136 _ A19.out).mono ?_); rintro e w22 ⟨rfl, hb⟩; refine ⟨_, rfl, ?_⟩; have n0_ := A_ (kb_ BK306 hb); have n1_ := A_ (kb_ BK308 hb); have n2_ := A_ (bs_ bw_ hb); clear BK306; clear BK308; clear HB; have BK306 := n0_; have BK308 := n1_; have HB := n2_; clear n0_ n1_ n2_; (try clear hb); (try clear hb2); (try clear hk); (try clear hi); have hcz23_0 : w22.cell? ⟨gb306, 0, none⟩ = some (.int .i64 0) := (bc_ BK306.out 0).trans rfl; have hcz23_1 : w22.cell? ⟨gb306, 1, none⟩ = some (.int .u64 0) := (bc_ BK306.out 1).trans rfl; have hfz23_0 := bf_ BK306.out 0; have hfz23_1 := bf_ BK306.out 1))
      refine bodyPost_ret (results_ct rfl _ _ gb306 43 #[.int .i64 t135, .int .u64 t136] (0, 0) _ rfl (by (with_reducible repeat (first | refine bn_ ?_ _ | refine bd_ ?_ | refine ba_ ?_ _)); refine bp_ (cs := #[.int .i64 t135, .int .u64 0]) ?_ 1 _ rfl; (with_reducible repeat (first | refine bn_ ?_ _ | refine bd_ ?_ | refine ba_ ?_ _)); refine bp_ (cs := #[.int .i64 0, .int .u64 0]) ?_ 0 _ rfl; (with_reducible repeat (first | refine bn_ ?_ _ | refine bd_ ?_ | refine ba_ ?_ _)); exact BK306.out) Try.underlying43 rfl (by kernel_rfl)) rfl ?_
      exact ⟨by first | rfl | (simp [errW_none, errW_some] <;> rfl) | (simp [*, errW_none, errW_some] <;> rfl), bw_⟩
     ·
      replace c18 := Bool.eq_false_iff.mpr c18
      subst c18
      have H1 : (some ((wrap64 (a0)), a1, 0)) = some (r1, r2, r3) := by rw [if_neg (show ¬ (false = true) by decide)] at H; exact H
      clear H
      have H := H1
      clear H1
      simp only [Option.some.injEq, Prod.mk.injEq] at H
      obtain ⟨rfl, rfl, rfl⟩ := H
      have hnb24 := NB308_306.out
      have hnc24 := NB306_308.out
      have hcz25_0 : wc.cell? ⟨gb308, 0, none⟩ = some (.int .i64 (wrap64 (a0))) := (bc_ BK308.out 0).trans rfl
      have hcz25_1 : wc.cell? ⟨gb308, 1, none⟩ = some (.int .u64 a1) := (bc_ BK308.out 1).trans rfl
      have hfz25_0 := bf_ BK308.out 0
      have hfz25_1 := bf_ BK308.out 1
      have hcz26_0 : wc.cell? ⟨gb306, 0, none⟩ = some (.int .i64 0) := (bc_ BK306.out 0).trans rfl
      have hcz26_1 : wc.cell? ⟨gb306, 1, none⟩ = some (.int .u64 0) := (bc_ BK306.out 1).trans rfl
      have hfz26_0 := bf_ BK306.out 0
      have hfz26_1 := bf_ BK306.out 1
      go_wp2
      refine bodyPost_ret (results_ct rfl _ _ gb306 43 #[.int .i64 (wrap64 (a0)), .int .u64 a1] (0, 0) _ rfl (by (with_reducible repeat (first | refine bn_ ?_ _ | refine bd_ ?_ | refine ba_ ?_ _)); refine bp_ (cs := #[.int .i64 (wrap64 (a0)), .int .u64 0]) ?_ 1 _ rfl; (with_reducible repeat (first | refine bn_ ?_ _ | refine bd_ ?_ | refine ba_ ?_ _)); refine bp_ (cs := #[.int .i64 0, .int .u64 0]) ?_ 0 _ rfl; (with_reducible repeat (first | refine bn_ ?_ _ | refine bd_ ?_ | refine ba_ ?_ _)); exact BK306.out) Try.underlying43 rfl (by kernel_rfl)) rfl ?_
      exact ⟨by first | rfl | (simp [errW_none, errW_some] <;> rfl) | (simp [*, errW_none, errW_some] <;> rfl), bw_⟩
end Go.Proofs.Ythhgcjlgnafdcaa.Px
end
section
namespace Go.Proofs.Ythhgcjlgnafdcaa.Px
open Go.RowKit Go.Proofs.YthhgcjlgnafdcaaW.PrintWords Go.Proofs.YthhgcjlgnafdcaaW.PrintLast Go.Proofs.YthhgcjlgnafdcaaW.PrintMore
attribute [local go_sem] max2_int min2_int max_two min_two max_three min_three max_four min_four   -- for this text's walks alone
set_option linter.unusedVariables false
set_option linter.unusedSimpArgs false
attribute [local go_sem] run_add64_any
mutual
def fixed_Divide.j0 : Nat → Int → Int → Bool → Int → Int → Option (Int × Int × Int)
 | 0, _, _, _, _, _ => none
 | k + 1, x1, x2, x25, x304000, x304001 => if x25 = true then (some (0, 0, 1)) else ((fixed_away.f x304000 x304001).bind fun bt137 => (if x1 < 0 then (fixed_Divide.j1 k x1 x2 bt137.1 bt137.2.1 (!bt137.2.2)) else (fixed_Divide.j1 k x1 x2 bt137.1 bt137.2.1 bt137.2.2)))
def fixed_Divide.j1 : Nat → Int → Int → Int → Int → Bool → Option (Int × Int × Int)
 | 0, _, _, _, _, _ => none
 | k + 1, x1, x2, x8, x9, x10 => (fixed_size.f x1).bind fun t140 => (if t140 = 0 then (none) else ((bits_Div64.f k (Int.tmod x8 t140) x9 t140).bind fun bt141 => ((fixed_up.f x2 x10 ((Go.bits .and .u64 bt141.1 1) == 1) bt141.2 t140).bind fun t143 => (if t143 = true then ((fixed_signed.f k (IntKind.u64.wrap ((IntKind.u64.wrap (Int.tdiv x8 t140)) + (addHi bt141.1 1 0))) (addLo bt141.1 1 0) x10).bind fun bt144 => (some (bt144.1, bt144.2.1, bt144.2.2))) else ((fixed_signed.f k (IntKind.u64.wrap (Int.tdiv x8 t140)) bt141.1 x10).bind fun bt147 => (some (bt147.1, bt147.2.1, bt147.2.2)))))))
end
def fixed_Divide.f (k : Nat) (a0_0 : Int) (a0_1 : Int) (a1 : Int) (a2 : Int) : Option (Int × Int × Int) := if a1 = 0 then (fixed_Divide.j0 k a1 a2 true a0_0 a0_1) else (if a2 < 0 then (fixed_Divide.j0 k a1 a2 true a0_0 a0_1) else (fixed_Divide.j0 k a1 a2 (decide (a2 > 3)) a0_0 a0_1))
set_option maxHeartbeats 8000000 in
set_option maxRecDepth 100000 in
theorem fixed_Divide.calls (k : Nat) (a0_0 : Int) (a0_1 : Int) (a1 : Int) (a2 : Int) (r1 : Int) (r2 : Int) (r3 : Int) (w : World) (h : fixed_Divide.f k a0_0 a0_1 a1 a2 = some (r1, r2, r3)) :
  Calls Try.prog 60 #[.agg #[.int .i64 a0_0, .int .u64 a0_1], .int .i64 a1, .int .i64 a2] w fun e w' => e = .returned (.tuple #[.agg #[.int .i64 r1, .int .u64 r2], .int .i64 r3]) ∧ Below w.heap.size w w' := by
 have hu43 := Try.underlying43
 have HB := A_ (Below.refl w.heap.size w)
 have H : (if a1 = 0 then (fixed_Divide.j0 k a1 a2 true a0_0 a0_1) else (if a2 < 0 then (fixed_Divide.j0 k a1 a2 true a0_0 a0_1) else (fixed_Divide.j0 k a1 a2 (decide (a2 > 3)) a0_0 a0_1))) = some (r1, r2, r3) := h
 clear h
 have HC4 := A_ H
 clear H
 go_enter Try.func60, Try.ntmps60
 go_upto_region 1 with (first | ((with_reducible refine gate_dst (N := 3) rfl ?_); refine box_event ?hg (N := 3) ?hd (cs := #[.int .i64 a0_0, .int .u64 a0_1]) (t := 43) ?hr ?_; (case hd => rfl); (case hg => rfl); (case hr => first | (go_simp; done) | (go_simp; rfl)); intro gb303 hg w5 hbox hb; have n0_ := A_ (bs_ bw_ hb); have n1_ := A_ (hbox); have n2_ := A_ ((by rw [hg]; exact (bz_ bw_) : w.heap.size ≤ gb303)); have n3_ := A_ ((by rw [hg]; exact (bz_ bw_) : w.heap.size ≤ gb303)); clear HB; have HB := n0_; have BK303 := n1_; have GW303 := n2_; have GE303 := n3_; clear n0_ n1_ n2_ n3_; clear hb hbox hg) | ((with_reducible refine gate_dst (N := 6) rfl ?_); refine box_event ?hg (N := 6) ?hd (cs := #[.int .i64 0, .int .u64 0]) (t := 43) ?hr ?_; (case hd => rfl); (case hg => rfl); (case hr => first | (go_simp; done) | (go_simp; rfl)); intro gb306 hg w6 hbox hb; have n0_ := A_ (kb_ BK303 hb); have n1_ := A_ (bs_ bw_ hb); have n2_ := A_ (hbox); have n3_ := A_ ((by rw [hg]; exact (bz_ bw_) : w.heap.size ≤ gb306)); have n4_ := A_ ((by rw [hg]; exact (bz_ bw_) : w.heap.size ≤ gb306)); have n5_ := A_ ((by rw [hg]; exact nl_ (lt_ BK303) : gb303 ≠ gb306)); have n6_ := A_ ((by rw [hg]; exact ng_ (lt_ BK303) : gb306 ≠ gb303)); clear BK303; clear HB; have BK303 := n0_; have HB := n1_; have BK306 := n2_; have GW306 := n3_; have GE306 := n4_; have NB303_306 := n5_; have NB306_303 := n6_; clear n0_ n1_ n2_ n3_ n4_ n5_ n6_; clear hb hbox hg))
 repeat (go_quiet (first | ((with_reducible refine gate_dst (N := 3) rfl ?_); refine box_event ?hg (N := 3) ?hd (cs := #[.int .i64 a0_0, .int .u64 a0_1]) (t := 43) ?hr ?_; (case hd => rfl); (case hg => rfl); (case hr => first | (go_simp; done) | (go_simp; rfl)); intro gb303 hg w5 hbox hb; have n0_ := A_ (bs_ bw_ hb); have n1_ := A_ (hbox); have n2_ := A_ ((by rw [hg]; exact (bz_ bw_) : w.heap.size ≤ gb303)); have n3_ := A_ ((by rw [hg]; exact (bz_ bw_) : w.heap.size ≤ gb303)); clear HB; have HB := n0_; have BK303 := n1_; have GW303 := n2_; have GE303 := n3_; clear n0_ n1_ n2_ n3_; clear hb hbox hg) | ((with_reducible refine gate_dst (N := 6) rfl ?_); refine box_event ?hg (N := 6) ?hd (cs := #[.int .i64 0, .int .u64 0]) (t := 43) ?hr ?_; (case hd => rfl); (case hg => rfl); (case hr => first | (go_simp; done) | (go_simp; rfl)); intro gb306 hg w6 hbox hb; have n0_ := A_ (kb_ BK303 hb); have n1_ := A_ (bs_ bw_ hb); have n2_ := A_ (hbox); have n3_ := A_ ((by rw [hg]; exact (bz_ bw_) : w.heap.size ≤ gb306)); have n4_ := A_ ((by rw [hg]; exact (bz_ bw_) : w.heap.size ≤ gb306)); have n5_ := A_ ((by rw [hg]; exact nl_ (lt_ BK303) : gb303 ≠ gb306)); have n6_ := A_ ((by rw [hg]; exact ng_ (lt_ BK303) : gb306 ≠ gb303)); clear BK303; clear HB; have BK303 := n0_; have HB := n1_; have BK306 := n2_; have GW306 := n3_; have GE306 := n4_; have NB303_306 := n5_; have NB306_303 := n6_; clear n0_ n1_ n2_ n3_ n4_ n5_ n6_; clear hb hbox hg)); go_upto_region 1 with (first | ((with_reducible refine gate_dst (N := 3) rfl ?_); refine box_event ?hg (N := 3) ?hd (cs := #[.int .i64 a0_0, .int .u64 a0_1]) (t := 43) ?hr ?_; (case hd => rfl); (case hg => rfl); (case hr => first | (go_simp; done) | (go_simp; rfl)); intro gb303 hg w5 hbox hb; have n0_ := A_ (bs_ bw_ hb); have n1_ := A_ (hbox); have n2_ := A_ ((by rw [hg]; exact (bz_ bw_) : w.heap.size ≤ gb303)); have n3_ := A_ ((by rw [hg]; exact (bz_ bw_) : w.heap.size ≤ gb303)); clear HB; have HB := n0_; have BK303 := n1_; have GW303 := n2_; have GE303 := n3_; clear n0_ n1_ n2_ n3_; clear hb hbox hg) | ((with_reducible refine gate_dst (N := 6) rfl ?_); refine box_event ?hg (N := 6) ?hd (cs := #[.int .i64 0, .int .u64 0]) (t := 43) ?hr ?_; (case hd => rfl); (case hg => rfl); (case hr => first | (go_simp; done) | (go_simp; rfl)); intro gb306 hg w6 hbox hb; have n0_ := A_ (kb_ BK303 hb); have n1_ := A_ (bs_ bw_ hb); have n2_ := A_ (hbox); have n3_ := A_ ((by rw [hg]; exact (bz_ bw_) : w.heap.size ≤ gb306)); have n4_ := A_ ((by rw [hg]; exact (bz_ bw_) : w.heap.size ≤ gb306)); have n5_ := A_ ((by rw [hg]; exact nl_ (lt_ BK303) : gb303 ≠ gb306)); have n6_ := A_ ((by rw [hg]; exact ng_ (lt_ BK303) : gb306 ≠ gb303)); clear BK303; clear HB; have BK303 := n0_; have HB := n1_; have BK306 := n2_; have GW306 := n3_; have GE306 := n4_; have NB303_306 := n5_; have NB306_303 := n6_; clear n0_ n1_ n2_ n3_ n4_ n5_ n6_; clear hb hbox hg)))
 (try simp only [Act.put, sA_, sZ_, sS_])
 go_cut [25] (fun v25 wc => ∃ (kq : Nat) (x25_3 : Bool), v25 = .bool x25_3 ∧ Aside0 (fixed_Divide.j0 kq a1 a2 x25_3 a0_0 a0_1 = some (r1, r2, r3)) ∧ Aside0 (kq ≤ k) ∧ Aside0 (wc.heap[gb303]? = some (.cells #[.int .i64 a0_0, .int .u64 a0_1] 43 (0, 0))) ∧ Aside0 (wc.heap[gb306]? = some (.cells #[.int .i64 0, .int .u64 0] 43 (0, 0))) ∧ Aside0 (Below w.heap.size w wc))
 case first =>
  have H := HC4.out
  clear HC4
  by_cases c7 : a1 = 0
  ·
   rw [if_pos c7] at H
   have c7b0 : (a1 == 0) = true := q1_ c7
   have c7b1 : (a1 != 0) = false := q3_ c7
   clear c7
   (first | rw [c7b0] | (simp only [i64_w, i32_w]; rw [c7b0]) | skip)
   have H' := A_ H
   clear H
   go_wp2
   repeat (go_quiet (fail); try go_wp2)
   go_meet
   case rel => exact ⟨_, (true), (by first | rfl | (simp; done) | (simp [*]; done)), H', ⟨by first | omega | exact Nat.le_refl _⟩, ⟨bk_⟩, ⟨bk_⟩, ⟨bw_⟩⟩
  ·
   rw [if_neg c7] at H
   have c7b0 : (a1 == 0) = false := q4_ c7
   have c7b1 : (a1 != 0) = true := q2_ c7
   (first | rw [c7b0] | (simp only [i64_w, i32_w]; rw [c7b0]) | skip)
   by_cases c8 : a2 < 0
   ·
    rw [if_pos c8] at H
    have c8b0 : decide (a2 < 0) = true := decide_eq_true c8
    clear c8
    have H' := A_ H
    clear H
    go_wp2
    repeat (go_quiet (fail); try go_wp2)
    go_meet
    case rel => exact ⟨_, (true), (by first | rfl | (simp; done) | (simp [*]; done)), H', ⟨by first | omega | exact Nat.le_refl _⟩, ⟨bk_⟩, ⟨bk_⟩, ⟨bw_⟩⟩
   ·
    rw [if_neg c8] at H
    have c8b0 : decide (a2 < 0) = false := decide_eq_false c8
    clear c8
    have H' := A_ H
    clear H
    go_wp2
    repeat (go_quiet (fail); try go_wp2)
    go_meet
    case rel => exact ⟨_, (decide (a2 > 3)), (by first | rfl | (simp; done) | (simp [*]; done)), H', ⟨by first | omega | exact Nat.le_refl _⟩, ⟨bk_⟩, ⟨bk_⟩, ⟨bw_⟩⟩
 case rest =>
  clear HC4
  try clear p2
  try clear c6
  try clear c7
  try clear c7b0
  try clear c7b1
  try clear c8
  try clear c8b0
  obtain ⟨kq, x25_3, rfl, HA, HJ3, BK303, BK306, HB⟩ := hcut
  cases kq with
  | zero => exact absurd HA.out (by simp [fixed_Divide.j0])
  | succ kj3 =>
   have H := HA.out
   clear HA
   simp only [fixed_Divide.j0] at H
   by_cases c9 : x25_3 = true
   ·
    subst c9
    have H1 : (some (0, 0, 1)) = some (r1, r2, r3) := by rw [if_pos rfl] at H; exact H
    clear H
    have H := H1
    clear H1
    simp only [Option.some.injEq, Prod.mk.injEq] at H
    obtain ⟨rfl, rfl, rfl⟩ := H
    have hnb10 := NB306_303.out
    have hnc10 := NB303_306.out
    have hcz11_0 : wc.cell? ⟨gb306, 0, none⟩ = some (.int .i64 0) := (bc_ BK306.out 0).trans rfl
    have hcz11_1 : wc.cell? ⟨gb306, 1, none⟩ = some (.int .u64 0) := (bc_ BK306.out 1).trans rfl
    have hfz11_0 := bf_ BK306.out 0
    have hfz11_1 := bf_ BK306.out 1
    go_wp2
    repeat (go_quiet (fail); try go_wp2)
    refine bodyPost_ret (results_ct rfl _ _ gb306 43 #[.int .i64 0, .int .u64 0] (0, 0) _ rfl (by (with_reducible repeat (first | refine bn_ ?_ _ | refine bd_ ?_ | refine ba_ ?_ _)); refine bp_ (cs := #[.int .i64 0, .int .u64 0]) ?_ 1 _ rfl; (with_reducible repeat (first | refine bn_ ?_ _ | refine bd_ ?_ | refine ba_ ?_ _)); refine bp_ (cs := #[.int .i64 0, .int .u64 0]) ?_ 0 _ rfl; (with_reducible repeat (first | refine bn_ ?_ _ | refine bd_ ?_ | refine ba_ ?_ _)); exact BK306.out) Try.underlying43 rfl (by kernel_rfl)) rfl ?_
    exact ⟨by first | rfl | (simp [errW_none, errW_some] <;> rfl) | (simp [*, errW_none, errW_some] <;> rfl), bw_⟩
   ·
    replace c9 := Bool.eq_false_iff.mpr c9
    subst c9
    have H1 : ((fixed_away.f a0_0 a0_1).bind fun bt137 => (if a1 < 0 then (fixed_Divide.j1 kj3 a1 a2 bt137.1 bt137.2.1 (!bt137.2.2)) else (fixed_Divide.j1 kj3 a1 a2 bt137.1 bt137.2.1 bt137.2.2))) = some (r1, r2, r3) := by rw [if_neg (show ¬ (false = true) by decide)] at H; exact H
    clear H
    have H := H1
    clear H1
    replace H := os_ H
    obtain ⟨⟨t137, t138, t139⟩, A120, H⟩ := H
    replace H : (if a1 < 0 then (fixed_Divide.j1 kj3 a1 a2 t137 t138 (!t139)) else (fixed_Divide.j1 kj3 a1 a2 t137 t138 t139)) = some (r1, r2, r3) := H
    have A12 := A_ A120
    clear A120
    have HC13 := A_ H
    clear H
    have hnb14 := NB303_306.out
    have hnc14 := NB306_303.out
    have hcz15_0 : wc.cell? ⟨gb303, 0, none⟩ = some (.int .i64 a0_0) := (bc_ BK303.out 0).trans rfl
    have hcz15_1 : wc.cell? ⟨gb303, 1, none⟩ = some (.int .u64 a0_1) := (bc_ BK303.out 1).trans rfl
    have hfz15_0 := bf_ BK303.out 0
    have hfz15_1 := bf_ BK303.out 1
    go_upto_if 34 with (first | (go_at_call 95; (with_reducible refine (fixed_away.calls a0_0 a0_1 t137 t138 t139 _ A12.out).mono ?_); rintro e w16 ⟨rfl, hb⟩; have n0_ := A_ (kb_ BK303 hb); have n1_ := A_ (kb_ BK306 hb); have n2_ := A_ (bs_ bw_ hb); clear BK303; clear BK306; clear HB; have BK303 := n0_; have BK306 := n1_; have HB := n2_; clear n0_ n1_ n2_; (try clear hb); (try clear hb2); (try clear hk); (try clear hi)))
    repeat (go_quiet (first | (go_at_call 95; (with_reducible refine (fixed_away.calls a0_0 a0_1 t137 t138 t139 _ A12.out).mono ?_); rintro e w16 ⟨rfl, hb⟩; have n0_ := A_ (kb_ BK303 hb); have n1_ := A_ (kb_ BK306 hb); have n2_ := A_ (bs_ bw_ hb); clear BK303; clear BK306; clear HB; have BK303 := n0_; have BK306 := n1_; have HB := n2_; clear n0_ n1_ n2_; (try clear hb); (try clear hb2); (try clear hk); (try clear hi))); go_upto_if 34 with (first | (go_at_call 95; (with_reducible refine (fixed_away.calls a0_0 a0_1 t137 t138 t139 _ A12.out).mono ?_); rintro e w16 ⟨rfl, hb⟩; have n0_ := A_ (kb_ BK303 hb); have n1_ := A_ (kb_ BK306 hb); have n2_ := A_ (bs_ bw_ hb); clear BK303; clear BK306; clear HB; have BK303 := n0_; have BK306 := n1_; have HB := n2_; clear n0_ n1_ n2_; (try clear hb); (try clear hb2); (try clear hk); (try clear hi))))
    (try simp only [Act.put, sA_, sZ_, sS_])
    go_cut [10] (fun v10 wc => ∃ (kq : Nat) (x10_12 : Bool), v10 = .bool x10_12 ∧ Aside0 (fixed_Divide.j1 kq a1 a2 t137 t138 x10_12 = some (r1, r2, r3)) ∧ Aside0 (kq ≤ kj3) ∧ Aside0 (wc.heap[gb303]? = some (.cells #[.int .i64 a0_0, .int .u64 a0_1] 43 (0, 0))) ∧ Aside0 (wc.heap[gb306]? = some (.cells #[.int .i64 0, .int .u64 0] 43 (0, 0))) ∧ Aside0 (Below w.heap.size w wc))
    case first =>
     have H := HC13.out
     clear HC13
     by_cases c17 : a1 < 0
     ·
      rw [if_pos c17] at H
      have c17b0 : decide (a1 < 0) = true := decide_eq_true c17
      clear c17
      (first | rw [c17b0] | (simp only [i64_w, i32_w]; rw [c17b0]) | skip)
      have H' := A_ H
      clear H
      go_wp2
      repeat (go_quiet (fail); try go_wp2)
      go_meet
      case rel => exact ⟨_, (!t139), (by first | rfl | (simp; done) | (simp [*]; done)), H', ⟨by have := HJ3.out; first | omega | exact Nat.le_refl _⟩, ⟨bk_⟩, ⟨bk_⟩, ⟨bw_⟩⟩
     ·
      rw [if_neg c17] at H
      have c17b0 : decide (a1 < 0) = false := decide_eq_false c17
      clear c17
      (first | rw [c17b0] | (simp only [i64_w, i32_w]; rw [c17b0]) | skip)
      have H' := A_ H
      clear H
      go_wp2
      repeat (go_quiet (fail); try go_wp2)
      go_meet
      case rel => exact ⟨_, (t139), (by first | rfl | (simp; done) | (simp [*]; done)), H', ⟨by have := HJ3.out; first | omega | exact Nat.le_refl _⟩, ⟨bk_⟩, ⟨bk_⟩, ⟨bw_⟩⟩
    case rest =>
     clear HC13
     try clear c1
     try clear p2
     try clear c6
     try clear c7
     try clear c7b0
     try clear c7b1
     try clear c8
     try clear c8b0
     try clear c9
     try clear c10
     try clear c14
     try clear c17
     try clear c17b0
     try clear hcz11_0
     try clear hcz11_1
     try clear hcz15_0
     try clear hcz15_1
     try clear hfz11_0
     try clear hfz11_1
     try clear hfz15_0
     try clear hfz15_1
     try clear p2
     obtain ⟨kq, x10_12, rfl, HA, HJ12, BK303, BK306, HB⟩ := hcut
     cases kq with
     | zero => exact absurd HA.out (by simp [fixed_Divide.j1])
     | succ kj12 =>
      have H := HA.out
      clear HA
      simp only [fixed_Divide.j1] at H
      replace H := os_ H
      obtain ⟨t140, A180, H⟩ := H
      replace H : (if t140 = 0 then (none) else ((bits_Div64.f kj12 (Int.tmod t137 t140) t138 t140).bind fun bt141 => ((fixed_up.f a2 x10_12 ((Go.bits .and .u64 bt141.1 1) == 1) bt141.2 t140).bind fun t143 => (if t143 = true then ((fixed_signed.f kj12 (IntKind.u64.wrap ((IntKind.u64.wrap (Int.tdiv t137 t140)) + (addHi bt141.1 1 0))) (addLo bt141.1 1 0) x10_12).bind fun bt144 => (some (bt144.1, bt144.2.1, bt144.2.2))) else ((fixed_signed.f kj12 (IntKind.u64.wrap (Int.tdiv t137 t140)) bt141.1 x10_12).bind fun bt147 => (some (bt147.1, bt147.2.1, bt147.2.2))))))) = some (r1, r2, r3) := H
      have A18 := A_ A180
      clear A180
      by_cases c19 : t140 = 0
      ·
       rw [if_pos c19] at H
       exact absurd H (by simp)
      ·
       rw [if_neg c19] at H
       have c19b0 : (t140 == 0) = false := q4_ c19
       have c19b1 : (t140 != 0) = true := q2_ c19
       replace H := os_ H
       obtain ⟨⟨t141, t142⟩, A200, H⟩ := H
       replace H : ((fixed_up.f a2 x10_12 ((Go.bits .and .u64 t141 1) == 1) t142 t140).bind fun t143 => (if t143 = true then ((fixed_signed.f kj12 (IntKind.u64.wrap ((IntKind.u64.wrap (Int.tdiv t137 t140)) + (addHi t141 1 0))) (addLo t141 1 0) x10_12).bind fun bt144 => (some (bt144.1, bt144.2.1, bt144.2.2))) else ((fixed_signed.f kj12 (IntKind.u64.wrap (Int.tdiv t137 t140)) t141 x10_12).bind fun bt147 => (some (bt147.1, bt147.2.1, bt147.2.2))))) = some (r1, r2, r3) := H
       have A20 := A_ A200
       clear A200
       replace H := os_ H
       obtain ⟨t143, A210, H⟩ := H
       replace H : (if t143 = true then ((fixed_signed.f kj12 (IntKind.u64.wrap ((IntKind.u64.wrap (Int.tdiv t137 t140)) + (addHi t141 1 0))) (addLo t141 1 0) x10_12).bind fun bt144 => (some (bt144.1, bt144.2.1, bt144.2.2))) else ((fixed_signed.f kj12 (IntKind.u64.wrap (Int.tdiv t137 t140)) t141 x10_12).bind fun bt147 => (some (bt147.1, bt147.2.1, bt147.2.2)))) = some (r1, r2, r3) := H
       have A21 := A_ A210
       clear A210
       by_cases c22 : t143 = true
       ·
        subst c22
        have H1 : ((fixed_signed.f kj12 (IntKind.u64.wrap ((IntKind.u64.wrap (Int.tdiv t137 t140)) + (addHi t141 1 0))) (addLo t141 1 0) x10_12).bind fun bt144 => (some (bt144.1, bt144.2.1, bt144.2.2))) = some (r1, r2, r3) := by rw [if_pos rfl] at H; exact H
        clear H
        have H := H1
        clear H1
        replace H := os_ H
        obtain ⟨⟨t144, t145, t146⟩, A230, H⟩ := H
        replace H : (some (t144, t145, t146)) = some (r1, r2, r3) := H
        have A23 := A_ A230
        clear A230
        simp only [Option.some.injEq, Prod.mk.injEq] at H
        obtain ⟨rfl, rfl, rfl⟩ := H
        go_wp2_with (first | (go_at_call 96; (with_reducible refine (fixed_size.calls a1 t140 _ A18.out).mono ?_); rintro e w' ⟨rfl, ⟨nd, rfl⟩⟩; (try first | exact ⟨rfl, _, dd_ _ _ _⟩ | exact ⟨rfl, _, Eq.trans (dd_ _ _ _) (congrArg (World.drewN _) (Nat.add_assoc _ _ _))⟩)) | (go_at_call 97; (with_reducible refine (bits_Div64.calls kj12 (Int.tmod t137 t140) t138 t140 t141 t142 _ A20.out).mono ?_); rintro e w' ⟨rfl, ⟨nd, rfl⟩⟩; (try first | exact ⟨rfl, _, dd_ _ _ _⟩ | exact ⟨rfl, _, Eq.trans (dd_ _ _ _) (congrArg (World.drewN _) (Nat.add_assoc _ _ _))⟩)) | (go_at_call 98; (with_reducible refine (fixed_up.calls a2 x10_12 ((Go.bits .and .u64 t141 1) == 1) t142 t140 true _ A21.out).mono ?_); rintro e w' ⟨rfl, ⟨nd, rfl⟩⟩; (try first | exact ⟨rfl, _, dd_ _ _ _⟩ | exact ⟨rfl, _, Eq.trans (dd_ _ _ _) (congrArg (World.drewN _) (Nat.add_assoc _ _ _))⟩)) | (go_at_call 100; (with_reducible refine (fixed_signed.calls kj12 (IntKind.u64.wrap ((IntKind.u64.wrap (Int.tdiv t137 t140)) + (addHi t141 1 0))) (addLo t141 1 0) x10_12 t144 t145 t146 _ A23.out).mono ?_); rintro e w24 ⟨rfl, hb⟩; have n0_ := A_ (kb_ BK303 hb); have n1_ := A_ (kb_ BK306 hb); have n2_ := A_ (bs_ bw_ hb); clear BK303; clear BK306; clear HB; have BK303 := n0_; have BK306 := n1_; have HB := n2_; clear n0_ n1_ n2_; (try clear hb); (try clear hb2); (try clear hk); (try clear hi); have hnb25 := NB306_303.out; have hnc25 := NB303_306.out; have hcz26_0 : w24.cell? ⟨gb306, 0, none⟩ = some (.int .i64 0) := (bc_ BK306.out 0).trans rfl; have hcz26_1 : w24.cell? ⟨gb306, 1, none⟩ = some (.int .u64 0) := (bc_ BK306.out 1).trans rfl; have hfz26_0 := bf_ BK306.out 0; have hfz26_1 := bf_ BK306.out 1))
        repeat (go_quiet (first | (go_at_call 96; (with_reducible refine (fixed_size.calls a1 t140 _ A18.out).mono ?_); rintro e w' ⟨rfl, ⟨nd, rfl⟩⟩; (try first | exact ⟨rfl, _, dd_ _ _ _⟩ | exact ⟨rfl, _, Eq.trans (dd_ _ _ _) (congrArg (World.drewN _) (Nat.add_assoc _ _ _))⟩)) | (go_at_call 97; (with_reducible refine (bits_Div64.calls kj12 (Int.tmod t137 t140) t138 t140 t141 t142 _ A20.out).mono ?_); rintro e w' ⟨rfl, ⟨nd, rfl⟩⟩; (try first | exact ⟨rfl, _, dd_ _ _ _⟩ | exact ⟨rfl, _, Eq.trans (dd_ _ _ _) (congrArg (World.drewN _) (Nat.add_assoc _ _ _))⟩)) | (go_at_call 98; (with_reducible refine (fixed_up.calls a2 x10_12 ((Go.bits .and .u64 t141 1) == 1) t142 t140 true _ A21.out).mono ?_); rintro e w' ⟨rfl, ⟨nd, rfl⟩⟩; (try first | exact ⟨rfl, _, dd_ _ _ _⟩ | exact ⟨rfl, _, Eq.trans (dd_ _ _ _) (congrArg (World.drewN _) (Nat.add_assoc _ _ _))⟩)) | (go_at_call 100; (with_reducible refine (fixed_signed.calls kj12 (IntKind.u64.wrap ((IntKind.u64.wrap (Int.tdiv t137 t140)) + (addHi t141 1 0))) (addLo t141 1 0) x10_12 t144 t145 t146 _ A23.out).mono ?_); rintro e w24 ⟨rfl, hb⟩; have n0_ := A_ (kb_ BK303 hb); have n1_ := A_ (kb_ BK306 hb); have n2_ := A_ (bs_ bw_ hb); clear BK303; clear BK306; clear HB; have BK303 := n0_; have BK306 := n1_; have HB := n2_; clear n0_ n1_ n2_; (try clear hb); (try clear hb2); (try clear hk); (try clear hi); have hnb25 := NB306_303.out; have hnc25 := NB303_306.out; have hcz26_0 : w24.cell? ⟨gb306, 0, none⟩ = some (.int .i64 0) := (bc_ BK306.out 0).trans rfl; have hcz26_1 : w24.cell? ⟨gb306, 1, none⟩ = some (.int .u64 0) := (bc_ BK306.out 1).trans rfl; have hfz26_0 := bf_ BK306.out 0; have hfz26_1 := bf_ BK306.out 1)); try go_wp2_with (first | (go_at_call 96; (with_reducible refine (fixed_size.calls a1 t140 _ A18.out).mono ?_); rintro e w' ⟨rfl, ⟨nd, rfl⟩⟩; (try first | exact ⟨rfl, _, dd_ _ _ _⟩ | exact ⟨rfl, _, Eq.trans (dd_ _ _ _) (congrArg (World.drewN _) (Nat.add_assoc _ _ _))⟩)) | (go_at_call 97; (with_reducible refine (bits_Div64.calls kj12 (Int.tmod t137 t140) t138 t140 t141 t142 _ A20.out).mono ?_); rintro e w' ⟨rfl, ⟨nd, rfl⟩⟩; (try first | exact ⟨rfl, _, dd_ _ _ _⟩ | exact ⟨rfl, _, Eq.trans (dd_ _ _ _) (congrArg (World.drewN _) (Nat.add_assoc _ _ _))⟩)) | (go_at_call 98; (with_reducible refine (fixed_up.calls a2 x10_12 ((Go.bits .and .u64 t141 1) == 1) t142 t140 true _ A21.out).mono ?_); rintro e w' ⟨rfl, ⟨nd, rfl⟩⟩; (try first | exact ⟨rfl, _, dd_ _ _ _⟩ | exact ⟨rfl, _, Eq.trans (dd_ _ _ _) (congrArg (World.drewN _) (Nat.add_assoc _ _ _))⟩)) | (go_at_call 100; (with_reducible refine (fixed_signed.calls kj12 (IntKind.u64.wrap ((IntKind.u64.wrap (Int.tdiv t137 t140)) + (addHi t141 1 0))) (addLo t141 1 0) x10_12 t144 t145 t146 _ A23.out).mono ?_); rintro e w24 ⟨rfl, hb⟩; have n0_ := A_ (kb_ BK303 hb); have n1_ := A_ (kb_ BK306 hb); have n2_ := A_ (bs_ bw_ hb); clear BK303; clear BK306; clear HB; have BK303 := n0_; have BK306 := n1_; have HB := n2_; clear n0_ n1_ n2_; (try clear hb); (try clear hb2); (try clear hk); (try clear hi); have hnb25 := NB306_303.out; have hnc25 := NB303_306.out; have hcz26_0 : w24.cell? ⟨gb306, 0, none⟩ = some (.int .i64 0) := (bc_ BK306.out 0).trans rfl; have hcz26_1 : w24.cell? ⟨gb306, 1, none⟩ = some (.int .u64 0) := (bc_ BK306.out 1).trans rfl; have hfz26_0 := bf_ BK306.out 0; have hfz26_1 := bf_ BK306.out 1)))
        refine bodyPost_ret (results_ct rfl _ _ gb306 43 #[.int .i64 t144, .int .u64 t145] (0, 0) _ rfl (by (with_reducible repeat (first | refine bn_ ?_ _ | refine bd_ ?_ | refine ba_ ?_ _)); refine bp_ (cs := #[.int .i64 t144, .int .u64 0]) ?_ 1 _ rfl; (with_reducible repeat (first | refine bn_ ?_ _ | refine bd_ ?_ | refine ba_ ?_ _)); refine bp_ (cs := #[.int .i64 0, .int .u64 0]) ?_ 0 _ rfl; (with_reducible repeat (first | refine bn_ ?_ _ | refine bd_ ?_ | refine ba_ ?_ _)); exact BK306.out) Try.underlying43 rfl (by kernel_rfl)) rfl ?_
        exact ⟨by first | rfl | (simp [errW_none, errW_some] <;> rfl) | (simp [*, errW_none, errW_some] <;> rfl), bw_⟩
       ·
        replace c22 := Bool.eq_false_iff.mpr c22
        subst c22
        have H1 : ((fixed_signed.f kj12 (IntKind.u64.wrap (Int.tdiv t137 t140)) t141 x10_12).bind fun bt147 => (some (bt147.1, bt147.2.1, bt147.2.2))) = some (r1, r2, r3) := by rw [if_neg (show ¬ (false = true) by decide)] at H; exact H
        clear H
        have H := H1
        clear H1
        replace H := os_ H
        obtain ⟨⟨t147, t148, t149⟩, A270, H⟩ := H
        replace H : (some (t147, t148, t149)) = some (r1, r2, r3) := H
        have A27 := A_ A270
        clear A270
        simp only [Option.some.injEq, Prod.mk.injEq] at H
        obtain ⟨rfl, rfl, rfl⟩ := H
        go_wp2_with (first | (go_at_call 96; (with_reducible refine (fixed_size.calls a1 t140 _ A18.out).mono ?_); rintro e w' ⟨rfl, ⟨nd, rfl⟩⟩; (try first | exact ⟨rfl, _, dd_ _ _ _⟩ | exact ⟨rfl, _, Eq.trans (dd_ _ _ _) (congrArg (World.drewN _) (Nat.add_assoc _ _ _))⟩)) | (go_at_call 97; (with_reducible refine (bits_Div64.calls kj12 (Int.tmod t137 t140) t138 t140 t141 t142 _ A20.out).mono ?_); rintro e w' ⟨rfl, ⟨nd, rfl⟩⟩; (try first | exact ⟨rfl, _, dd_ _ _ _⟩ | exact ⟨rfl, _, Eq.trans (dd_ _ _ _) (congrArg (World.drewN _) (Nat.add_assoc _ _ _))⟩)) | (go_at_call 98; (with_reducible refine (fixed_up.calls a2 x10_12 ((Go.bits .and .u64 t141 1) == 1) t142 t140 false _ A21.out).mono ?_); rintro e w' ⟨rfl, ⟨nd, rfl⟩⟩; (try first | exact ⟨rfl, _, dd_ _ _ _⟩ | exact ⟨rfl, _, Eq.trans (dd_ _ _ _) (congrArg (World.drewN _) (Nat.add_assoc _ _ _))⟩)) | (go_at_call 100; (with_reducible refine (fixed_signed.calls kj12 (IntKind.u64.wrap (Int.tdiv t137 t140)) t141 x10_12 t147 t148 t149 _ A27.out).mono ?_); rintro e w28 ⟨rfl, hb⟩; have n0_ := A_ (kb_ BK303 hb); have n1_ := A_ (kb_ BK306 hb); have n2_ := A_ (bs_ bw_ hb); clear BK303; clear BK306; clear HB; have BK303 := n0_; have BK306 := n1_; have HB := n2_; clear n0_ n1_ n2_; (try clear hb); (try clear hb2); (try clear hk); (try clear hi); have hnb29 := NB306_303.out; have hnc29 := NB303_306.out; have hcz30_0 : w28.cell? ⟨gb306, 0, none⟩ = some (.int .i64 0) := (bc_ BK306.out 0).trans rfl; have hcz30_1 : w28.cell? ⟨gb306, 1, none⟩ = some (.int .u64 0) := (bc_ BK306.out 1).trans rfl; have hfz30_0 := bf_ BK306.out 0; have hfz30_1 := bf_ BK306.out 1))
        repeat (go_quiet (first | (go_at_call 96; (with_reducible refine (fixed_size.calls a1 t140 _ A18.out).mono ?_); rintro e w' ⟨rfl, ⟨nd, rfl⟩⟩; (try first | exact ⟨rfl, _, dd_ _ _ _⟩ | exact ⟨rfl, _, Eq.trans (dd_ _ _ _) (congrArg (World.drewN _) (Nat.add_assoc _ _ _))⟩)) | (go_at_call 97; (with_reducible refine (bits_Div64.calls kj12 (Int.tmod t137 t140) t138 t140 t141 t142 _ A20.out).mono ?_); rintro e w' ⟨rfl, ⟨nd, rfl⟩⟩; (try first | exact ⟨rfl, _, dd_ _ _ _⟩ | exact ⟨rfl, _, Eq.trans (dd_ _ _ _) (congrArg (World.drewN _) (Nat.add_assoc _ _ _))⟩)) | (go_at_call 98; (with_reducible refine (fixed_up.calls a2 x10_12 ((Go.bits .and .u64 t141 1) == 1) t142 t140 false _ A21.out).mono ?_); rintro e w' ⟨rfl, ⟨nd, rfl⟩⟩; (try first | exact ⟨rfl, _, dd_ _ _ _⟩ | exact ⟨rfl, _, Eq.trans (dd_ _ _ _) (congrArg (World.drewN _) (Nat.add_assoc _ _ _))⟩)) | (go_at_call 100; (with_reducible refine (fixed_signed.calls kj12 (IntKind.u64.wrap (Int.tdiv t137 t140)) t141 x10_12 t147 t148 t149 _ A27.out).mono ?_); rintro e w28 ⟨rfl, hb⟩; have n0_ := A_ (kb_ BK303 hb); have n1_ := A_ (kb_ BK306 hb); have n2_ := A_ (bs_ bw_ hb); clear BK303; clear BK306; clear HB; have BK303 := n0_; have BK306 := n1_; have HB := n2_; clear n0_ n1_ n2_; (try clear hb); (try clear hb2); (try clear hk); (try clear hi); have hnb29 := NB306_303.out; have hnc29 := NB303_306.out; have hcz30_0 : w28.cell? ⟨gb306, 0, none⟩ = some (.int .i64 0) := (bc_ BK306.out 0).trans rfl; have hcz30_1 : w28.cell? ⟨gb306, 1, none⟩ = some (.int .u64 0) := (bc_ BK306.out 1).trans rfl; have hfz30_0 := bf_ BK306.out 0; have hfz30_1 := bf_ BK306.out 1)); try go_wp2_with (first | (go_at_call 96; (with_reducible refine (fixed_size.calls a1 t140 _ A18.out).mono ?_); rintro e w' ⟨rfl, ⟨nd, rfl⟩⟩; (try first | exact ⟨rfl, _, dd_ _ _ _⟩ | exact ⟨rfl, _, Eq.trans (dd_ _ _ _) (congrArg (World.drewN _) (Nat.add_assoc _ _ _))⟩)) | (go_at_call 97; (with_reducible refine (bits_Div64.calls kj12 (Int.tmod t137 t140) t138 t140 t141 t142 _ A20.out).mono ?_); rintro e w' ⟨rfl, ⟨nd, rfl⟩⟩; (try first | exact ⟨rfl, _, dd_ _ _ _⟩ | exact ⟨rfl, _, Eq.trans (dd_ _ _ _) (congrArg (World.drewN _) (Nat.add_assoc _ _ _))⟩)) | (go_at_call 98; (with_reducible refine (fixed_up.calls a2 x10_12 ((Go.bits .and .u64 t141 1) == 1) t142 t140 false _ A21.out).mono ?_); rintro e w' ⟨rfl, ⟨nd, rfl⟩⟩; (try first | exact ⟨rfl, _, dd_ _ _ _⟩ | exact ⟨rfl, _, Eq.trans (dd_ _ _ _) (congrArg (World.drewN _) (Nat.add_assoc _ _ _))⟩)) | (go_at_call 100; (with_reducible refine (fixed_signed.calls kj12 (IntKind.u64.wrap (Int.tdiv t137 t140)) t141 x10_12 t147 t148 t149 _ A27.out).mono ?_); rintro e w28 ⟨rfl, hb⟩; have n0_ := A_ (kb_ BK303 hb); have n1_ := A_ (kb_ BK306 hb); have n2_ := A_ (bs_ bw_ hb); clear BK303; clear BK306; clear HB; have BK303 := n0_; have BK306 := n1_; have HB := n2_; clear n0_ n1_ n2_; (try clear hb); (try clear hb2); (try clear hk); (try clear hi); have hnb29 := NB306_303.out; have hnc29 := NB303_306.out; have hcz30_0 : w28.cell? ⟨gb306, 0, none⟩ = some (.int .i64 0) := (bc_ BK306.out 0).trans rfl; have hcz30_1 : w28.cell? ⟨gb306, 1, none⟩ = some (.int .u64 0) := (bc_ BK306.out 1).trans rfl; have hfz30_0 := bf_ BK306.out 0; have hfz30_1 := bf_ BK306.out 1)))
        refine bodyPost_ret (results_ct rfl _ _ gb306 43 #[.int .i64 t147, .int .u64 t148] (0, 0) _ rfl (by (with_reducible repeat (first | refine bn_ ?_ _ | refine bd_ ?_ | refine ba_ ?_ _)); refine bp_ (cs := #[.int .i64 t147, .int .u64 0]) ?_ 1 _ rfl; (with_reducible repeat (first | refine bn_ ?_ _ | refine bd_ ?_ | refine ba_ ?_ _)); refine bp_ (cs := #[.int .i64 0, .int .u64 0]) ?_ 0 _ rfl; (with_reducible repeat (first | refine bn_ ?_ _ | refine bd_ ?_ | refine ba_ ?_ _)); exact BK306.out) Try.underlying43 rfl (by kernel_rfl)) rfl ?_
        exact ⟨by first | rfl | (simp [errW_none, errW_some] <;> rfl) | (simp [*, errW_none, errW_some] <;> rfl), bw_⟩
end Go.Proofs.Ythhgcjlgnafdcaa.Px
end
section
namespace Go.Proofs.Ythhgcjlgnafdcaa.Px
open Go.RowKit Go.Proofs.YthhgcjlgnafdcaaW.PrintWords Go.Proofs.YthhgcjlgnafdcaaW.PrintLast Go.Proofs.YthhgcjlgnafdcaaW.PrintMore
attribute [local go_sem] max2_int min2_int max_two min_two max_three min_three max_four min_four   -- for this text's walks alone
set_option linter.unusedVariables false
set_option linter.unusedSimpArgs false
attribute [local go_sem] run_add64_any
def clevisref02_digit.f (a0 : Int) : Option (Bool) := if a0 ≥ 48 then (some (decide (a0 ≤ 57))) else (some false)
set_option maxHeartbeats 8000000 in
set_option maxRecDepth 100000 in
theorem clevisref02_digit.calls (a0 : Int) (r : Bool) (w : World) (h : clevisref02_digit.f a0 = some r) :
  Calls Try.prog 113 #[.int .u8 a0] w fun e w' => e = .returned (.bool r) ∧ Drawn0 w w' := by
 have H : (if a0 ≥ 48 then (some (decide (a0 ≤ 57))) else (some false)) = some r := h
 clear h
 by_cases c2 : a0 ≥ 48
 ·
  rw [if_pos c2] at H
  have c2b0 : decide (48 ≤ a0) = true := decide_eq_true c2
  clear c2
  obtain rfl := Option.some.inj H
  go_enter Try.func113, Try.ntmps113
  go_wp2
  go_ret
  exact ⟨by first | rfl | (simp; done) | (simp [*]; done), by repeat (first | exact Drawn0.refl _ | apply Drawn0.step)⟩
 ·
  rw [if_neg c2] at H
  have c2b0 : decide (48 ≤ a0) = false := decide_eq_false c2
  clear c2
  obtain rfl := Option.some.inj H
  go_enter Try.func113, Try.ntmps113
  go_wp2
  go_ret
  exact ⟨by first | rfl | (simp; done) | (simp [*]; done), by repeat (first | exact Drawn0.refl _ | apply Drawn0.step)⟩
end Go.Proofs.Ythhgcjlgnafdcaa.Px
end
section
namespace Go.Proofs.Ythhgcjlgnafdcaa.Px
open Go.RowKit Go.Proofs.YthhgcjlgnafdcaaW.PrintWords Go.Proofs.YthhgcjlgnafdcaaW.PrintLast Go.Proofs.YthhgcjlgnafdcaaW.PrintMore
attribute [local go_sem] max2_int min2_int max_two min_two max_three min_three max_four min_four   -- for this text's walks alone
set_option linter.unusedVariables false
set_option linter.unusedSimpArgs false
attribute [local go_sem] run_add64_any
def clevisref02_letter.f (a0 : Int) (a1 : Int) : Option (Bool) := if a0 ≥ a1 then (some (decide (a0 ≤ ((a1 + 25) % 256)))) else (some false)
set_option maxHeartbeats 8000000 in
set_option maxRecDepth 100000 in
theorem clevisref02_letter.calls (a0 : Int) (a1 : Int) (r : Bool) (w : World) (h : clevisref02_letter.f a0 a1 = some r) :
  Calls Try.prog 131 #[.int .u8 a0, .int .u8 a1] w fun e w' => e = .returned (.bool r) ∧ Drawn0 w w' := by
 have H : (if a0 ≥ a1 then (some (decide (a0 ≤ ((a1 + 25) % 256)))) else (some false)) = some r := h
 clear h
 by_cases c3 : a0 ≥ a1
 ·
  rw [if_pos c3] at H
  have c3b0 : decide (a1 ≤ a0) = true := decide_eq_true c3
  clear c3
  obtain rfl := Option.some.inj H
  go_enter Try.func131, Try.ntmps131
  go_wp2
  go_ret
  exact ⟨by first | rfl | (simp; done) | (simp [*]; done), by repeat (first | exact Drawn0.refl _ | apply Drawn0.step)⟩
 ·
  rw [if_neg c3] at H
  have c3b0 : decide (a1 ≤ a0) = false := decide_eq_false c3
  clear c3
  obtain rfl := Option.some.inj H
  go_enter Try.func131, Try.ntmps131
  go_wp2
  go_ret
  exact ⟨by first | rfl | (simp; done) | (simp [*]; done), by repeat (first | exact Drawn0.refl _ | apply Drawn0.step)⟩
end Go.Proofs.Ythhgcjlgnafdcaa.Px
end
section
namespace Go.Proofs.Ythhgcjlgnafdcaa.Px
open Go.RowKit Go.Proofs.YthhgcjlgnafdcaaW.PrintWords Go.Proofs.YthhgcjlgnafdcaaW.PrintLast Go.Proofs.YthhgcjlgnafdcaaW.PrintMore
attribute [local go_sem] max2_int min2_int max_two min_two max_three min_three max_four min_four   -- for this text's walks alone
set_option linter.unusedVariables false
set_option linter.unusedSimpArgs false
attribute [local go_sem] run_add64_any
mutual
def clevisref02_Digit.l0 : Nat → ByteArray → List Int → Int → Option (Int)
 | 0, _, _, _ => none
 | k + 1, x0, x3, x4 => if x4 < 11 then (if 0 ≤ x4 then (if x4 < (x0.size : Int) then ((clevisref02_letter.f (bt x0 x4) 65).bind fun t110 => (if t110 = true then ((some (([wrap64 (Int.tdiv (wrap64 ((wrap64 (bt x0 x4)) - 55)) 10), Int.tmod (wrap64 ((wrap64 (bt x0 x4)) - 55)) 10] : List Int) : List Int)).bind fun y111 => (if x3.length + y111.length < 17592186044416 then (clevisref02_Digit.l0 k x0 (x3 ++ y111) (wrap64 (x4 + 1))) else (none))) else ((clevisref02_digit.f (bt x0 x4)).bind fun t117 => (if t117 = true then (if x4 ≥ 2 then (if x3.length < 17592186044416 then (clevisref02_Digit.l0 k x0 (x3 ++ [wrap64 ((wrap64 (bt x0 x4)) - 48)]) (wrap64 (x4 + 1))) else (none)) else (some (-1))) else (some (-1)))))) else (none)) else (none)) else (clevisref02_Digit.l1 k x3 0 0)
def clevisref02_Digit.l1 : Nat → List Int → Int → Int → Option (Int)
 | 0, _, _, _ => none
 | k + 1, x3, x6, x7 => if x7 < (x3.length : Int) then (if 0 ≤ x7 then (if (Int.tmod (wrap64 ((x3.length : Int) - x7)) 2) = 1 then (if (wrap64 (2 * (rd x3 x7))) > 9 then (clevisref02_Digit.l1 k x3 (wrap64 (x6 + (wrap64 ((wrap64 (2 * (rd x3 x7))) - 9)))) (wrap64 (x7 + 1))) else (clevisref02_Digit.l1 k x3 (wrap64 (x6 + (wrap64 (2 * (rd x3 x7))))) (wrap64 (x7 + 1)))) else (clevisref02_Digit.l1 k x3 (wrap64 (x6 + (rd x3 x7))) (wrap64 (x7 + 1)))) else (none)) else (clevisref02_Digit.l2 k x6 0)
def clevisref02_Digit.l2 : Nat → Int → Int → Option (Int)
 | 0, _, _ => none
 | k + 1, x6, x9 => if x9 < 10 then (if (Int.tmod (wrap64 (x6 + x9)) 10) = 0 then (some x9) else (clevisref02_Digit.l2 k x6 (wrap64 (x9 + 1)))) else (some (-1))
end
def clevisref02_Digit.f (k : Nat) (a0 : ByteArray) : Option (Int) := if (a0.size : Int) = 11 then (clevisref02_Digit.l0 k a0 ([] : List Int) 0) else (some (-1))
theorem clevisref02_Digit.mono_l : ∀ k, (∀ y0 y1 y2, LeO (clevisref02_Digit.l0 k y0 y1 y2) (clevisref02_Digit.l0 (k + 1) y0 y1 y2)) ∧ (∀ y0 y1 y2, LeO (clevisref02_Digit.l1 k y0 y1 y2) (clevisref02_Digit.l1 (k + 1) y0 y1 y2)) ∧ (∀ y0 y1, LeO (clevisref02_Digit.l2 k y0 y1) (clevisref02_Digit.l2 (k + 1) y0 y1))
 | 0 => ⟨fun _ _ _ r h => by simp [clevisref02_Digit.l0] at h, fun _ _ _ r h => by simp [clevisref02_Digit.l1] at h, fun _ _ r h => by simp [clevisref02_Digit.l2] at h⟩
 | k + 1 => by
  obtain ⟨ih0, ih1, ih2⟩ := clevisref02_Digit.mono_l k
  refine ⟨?_, ?_, ?_⟩
  ·
   intro y0 y1 y2
   unfold clevisref02_Digit.l0
   repeat' first
   | (with_reducible exact ih0 _ _ _)
   | (with_reducible exact ih1 _ _ _)
   | (with_reducible exact ih2 _ _)
   | (with_reducible exact LeO.refl _)
   | (with_reducible exact LeO.none _)
   | (with_reducible refine LeO.ite ?_ ?_)
   | (with_reducible refine LeO.bind ?_ (fun _ => ?_))
   | exact ih0 _ _ _
   | exact ih1 _ _ _
   | exact ih2 _ _
   | exact LeO.none _
   | refine LeO.ite ?_ ?_
   | refine LeO.bind ?_ (fun _ => ?_)
  ·
   intro y0 y1 y2
   unfold clevisref02_Digit.l1
   repeat' first
   | (with_reducible exact ih0 _ _ _)
   | (with_reducible exact ih1 _ _ _)
   | (with_reducible exact ih2 _ _)
   | (with_reducible exact LeO.refl _)
   | (with_reducible exact LeO.none _)
   | (with_reducible refine LeO.ite ?_ ?_)
   | (with_reducible refine LeO.bind ?_ (fun _ => ?_))
   | exact ih0 _ _ _
   | exact ih1 _ _ _
   | exact ih2 _ _
   | exact LeO.none _
   | refine LeO.ite ?_ ?_
   | refine LeO.bind ?_ (fun _ => ?_)
  ·
   intro y0 y1
   unfold clevisref02_Digit.l2
   repeat' first
   | (with_reducible exact ih0 _ _ _)
   | (with_reducible exact ih1 _ _ _)
   | (with_reducible exact ih2 _ _)
   | (with_reducible exact LeO.refl _)
   | (with_reducible exact LeO.none _)
   | (with_reducible refine LeO.ite ?_ ?_)
   | (with_reducible refine LeO.bind ?_ (fun _ => ?_))
   | exact ih0 _ _ _
   | exact ih1 _ _ _
   | exact ih2 _ _
   | exact LeO.none _
   | refine LeO.ite ?_ ?_
   | refine LeO.bind ?_ (fun _ => ?_)
theorem clevisref02_Digit.mono : ∀ a0 k, LeO (clevisref02_Digit.f k a0) (clevisref02_Digit.f (k + 1) a0) := by
 intro a0 k
 obtain ⟨ih0, ih1, ih2⟩ := clevisref02_Digit.mono_l k
 unfold clevisref02_Digit.f
 repeat' first
   | (with_reducible exact ih0 _ _ _)
   | (with_reducible exact ih1 _ _ _)
   | (with_reducible exact ih2 _ _)
   | (with_reducible exact LeO.refl _)
   | (with_reducible exact LeO.none _)
   | (with_reducible refine LeO.ite ?_ ?_)
   | (with_reducible refine LeO.bind ?_ (fun _ => ?_))
   | exact ih0 _ _ _
   | exact ih1 _ _ _
   | exact ih2 _ _
   | exact LeO.none _
   | refine LeO.ite ?_ ?_
   | refine LeO.bind ?_ (fun _ => ?_)
set_option maxHeartbeats 8000000 in
set_option maxRecDepth 100000 in
theorem clevisref02_Digit.calls (k : Nat) (a0 : ByteArray) (r : Int) (w : World) (h : clevisref02_Digit.f k a0 = some r) :
  Calls Try.prog 114 #[.string a0] w fun e w' => e = .returned (.int .i64 r) ∧ Below w.heap.size w w' := by
 have HB := A_ (Below.refl w.heap.size w)
 have H : (if (a0.size : Int) = 11 then (clevisref02_Digit.l0 k a0 ([] : List Int) 0) else (some (-1))) = some r := h
 clear h
 by_cases c2 : (a0.size : Int) = 11
 ·
  rw [if_pos c2] at H
  have c2b0 : ((a0.size : Int) == 11) = true := q1_ c2
  have c2b1 : ((a0.size : Int) != 11) = false := q3_ c2
  clear c2
  have H' := A_ H
  clear H
  go_enter Try.func114, Try.ntmps114
  go_wp2
  (try simp only [Act.put, sA_, sZ_, sS_])
  go_loopg [3, 4] k (fun kq v3 v4 w' => ∃ (x3_1 : List Int) (x4_1 : Int), v4 = .int .i64 x4_1 ∧ Aside0 (clevisref02_Digit.l0 kq a0 x3_1 x4_1 = some r) ∧ Aside0 (kq ≤ k) ∧ Aside0 (Kd.R (Kd.int .i64) 3 w' w.heap.size (fun _ => True) v3 x3_1) ∧ Aside0 (Below w.heap.size w w'))
  case atStart => exact ⟨(([] : List Int)), (0), (by first | rfl | (simp; done) | (simp [*]; done)), H', ⟨Nat.le_refl _⟩, ⟨by first | exact Kd.R_nil _ _ _ _ _ | exact Kd.N_nil _ _ _ _ _ | exact Kd.V_nil _ _ _ _ _ | exact Kd.Q_nil _ _ _ _ _ | exact Kd.S_nil _ _ _ _ _⟩, ⟨bw_⟩⟩
  case round =>
   clear H'
   try clear c1
   try clear c2
   try clear c2b0
   try clear c2b1
   try clear p2
   obtain ⟨x3_1, x4_1, rfl, HA, HK1, HO_3, HB⟩ := hrel
   cases gk with
   | zero => exact absurd HA.out (by simp [clevisref02_Digit.l0])
   | succ k1 =>
    have H := HA.out
    clear HA
    simp only [clevisref02_Digit.l0] at H
    by_cases c3 : x4_1 < 11
    ·
     rw [if_pos c3] at H
     have c3b0 : decide (x4_1 < 11) = true := decide_eq_true c3
     clear c3
     by_cases c4 : 0 ≤ x4_1
     ·
      rw [if_pos c4] at H
      have c4b0 : decide (0 ≤ x4_1) = true := decide_eq_true c4
      clear c4
      by_cases c5 : x4_1 < (a0.size : Int)
      ·
       rw [if_pos c5] at H
       have c5b0 : decide (x4_1 < (a0.size : Int)) = true := decide_eq_true c5
       clear c5
       replace H := os_ H
       obtain ⟨t110, A70, H⟩ := H
       replace H : (if t110 = true then ((some (([wrap64 (Int.tdiv (wrap64 ((wrap64 (bt a0 x4_1)) - 55)) 10), Int.tmod (wrap64 ((wrap64 (bt a0 x4_1)) - 55)) 10] : List Int) : List Int)).bind fun y111 => (if x3_1.length + y111.length < 17592186044416 then (clevisref02_Digit.l0 k1 a0 (x3_1 ++ y111) (wrap64 (x4_1 + 1))) else (none))) else ((clevisref02_digit.f (bt a0 x4_1)).bind fun t117 => (if t117 = true then (if x4_1 ≥ 2 then (if x3_1.length < 17592186044416 then (clevisref02_Digit.l0 k1 a0 (x3_1 ++ [wrap64 ((wrap64 (bt a0 x4_1)) - 48)]) (wrap64 (x4_1 + 1))) else (none)) else (some (-1))) else (some (-1))))) = some r := H
       have A7 := A_ A70
       clear A70
       by_cases c8 : t110 = true
       ·
        subst c8
        have H1 : ((some (([wrap64 (Int.tdiv (wrap64 ((wrap64 (bt a0 x4_1)) - 55)) 10), Int.tmod (wrap64 ((wrap64 (bt a0 x4_1)) - 55)) 10] : List Int) : List Int)).bind fun y111 => (if x3_1.length + y111.length < 17592186044416 then (clevisref02_Digit.l0 k1 a0 (x3_1 ++ y111) (wrap64 (x4_1 + 1))) else (none))) = some r := by rw [if_pos rfl] at H; exact H
        clear H
        have H := H1
        clear H1
        obtain ⟨y111, hy111⟩ : ∃ y_ : List Int, y_ = (([wrap64 (Int.tdiv (wrap64 ((wrap64 (bt a0 x4_1)) - 55)) 10), Int.tmod (wrap64 ((wrap64 (bt a0 x4_1)) - 55)) 10] : List Int)) := ⟨_, rfl⟩
        replace H : (if x3_1.length + y111.length < 17592186044416 then (clevisref02_Digit.l0 k1 a0 (x3_1 ++ y111) (wrap64 (x4_1 + 1))) else (none)) = some r := by first | (rw [hy111]; with_reducible exact H) | (have H2_ := (Option.bind_some _ _).symm.trans H; rw [hy111]; with_reducible exact H2_) | (have H2_ := (Option.bind_some _ _).symm.trans H; with_reducible exact H2_) | with_reducible exact H | (rw [hy111]; exact H) | exact H
        have Ny111 := A_ hy111
        clear hy111
        by_cases c10 : x3_1.length + y111.length < 17592186044416
        ·
         rw [if_pos c10] at H
         have LMc10 := A_ c10
         clear c10
         obtain ⟨y114, hy114⟩ : ∃ y_ : List Int, y_ = (x3_1 ++ y111) := ⟨_, rfl⟩
         replace H : (clevisref02_Digit.l0 k1 a0 y114 (wrap64 (x4_1 + 1))) = some r := by first | (rw [hy114]; with_reducible exact H) | (have H2_ := (Option.bind_some _ _).symm.trans H; rw [hy114]; with_reducible exact H2_) | (have H2_ := (Option.bind_some _ _).symm.trans H; with_reducible exact H2_) | with_reducible exact H | (rw [hy114]; exact H) | exact H
         have Ny114 := A_ hy114
         clear hy114
         have H' := A_ H
         clear H
         have p6 : 0 ≤ (x4_1 : Int) := od_ (by first | (with_reducible assumption) | assumption)
         have q6 : x4_1 < (a0.size : Int) := od_ (by first | (with_reducible assumption) | assumption)
         have hx6 := bt_at a0 x4_1
         replace p6 := eq_true p6
         replace q6 := eq_true q6
         go_wp2_with (first | ((with_reducible refine gate_callee (f := 131) rfl ?_); refine goesL_ (some 21) rfl rfl Try.func131 (by kernel_rfl) rfl #[.int .u8 (bt a0 x4_1), .int .u8 65] rfl (by (try simp only [List.map_toArray, List.map_cons, List.map_nil]); first | done | rfl | (simp only [List.length_drop, List.length_take]; rfl)) ?_; (with_reducible refine (clevisref02_letter.calls (bt a0 x4_1) 65 true _ A7.out).mono ?_); rintro e w' ⟨rfl, ⟨nd, rfl⟩⟩; refine ⟨_, rfl, ?_⟩; have p9 : 0 ≤ (x4_1 : Int) := od_ (by first | (with_reducible assumption) | assumption); have q9 : x4_1 < (a0.size : Int) := od_ (by first | (with_reducible assumption) | assumption); have hx9 := bt_at a0 x4_1; replace p9 := eq_true p9; replace q9 := eq_true q9) | ((with_reducible refine gate_dst (N := 32) rfl ?_); refine Kd.R_lit (Kd.int .i64) _ 3 ?hg (N := 32) ?hd (xs := ([wrap64 (Int.tdiv (wrap64 ((wrap64 (bt a0 x4_1)) - 55)) 10), Int.tmod (wrap64 ((wrap64 (bt a0 x4_1)) - 55)) 10] : List Int)) (inner := [.int .i64 (wrap64 (Int.tdiv (wrap64 ((wrap64 (bt a0 x4_1)) - 55)) 10)), .int .i64 (Int.tmod (wrap64 ((wrap64 (bt a0 x4_1)) - 55)) 10)]) (ok := fun _ => True) (okp := fun _ => True) ?hr ?hp (fun _ hk => hk) trivial (Below.refl _ _) (Nat.le_refl _) (by simp) ?_; (case hd => rfl); (case hg => rfl); (case hr => first | (go_simp; done) | (go_simp; rfl)); (case hp => exact (Reps.one (show Kd.M (Kd.int .i64) _ _ _ (wrap64 (Int.tdiv (wrap64 ((wrap64 (bt a0 x4_1)) - 55)) 10)) [.int .i64 (wrap64 (Int.tdiv (wrap64 ((wrap64 (bt a0 x4_1)) - 55)) 10))] from rfl) (Reps.one (show Kd.M (Kd.int .i64) _ _ _ (Int.tmod (wrap64 ((wrap64 (bt a0 x4_1)) - 55)) 10) [.int .i64 (Int.tmod (wrap64 ((wrap64 (bt a0 x4_1)) - 55)) 10)] from rfl) (Reps.none _ _)))); intro v112 w11 ho12 hb hg_ hnew_; clear hg_ hnew_; (first | rw [← Ny111.out] at ho12 | (simp only [Int.reduceToNat] at ho12; rw [← Ny111.out] at ho12)); have n0_ := A_ (Kd.R_elder' (by (with_reducible repeat (first | apply Kd.R_alloc | apply Kd.R_drewN | apply Kd.R_drew)); exact HO_3.out) (Kd.R_base ho12) hb); have n1_ := A_ (Kd.R_lower (Kd.R_new' ho12 (Kd.R_lt (by (with_reducible repeat (first | apply Kd.R_alloc | apply Kd.R_drewN | apply Kd.R_drew)); exact HO_3.out))) (bz_ bw_)); have n2_ := A_ (bs_ bw_ hb); clear HO_3; clear HB; have HO_3 := n0_; have HO113 := n1_; have HB := n2_; clear n0_ n1_ n2_; clear hb ho12; obtain ⟨Ao14, co14, eo14⟩ := Kd.R_slice HO113.out; subst eo14) | ((with_reducible refine gate_builtin (b := .append) (xs := #[.tmp 27, .tmp 32]) rfl ?_); at_builtin; refine Kd.R_append_rows (Kd.int .i64) (w0 := w) w.heap.size rfl (.tmp 27) (.tmp 32) 50 3 (.int .i64 0) 8 rfl Try.underlying50 info3 rfl (by decide) (by omega) u3 x3_1 y111 _ _ _ (fun k_ => some k_ ≠ (.slice Ao14 y111.length co14 : Value).ownBlock) (fun _ => False) rfl rfl ?aO ?aR (fun _ _ h => h) (fun _ h => h.elim) ?aF ?aB ?aS ?aL ?_; (case aR => repeat (first | exact (Kd.R_reads' HO113.out).2.2 | (with_reducible refine ca_ ?_ _) | (with_reducible refine cn_ ?_ _) | (with_reducible refine cd_ ?_))); (case aB => exact bw_); (case aF => exact (fun k_ hk => Kd.fresh' (Kd.R_lt (by (with_reducible repeat (first | apply Kd.R_alloc | apply Kd.R_drewN | apply Kd.R_drew)); exact HO113.out)) k_ hk)); (case aO => exact (by (with_reducible repeat (first | apply Kd.R_alloc | apply Kd.R_drewN | apply Kd.R_drew)); exact Kd.R_mono HO_3.out (fun _ hk => hk.2))); (case aS => exact (bz_ bw_)); (case aL => have := LMc10.out; omega); intro v115 w13 ho hb hg hat; rw [← Ny114.out] at ho; have n0_ := A_ (Kd.R_after (ok := (fun _ => True)) (by (with_reducible repeat (first | apply Kd.R_alloc | apply Kd.R_drewN | apply Kd.R_drew)); exact HO113.out) hg hat); have n1_ := A_ (hb); have n2_ := A_ (ho); clear HO113; clear HB; clear HO_3; have HO113 := n0_; have HB := n1_; have HO116 := n2_; clear n0_ n1_ n2_; clear ho hb hg hat))
         go_roundg k1
         case measure => have := HK1.out; omega
         case rel => exact ⟨(y114), (wrap64 (x4_1 + 1)), (by first | rfl | (simp; done) | (simp [*]; done)), H', ⟨by have := HK1.out; omega⟩, ⟨by (with_reducible repeat (first | apply Kd.R_alloc | apply Kd.R_drewN | apply Kd.R_drew)); exact Kd.R_mono HO116.out (fun _ hk => trivial)⟩, ⟨bw_⟩⟩
        ·
         rw [if_neg c10] at H
         exact absurd H (by simp)
       ·
        replace c8 := Bool.eq_false_iff.mpr c8
        subst c8
        have H1 : ((clevisref02_digit.f (bt a0 x4_1)).bind fun t117 => (if t117 = true then (if x4_1 ≥ 2 then (if x3_1.length < 17592186044416 then (clevisref02_Digit.l0 k1 a0 (x3_1 ++ [wrap64 ((wrap64 (bt a0 x4_1)) - 48)]) (wrap64 (x4_1 + 1))) else (none)) else (some (-1))) else (some (-1)))) = some r := by rw [if_neg (show ¬ (false = true) by decide)] at H; exact H
        clear H
        have H := H1
        clear H1
        replace H := os_ H
        obtain ⟨t117, A160, H⟩ := H
        replace H : (if t117 = true then (if x4_1 ≥ 2 then (if x3_1.length < 17592186044416 then (clevisref02_Digit.l0 k1 a0 (x3_1 ++ [wrap64 ((wrap64 (bt a0 x4_1)) - 48)]) (wrap64 (x4_1 + 1))) else (none)) else (some (-1))) else (some (-1))) = some r := H
        have A16 := A_ A160
        clear A160
        by_cases c17 : t117 = true
        ·
         subst c17
         have H1 : (if x4_1 ≥ 2 then (if x3_1.length < 17592186044416 then (clevisref02_Digit.l0 k1 a0 (x3_1 ++ [wrap64 ((wrap64 (bt a0 x4_1)) - 48)]) (wrap64 (x4_1 + 1))) else (none)) else (some (-1))) = some r := by rw [if_pos rfl] at H; exact H
         clear H
         have H := H1
         clear H1
         by_cases c18 : x4_1 ≥ 2
         ·
          rw [if_pos c18] at H
          have c18b0 : decide (2 ≤ x4_1) = true := decide_eq_true c18
          clear c18
          by_cases c20 : x3_1.length < 17592186044416
          ·
           rw [if_pos c20] at H
           have LMc20 := A_ c20
           clear c20
           obtain ⟨y118, hy118⟩ : ∃ y_ : List Int, y_ = (x3_1 ++ [wrap64 ((wrap64 (bt a0 x4_1)) - 48)]) := ⟨_, rfl⟩
           replace H : (clevisref02_Digit.l0 k1 a0 y118 (wrap64 (x4_1 + 1))) = some r := by first | (rw [hy118]; with_reducible exact H) | (have H2_ := (Option.bind_some _ _).symm.trans H; rw [hy118]; with_reducible exact H2_) | (have H2_ := (Option.bind_some _ _).symm.trans H; with_reducible exact H2_) | with_reducible exact H | (rw [hy118]; exact H) | exact H
           have Ny118 := A_ hy118
           clear hy118
           have H' := A_ H
           clear H
           have p6 : 0 ≤ (x4_1 : Int) := od_ (by first | (with_reducible assumption) | assumption)
           have q6 : x4_1 < (a0.size : Int) := od_ (by first | (with_reducible assumption) | assumption)
           have hx6 := bt_at a0 x4_1
           replace p6 := eq_true p6
           replace q6 := eq_true q6
           go_wp2_with (first | ((with_reducible refine gate_callee (f := 131) rfl ?_); refine goesL_ (some 21) rfl rfl Try.func131 (by kernel_rfl) rfl #[.int .u8 (bt a0 x4_1), .int .u8 65] rfl (by (try simp only [List.map_toArray, List.map_cons, List.map_nil]); first | done | rfl | (simp only [List.length_drop, List.length_take]; rfl)) ?_; (with_reducible refine (clevisref02_letter.calls (bt a0 x4_1) 65 false _ A7.out).mono ?_); rintro e w' ⟨rfl, ⟨nd, rfl⟩⟩; refine ⟨_, rfl, ?_⟩; have p15 : 0 ≤ (x4_1 : Int) := od_ (by first | (with_reducible assumption) | assumption); have q15 : x4_1 < (a0.size : Int) := od_ (by first | (with_reducible assumption) | assumption); have hx15 := bt_at a0 x4_1; replace p15 := eq_true p15; replace q15 := eq_true q15) | ((with_reducible refine gate_callee (f := 113) rfl ?_); refine goesL_ (some 38) rfl rfl Try.func113 (by kernel_rfl) rfl #[.int .u8 (bt a0 x4_1)] rfl (by (try simp only [List.map_toArray, List.map_cons, List.map_nil]); first | done | rfl | (simp only [List.length_drop, List.length_take]; rfl)) ?_; (with_reducible refine (clevisref02_digit.calls (bt a0 x4_1) true _ A16.out).mono ?_); rintro e w' ⟨rfl, ⟨nd, rfl⟩⟩; refine ⟨_, rfl, ?_⟩; have p19 : 0 ≤ (x4_1 : Int) := od_ (by first | (with_reducible assumption) | assumption); have q19 : x4_1 < (a0.size : Int) := od_ (by first | (with_reducible assumption) | assumption); have hx19 := bt_at a0 x4_1; replace p19 := eq_true p19; replace q19 := eq_true q19) | ((with_reducible refine gate_builtin (b := .append) (xs := #[.tmp 43, .tmp 49]) rfl ?_); at_builtin; refine Kd.R_append (Kd.int .i64) (w0 := w) w.heap.size rfl (.tmp 43) (.tmp 49) 50 3 (.int .i64 0) 8 rfl Try.underlying50 info3 rfl (by decide) (by omega) u3 x3_1 (wrap64 ((wrap64 (bt a0 x4_1)) - 48)) [.int .i64 (wrap64 ((wrap64 (bt a0 x4_1)) - 48))] (fun _ => True) (fun _ => False) rfl rfl ?aP (fun _ hk => hk.elim) ?aF ?aO ?aB ?aS ?aL ?_; (case aP => exact rfl); (case aB => exact bw_); (case aF => exact (fun _ _ => trivial)); (case aO => exact (by (with_reducible repeat (first | apply Kd.R_alloc | apply Kd.R_drewN | apply Kd.R_drew)); exact HO_3.out)); (case aS => exact (bz_ bw_)); (case aL => have := LMc20.out; omega); intro v119 w21 ho hb hg hat; rw [← Ny118.out] at ho; have n0_ := A_ (hb); have n1_ := A_ (ho); clear HB; clear HO_3; have HB := n0_; have HO120 := n1_; clear n0_ n1_; clear ho hb hg hat))
           go_roundg k1
           case measure => have := HK1.out; omega
           case rel => exact ⟨(y118), (wrap64 (x4_1 + 1)), (by first | rfl | (simp; done) | (simp [*]; done)), H', ⟨by have := HK1.out; omega⟩, ⟨by (with_reducible repeat (first | apply Kd.R_alloc | apply Kd.R_drewN | apply Kd.R_drew)); exact HO120.out⟩, ⟨bw_⟩⟩
          ·
           rw [if_neg c20] at H
           exact absurd H (by simp)
         ·
          rw [if_neg c18] at H
          have c18b0 : decide (2 ≤ x4_1) = false := decide_eq_false c18
          clear c18
          obtain rfl := Option.some.inj H
          have p6 : 0 ≤ (x4_1 : Int) := od_ (by first | (with_reducible assumption) | assumption)
          have q6 : x4_1 < (a0.size : Int) := od_ (by first | (with_reducible assumption) | assumption)
          have hx6 := bt_at a0 x4_1
          replace p6 := eq_true p6
          replace q6 := eq_true q6
          go_wp2_with (first | ((with_reducible refine gate_callee (f := 131) rfl ?_); refine goesL_ (some 21) rfl rfl Try.func131 (by kernel_rfl) rfl #[.int .u8 (bt a0 x4_1), .int .u8 65] rfl (by (try simp only [List.map_toArray, List.map_cons, List.map_nil]); first | done | rfl | (simp only [List.length_drop, List.length_take]; rfl)) ?_; (with_reducible refine (clevisref02_letter.calls (bt a0 x4_1) 65 false _ A7.out).mono ?_); rintro e w' ⟨rfl, ⟨nd, rfl⟩⟩; refine ⟨_, rfl, ?_⟩; have p15 : 0 ≤ (x4_1 : Int) := od_ (by first | (with_reducible assumption) | assumption); have q15 : x4_1 < (a0.size : Int) := od_ (by first | (with_reducible assumption) | assumption); have hx15 := bt_at a0 x4_1; replace p15 := eq_true p15; replace q15 := eq_true q15) | ((with_reducible refine gate_callee (f := 113) rfl ?_); refine goesL_ (some 38) rfl rfl Try.func113 (by kernel_rfl) rfl #[.int .u8 (bt a0 x4_1)] rfl (by (try simp only [List.map_toArray, List.map_cons, List.map_nil]); first | done | rfl | (simp only [List.length_drop, List.length_take]; rfl)) ?_; (with_reducible refine (clevisref02_digit.calls (bt a0 x4_1) true _ A16.out).mono ?_); rintro e w' ⟨rfl, ⟨nd, rfl⟩⟩; refine ⟨_, rfl, ?_⟩))
          go_ret
          exact ⟨by first | rfl | (simp [errW_none, errW_some] <;> rfl) | (simp [*, errW_none, errW_some] <;> rfl), bw_⟩
        ·
         replace c17 := Bool.eq_false_iff.mpr c17
         subst c17
         have H1 : (some (-1)) = some r := by rw [if_neg (show ¬ (false = true) by decide)] at H; exact H
         clear H
         have H := H1
         clear H1
         obtain rfl := Option.some.inj H
         have p6 : 0 ≤ (x4_1 : Int) := od_ (by first | (with_reducible assumption) | assumption)
         have q6 : x4_1 < (a0.size : Int) := od_ (by first | (with_reducible assumption) | assumption)
         have hx6 := bt_at a0 x4_1
         replace p6 := eq_true p6
         replace q6 := eq_true q6
         go_wp2_with (first | ((with_reducible refine gate_callee (f := 131) rfl ?_); refine goesL_ (some 21) rfl rfl Try.func131 (by kernel_rfl) rfl #[.int .u8 (bt a0 x4_1), .int .u8 65] rfl (by (try simp only [List.map_toArray, List.map_cons, List.map_nil]); first | done | rfl | (simp only [List.length_drop, List.length_take]; rfl)) ?_; (with_reducible refine (clevisref02_letter.calls (bt a0 x4_1) 65 false _ A7.out).mono ?_); rintro e w' ⟨rfl, ⟨nd, rfl⟩⟩; refine ⟨_, rfl, ?_⟩; have p15 : 0 ≤ (x4_1 : Int) := od_ (by first | (with_reducible assumption) | assumption); have q15 : x4_1 < (a0.size : Int) := od_ (by first | (with_reducible assumption) | assumption); have hx15 := bt_at a0 x4_1; replace p15 := eq_true p15; replace q15 := eq_true q15) | ((with_reducible refine gate_callee (f := 113) rfl ?_); refine goesL_ (some 38) rfl rfl Try.func113 (by kernel_rfl) rfl #[.int .u8 (bt a0 x4_1)] rfl (by (try simp only [List.map_toArray, List.map_cons, List.map_nil]); first | done | rfl | (simp only [List.length_drop, List.length_take]; rfl)) ?_; (with_reducible refine (clevisref02_digit.calls (bt a0 x4_1) false _ A16.out).mono ?_); rintro e w' ⟨rfl, ⟨nd, rfl⟩⟩; refine ⟨_, rfl, ?_⟩))
         go_ret
         exact ⟨by first | rfl | (simp [errW_none, errW_some] <;> rfl) | (simp [*, errW_none, errW_some] <;> rfl), bw_⟩
      ·
       rw [if_neg c5] at H
       exact absurd H (by simp)
     ·
      rw [if_neg c4] at H
      exact absurd H (by simp)
    ·
     rw [if_neg c3] at H
     have c3b0 : decide (x4_1 < 11) = false := decide_eq_false c3
     clear c3
     have H' := A_ H
     clear H
     go_wp2
     (try simp only [Act.put, sA_, sZ_, sS_])
     go_loopg [6, 7] k1 (fun kq v6 v7 w' => ∃ (x6_2 : Int) (x7_2 : Int), v6 = .int .i64 x6_2 ∧ v7 = .int .i64 x7_2 ∧ Aside0 (clevisref02_Digit.l1 kq x3_1 x6_2 x7_2 = some r) ∧ Aside0 (kq ≤ k1) ∧ Aside0 (Kd.R (Kd.int .i64) 3 w' w.heap.size (fun _ => True) u3 x3_1) ∧ Aside0 (Below w.heap.size w w'))
     case atStart => exact ⟨(0), (0), (by first | rfl | (simp; done) | (simp [*]; done)), (by first | rfl | (simp; done) | (simp [*]; done)), H', ⟨Nat.le_refl _⟩, ⟨by (with_reducible repeat (first | apply Kd.R_alloc | apply Kd.R_drewN | apply Kd.R_drew)); exact HO_3.out⟩, ⟨bw_⟩⟩
     case round =>
      clear H'
      try clear c1
      try clear p1
      try clear q1
      try clear hx1
      try clear c2
      try clear c2b0
      try clear c2b1
      try clear p2
      try clear c3
      try clear c3b0
      try clear c4
      try clear c4b0
      try clear c5
      try clear c5b0
      try clear p6
      try clear q6
      try clear hx6
      try clear c8
      try clear p9
      try clear q9
      try clear hx9
      try clear c10
      try clear c11
      try clear c13
      try clear p15
      try clear q15
      try clear hx15
      try clear c17
      try clear c18
      try clear c18b0
      try clear p19
      try clear q19
      try clear hx19
      try clear c20
      try clear p15
      try clear p19
      try clear p2
      try clear p6
      try clear p9
      try clear q15
      try clear q19
      try clear q6
      try clear q9
      obtain ⟨x6_2, x7_2, rfl, rfl, HA, HK2, HO_3, HB⟩ := hrel
      cases gk with
      | zero => exact absurd HA.out (by simp [clevisref02_Digit.l1])
      | succ k2 =>
       have H := HA.out
       clear HA
       simp only [clevisref02_Digit.l1] at H
       by_cases c22 : x7_2 < (x3_1.length : Int)
       ·
        rw [if_pos c22] at H
        have c22b0 : decide (x7_2 < (x3_1.length : Int)) = true := decide_eq_true c22
        clear c22
        by_cases c23 : 0 ≤ x7_2
        ·
         rw [if_pos c23] at H
         have c23b0 : decide (0 ≤ x7_2) = true := decide_eq_true c23
         clear c23
         by_cases c24 : (Int.tmod (wrap64 ((x3_1.length : Int) - x7_2)) 2) = 1
         ·
          rw [if_pos c24] at H
          have c24b0 : ((Int.tmod (wrap64 ((x3_1.length : Int) - x7_2)) 2) == 1) = true := q1_ c24
          have c24b1 : ((Int.tmod (wrap64 ((x3_1.length : Int) - x7_2)) 2) != 1) = false := q3_ c24
          clear c24
          by_cases c25 : (wrap64 (2 * (rd x3_1 x7_2))) > 9
          ·
           rw [if_pos c25] at H
           have c25b0 : decide (9 < (wrap64 (2 * (rd x3_1 x7_2)))) = true := decide_eq_true c25
           clear c25
           have H' := A_ H
           clear H
           obtain ⟨Ao26, co26, eo26⟩ := Kd.R_slice HO_3.out
           subst eo26
           have p121 : 0 ≤ (x7_2 : Int) := od_ (by first | (with_reducible assumption) | assumption)
           have q121 : x7_2 < (x3_1.length : Int) := od_ (by first | (with_reducible assumption) | assumption)
           obtain ⟨ad121, e121, hx121_0⟩ := Kd.at_int (Kd.R_reads' HO_3.out).2.2 x7_2 p121 q121
           cases e121
           replace p121 := eq_true p121
           replace q121 := eq_true q121
           go_wp2
           go_roundg k2
           case measure => have := HK1.out; have := HK2.out; omega
           case rel => exact ⟨(wrap64 (x6_2 + (wrap64 ((wrap64 (2 * (rd x3_1 x7_2))) - 9)))), (wrap64 (x7_2 + 1)), (by first | rfl | (simp; done) | (simp [*]; done)), (by first | rfl | (simp; done) | (simp [*]; done)), H', ⟨by have := HK1.out; have := HK2.out; omega⟩, ⟨by (with_reducible repeat (first | apply Kd.R_alloc | apply Kd.R_drewN | apply Kd.R_drew)); exact HO_3.out⟩, ⟨bw_⟩⟩
          ·
           rw [if_neg c25] at H
           have c25b0 : decide (9 < (wrap64 (2 * (rd x3_1 x7_2)))) = false := decide_eq_false c25
           clear c25
           have H' := A_ H
           clear H
           obtain ⟨Ao27, co27, eo27⟩ := Kd.R_slice HO_3.out
           subst eo27
           have p121 : 0 ≤ (x7_2 : Int) := od_ (by first | (with_reducible assumption) | assumption)
           have q121 : x7_2 < (x3_1.length : Int) := od_ (by first | (with_reducible assumption) | assumption)
           obtain ⟨ad121, e121, hx121_0⟩ := Kd.at_int (Kd.R_reads' HO_3.out).2.2 x7_2 p121 q121
           cases e121
           replace p121 := eq_true p121
           replace q121 := eq_true q121
           go_wp2
           go_roundg k2
           case measure => have := HK1.out; have := HK2.out; omega
           case rel => exact ⟨(wrap64 (x6_2 + (wrap64 (2 * (rd x3_1 x7_2))))), (wrap64 (x7_2 + 1)), (by first | rfl | (simp; done) | (simp [*]; done)), (by first | rfl | (simp; done) | (simp [*]; done)), H', ⟨by have := HK1.out; have := HK2.out; omega⟩, ⟨by (with_reducible repeat (first | apply Kd.R_alloc | apply Kd.R_drewN | apply Kd.R_drew)); exact HO_3.out⟩, ⟨bw_⟩⟩
         ·
          rw [if_neg c24] at H
          have c24b0 : ((Int.tmod (wrap64 ((x3_1.length : Int) - x7_2)) 2) == 1) = false := q4_ c24
          have c24b1 : ((Int.tmod (wrap64 ((x3_1.length : Int) - x7_2)) 2) != 1) = true := q2_ c24
          have H' := A_ H
          clear H
          obtain ⟨Ao28, co28, eo28⟩ := Kd.R_slice HO_3.out
          subst eo28
          have p121 : 0 ≤ (x7_2 : Int) := od_ (by first | (with_reducible assumption) | assumption)
          have q121 : x7_2 < (x3_1.length : Int) := od_ (by first | (with_reducible assumption) | assumption)
          obtain ⟨ad121, e121, hx121_0⟩ := Kd.at_int (Kd.R_reads' HO_3.out).2.2 x7_2 p121 q121
          cases e121
          replace p121 := eq_true p121
          replace q121 := eq_true q121
          go_wp2
          go_roundg k2
          case measure => have := HK1.out; have := HK2.out; omega
          case rel => exact ⟨(wrap64 (x6_2 + (rd x3_1 x7_2))), (wrap64 (x7_2 + 1)), (by first | rfl | (simp; done) | (simp [*]; done)), (by first | rfl | (simp; done) | (simp [*]; done)), H', ⟨by have := HK1.out; have := HK2.out; omega⟩, ⟨by (with_reducible repeat (first | apply Kd.R_alloc | apply Kd.R_drewN | apply Kd.R_drew)); exact HO_3.out⟩, ⟨bw_⟩⟩
        ·
         rw [if_neg c23] at H
         exact absurd H (by simp)
       ·
        rw [if_neg c22] at H
        have c22b0 : decide (x7_2 < (x3_1.length : Int)) = false := decide_eq_false c22
        clear c22
        have H' := A_ H
        clear H
        obtain ⟨Ao29, co29, eo29⟩ := Kd.R_slice HO_3.out
        subst eo29
        go_wp2
        (try simp only [Act.put, sA_, sZ_, sS_])
        go_loopg [9] k2 (fun kq v9 w' => ∃ (x9_3 : Int), v9 = .int .i64 x9_3 ∧ Aside0 (clevisref02_Digit.l2 kq x6_2 x9_3 = some r) ∧ Aside0 (kq ≤ k2) ∧ Aside0 (Below w.heap.size w w'))
        case atStart => exact ⟨(0), (by first | rfl | (simp; done) | (simp [*]; done)), H', ⟨Nat.le_refl _⟩, ⟨bw_⟩⟩
        case round =>
         clear H'
         try clear c1
         try clear p1
         try clear q1
         try clear hx1
         try clear c2
         try clear c2b0
         try clear c2b1
         try clear p2
         try clear c3
         try clear c3b0
         try clear c4
         try clear c4b0
         try clear c5
         try clear c5b0
         try clear p6
         try clear q6
         try clear hx6
         try clear c8
         try clear p9
         try clear q9
         try clear hx9
         try clear c10
         try clear c11
         try clear p12
         try clear q12
         try clear hx12
         try clear c13
         try clear p15
         try clear q15
         try clear hx15
         try clear c17
         try clear c18
         try clear c18b0
         try clear p19
         try clear q19
         try clear hx19
         try clear c20
         try clear c22
         try clear c22b0
         try clear c23
         try clear c23b0
         try clear c24
         try clear c24b0
         try clear c24b1
         try clear c25
         try clear c25b0
         try clear hx121_0
         try clear p1
         try clear p121
         try clear p15
         try clear p19
         try clear p2
         try clear p6
         try clear p9
         try clear q1
         try clear q121
         try clear q15
         try clear q19
         try clear q6
         try clear q9
         obtain ⟨x9_3, rfl, HA, HK3, HB⟩ := hrel
         cases gk with
         | zero => exact absurd HA.out (by simp [clevisref02_Digit.l2])
         | succ k3 =>
          have H := HA.out
          clear HA
          simp only [clevisref02_Digit.l2] at H
          by_cases c30 : x9_3 < 10
          ·
           rw [if_pos c30] at H
           have c30b0 : decide (x9_3 < 10) = true := decide_eq_true c30
           clear c30
           by_cases c31 : (Int.tmod (wrap64 (x6_2 + x9_3)) 10) = 0
           ·
            rw [if_pos c31] at H
            have c31b0 : ((Int.tmod (wrap64 (x6_2 + x9_3)) 10) == 0) = true := q1_ c31
            have c31b1 : ((Int.tmod (wrap64 (x6_2 + x9_3)) 10) != 0) = false := q3_ c31
            clear c31
            obtain rfl := Option.some.inj H
            go_wp2
            go_ret
            exact ⟨by first | rfl | (simp [errW_none, errW_some] <;> rfl) | (simp [*, errW_none, errW_some] <;> rfl), bw_⟩
           ·
            rw [if_neg c31] at H
            have c31b0 : ((Int.tmod (wrap64 (x6_2 + x9_3)) 10) == 0) = false := q4_ c31
            have c31b1 : ((Int.tmod (wrap64 (x6_2 + x9_3)) 10) != 0) = true := q2_ c31
            have H' := A_ H
            clear H
            go_wp2
            go_roundg k3
            case measure => have := HK1.out; have := HK2.out; have := HK3.out; omega
            case rel => exact ⟨(wrap64 (x9_3 + 1)), (by first | rfl | (simp; done) | (simp [*]; done)), H', ⟨by have := HK1.out; have := HK2.out; have := HK3.out; omega⟩, ⟨bw_⟩⟩
          ·
           rw [if_neg c30] at H
           have c30b0 : decide (x9_3 < 10) = false := decide_eq_false c30
           clear c30
           obtain rfl := Option.some.inj H
           go_wp2
           go_ret
           exact ⟨by first | rfl | (simp [errW_none, errW_some] <;> rfl) | (simp [*, errW_none, errW_some] <;> rfl), bw_⟩
 ·
  rw [if_neg c2] at H
  have c2b0 : ((a0.size : Int) == 11) = false := q4_ c2
  have c2b1 : ((a0.size : Int) != 11) = true := q2_ c2
  obtain rfl := Option.some.inj H
  go_enter Try.func114, Try.ntmps114
  go_wp2
  go_ret
  exact ⟨by first | rfl | (simp [errW_none, errW_some] <;> rfl) | (simp [*, errW_none, errW_some] <;> rfl), bw_⟩
end Go.Proofs.Ythhgcjlgnafdcaa.Px
end
section
namespace Go.Proofs.Ythhgcjlgnafdcaa.Px
open Go.RowKit Go.Proofs.YthhgcjlgnafdcaaW.PrintWords Go.Proofs.YthhgcjlgnafdcaaW.PrintLast Go.Proofs.YthhgcjlgnafdcaaW.PrintMore
attribute [local go_sem] max2_int min2_int max_two min_two max_three min_three max_four min_four   -- for this text's walks alone
set_option linter.unusedVariables false
set_option linter.unusedSimpArgs false
attribute [local go_sem] run_add64_any
def ident_digit.f (a0 : Int) : Option (Bool) := if a0 ≥ 48 then (some (decide (a0 ≤ 57))) else (some false)
set_option maxHeartbeats 8000000 in
set_option maxRecDepth 100000 in
theorem ident_digit.calls (a0 : Int) (r : Bool) (w : World) (h : ident_digit.f a0 = some r) :
  Calls Try.prog 109 #[.int .u8 a0] w fun e w' => e = .returned (.bool r) ∧ Drawn0 w w' := by
 have H : (if a0 ≥ 48 then (some (decide (a0 ≤ 57))) else (some false)) = some r := h
 clear h
 by_cases c2 : a0 ≥ 48
 ·
  rw [if_pos c2] at H
  have c2b0 : decide (48 ≤ a0) = true := decide_eq_true c2
  clear c2
  obtain rfl := Option.some.inj H
  go_enter Try.func109, Try.ntmps109
  go_wp2
  go_ret
  exact ⟨by first | rfl | (simp; done) | (simp [*]; done), by repeat (first | exact Drawn0.refl _ | apply Drawn0.step)⟩
 ·
  rw [if_neg c2] at H
  have c2b0 : decide (48 ≤ a0) = false := decide_eq_false c2
  clear c2
  obtain rfl := Option.some.inj H
  go_enter Try.func109, Try.ntmps109
  go_wp2
  go_ret
  exact ⟨by first | rfl | (simp; done) | (simp [*]; done), by repeat (first | exact Drawn0.refl _ | apply Drawn0.step)⟩
end Go.Proofs.Ythhgcjlgnafdcaa.Px
end
section
namespace Go.Proofs.Ythhgcjlgnafdcaa.Px
open Go.RowKit Go.Proofs.YthhgcjlgnafdcaaW.PrintWords Go.Proofs.YthhgcjlgnafdcaaW.PrintLast Go.Proofs.YthhgcjlgnafdcaaW.PrintMore
attribute [local go_sem] max2_int min2_int max_two min_two max_three min_three max_four min_four   -- for this text's walks alone
set_option linter.unusedVariables false
set_option linter.unusedSimpArgs false
attribute [local go_sem] run_add64_any
def ident_great.f (a0 : Int) : Option (Bool) := if a0 ≥ 65 then (some (decide (a0 ≤ 90))) else (some false)
set_option maxHeartbeats 8000000 in
set_option maxRecDepth 100000 in
theorem ident_great.calls (a0 : Int) (r : Bool) (w : World) (h : ident_great.f a0 = some r) :
  Calls Try.prog 135 #[.int .u8 a0] w fun e w' => e = .returned (.bool r) ∧ Drawn0 w w' := by
 have H : (if a0 ≥ 65 then (some (decide (a0 ≤ 90))) else (some false)) = some r := h
 clear h
 by_cases c2 : a0 ≥ 65
 ·
  rw [if_pos c2] at H
  have c2b0 : decide (65 ≤ a0) = true := decide_eq_true c2
  clear c2
  obtain rfl := Option.some.inj H
  go_enter Try.func135, Try.ntmps135
  go_wp2
  go_ret
  exact ⟨by first | rfl | (simp; done) | (simp [*]; done), by repeat (first | exact Drawn0.refl _ | apply Drawn0.step)⟩
 ·
  rw [if_neg c2] at H
  have c2b0 : decide (65 ≤ a0) = false := decide_eq_false c2
  clear c2
  obtain rfl := Option.some.inj H
  go_enter Try.func135, Try.ntmps135
  go_wp2
  go_ret
  exact ⟨by first | rfl | (simp; done) | (simp [*]; done), by repeat (first | exact Drawn0.refl _ | apply Drawn0.step)⟩
end Go.Proofs.Ythhgcjlgnafdcaa.Px
end
section
namespace Go.Proofs.Ythhgcjlgnafdcaa.Px
open Go.RowKit Go.Proofs.YthhgcjlgnafdcaaW.PrintWords Go.Proofs.YthhgcjlgnafdcaaW.PrintLast Go.Proofs.YthhgcjlgnafdcaaW.PrintMore
attribute [local go_sem] max2_int min2_int max_two min_two max_three min_three max_four min_four   -- for this text's walks alone
set_option linter.unusedVariables false
set_option linter.unusedSimpArgs false
attribute [local go_sem] run_add64_any
def note_Sorted.l0 : Nat → List (S79) → Int → Option (Bool)
 | 0, _, _ => none
 | k + 1, x0, x3 => if x3 < (x0.length : Int) then (if 0 ≤ (wrap64 (x3 - 1)) then (if (wrap64 (x3 - 1)) < (x0.length : Int) then (if 0 ≤ x3 then (if ((Op.bytesLess (((rd_T79 x0 (wrap64 (x3 - 1))).f0).toList) (((rd_T79 x0 x3).f0).toList)) = true) then (note_Sorted.l0 k x0 (wrap64 (x3 + 1))) else (some false)) else (none)) else (none)) else (none)) else (some true)
def note_Sorted.f (k : Nat) (l0 : List (S79)) : Option (Bool) := note_Sorted.l0 k l0 1
set_option maxHeartbeats 8000000 in
set_option maxRecDepth 100000 in
theorem note_Sorted.calls (k : Nat) (A0 : Option Addr) (c0 : Nat) (l0 : List (S79)) (r : Bool) (w : World) (hr0 : Kd.C k79 w A0 l0.length l0) (hc0 : l0.length ≤ c0) (h : note_Sorted.f k l0 = some r) :
  Calls Try.prog 84 #[.slice A0 l0.length c0] w fun e w' => e = .returned (.bool r) ∧ Drawn0 w w' := by
 have HR0 := A_ hr0
 have HC0 := A_ hc0
 clear hr0 hc0
 have H : (note_Sorted.l0 k l0 1) = some r := h
 clear h
 have H' := A_ H
 clear H
 go_enter Try.func84, Try.ntmps84
 go_wp2
 repeat (go_quiet (fail); try go_wp2)
 (try simp only [Act.put, sA_, sZ_, sS_])
 go_loopg [3] k (fun kq v3 w' => ∃ (x3_1 : Int), v3 = .int .i64 x3_1 ∧ Aside0 (note_Sorted.l0 kq l0 x3_1 = some r) ∧ Aside0 (kq ≤ k) ∧ Drawn0 w w')
 case atStart => exact ⟨(1), (by first | rfl | (simp; done) | (simp [*]; done)), H', ⟨Nat.le_refl _⟩, by repeat (first | exact Drawn0.refl _ | apply Drawn0.step)⟩
 case round =>
  clear H'
  obtain ⟨x3_1, rfl, HA, HK1, ⟨m1, rfl⟩⟩ := hrel
  cases gk with
  | zero => exact absurd HA.out (by simp [note_Sorted.l0])
  | succ k1 =>
   have H := HA.out
   clear HA
   simp only [note_Sorted.l0] at H
   by_cases c2 : x3_1 < (l0.length : Int)
   ·
    rw [if_pos c2] at H
    have c2b0 : decide (x3_1 < (l0.length : Int)) = true := decide_eq_true c2
    clear c2
    obtain ⟨ji3, hji3⟩ : ∃ j_ : Int, (wrap64 (x3_1 - 1)) = j_ := ⟨_, rfl⟩
    replace H : (if 0 ≤ (ji3) then (if (ji3) < (l0.length : Int) then (if 0 ≤ x3_1 then (if ((Op.bytesLess (((rd_T79 l0 (ji3)).f0).toList) (((rd_T79 l0 x3_1).f0).toList)) = true) then (note_Sorted.l0 k1 l0 (wrap64 (x3_1 + 1))) else (some false)) else (none)) else (none)) else (none)) = some r := by first | (rw [hji3] at H; exact H) | (simp only [hji3] at H ⊢; exact H)
    have hji3w : (IntKind.i64.wrap (x3_1 - 1)) = ji3 := (i64_w _).trans hji3
    by_cases c4 : 0 ≤ (ji3)
    ·
     rw [if_pos c4] at H
     have c4b0 : decide (0 ≤ (ji3)) = true := decide_eq_true c4
     clear c4
     by_cases c5 : (ji3) < (l0.length : Int)
     ·
      rw [if_pos c5] at H
      have c5b0 : decide ((ji3) < (l0.length : Int)) = true := decide_eq_true c5
      clear c5
      by_cases c6 : 0 ≤ x3_1
      ·
       rw [if_pos c6] at H
       have c6b0 : decide (0 ≤ x3_1) = true := decide_eq_true c6
       clear c6
       by_cases c7 : ((Op.bytesLess (((rd_T79 l0 (ji3)).f0).toList) (((rd_T79 l0 x3_1).f0).toList)) = true)
       ·
        rw [if_pos c7] at H
        have c7b0 : (Op.bytesLess (((rd_T79 l0 (ji3)).f0).toList) (((rd_T79 l0 x3_1).f0).toList)) = true := c7
        clear c7
        have H' := A_ H
        clear H
        have p176 : 0 ≤ ((ji3) : Int) := od_ (by first | (with_reducible assumption) | assumption)
        have q176 : (ji3) < (l0.length : Int) := od_ (by first | (with_reducible assumption) | assumption)
        obtain ⟨ad176, e176, hx176_0, hx176_1⟩ := at_T79 HR0.out (ji3) p176 q176
        cases e176
        replace p176 := eq_true p176
        replace q176 := eq_true q176
        have p177 : 0 ≤ (x3_1 : Int) := od_ (by first | (with_reducible assumption) | assumption)
        have q177 : x3_1 < (l0.length : Int) := od_ (by first | (with_reducible assumption) | assumption)
        obtain ⟨ad177, e177, hx177_0, hx177_1⟩ := at_T79 HR0.out x3_1 p177 q177
        obtain rfl : ad176 = ad177 := (by injection e177)
        replace p177 := eq_true p177
        replace q177 := eq_true q177
        go_wp2
        repeat (go_quiet (fail); try go_wp2)
        go_roundg k1
        case measure => have := HK1.out; omega
        case rel => exact ⟨(wrap64 (x3_1 + 1)), (by first | rfl | (simp; done) | (simp [*]; done)), H', ⟨by have := HK1.out; omega⟩, by repeat (first | exact Drawn0.refl _ | apply Drawn0.step)⟩
       ·
        rw [if_neg c7] at H
        have c7b0 : (Op.bytesLess (((rd_T79 l0 (ji3)).f0).toList) (((rd_T79 l0 x3_1).f0).toList)) = false := by simpa using c7
        clear c7
        obtain rfl := Option.some.inj H
        have p176 : 0 ≤ ((ji3) : Int) := od_ (by first | (with_reducible assumption) | assumption)
        have q176 : (ji3) < (l0.length : Int) := od_ (by first | (with_reducible assumption) | assumption)
        obtain ⟨ad176, e176, hx176_0, hx176_1⟩ := at_T79 HR0.out (ji3) p176 q176
        cases e176
        replace p176 := eq_true p176
        replace q176 := eq_true q176
        have p177 : 0 ≤ (x3_1 : Int) := od_ (by first | (with_reducible assumption) | assumption)
        have q177 : x3_1 < (l0.length : Int) := od_ (by first | (with_reducible assumption) | assumption)
        obtain ⟨ad177, e177, hx177_0, hx177_1⟩ := at_T79 HR0.out x3_1 p177 q177
        obtain rfl : ad176 = ad177 := (by injection e177)
        replace p177 := eq_true p177
        replace q177 := eq_true q177
        go_wp2
        repeat (go_quiet (fail); try go_wp2)
        go_ret
        exact ⟨by first | rfl | (simp; done) | (simp only [← hji3] <;> (first | rfl | simp)) | (simp [*]; done), by repeat (first | exact Drawn0.refl _ | apply Drawn0.step)⟩
      ·
       rw [if_neg c6] at H
       exact absurd H (by simp)
     ·
      rw [if_neg c5] at H
      exact absurd H (by simp)
    ·
     rw [if_neg c4] at H
     exact absurd H (by simp)
   ·
    rw [if_neg c2] at H
    have c2b0 : decide (x3_1 < (l0.length : Int)) = false := decide_eq_false c2
    clear c2
    obtain rfl := Option.some.inj H
    go_wp2
    repeat (go_quiet (fail); try go_wp2)
    go_ret
    exact ⟨by first | rfl | (simp; done) | (simp [*]; done), by repeat (first | exact Drawn0.refl _ | apply Drawn0.step)⟩
end Go.Proofs.Ythhgcjlgnafdcaa.Px
end
section
namespace Go.Proofs.Ythhgcjlgnafdcaa.Px
open Go.RowKit Go.Proofs.YthhgcjlgnafdcaaW.PrintWords Go.Proofs.YthhgcjlgnafdcaaW.PrintLast Go.Proofs.YthhgcjlgnafdcaaW.PrintMore
attribute [local go_sem] max2_int min2_int max_two min_two max_three min_three max_four min_four   -- for this text's walks alone
set_option linter.unusedVariables false
set_option linter.unusedSimpArgs false
attribute [local go_sem] run_add64_any
theorem eqA71 (d : Nat) (w : World) (x0 y0 : ByteArray) (x1 y1 : Int) :
  (Op.equalIn (d + 2) 71 (.agg #[.string x0, .int .i64 x1]) (.agg #[.string y0, .int .i64 y1])).run Try.prog w = .ok (x0.toList == y0.toList && (x1 == y1)) w := by
 refine eqA_of Try.underlying71 (by kernel_rfl) ?_
 refine eqf_cons (by rfl) (by go_simp; rfl) (by go_simp; rfl) (by go_simp) ?_
 exact eqf_last (by rfl) (by go_simp; rfl) (by go_simp; rfl) (by go_simp)
end Go.Proofs.Ythhgcjlgnafdcaa.Px
end
section
namespace Go.Proofs.Ythhgcjlgnafdcaa.Px
open Go.RowKit Go.Proofs.YthhgcjlgnafdcaaW.PrintWords Go.Proofs.YthhgcjlgnafdcaaW.PrintLast Go.Proofs.YthhgcjlgnafdcaaW.PrintMore
attribute [local go_sem] max2_int min2_int max_two min_two max_three min_three max_four min_four   -- for this text's walks alone
set_option linter.unusedVariables false
set_option linter.unusedSimpArgs false
attribute [local go_sem] run_add64_any
attribute [local go_sem high] eqA71
end Go.Proofs.Ythhgcjlgnafdcaa.Px
end
section
namespace Go.Proofs.Ythhgcjlgnafdcaa.Px
open Go.RowKit Go.Proofs.YthhgcjlgnafdcaaW.PrintWords Go.Proofs.YthhgcjlgnafdcaaW.PrintLast Go.Proofs.YthhgcjlgnafdcaaW.PrintMore
attribute [local go_sem] max2_int min2_int max_two min_two max_three min_three max_four min_four   -- for this text's walks alone
set_option linter.unusedVariables false
set_option linter.unusedSimpArgs false
attribute [local go_sem] run_add64_any
end Go.Proofs.Ythhgcjlgnafdcaa.Px
end
section
namespace Go.Proofs.Ythhgcjlgnafdcaa.Px
open Go.RowKit Go.Proofs.YthhgcjlgnafdcaaW.PrintWords Go.Proofs.YthhgcjlgnafdcaaW.PrintLast Go.Proofs.YthhgcjlgnafdcaaW.PrintMore
attribute [local go_sem] max2_int min2_int max_two min_two max_three min_three max_four min_four   -- for this text's walks alone
set_option linter.unusedVariables false
set_option linter.unusedSimpArgs false
attribute [local go_sem] run_add64_any
end Go.Proofs.Ythhgcjlgnafdcaa.Px
end
section
namespace Go.Proofs.Ythhgcjlgnafdcaa.Px
open Go.RowKit Go.Proofs.YthhgcjlgnafdcaaW.PrintWords Go.Proofs.YthhgcjlgnafdcaaW.PrintLast Go.Proofs.YthhgcjlgnafdcaaW.PrintMore
attribute [local go_sem] max2_int min2_int max_two min_two max_three min_three max_four min_four   -- for this text's walks alone
set_option linter.unusedVariables false
set_option linter.unusedSimpArgs false
attribute [local go_sem] run_add64_any
end Go.Proofs.Ythhgcjlgnafdcaa.Px
end
