/- Texts of this seat, put together (Zt8). -/
import Derived.Test.YtjbbigodkhnokaaDoorProg
import Derived.Below
import Derived.Deep.Draws
import Derived.Deep.AppendLies
import Derived.Maps.AppendAt
import Derived.OwnWalk
import Derived.Laws.BytesArg
import Derived.Laws.MakeOwn
import Derived.Laws.OwnMore
import Derived.Deep.OwnRows
import Derived.Tactics
import Derived.Lib.ConvBytes
import Derived.Laws.Slices
import Derived.WalkKit
import Derived.KernelRfl
import Derived.RowKit3
import Derived.Deep.LoopGhost
import Derived.Deep.QuietTactic
import Derived.BigQuiet
import Derived.WideLaws
import Derived.Deep.DeepCutAuto
import Derived.Deep.CutBlock
import Derived.Deep.RegionHeld3
import Derived.Laws.Rows
import Derived.Lib.AppendStr
import Derived.ArgAppend
import Derived.Laws.IdiomCopy
import Derived.OrdersHeld
import Derived.Laws.BitsLemmas
import Derived.RowKit
import Derived.Laws.Externs
import Derived.WalkSpells
import Derived.WalkLawsBesides
import Derived.RegionTactic
import Derived.ChangeAlike
import Derived.BigRegion
import Derived.Test.YtjbbigodkhnokaaDoorZt1
import Derived.Test.YtjbbigodkhnokaaDoorZt2
import Derived.Test.YtjbbigodkhnokaaDoorZt3
import Derived.Test.YtjbbigodkhnokaaDoorZt6
import Derived.Test.YtjbbigodkhnokaaDoorZt7
section
namespace Go.Proofs.YtjbbigodkhnokaaDoor.Tr
open Go.RowKit Go.Proofs.YtjbbigodkhnokaaDoorW.PrintWords Go.Proofs.YtjbbigodkhnokaaDoorW.PrintLast Go.Proofs.YtjbbigodkhnokaaDoorW.PrintMore
attribute [local go_sem] max2_int min2_int max_two min_two max_three min_three max_four min_four   -- for this text's walks alone
set_option linter.unusedVariables false
set_option linter.unusedSimpArgs false
def errW : Option Int → Value
 | none => .nilIface
 | some c => .iface 0 (.int .i64 c)
theorem errW_none : errW none = .nilIface := rfl
theorem errW_some (c : Int) : errW (some c) = .iface 0 (.int .i64 c) := rfl
def addLo (x y c : Int) : Int := (x.toNat + y.toNat + c.toNat) % 18446744073709551616
def addHi (x y c : Int) : Int := (x.toNat + y.toNat + c.toNat) / 18446744073709551616
theorem run_add64_any (x y c : Int) (hc : decide (c ≤ 1) = true) (w : World) : (callFunc 58 #[.int .u64 x, .int .u64 y, .int .u64 c]).run Tryd.prog w = .ok (.value (.tuple #[.int .u64 (addLo x y c), .int .u64 (addHi x y c)])) w := by
 have hc' : c ≤ 1 := od_ hc
 rw [run_callFunc_extern Tryd.func58 (by kernel_rfl) (by kernel_rfl) (by kernel_rfl) (e := add64Entry) (by kernel_rfl)]
 have key : (add64Entry #[.int .u64 x, .int .u64 y, .int .u64 c]).run Tryd.prog w = .ok (.tuple #[.int .u64 (addLo x y c), .int .u64 (addHi x y c)]) w := by
  cases c with
  | ofNat m =>
   have hm : m = 0 ∨ m = 1 := by have : (m : Int) ≤ 1 := hc'; omega
   rcases hm with rfl | rfl <;> rfl
  | negSucc m => rfl
 rw [key]
 rfl
theorem conv_V (W : World) (e : TypeId) (s : ByteArray) (hs : s.size ≤ 9223372036854775807) : Kd.V (Kd.int .u8) e (Lib.bytesWorld W e s) W.heap.size (fun k => W.heap.size ≤ k) (.slice (some ⟨W.heap.size, 0, none⟩) s.size (grownCap W s.size 0 e)) (bytesOf s) := by
 refine ⟨some ⟨W.heap.size, 0, none⟩, grownCap W s.size 0 e, by rw [bytesOf_length], by rw [bytesOf_length]; exact grownCap_ge _ _ _ _, ?_⟩
 intro W' hW
 have hb : W'.heap[W.heap.size]? = (Lib.bytesWorld W e s).heap[W.heap.size]? := hW _ (Nat.le_refl _) (by rw [Lib.bytesWorld_size]; omega)
 have hr := bytes_reads W e s hs
 rw [bytesOf_length]
 refine Kd.C_of_reads (enc := Value.int .u8) (d := (0 : Int)) (readsInt_of.1 ⟨hr.1, hr.2.1, fun hn => ?_⟩)
 obtain ⟨ad, ea, hc⟩ := hr.2.2 hn
 injection ea with ea
 subst ea
 refine ⟨_, rfl, fun j hj => ?_⟩
 have := hc j hj
 rw [add_plain] at this ⊢
 simpa only [World.cell?, hb] using this
section
variable {P : Program} {ops : Array Oper} {Q : Exit → Act → World → Prop} {rest : List Oper} {o : Oper} {a : Act}
theorem conv_event {w0 W : World} (base : Nat) (e : TypeId) (hgd : o.guard = none) {N : Tmp} (_hN : o.dst = some N) (s : ByteArray) (hm : s.size ≤ 9223372036854775807)
  (hrun : (execOp a.eval o).run P W = .ok (.value (.slice (some ⟨W.heap.size, 0, none⟩) s.size (grownCap W s.size 0 e))) (Lib.bytesWorld W e s)) (HB : Below base w0 W) (hbase : base ≤ W.heap.size)
  (h : ∀ v1 w1, Kd.V (Kd.int .u8) e w1 W.heap.size (fun k => W.heap.size ≤ k) v1 (bytesOf s) → Below base w0 w1 → W.grownBy w1 none → True → wpList P ops Q rest (a.put o.dst v1) w1) : wpList P ops Q (o :: rest) a W :=
 Kd.event_run hgd hrun (h _ _ (conv_V W e s hm) (bytes_below HB hbase e s) (grown_of_below (bytes_below (Below.refl _ _) (Nat.le_refl _) e s) none) trivial)
end
theorem info3 : (Tryd.prog.info? 3).map (fun i => (i.zero, i.size, i.bytes)) = some (some (.int .i64 0), 1, 8) := by kernel_rfl
theorem info35 : (Tryd.prog.info? 35).map (fun i => (i.zero, i.size, i.bytes)) = some (some (.agg #[(.int .i64 0), (.int .u64 0)]), 2, 16) := by kernel_rfl
structure S35 where
 f0 : Int
 f1 : Int
def z35 : S35 := ⟨(0 : Int), (0 : Int)⟩
def k35 : Kd S35 := Kd.iso (Kd.pair (Kd.int .i64) (Kd.int .u64)) (fun x : S35 => (x.f0, x.f1))
theorem k35_open {w : World} {x : S35} {cs : List Value} (h : k35.K w x cs) : cs = [.int .i64 x.f0, .int .u64 x.f1] := by
 obtain ⟨_, _, rfl, rfl, rfl⟩ := h
 exact rfl
theorem k35_mkM (w : World) (base : Nat) (ok : Nat → Prop) (x : S35)  : k35.M w base ok x [.int .i64 x.f0, .int .u64 x.f1] := ⟨[.int .i64 x.f0], [.int .u64 x.f1], rfl, rfl, rfl⟩
def rd_T35 (xs : List S35) (i : Int) : S35 := xs.getD i.toNat z35
theorem at_T35 {w : World} {A : Option Addr} {n : Nat} {xs : List S35} (h : Kd.C k35 w A n xs) (i : Int) (h0 : 0 ≤ i) (h1 : i < n) : ∃ ad , A = some ad ∧ w.cell? (ad.add (i.toNat * 2)) = some (.int .i64 (rd_T35 xs i).f0) ∧ w.cell? ⟨(ad.add (i.toNat * 2)).block, (ad.add (i.toNat * 2)).off + 1, none⟩ = some (.int .u64 (rd_T35 xs i).f1) := by
 obtain ⟨ad, c, e, _, hK, hc0⟩ := Kd.C_get h z35 i h0 h1
 have hc : ∀ j u, c[j]? = some u → w.cell? (ad.add (i.toNat * 2 + j)) = some u := hc0
 obtain rfl := k35_open hK
 exact ⟨ad, e, hc 0 _ rfl, by rw [← add_field _ _ 1 (by omega)]; exact hc 1 _ rfl⟩
structure S28 where
 f0 : Int
 f1 : ByteArray
 f2 : ByteArray
 f3 : ByteArray
 f4 : Int
 f5 : Int
def z28 : S28 := ⟨(0 : Int), (⟨#[]⟩ : ByteArray), (⟨#[]⟩ : ByteArray), (⟨#[]⟩ : ByteArray), (0 : Int), (0 : Int)⟩
def k28 : Kd S28 := Kd.iso (Kd.pair (Kd.int .i64) (Kd.pair Kd.string (Kd.pair Kd.string (Kd.pair Kd.string (Kd.pair (Kd.int .i64) (Kd.int .i64)))))) (fun x : S28 => (x.f0, x.f1, x.f2, x.f3, x.f4, x.f5))
theorem k28_open {w : World} {x : S28} {cs : List Value} (h : k28.K w x cs) : cs = [.int .i64 x.f0, .string x.f1, .string x.f2, .string x.f3, .int .i64 x.f4, .int .i64 x.f5] := by
 obtain ⟨_, _, rfl, rfl, ⟨_, _, rfl, rfl, ⟨_, _, rfl, rfl, ⟨_, _, rfl, rfl, ⟨_, _, rfl, rfl, rfl⟩⟩⟩⟩⟩ := h
 exact rfl
theorem k28_mk (w : World) (x : S28)  : k28.K w x [.int .i64 x.f0, .string x.f1, .string x.f2, .string x.f3, .int .i64 x.f4, .int .i64 x.f5] := ⟨[.int .i64 x.f0], [.string x.f1, .string x.f2, .string x.f3, .int .i64 x.f4, .int .i64 x.f5], rfl, rfl, ⟨[.string x.f1], [.string x.f2, .string x.f3, .int .i64 x.f4, .int .i64 x.f5], rfl, rfl, ⟨[.string x.f2], [.string x.f3, .int .i64 x.f4, .int .i64 x.f5], rfl, rfl, ⟨[.string x.f3], [.int .i64 x.f4, .int .i64 x.f5], rfl, rfl, ⟨[.int .i64 x.f4], [.int .i64 x.f5], rfl, rfl, rfl⟩⟩⟩⟩⟩
def rd_T28 (xs : List S28) (i : Int) : S28 := xs.getD i.toNat z28
theorem at_T28 {w : World} {A : Option Addr} {n : Nat} {xs : List S28} (h : Kd.C k28 w A n xs) (i : Int) (h0 : 0 ≤ i) (h1 : i < n) : ∃ ad , A = some ad ∧ w.cell? (ad.add (i.toNat * 6)) = some (.int .i64 (rd_T28 xs i).f0) ∧ w.cell? ⟨(ad.add (i.toNat * 6)).block, (ad.add (i.toNat * 6)).off + 1, none⟩ = some (.string (rd_T28 xs i).f1) ∧ w.cell? ⟨(ad.add (i.toNat * 6)).block, (ad.add (i.toNat * 6)).off + 2, none⟩ = some (.string (rd_T28 xs i).f2) ∧ w.cell? ⟨(ad.add (i.toNat * 6)).block, (ad.add (i.toNat * 6)).off + 3, none⟩ = some (.string (rd_T28 xs i).f3) ∧ w.cell? ⟨(ad.add (i.toNat * 6)).block, (ad.add (i.toNat * 6)).off + 4, none⟩ = some (.int .i64 (rd_T28 xs i).f4) ∧ w.cell? ⟨(ad.add (i.toNat * 6)).block, (ad.add (i.toNat * 6)).off + 5, none⟩ = some (.int .i64 (rd_T28 xs i).f5) := by
 obtain ⟨ad, c, e, _, hK, hc0⟩ := Kd.C_get h z28 i h0 h1
 have hc : ∀ j u, c[j]? = some u → w.cell? (ad.add (i.toNat * 6 + j)) = some u := hc0
 obtain rfl := k28_open hK
 exact ⟨ad, e, hc 0 _ rfl, by rw [← add_field _ _ 1 (by omega)]; exact hc 1 _ rfl, by rw [← add_field _ _ 2 (by omega)]; exact hc 2 _ rfl, by rw [← add_field _ _ 3 (by omega)]; exact hc 3 _ rfl, by rw [← add_field _ _ 4 (by omega)]; exact hc 4 _ rfl, by rw [← add_field _ _ 5 (by omega)]; exact hc 5 _ rfl⟩
structure S30 where
 f0 : Int
 f1 : ByteArray
 f2 : ByteArray
 f3 : ByteArray
 f4 : Int
 f5 : Int
def z30 : S30 := ⟨(0 : Int), (⟨#[]⟩ : ByteArray), (⟨#[]⟩ : ByteArray), (⟨#[]⟩ : ByteArray), (0 : Int), (0 : Int)⟩
def k30 : Kd S30 := Kd.iso (Kd.pair (Kd.int .i64) (Kd.pair Kd.string (Kd.pair Kd.string (Kd.pair Kd.string (Kd.pair (Kd.int .i64) (Kd.int .i64)))))) (fun x : S30 => (x.f0, x.f1, x.f2, x.f3, x.f4, x.f5))
theorem k30_open {w : World} {x : S30} {cs : List Value} (h : k30.K w x cs) : cs = [.int .i64 x.f0, .string x.f1, .string x.f2, .string x.f3, .int .i64 x.f4, .int .i64 x.f5] := by
 obtain ⟨_, _, rfl, rfl, ⟨_, _, rfl, rfl, ⟨_, _, rfl, rfl, ⟨_, _, rfl, rfl, ⟨_, _, rfl, rfl, rfl⟩⟩⟩⟩⟩ := h
 exact rfl
theorem k30_mk (w : World) (x : S30)  : k30.K w x [.int .i64 x.f0, .string x.f1, .string x.f2, .string x.f3, .int .i64 x.f4, .int .i64 x.f5] := ⟨[.int .i64 x.f0], [.string x.f1, .string x.f2, .string x.f3, .int .i64 x.f4, .int .i64 x.f5], rfl, rfl, ⟨[.string x.f1], [.string x.f2, .string x.f3, .int .i64 x.f4, .int .i64 x.f5], rfl, rfl, ⟨[.string x.f2], [.string x.f3, .int .i64 x.f4, .int .i64 x.f5], rfl, rfl, ⟨[.string x.f3], [.int .i64 x.f4, .int .i64 x.f5], rfl, rfl, ⟨[.int .i64 x.f4], [.int .i64 x.f5], rfl, rfl, rfl⟩⟩⟩⟩⟩
def rd_T30 (xs : List S30) (i : Int) : S30 := xs.getD i.toNat z30
theorem at_T30 {w : World} {A : Option Addr} {n : Nat} {xs : List S30} (h : Kd.C k30 w A n xs) (i : Int) (h0 : 0 ≤ i) (h1 : i < n) : ∃ ad , A = some ad ∧ w.cell? (ad.add (i.toNat * 6)) = some (.int .i64 (rd_T30 xs i).f0) ∧ w.cell? ⟨(ad.add (i.toNat * 6)).block, (ad.add (i.toNat * 6)).off + 1, none⟩ = some (.string (rd_T30 xs i).f1) ∧ w.cell? ⟨(ad.add (i.toNat * 6)).block, (ad.add (i.toNat * 6)).off + 2, none⟩ = some (.string (rd_T30 xs i).f2) ∧ w.cell? ⟨(ad.add (i.toNat * 6)).block, (ad.add (i.toNat * 6)).off + 3, none⟩ = some (.string (rd_T30 xs i).f3) ∧ w.cell? ⟨(ad.add (i.toNat * 6)).block, (ad.add (i.toNat * 6)).off + 4, none⟩ = some (.int .i64 (rd_T30 xs i).f4) ∧ w.cell? ⟨(ad.add (i.toNat * 6)).block, (ad.add (i.toNat * 6)).off + 5, none⟩ = some (.int .i64 (rd_T30 xs i).f5) := by
 obtain ⟨ad, c, e, _, hK, hc0⟩ := Kd.C_get h z30 i h0 h1
 have hc : ∀ j u, c[j]? = some u → w.cell? (ad.add (i.toNat * 6 + j)) = some u := hc0
 obtain rfl := k30_open hK
 exact ⟨ad, e, hc 0 _ rfl, by rw [← add_field _ _ 1 (by omega)]; exact hc 1 _ rfl, by rw [← add_field _ _ 2 (by omega)]; exact hc 2 _ rfl, by rw [← add_field _ _ 3 (by omega)]; exact hc 3 _ rfl, by rw [← add_field _ _ 4 (by omega)]; exact hc 4 _ rfl, by rw [← add_field _ _ 5 (by omega)]; exact hc 5 _ rfl⟩
end Go.Proofs.YtjbbigodkhnokaaDoor.Tr
end
section
namespace Go.Proofs.YtjbbigodkhnokaaDoor.Tr
open Go.RowKit Go.Proofs.YtjbbigodkhnokaaDoorW.PrintWords Go.Proofs.YtjbbigodkhnokaaDoorW.PrintLast Go.Proofs.YtjbbigodkhnokaaDoorW.PrintMore
attribute [local go_sem] max2_int min2_int max_two min_two max_three min_three max_four min_four   -- for this text's walks alone
set_option linter.unusedVariables false
set_option linter.unusedSimpArgs false
attribute [local go_sem] run_add64_any
def ident_small.f (a0 : Int) : Option (Bool) := if a0 ≥ 97 then (some (decide (a0 ≤ 122))) else (some false)
set_option maxHeartbeats 8000000 in
set_option maxRecDepth 100000 in
theorem ident_small.calls (a0 : Int) (r : Bool) (w : World) (h : ident_small.f a0 = some r) :
  Calls Tryd.prog 62 #[.int .u8 a0] w fun e w' => e = .returned (.bool r) ∧ Drawn0 w w' := by
 have H : (if a0 ≥ 97 then (some (decide (a0 ≤ 122))) else (some false)) = some r := h
 clear h
 by_cases c2 : a0 ≥ 97
 ·
  rw [if_pos c2] at H
  have c2b0 : decide (97 ≤ a0) = true := decide_eq_true c2
  clear c2
  obtain rfl := Option.some.inj H
  go_enter Tryd.func62, Tryd.ntmps62
  go_wp2
  go_ret
  exact ⟨by first | rfl | (simp; done) | (simp [*]; done), by repeat (first | exact Drawn0.refl _ | apply Drawn0.step)⟩
 ·
  rw [if_neg c2] at H
  have c2b0 : decide (97 ≤ a0) = false := decide_eq_false c2
  clear c2
  obtain rfl := Option.some.inj H
  go_enter Tryd.func62, Tryd.ntmps62
  go_wp2
  go_ret
  exact ⟨by first | rfl | (simp; done) | (simp [*]; done), by repeat (first | exact Drawn0.refl _ | apply Drawn0.step)⟩
end Go.Proofs.YtjbbigodkhnokaaDoor.Tr
end
section
namespace Go.Proofs.YtjbbigodkhnokaaDoor.Tr
open Go.RowKit Go.Proofs.YtjbbigodkhnokaaDoorW.PrintWords Go.Proofs.YtjbbigodkhnokaaDoorW.PrintLast Go.Proofs.YtjbbigodkhnokaaDoorW.PrintMore
attribute [local go_sem] max2_int min2_int max_two min_two max_three min_three max_four min_four   -- for this text's walks alone
set_option linter.unusedVariables false
set_option linter.unusedSimpArgs false
attribute [local go_sem] run_add64_any
def ident_digit.f (a0 : Int) : Option (Bool) := if a0 ≥ 48 then (some (decide (a0 ≤ 57))) else (some false)
set_option maxHeartbeats 8000000 in
set_option maxRecDepth 100000 in
theorem ident_digit.calls (a0 : Int) (r : Bool) (w : World) (h : ident_digit.f a0 = some r) :
  Calls Tryd.prog 63 #[.int .u8 a0] w fun e w' => e = .returned (.bool r) ∧ Drawn0 w w' := by
 have H : (if a0 ≥ 48 then (some (decide (a0 ≤ 57))) else (some false)) = some r := h
 clear h
 by_cases c2 : a0 ≥ 48
 ·
  rw [if_pos c2] at H
  have c2b0 : decide (48 ≤ a0) = true := decide_eq_true c2
  clear c2
  obtain rfl := Option.some.inj H
  go_enter Tryd.func63, Tryd.ntmps63
  go_wp2
  go_ret
  exact ⟨by first | rfl | (simp; done) | (simp [*]; done), by repeat (first | exact Drawn0.refl _ | apply Drawn0.step)⟩
 ·
  rw [if_neg c2] at H
  have c2b0 : decide (48 ≤ a0) = false := decide_eq_false c2
  clear c2
  obtain rfl := Option.some.inj H
  go_enter Tryd.func63, Tryd.ntmps63
  go_wp2
  go_ret
  exact ⟨by first | rfl | (simp; done) | (simp [*]; done), by repeat (first | exact Drawn0.refl _ | apply Drawn0.step)⟩
end Go.Proofs.YtjbbigodkhnokaaDoor.Tr
end
section
namespace Go.Proofs.YtjbbigodkhnokaaDoor.Tr
open Go.RowKit Go.Proofs.YtjbbigodkhnokaaDoorW.PrintWords Go.Proofs.YtjbbigodkhnokaaDoorW.PrintLast Go.Proofs.YtjbbigodkhnokaaDoorW.PrintMore
attribute [local go_sem] max2_int min2_int max_two min_two max_three min_three max_four min_four   -- for this text's walks alone
set_option linter.unusedVariables false
set_option linter.unusedSimpArgs false
attribute [local go_sem] run_add64_any
mutual
def ident_Member.j0 : Nat → ByteArray → Bool → Option (Int)
 | 0, _, _ => none
 | k + 1, x0, x17 => if x17 = true then (some 3) else (if x0.size ≤ 9223372036854775807 then ((some (bytesOf x0 : List Int)).bind fun y281 => (ident_Member.l0 k y281 (y281.length : Int) 0)) else (none))
def ident_Member.l0 : Nat → List Int → Int → Int → Option (Int)
 | 0, _, _, _ => none
 | k + 1, x19, x20, x21 => if x21 < x20 then (if 0 ≤ x21 then (if x21 < (x19.length : Int) then ((ident_small.f (rd x19 x21)).bind fun t285 => (if t285 = true then (ident_Member.l0 k x19 x20 (wrap64 (x21 + 1))) else ((ident_digit.f (rd x19 x21)).bind fun t286 => (if t286 = true then (ident_Member.l0 k x19 x20 (wrap64 (x21 + 1))) else (some 3))))) else (none)) else (none)) else (some 0)
end
def ident_Member.f (k : Nat) (a0 : ByteArray) : Option (Int) := if a0.toList = ([] : List UInt8) then (ident_Member.j0 k a0 true) else (if (a0.size : Int) > 8 then (ident_Member.j0 k a0 true) else (if 0 < (a0.size : Int) then ((ident_small.f (bt a0 0)).bind fun t280 => (ident_Member.j0 k a0 (!t280))) else (none)))
theorem ident_Member.mono_l : ∀ k, (∀ y0 y1, LeO (ident_Member.j0 k y0 y1) (ident_Member.j0 (k + 1) y0 y1)) ∧ (∀ y0 y1 y2, LeO (ident_Member.l0 k y0 y1 y2) (ident_Member.l0 (k + 1) y0 y1 y2))
 | 0 => ⟨fun _ _ r h => by simp [ident_Member.j0] at h, fun _ _ _ r h => by simp [ident_Member.l0] at h⟩
 | k + 1 => by
  obtain ⟨ih0, ih1⟩ := ident_Member.mono_l k
  refine ⟨?_, ?_⟩
  ·
   intro y0 y1
   unfold ident_Member.j0
   repeat' first
   | (with_reducible exact ih0 _ _)
   | (with_reducible exact ih1 _ _ _)
   | (with_reducible exact LeO.refl _)
   | (with_reducible exact LeO.none _)
   | (with_reducible refine LeO.ite ?_ ?_)
   | (with_reducible refine LeO.bind ?_ (fun _ => ?_))
   | exact ih0 _ _
   | exact ih1 _ _ _
   | exact LeO.none _
   | refine LeO.ite ?_ ?_
   | refine LeO.bind ?_ (fun _ => ?_)
  ·
   intro y0 y1 y2
   unfold ident_Member.l0
   repeat' first
   | (with_reducible exact ih0 _ _)
   | (with_reducible exact ih1 _ _ _)
   | (with_reducible exact LeO.refl _)
   | (with_reducible exact LeO.none _)
   | (with_reducible refine LeO.ite ?_ ?_)
   | (with_reducible refine LeO.bind ?_ (fun _ => ?_))
   | exact ih0 _ _
   | exact ih1 _ _ _
   | exact LeO.none _
   | refine LeO.ite ?_ ?_
   | refine LeO.bind ?_ (fun _ => ?_)
theorem ident_Member.mono : ∀ a0 k, LeO (ident_Member.f k a0) (ident_Member.f (k + 1) a0) := by
 intro a0 k
 obtain ⟨ih0, ih1⟩ := ident_Member.mono_l k
 unfold ident_Member.f
 repeat' first
   | (with_reducible exact ih0 _ _)
   | (with_reducible exact ih1 _ _ _)
   | (with_reducible exact LeO.refl _)
   | (with_reducible exact LeO.none _)
   | (with_reducible refine LeO.ite ?_ ?_)
   | (with_reducible refine LeO.bind ?_ (fun _ => ?_))
   | exact ih0 _ _
   | exact ih1 _ _ _
   | exact LeO.none _
   | refine LeO.ite ?_ ?_
   | refine LeO.bind ?_ (fun _ => ?_)
set_option maxHeartbeats 8000000 in
set_option maxRecDepth 100000 in
theorem ident_Member.calls (k : Nat) (a0 : ByteArray) (r : Int) (w : World) (h : ident_Member.f k a0 = some r) :
  Calls Tryd.prog 48 #[.string a0] w fun e w' => e = .returned (.int .i64 r) ∧ Below w.heap.size w w' := by
 have HB := A_ (Below.refl w.heap.size w)
 have H : (if a0.toList = ([] : List UInt8) then (ident_Member.j0 k a0 true) else (if (a0.size : Int) > 8 then (ident_Member.j0 k a0 true) else (if 0 < (a0.size : Int) then ((ident_small.f (bt a0 0)).bind fun t280 => (ident_Member.j0 k a0 (!t280))) else (none)))) = some r := h
 clear h
 have HC2 := A_ H
 clear H
 go_enter Tryd.func48, Tryd.ntmps48
 go_upto_region 1 with (fail)
 go_cut [17] (fun v17 wc => ∃ (kq : Nat) (x17_1 : Bool), v17 = .bool x17_1 ∧ Aside0 (ident_Member.j0 kq a0 x17_1 = some r) ∧ Aside0 (kq ≤ k) ∧ Aside0 (Below w.heap.size w wc))
 case first =>
  have H := HC2.out
  clear HC2
  by_cases c3 : a0.toList = ([] : List UInt8)
  ·
   rw [if_pos c3] at H
   have c3b0 : (a0.toList == ([] : List UInt8)) = true := q1_ c3
   have c3b1 : (a0.toList != ([] : List UInt8)) = false := q3_ c3
   clear c3
   (first | rw [c3b0] | (simp only [i64_w, i32_w]; rw [c3b0]) | skip)
   have H' := A_ H
   clear H
   go_wp2
   go_meet
   case rel => exact ⟨_, (true), (by first | rfl | (simp; done) | (simp [*]; done)), H', ⟨by first | omega | exact Nat.le_refl _⟩, ⟨bw_⟩⟩
  ·
   rw [if_neg c3] at H
   have c3b0 : (a0.toList == ([] : List UInt8)) = false := q4_ c3
   have c3b1 : (a0.toList != ([] : List UInt8)) = true := q2_ c3
   (first | rw [c3b0] | (simp only [i64_w, i32_w]; rw [c3b0]) | skip)
   by_cases c4 : (a0.size : Int) > 8
   ·
    rw [if_pos c4] at H
    have c4b0 : decide (8 < (a0.size : Int)) = true := decide_eq_true c4
    have c4b1 : decide (8 < a0.size) = true := decide_eq_true (by omega)
    clear c4
    have H' := A_ H
    clear H
    go_wp2
    go_meet
    case rel => exact ⟨_, (true), (by first | rfl | (simp; done) | (simp [*]; done)), H', ⟨by first | omega | exact Nat.le_refl _⟩, ⟨bw_⟩⟩
   ·
    rw [if_neg c4] at H
    have c4b0 : decide (8 < (a0.size : Int)) = false := decide_eq_false c4
    have c4b1 : decide (8 < a0.size) = false := decide_eq_false (by omega)
    clear c4
    by_cases c5 : 0 < (a0.size : Int)
    ·
     rw [if_pos c5] at H
     have c5b0 : decide (0 < (a0.size : Int)) = true := decide_eq_true c5
     have c5b1 : decide (0 < a0.size) = true := decide_eq_true (by omega)
     clear c5
     replace H := os_ H
     obtain ⟨t280, A70, H⟩ := H
     replace H : (ident_Member.j0 k a0 (!t280)) = some r := H
     have A7 := A_ A70
     clear A70
     have H' := A_ H
     clear H
     have p6 : 0 ≤ (0 : Int) := (by omega)
     have q6 : 0 < a0.size := (by have : (0 : Int) < (a0.size : Int) := od_ (by first | (with_reducible assumption) | assumption); omega)
     have hx6 : ∀ h : 0 < a0.size, ((a0[0]'h).toNat : Int) = bt a0 0 := bt_at a0 0
     clear p6
     have qi6 : (0 < (a0.size : Int)) = True := eq_true (od_ (by first | (with_reducible assumption) | assumption))
     replace q6 := eq_true q6
     go_wp2_with (first | (go_at_call 62; (with_reducible refine (ident_small.calls (bt a0 0) t280 _ A7.out).mono ?_); rintro e w' ⟨rfl, ⟨nd, rfl⟩⟩))
     go_meet
     case rel => exact ⟨_, (!t280), (by first | rfl | (simp; done) | (simp [*]; done)), H', ⟨by first | omega | exact Nat.le_refl _⟩, ⟨bw_⟩⟩
    ·
     rw [if_neg c5] at H
     exact absurd H (by simp)
 case rest =>
  clear HC2
  try clear p2
  try clear c3
  try clear c3b0
  try clear c3b1
  try clear c4
  try clear c4b0
  try clear c4b1
  try clear c5
  try clear c5b0
  try clear c5b1
  try clear p6
  try clear q6
  try clear hx6
  try clear qi6
  try clear p6
  try clear q6
  obtain ⟨kq, x17_1, rfl, HA, HJ1, HB⟩ := hcut
  cases kq with
  | zero => exact absurd HA.out (by simp [ident_Member.j0])
  | succ kj1 =>
   have H := HA.out
   clear HA
   simp only [ident_Member.j0] at H
   by_cases c8 : x17_1 = true
   ·
    subst c8
    have H1 : (some 3) = some r := by rw [if_pos rfl] at H; exact H
    clear H
    have H := H1
    clear H1
    obtain rfl := Option.some.inj H
    go_wp2
    go_ret
    exact ⟨by first | rfl | (simp [errW_none, errW_some] <;> rfl) | (simp [*, errW_none, errW_some] <;> rfl), bw_⟩
   ·
    replace c8 := Bool.eq_false_iff.mpr c8
    subst c8
    have H1 : (if a0.size ≤ 9223372036854775807 then ((some (bytesOf a0 : List Int)).bind fun y281 => (ident_Member.l0 kj1 y281 (y281.length : Int) 0)) else (none)) = some r := by rw [if_neg (show ¬ (false = true) by decide)] at H; exact H
    clear H
    have H := H1
    clear H1
    by_cases c9 : a0.size ≤ 9223372036854775807
    ·
     rw [if_pos c9] at H
     have c9b0 := eq_true c9
     have c9b1 : decide (a0.size ≤ 9223372036854775807) = true := decide_eq_true c9
     try have c9b2 : (9223372036854775807 < a0.size) = False := eq_false (Nat.not_lt.2 c9)
     clear c9
     obtain ⟨y281, hy281⟩ : ∃ y_ : List Int, y_ = (bytesOf a0) := ⟨_, rfl⟩
     replace H : (ident_Member.l0 kj1 y281 (y281.length : Int) 0) = some r := by first | (rw [hy281]; with_reducible exact H) | (have H2_ := (Option.bind_some _ _).symm.trans H; rw [hy281]; with_reducible exact H2_) | (have H2_ := (Option.bind_some _ _).symm.trans H; with_reducible exact H2_) | with_reducible exact H | (rw [hy281]; exact H) | exact H
     have Ny281 := A_ hy281
     clear hy281
     have H' := A_ H
     clear H
     go_wp2_with (first | ((with_reducible refine gate_dst (N := 19) rfl ?_); (try (refine gate_guard (by rfl) ?_; dsimp only)); refine conv_event _ 5 ?hg (N := 19) ?hd a0 (od_ (by first | (with_reducible assumption) | assumption)) ?hr (Below.refl _ _) (Nat.le_refl _) ?_; (case hd => rfl); (case hg => rfl); (case hr => have kb_ := fun W_ => print_bytes (P := Tryd.prog) 9 97 5 Tryd.underlying9 Tryd.underlying97 Tryd.underlying5 a0 W_; first | (go_simp; done) | (go_simp; rfl)); intro v282 w10 ho11 hb hg_ hnew_; clear hg_ hnew_; (first | rw [← Ny281.out] at ho11 | (simp only [Int.reduceToNat] at ho11; rw [← Ny281.out] at ho11)); have n0_ := A_ (Kd.V_lower (vm_ (ok' := fun k_ => True) ho11 (fun k_ hk_ => trivial)) (bz_ bw_)); have n1_ := A_ (bs_ bw_ hb); clear HB; have HO283 := n0_; have HB := n1_; clear n0_ n1_; clear hb ho11; obtain ⟨Ao12, co12, eo12⟩ := Kd.V_slice HO283.out; subst eo12))
     (try simp only [Act.put, sA_, sZ_, sS_])
     go_loopg [21] kj1 (fun kq v21 w' => ∃ (x21_2 : Int), v21 = .int .i64 x21_2 ∧ Aside0 (ident_Member.l0 kq y281 (y281.length : Int) x21_2 = some r) ∧ Aside0 (kq ≤ kj1) ∧ Aside0 (Kd.V (Kd.int .u8) 5 w' w.heap.size (fun _ => True) (.slice Ao12 y281.length co12) y281) ∧ Aside0 (Below w.heap.size w w'))
     case atStart => exact ⟨(0), (by first | rfl | (simp; done) | (simp [*]; done)), H', ⟨Nat.le_refl _⟩, ⟨by (with_reducible repeat (first | apply va_ | apply vn_ | apply vd_)); exact HO283.out⟩, ⟨bw_⟩⟩
     case round =>
      clear H'
      try clear p2
      try clear c3
      try clear c3b0
      try clear c3b1
      try clear c4
      try clear c4b0
      try clear c4b1
      try clear c5
      try clear c5b0
      try clear c5b1
      try clear p6
      try clear q6
      try clear hx6
      try clear qi6
      try clear c8
      try clear c9
      try clear c9b0
      try clear c9b1
      try clear c9b2
      try clear p2
      try clear p6
      try clear q6
      obtain ⟨x21_2, rfl, HA, HK2, HO_19, HB⟩ := hrel
      cases gk with
      | zero => exact absurd HA.out (by simp [ident_Member.l0])
      | succ k2 =>
       have H := HA.out
       clear HA
       simp only [ident_Member.l0] at H
       by_cases c13 : x21_2 < (y281.length : Int)
       ·
        rw [if_pos c13] at H
        have c13b0 : decide (x21_2 < (y281.length : Int)) = true := decide_eq_true c13
        clear c13
        by_cases c14 : 0 ≤ x21_2
        ·
         rw [if_pos c14] at H
         have c14b0 : decide (0 ≤ x21_2) = true := decide_eq_true c14
         clear c14
         by_cases c15 : x21_2 < (y281.length : Int)
         ·
          rw [if_pos c15] at H
          have c15b0 : decide (x21_2 < (y281.length : Int)) = true := decide_eq_true c15
          clear c15
          replace H := os_ H
          obtain ⟨t285, A160, H⟩ := H
          replace H : (if t285 = true then (ident_Member.l0 k2 y281 (y281.length : Int) (wrap64 (x21_2 + 1))) else ((ident_digit.f (rd y281 x21_2)).bind fun t286 => (if t286 = true then (ident_Member.l0 k2 y281 (y281.length : Int) (wrap64 (x21_2 + 1))) else (some 3)))) = some r := H
          have A16 := A_ A160
          clear A160
          by_cases c17 : t285 = true
          ·
           subst c17
           have H1 : (ident_Member.l0 k2 y281 (y281.length : Int) (wrap64 (x21_2 + 1))) = some r := by rw [if_pos rfl] at H; exact H
           clear H
           have H := H1
           clear H1
           have H' := A_ H
           clear H
           have p284 : 0 ≤ (x21_2 : Int) := od_ (by first | (with_reducible assumption) | assumption)
           have q284 : x21_2 < (y281.length : Int) := od_ (by first | (with_reducible assumption) | assumption)
           obtain ⟨ad284, e284, hx284_0⟩ := Kd.at_int (Kd.V_reads' HO_19.out).2.2 x21_2 p284 q284
           cases e284
           replace p284 := eq_true p284
           replace q284 := eq_true q284
           go_wp2_with (first | ((with_reducible refine gate_callee (f := 62) rfl ?_); refine goesL_ (some 26) rfl rfl Tryd.func62 (by kernel_rfl) rfl #[.int .u8 (rd y281 x21_2)] rfl (by (try simp only [List.map_toArray, List.map_cons, List.map_nil]); first | done | rfl | (simp only [List.length_drop, List.length_take]; rfl)) ?_; (with_reducible refine (ident_small.calls (rd y281 x21_2) true _ A16.out).mono ?_); rintro e w' ⟨rfl, ⟨nd, rfl⟩⟩; refine ⟨_, rfl, ?_⟩))
           go_roundg k2
           case measure => have := HJ1.out; have := HK2.out; omega
           case rel => exact ⟨(wrap64 (x21_2 + 1)), (by first | rfl | (simp; done) | (simp [*]; done)), H', ⟨by have := HJ1.out; have := HK2.out; omega⟩, ⟨by (with_reducible repeat (first | apply va_ | apply vn_ | apply vd_)); exact HO_19.out⟩, ⟨bw_⟩⟩
          ·
           replace c17 := Bool.eq_false_iff.mpr c17
           subst c17
           have H1 : ((ident_digit.f (rd y281 x21_2)).bind fun t286 => (if t286 = true then (ident_Member.l0 k2 y281 (y281.length : Int) (wrap64 (x21_2 + 1))) else (some 3))) = some r := by rw [if_neg (show ¬ (false = true) by decide)] at H; exact H
           clear H
           have H := H1
           clear H1
           replace H := os_ H
           obtain ⟨t286, A180, H⟩ := H
           replace H : (if t286 = true then (ident_Member.l0 k2 y281 (y281.length : Int) (wrap64 (x21_2 + 1))) else (some 3)) = some r := H
           have A18 := A_ A180
           clear A180
           by_cases c19 : t286 = true
           ·
            subst c19
            have H1 : (ident_Member.l0 k2 y281 (y281.length : Int) (wrap64 (x21_2 + 1))) = some r := by rw [if_pos rfl] at H; exact H
            clear H
            have H := H1
            clear H1
            have H' := A_ H
            clear H
            have p284 : 0 ≤ (x21_2 : Int) := od_ (by first | (with_reducible assumption) | assumption)
            have q284 : x21_2 < (y281.length : Int) := od_ (by first | (with_reducible assumption) | assumption)
            obtain ⟨ad284, e284, hx284_0⟩ := Kd.at_int (Kd.V_reads' HO_19.out).2.2 x21_2 p284 q284
            cases e284
            replace p284 := eq_true p284
            replace q284 := eq_true q284
            go_wp2_with (first | ((with_reducible refine gate_callee (f := 62) rfl ?_); refine goesL_ (some 26) rfl rfl Tryd.func62 (by kernel_rfl) rfl #[.int .u8 (rd y281 x21_2)] rfl (by (try simp only [List.map_toArray, List.map_cons, List.map_nil]); first | done | rfl | (simp only [List.length_drop, List.length_take]; rfl)) ?_; (with_reducible refine (ident_small.calls (rd y281 x21_2) false _ A16.out).mono ?_); rintro e w' ⟨rfl, ⟨nd, rfl⟩⟩; refine ⟨_, rfl, ?_⟩) | (go_at_call 63; (with_reducible refine (ident_digit.calls (rd y281 x21_2) true _ A18.out).mono ?_); rintro e w' ⟨rfl, ⟨nd, rfl⟩⟩))
            go_roundg k2
            case measure => have := HJ1.out; have := HK2.out; omega
            case rel => exact ⟨(wrap64 (x21_2 + 1)), (by first | rfl | (simp; done) | (simp [*]; done)), H', ⟨by have := HJ1.out; have := HK2.out; omega⟩, ⟨by (with_reducible repeat (first | apply va_ | apply vn_ | apply vd_)); exact HO_19.out⟩, ⟨bw_⟩⟩
           ·
            replace c19 := Bool.eq_false_iff.mpr c19
            subst c19
            have H1 : (some 3) = some r := by rw [if_neg (show ¬ (false = true) by decide)] at H; exact H
            clear H
            have H := H1
            clear H1
            obtain rfl := Option.some.inj H
            have p284 : 0 ≤ (x21_2 : Int) := od_ (by first | (with_reducible assumption) | assumption)
            have q284 : x21_2 < (y281.length : Int) := od_ (by first | (with_reducible assumption) | assumption)
            obtain ⟨ad284, e284, hx284_0⟩ := Kd.at_int (Kd.V_reads' HO_19.out).2.2 x21_2 p284 q284
            cases e284
            replace p284 := eq_true p284
            replace q284 := eq_true q284
            go_wp2_with (first | ((with_reducible refine gate_callee (f := 62) rfl ?_); refine goesL_ (some 26) rfl rfl Tryd.func62 (by kernel_rfl) rfl #[.int .u8 (rd y281 x21_2)] rfl (by (try simp only [List.map_toArray, List.map_cons, List.map_nil]); first | done | rfl | (simp only [List.length_drop, List.length_take]; rfl)) ?_; (with_reducible refine (ident_small.calls (rd y281 x21_2) false _ A16.out).mono ?_); rintro e w' ⟨rfl, ⟨nd, rfl⟩⟩; refine ⟨_, rfl, ?_⟩) | (go_at_call 63; (with_reducible refine (ident_digit.calls (rd y281 x21_2) false _ A18.out).mono ?_); rintro e w' ⟨rfl, ⟨nd, rfl⟩⟩))
            go_ret
            exact ⟨by first | rfl | (simp [errW_none, errW_some] <;> rfl) | (simp [*, errW_none, errW_some] <;> rfl), bw_⟩
         ·
          rw [if_neg c15] at H
          exact absurd H (by simp)
        ·
         rw [if_neg c14] at H
         exact absurd H (by simp)
       ·
        rw [if_neg c13] at H
        have c13b0 : decide (x21_2 < (y281.length : Int)) = false := decide_eq_false c13
        clear c13
        obtain rfl := Option.some.inj H
        go_wp2
        go_ret
        exact ⟨by first | rfl | (simp [errW_none, errW_some] <;> rfl) | (simp [*, errW_none, errW_some] <;> rfl), bw_⟩
    ·
     rw [if_neg c9] at H
     exact absurd H (by simp)
end Go.Proofs.YtjbbigodkhnokaaDoor.Tr
end
section
namespace Go.Proofs.YtjbbigodkhnokaaDoor.Tr
open Go.RowKit Go.Proofs.YtjbbigodkhnokaaDoorW.PrintWords Go.Proofs.YtjbbigodkhnokaaDoorW.PrintLast Go.Proofs.YtjbbigodkhnokaaDoorW.PrintMore
attribute [local go_sem] max2_int min2_int max_two min_two max_three min_three max_four min_four   -- for this text's walks alone
set_option linter.unusedVariables false
set_option linter.unusedSimpArgs false
attribute [local go_sem] run_add64_any
def ident_great.f (a0 : Int) : Option (Bool) := if a0 ≥ 65 then (some (decide (a0 ≤ 90))) else (some false)
set_option maxHeartbeats 8000000 in
set_option maxRecDepth 100000 in
theorem ident_great.calls (a0 : Int) (r : Bool) (w : World) (h : ident_great.f a0 = some r) :
  Calls Tryd.prog 74 #[.int .u8 a0] w fun e w' => e = .returned (.bool r) ∧ Drawn0 w w' := by
 have H : (if a0 ≥ 65 then (some (decide (a0 ≤ 90))) else (some false)) = some r := h
 clear h
 by_cases c2 : a0 ≥ 65
 ·
  rw [if_pos c2] at H
  have c2b0 : decide (65 ≤ a0) = true := decide_eq_true c2
  clear c2
  obtain rfl := Option.some.inj H
  go_enter Tryd.func74, Tryd.ntmps74
  go_wp2
  go_ret
  exact ⟨by first | rfl | (simp; done) | (simp [*]; done), by repeat (first | exact Drawn0.refl _ | apply Drawn0.step)⟩
 ·
  rw [if_neg c2] at H
  have c2b0 : decide (65 ≤ a0) = false := decide_eq_false c2
  clear c2
  obtain rfl := Option.some.inj H
  go_enter Tryd.func74, Tryd.ntmps74
  go_wp2
  go_ret
  exact ⟨by first | rfl | (simp; done) | (simp [*]; done), by repeat (first | exact Drawn0.refl _ | apply Drawn0.step)⟩
end Go.Proofs.YtjbbigodkhnokaaDoor.Tr
end
section
namespace Go.Proofs.YtjbbigodkhnokaaDoor.Tr
open Go.RowKit Go.Proofs.YtjbbigodkhnokaaDoorW.PrintWords Go.Proofs.YtjbbigodkhnokaaDoorW.PrintLast Go.Proofs.YtjbbigodkhnokaaDoorW.PrintMore
attribute [local go_sem] max2_int min2_int max_two min_two max_three min_three max_four min_four   -- for this text's walks alone
set_option linter.unusedVariables false
set_option linter.unusedSimpArgs false
attribute [local go_sem] run_add64_any
def ident_body.l0 : Nat → List Int → Int → Int → Option (Bool)
 | 0, _, _, _ => none
 | k + 1, x9, x10, x11 => if x11 < x10 then (if 0 ≤ x11 then (if x11 < (x9.length : Int) then ((ident_great.f (rd x9 x11)).bind fun t291 => (if t291 = true then (ident_body.l0 k x9 x10 (wrap64 (x11 + 1))) else (if x11 < 2 then (some false) else ((ident_digit.f (rd x9 x11)).bind fun t292 => (if t292 = true then (ident_body.l0 k x9 x10 (wrap64 (x11 + 1))) else (some false)))))) else (none)) else (none)) else (some true)
def ident_body.f (k : Nat) (a0 : ByteArray) : Option (Bool) := if (a0.size : Int) = 11 then (if a0.size ≤ 9223372036854775807 then ((some (bytesOf a0 : List Int)).bind fun y287 => (ident_body.l0 k y287 (y287.length : Int) 0)) else (none)) else (some false)
set_option maxHeartbeats 8000000 in
set_option maxRecDepth 100000 in
theorem ident_body.calls (k : Nat) (a0 : ByteArray) (r : Bool) (w : World) (h : ident_body.f k a0 = some r) :
  Calls Tryd.prog 68 #[.string a0] w fun e w' => e = .returned (.bool r) ∧ Below w.heap.size w w' := by
 have HB := A_ (Below.refl w.heap.size w)
 have H : (if (a0.size : Int) = 11 then (if a0.size ≤ 9223372036854775807 then ((some (bytesOf a0 : List Int)).bind fun y287 => (ident_body.l0 k y287 (y287.length : Int) 0)) else (none)) else (some false)) = some r := h
 clear h
 by_cases c2 : (a0.size : Int) = 11
 ·
  rw [if_pos c2] at H
  have c2b0 : ((a0.size : Int) == 11) = true := q1_ c2
  have c2b1 : ((a0.size : Int) != 11) = false := q3_ c2
  clear c2
  by_cases c3 : a0.size ≤ 9223372036854775807
  ·
   rw [if_pos c3] at H
   have c3b0 := eq_true c3
   have c3b1 : decide (a0.size ≤ 9223372036854775807) = true := decide_eq_true c3
   try have c3b2 : (9223372036854775807 < a0.size) = False := eq_false (Nat.not_lt.2 c3)
   clear c3
   obtain ⟨y287, hy287⟩ : ∃ y_ : List Int, y_ = (bytesOf a0) := ⟨_, rfl⟩
   replace H : (ident_body.l0 k y287 (y287.length : Int) 0) = some r := by first | (rw [hy287]; with_reducible exact H) | (have H2_ := (Option.bind_some _ _).symm.trans H; rw [hy287]; with_reducible exact H2_) | (have H2_ := (Option.bind_some _ _).symm.trans H; with_reducible exact H2_) | with_reducible exact H | (rw [hy287]; exact H) | exact H
   have Ny287 := A_ hy287
   clear hy287
   have H' := A_ H
   clear H
   go_enter Tryd.func68, Tryd.ntmps68
   go_wp2_with (first | ((with_reducible refine gate_dst (N := 9) rfl ?_); refine conv_event _ 5 ?hg (N := 9) ?hd a0 (od_ (by first | (with_reducible assumption) | assumption)) ?hr (Below.refl _ _) (Nat.le_refl _) ?_; (case hd => rfl); (case hg => rfl); (case hr => have kb_ := fun W_ => print_bytes (P := Tryd.prog) 9 97 5 Tryd.underlying9 Tryd.underlying97 Tryd.underlying5 a0 W_; first | (go_simp; done) | (go_simp; rfl)); intro v288 w4 ho5 hb hg_ hnew_; clear hg_ hnew_; (first | rw [← Ny287.out] at ho5 | (simp only [Int.reduceToNat] at ho5; rw [← Ny287.out] at ho5)); have n0_ := A_ (Kd.V_lower (vm_ (ok' := fun k_ => True) ho5 (fun k_ hk_ => trivial)) (bz_ bw_)); have n1_ := A_ (bs_ bw_ hb); clear HB; have HO289 := n0_; have HB := n1_; clear n0_ n1_; clear hb ho5; obtain ⟨Ao6, co6, eo6⟩ := Kd.V_slice HO289.out; subst eo6))
   (try simp only [Act.put, sA_, sZ_, sS_])
   go_loopg [11] k (fun kq v11 w' => ∃ (x11_1 : Int), v11 = .int .i64 x11_1 ∧ Aside0 (ident_body.l0 kq y287 (y287.length : Int) x11_1 = some r) ∧ Aside0 (kq ≤ k) ∧ Aside0 (Kd.V (Kd.int .u8) 5 w' w.heap.size (fun _ => True) (.slice Ao6 y287.length co6) y287) ∧ Aside0 (Below w.heap.size w w'))
   case atStart => exact ⟨(0), (by first | rfl | (simp; done) | (simp [*]; done)), H', ⟨Nat.le_refl _⟩, ⟨by (with_reducible repeat (first | apply va_ | apply vn_ | apply vd_)); exact HO289.out⟩, ⟨bw_⟩⟩
   case round =>
    clear H'
    try clear c2
    try clear c2b0
    try clear c2b1
    try clear p2
    try clear c3
    try clear c3b0
    try clear c3b1
    try clear c3b2
    try clear c6
    obtain ⟨x11_1, rfl, HA, HK1, HO_9, HB⟩ := hrel
    cases gk with
    | zero => exact absurd HA.out (by simp [ident_body.l0])
    | succ k1 =>
     have H := HA.out
     clear HA
     simp only [ident_body.l0] at H
     by_cases c7 : x11_1 < (y287.length : Int)
     ·
      rw [if_pos c7] at H
      have c7b0 : decide (x11_1 < (y287.length : Int)) = true := decide_eq_true c7
      clear c7
      by_cases c8 : 0 ≤ x11_1
      ·
       rw [if_pos c8] at H
       have c8b0 : decide (0 ≤ x11_1) = true := decide_eq_true c8
       clear c8
       by_cases c9 : x11_1 < (y287.length : Int)
       ·
        rw [if_pos c9] at H
        have c9b0 : decide (x11_1 < (y287.length : Int)) = true := decide_eq_true c9
        clear c9
        replace H := os_ H
        obtain ⟨t291, A100, H⟩ := H
        replace H : (if t291 = true then (ident_body.l0 k1 y287 (y287.length : Int) (wrap64 (x11_1 + 1))) else (if x11_1 < 2 then (some false) else ((ident_digit.f (rd y287 x11_1)).bind fun t292 => (if t292 = true then (ident_body.l0 k1 y287 (y287.length : Int) (wrap64 (x11_1 + 1))) else (some false))))) = some r := H
        have A10 := A_ A100
        clear A100
        by_cases c11 : t291 = true
        ·
         subst c11
         have H1 : (ident_body.l0 k1 y287 (y287.length : Int) (wrap64 (x11_1 + 1))) = some r := by rw [if_pos rfl] at H; exact H
         clear H
         have H := H1
         clear H1
         have H' := A_ H
         clear H
         have p290 : 0 ≤ (x11_1 : Int) := od_ (by first | (with_reducible assumption) | assumption)
         have q290 : x11_1 < (y287.length : Int) := od_ (by first | (with_reducible assumption) | assumption)
         obtain ⟨ad290, e290, hx290_0⟩ := Kd.at_int (Kd.V_reads' HO_9.out).2.2 x11_1 p290 q290
         cases e290
         replace p290 := eq_true p290
         replace q290 := eq_true q290
         go_wp2_with (first | ((with_reducible refine gate_callee (f := 74) rfl ?_); refine goesL_ (some 17) rfl rfl Tryd.func74 (by kernel_rfl) rfl #[.int .u8 (rd y287 x11_1)] rfl (by (try simp only [List.map_toArray, List.map_cons, List.map_nil]); first | done | rfl | (simp only [List.length_drop, List.length_take]; rfl)) ?_; (with_reducible refine (ident_great.calls (rd y287 x11_1) true _ A10.out).mono ?_); rintro e w' ⟨rfl, ⟨nd, rfl⟩⟩; refine ⟨_, rfl, ?_⟩))
         go_roundg k1
         case measure => have := HK1.out; omega
         case rel => exact ⟨(wrap64 (x11_1 + 1)), (by first | rfl | (simp; done) | (simp [*]; done)), H', ⟨by have := HK1.out; omega⟩, ⟨by (with_reducible repeat (first | apply va_ | apply vn_ | apply vd_)); exact HO_9.out⟩, ⟨bw_⟩⟩
        ·
         replace c11 := Bool.eq_false_iff.mpr c11
         subst c11
         have H1 : (if x11_1 < 2 then (some false) else ((ident_digit.f (rd y287 x11_1)).bind fun t292 => (if t292 = true then (ident_body.l0 k1 y287 (y287.length : Int) (wrap64 (x11_1 + 1))) else (some false)))) = some r := by rw [if_neg (show ¬ (false = true) by decide)] at H; exact H
         clear H
         have H := H1
         clear H1
         by_cases c12 : x11_1 < 2
         ·
          rw [if_pos c12] at H
          have c12b0 : decide (x11_1 < 2) = true := decide_eq_true c12
          clear c12
          obtain rfl := Option.some.inj H
          have p290 : 0 ≤ (x11_1 : Int) := od_ (by first | (with_reducible assumption) | assumption)
          have q290 : x11_1 < (y287.length : Int) := od_ (by first | (with_reducible assumption) | assumption)
          obtain ⟨ad290, e290, hx290_0⟩ := Kd.at_int (Kd.V_reads' HO_9.out).2.2 x11_1 p290 q290
          cases e290
          replace p290 := eq_true p290
          replace q290 := eq_true q290
          go_wp2_with (first | ((with_reducible refine gate_callee (f := 74) rfl ?_); refine goesL_ (some 17) rfl rfl Tryd.func74 (by kernel_rfl) rfl #[.int .u8 (rd y287 x11_1)] rfl (by (try simp only [List.map_toArray, List.map_cons, List.map_nil]); first | done | rfl | (simp only [List.length_drop, List.length_take]; rfl)) ?_; (with_reducible refine (ident_great.calls (rd y287 x11_1) false _ A10.out).mono ?_); rintro e w' ⟨rfl, ⟨nd, rfl⟩⟩; refine ⟨_, rfl, ?_⟩))
          go_ret
          exact ⟨by first | rfl | (simp [errW_none, errW_some] <;> rfl) | (simp [*, errW_none, errW_some] <;> rfl), bw_⟩
         ·
          rw [if_neg c12] at H
          have c12b0 : decide (x11_1 < 2) = false := decide_eq_false c12
          clear c12
          replace H := os_ H
          obtain ⟨t292, A130, H⟩ := H
          replace H : (if t292 = true then (ident_body.l0 k1 y287 (y287.length : Int) (wrap64 (x11_1 + 1))) else (some false)) = some r := H
          have A13 := A_ A130
          clear A130
          by_cases c14 : t292 = true
          ·
           subst c14
           have H1 : (ident_body.l0 k1 y287 (y287.length : Int) (wrap64 (x11_1 + 1))) = some r := by rw [if_pos rfl] at H; exact H
           clear H
           have H := H1
           clear H1
           have H' := A_ H
           clear H
           have p290 : 0 ≤ (x11_1 : Int) := od_ (by first | (with_reducible assumption) | assumption)
           have q290 : x11_1 < (y287.length : Int) := od_ (by first | (with_reducible assumption) | assumption)
           obtain ⟨ad290, e290, hx290_0⟩ := Kd.at_int (Kd.V_reads' HO_9.out).2.2 x11_1 p290 q290
           cases e290
           replace p290 := eq_true p290
           replace q290 := eq_true q290
           go_wp2_with (first | ((with_reducible refine gate_callee (f := 74) rfl ?_); refine goesL_ (some 17) rfl rfl Tryd.func74 (by kernel_rfl) rfl #[.int .u8 (rd y287 x11_1)] rfl (by (try simp only [List.map_toArray, List.map_cons, List.map_nil]); first | done | rfl | (simp only [List.length_drop, List.length_take]; rfl)) ?_; (with_reducible refine (ident_great.calls (rd y287 x11_1) false _ A10.out).mono ?_); rintro e w' ⟨rfl, ⟨nd, rfl⟩⟩; refine ⟨_, rfl, ?_⟩) | (go_at_call 63; (with_reducible refine (ident_digit.calls (rd y287 x11_1) true _ A13.out).mono ?_); rintro e w' ⟨rfl, ⟨nd, rfl⟩⟩))
           go_roundg k1
           case measure => have := HK1.out; omega
           case rel => exact ⟨(wrap64 (x11_1 + 1)), (by first | rfl | (simp; done) | (simp [*]; done)), H', ⟨by have := HK1.out; omega⟩, ⟨by (with_reducible repeat (first | apply va_ | apply vn_ | apply vd_)); exact HO_9.out⟩, ⟨bw_⟩⟩
          ·
           replace c14 := Bool.eq_false_iff.mpr c14
           subst c14
           have H1 : (some false) = some r := by rw [if_neg (show ¬ (false = true) by decide)] at H; exact H
           clear H
           have H := H1
           clear H1
           obtain rfl := Option.some.inj H
           have p290 : 0 ≤ (x11_1 : Int) := od_ (by first | (with_reducible assumption) | assumption)
           have q290 : x11_1 < (y287.length : Int) := od_ (by first | (with_reducible assumption) | assumption)
           obtain ⟨ad290, e290, hx290_0⟩ := Kd.at_int (Kd.V_reads' HO_9.out).2.2 x11_1 p290 q290
           cases e290
           replace p290 := eq_true p290
           replace q290 := eq_true q290
           go_wp2_with (first | ((with_reducible refine gate_callee (f := 74) rfl ?_); refine goesL_ (some 17) rfl rfl Tryd.func74 (by kernel_rfl) rfl #[.int .u8 (rd y287 x11_1)] rfl (by (try simp only [List.map_toArray, List.map_cons, List.map_nil]); first | done | rfl | (simp only [List.length_drop, List.length_take]; rfl)) ?_; (with_reducible refine (ident_great.calls (rd y287 x11_1) false _ A10.out).mono ?_); rintro e w' ⟨rfl, ⟨nd, rfl⟩⟩; refine ⟨_, rfl, ?_⟩) | (go_at_call 63; (with_reducible refine (ident_digit.calls (rd y287 x11_1) false _ A13.out).mono ?_); rintro e w' ⟨rfl, ⟨nd, rfl⟩⟩))
           go_ret
           exact ⟨by first | rfl | (simp [errW_none, errW_some] <;> rfl) | (simp [*, errW_none, errW_some] <;> rfl), bw_⟩
       ·
        rw [if_neg c9] at H
        exact absurd H (by simp)
      ·
       rw [if_neg c8] at H
       exact absurd H (by simp)
     ·
      rw [if_neg c7] at H
      have c7b0 : decide (x11_1 < (y287.length : Int)) = false := decide_eq_false c7
      clear c7
      obtain rfl := Option.some.inj H
      go_wp2
      go_ret
      exact ⟨by first | rfl | (simp [errW_none, errW_some] <;> rfl) | (simp [*, errW_none, errW_some] <;> rfl), bw_⟩
  ·
   rw [if_neg c3] at H
   exact absurd H (by simp)
 ·
  rw [if_neg c2] at H
  have c2b0 : ((a0.size : Int) == 11) = false := q4_ c2
  have c2b1 : ((a0.size : Int) != 11) = true := q2_ c2
  obtain rfl := Option.some.inj H
  go_enter Tryd.func68, Tryd.ntmps68
  go_wp2
  go_ret
  exact ⟨by first | rfl | (simp [errW_none, errW_some] <;> rfl) | (simp [*, errW_none, errW_some] <;> rfl), bw_⟩
end Go.Proofs.YtjbbigodkhnokaaDoor.Tr
end
section
namespace Go.Proofs.YtjbbigodkhnokaaDoor.Tr
open Go.RowKit Go.Proofs.YtjbbigodkhnokaaDoorW.PrintWords Go.Proofs.YtjbbigodkhnokaaDoorW.PrintLast Go.Proofs.YtjbbigodkhnokaaDoorW.PrintMore
attribute [local go_sem] max2_int min2_int max_two min_two max_three min_three max_four min_four   -- for this text's walks alone
set_option linter.unusedVariables false
set_option linter.unusedSimpArgs false
attribute [local go_sem] run_add64_any
def ident_Digit.f (a0 : ByteArray) : Option (Int × Int) := (ident_body.f 20 a0).bind fun b => if b = true then some (Ja.ckB (Ja.sumW (Ja.D a0 a0.size)), 0) else some (0, 3)
theorem ident_Digit.size {a0 : ByteArray} (h : ident_body.f 20 a0 = some true) : a0.size = 11 := by
 unfold ident_body.f at h
 by_cases e : (a0.size : Int) = 11
 ·
  omega
 ·
  rw [if_neg e] at h
  exact absurd h (by simp)
theorem ident_Digit.calls (a0 : ByteArray) (r1 : Int) (r2 : Int) (w : World) (h : ident_Digit.f a0 = some (r1, r2)) :
  Calls Tryd.prog 64 #[.string a0] w fun e w' => e = .returned (.tuple #[.int .u8 r1, .int .i64 r2]) ∧ Below w.heap.size w w' := by
 unfold ident_Digit.f at h
 obtain ⟨b, hb, h⟩ := os_ h
 cases b with
 | true =>
  rw [if_pos rfl] at h
  simp only [Option.some.injEq, Prod.mk.injEq] at h
  obtain ⟨rfl, rfl⟩ := h
  exact Ja.digit_ok a0 (by have := ident_Digit.size hb; omega) (fun w => ident_body.calls 20 a0 true w hb) w
 | false =>
  simp only [Bool.false_eq_true, if_false, Option.some.injEq, Prod.mk.injEq] at h
  obtain ⟨rfl, rfl⟩ := h
  exact Ja.digit_bad a0 (fun w => ident_body.calls 20 a0 false w hb) w
end Go.Proofs.YtjbbigodkhnokaaDoor.Tr
end
section
namespace Go.Proofs.YtjbbigodkhnokaaDoor.Tr
open Go.RowKit Go.Proofs.YtjbbigodkhnokaaDoorW.PrintWords Go.Proofs.YtjbbigodkhnokaaDoorW.PrintLast Go.Proofs.YtjbbigodkhnokaaDoorW.PrintMore
attribute [local go_sem] max2_int min2_int max_two min_two max_three min_three max_four min_four   -- for this text's walks alone
set_option linter.unusedVariables false
set_option linter.unusedSimpArgs false
attribute [local go_sem] run_add64_any
def ident_Isin.j0 : Nat → ByteArray → Bool → Option (Int)
 | 0, _, _ => none
 | k + 1, x0, x13 => if x13 = true then (some 3) else (if 0 ≤ 11 then (if 11 ≤ (x0.size : Int) then ((ident_Digit.f (x0.extract 0 11)).bind fun bt294 => (if bt294.2 = 0 then (if 11 < (x0.size : Int) then (if bt294.1 = (bt x0 11) then (some 0) else (some 11)) else (none)) else (some bt294.2))) else (none)) else (none))
def ident_Isin.f (k : Nat) (a0 : ByteArray) : Option (Int) := if (a0.size : Int) = 12 then (if 11 < (a0.size : Int) then ((ident_digit.f (bt a0 11)).bind fun t293 => (ident_Isin.j0 k a0 (!t293))) else (none)) else (ident_Isin.j0 k a0 true)
set_option maxHeartbeats 8000000 in
set_option maxRecDepth 100000 in
theorem ident_Isin.calls (k : Nat) (a0 : ByteArray) (r : Int) (w : World) (h : ident_Isin.f k a0 = some r) :
  Calls Tryd.prog 49 #[.string a0] w fun e w' => e = .returned (.int .i64 r) ∧ Below w.heap.size w w' := by
 have HB := A_ (Below.refl w.heap.size w)
 have H : (if (a0.size : Int) = 12 then (if 11 < (a0.size : Int) then ((ident_digit.f (bt a0 11)).bind fun t293 => (ident_Isin.j0 k a0 (!t293))) else (none)) else (ident_Isin.j0 k a0 true)) = some r := h
 clear h
 have HC2 := A_ H
 clear H
 go_enter Tryd.func49, Tryd.ntmps49
 go_upto_region 1 with (fail)
 go_cut [13] (fun v13 wc => ∃ (kq : Nat) (x13_1 : Bool), v13 = .bool x13_1 ∧ Aside0 (ident_Isin.j0 kq a0 x13_1 = some r) ∧ Aside0 (kq ≤ k) ∧ Aside0 (Below w.heap.size w wc))
 case first =>
  have H := HC2.out
  clear HC2
  by_cases c3 : (a0.size : Int) = 12
  ·
   rw [if_pos c3] at H
   have c3b0 : ((a0.size : Int) == 12) = true := q1_ c3
   have c3b1 : ((a0.size : Int) != 12) = false := q3_ c3
   clear c3
   (first | rw [c3b0] | (simp only [i64_w, i32_w]; rw [c3b0]) | skip)
   by_cases c4 : 11 < (a0.size : Int)
   ·
    rw [if_pos c4] at H
    have c4b0 : decide (11 < (a0.size : Int)) = true := decide_eq_true c4
    have c4b1 : decide (11 < a0.size) = true := decide_eq_true (by omega)
    clear c4
    replace H := os_ H
    obtain ⟨t293, A60, H⟩ := H
    replace H : (ident_Isin.j0 k a0 (!t293)) = some r := H
    have A6 := A_ A60
    clear A60
    have H' := A_ H
    clear H
    have p5 : 0 ≤ (11 : Int) := (by omega)
    have q5 : 11 < a0.size := (by have : (11 : Int) < (a0.size : Int) := od_ (by first | (with_reducible assumption) | assumption); omega)
    have hx5 : ∀ h : 11 < a0.size, ((a0[11]'h).toNat : Int) = bt a0 11 := bt_at a0 11
    clear p5
    have qi5 : (11 < (a0.size : Int)) = True := eq_true (od_ (by first | (with_reducible assumption) | assumption))
    replace q5 := eq_true q5
    go_wp2_with (first | (go_at_call 63; (with_reducible refine (ident_digit.calls (bt a0 11) t293 _ A6.out).mono ?_); rintro e w' ⟨rfl, ⟨nd, rfl⟩⟩))
    go_meet
    case rel => exact ⟨_, (!t293), (by first | rfl | (simp; done) | (simp [*]; done)), H', ⟨by first | omega | exact Nat.le_refl _⟩, ⟨bw_⟩⟩
   ·
    rw [if_neg c4] at H
    exact absurd H (by simp)
  ·
   rw [if_neg c3] at H
   have c3b0 : ((a0.size : Int) == 12) = false := q4_ c3
   have c3b1 : ((a0.size : Int) != 12) = true := q2_ c3
   (first | rw [c3b0] | (simp only [i64_w, i32_w]; rw [c3b0]) | skip)
   have H' := A_ H
   clear H
   go_wp2
   go_meet
   case rel => exact ⟨_, (true), (by first | rfl | (simp; done) | (simp [*]; done)), H', ⟨by first | omega | exact Nat.le_refl _⟩, ⟨bw_⟩⟩
 case rest =>
  clear HC2
  try clear p2
  try clear c3
  try clear c3b0
  try clear c3b1
  try clear c4
  try clear c4b0
  try clear c4b1
  try clear p5
  try clear q5
  try clear hx5
  try clear qi5
  try clear p5
  try clear q5
  obtain ⟨kq, x13_1, rfl, HA, HJ1, HB⟩ := hcut
  cases kq with
  | zero => exact absurd HA.out (by simp [ident_Isin.j0])
  | succ kj1 =>
   have H := HA.out
   clear HA
   simp only [ident_Isin.j0] at H
   by_cases c7 : x13_1 = true
   ·
    subst c7
    have H1 : (some 3) = some r := by rw [if_pos rfl] at H; exact H
    clear H
    have H := H1
    clear H1
    obtain rfl := Option.some.inj H
    go_wp2
    go_ret
    exact ⟨by first | rfl | (simp [errW_none, errW_some] <;> rfl) | (simp [*, errW_none, errW_some] <;> rfl), bw_⟩
   ·
    replace c7 := Bool.eq_false_iff.mpr c7
    subst c7
    have H1 : (if 0 ≤ 11 then (if 11 ≤ (a0.size : Int) then ((ident_Digit.f (a0.extract 0 11)).bind fun bt294 => (if bt294.2 = 0 then (if 11 < (a0.size : Int) then (if bt294.1 = (bt a0 11) then (some 0) else (some 11)) else (none)) else (some bt294.2))) else (none)) else (none)) = some r := by rw [if_neg (show ¬ (false = true) by decide)] at H; exact H
    clear H
    have H := H1
    clear H1
    by_cases c8 : 0 ≤ 11
    ·
     rw [if_pos c8] at H
     have c8b0 := eq_true c8
     have c8b1 : decide (0 ≤ 11) = true := decide_eq_true c8
     clear c8
     by_cases c9 : 11 ≤ (a0.size : Int)
     ·
      rw [if_pos c9] at H
      have c9b0 := eq_true c9
      have c9b1 : decide (11 ≤ (a0.size : Int)) = true := decide_eq_true c9
      clear c9
      replace H := os_ H
      obtain ⟨⟨t294, t295⟩, A100, H⟩ := H
      replace H : (if t295 = 0 then (if 11 < (a0.size : Int) then (if t294 = (bt a0 11) then (some 0) else (some 11)) else (none)) else (some t295)) = some r := H
      have A10 := A_ A100
      clear A100
      by_cases c11 : t295 = 0
      ·
       rw [if_pos c11] at H
       have c11b0 : (t295 == 0) = true := q1_ c11
       have c11b1 : (t295 != 0) = false := q3_ c11
       clear c11
       by_cases c12 : 11 < (a0.size : Int)
       ·
        rw [if_pos c12] at H
        have c12b0 : decide (11 < (a0.size : Int)) = true := decide_eq_true c12
        have c12b1 : decide (11 < a0.size) = true := decide_eq_true (by omega)
        clear c12
        by_cases c14 : t294 = (bt a0 11)
        ·
         rw [if_pos c14] at H
         have c14b0 : (t294 == (bt a0 11)) = true := q1_ c14
         have c14b1 : (t294 != (bt a0 11)) = false := q3_ c14
         clear c14
         obtain rfl := Option.some.inj H
         go_wp2_with (first | ((with_reducible refine gate_callee (f := 64) rfl ?_); refine goesL_ (some 17) rfl rfl Tryd.func64 (by kernel_rfl) rfl #[.string (a0.extract 0 11)] rfl (by (try simp only [List.map_toArray, List.map_cons, List.map_nil]); first | done | rfl | (simp only [List.length_drop, List.length_take]; rfl)) ?_; (with_reducible refine (ident_Digit.calls (a0.extract 0 11) t294 t295 _ A10.out).mono ?_); rintro e w15 ⟨rfl, hb⟩; refine ⟨_, rfl, ?_⟩; have n0_ := A_ (bs_ bw_ hb); clear HB; have HB := n0_; clear n0_; (try clear hb); (try clear hb2); (try clear hk); (try clear hi); have p13 : 0 ≤ (11 : Int) := (by omega); have q13 : 11 < a0.size := (by have : (11 : Int) < (a0.size : Int) := od_ (by first | (with_reducible assumption) | assumption); omega); have hx13 : ∀ h : 11 < a0.size, ((a0[11]'h).toNat : Int) = bt a0 11 := bt_at a0 11; clear p13; have qi13 : (11 < (a0.size : Int)) = True := eq_true (od_ (by first | (with_reducible assumption) | assumption)); replace q13 := eq_true q13))
         go_ret
         exact ⟨by first | rfl | (simp [errW_none, errW_some] <;> rfl) | (simp [*, errW_none, errW_some] <;> rfl), bw_⟩
        ·
         rw [if_neg c14] at H
         have c14b0 : (t294 == (bt a0 11)) = false := q4_ c14
         have c14b1 : (t294 != (bt a0 11)) = true := q2_ c14
         obtain rfl := Option.some.inj H
         go_wp2_with (first | ((with_reducible refine gate_callee (f := 64) rfl ?_); refine goesL_ (some 17) rfl rfl Tryd.func64 (by kernel_rfl) rfl #[.string (a0.extract 0 11)] rfl (by (try simp only [List.map_toArray, List.map_cons, List.map_nil]); first | done | rfl | (simp only [List.length_drop, List.length_take]; rfl)) ?_; (with_reducible refine (ident_Digit.calls (a0.extract 0 11) t294 t295 _ A10.out).mono ?_); rintro e w16 ⟨rfl, hb⟩; refine ⟨_, rfl, ?_⟩; have n0_ := A_ (bs_ bw_ hb); clear HB; have HB := n0_; clear n0_; (try clear hb); (try clear hb2); (try clear hk); (try clear hi); have p13 : 0 ≤ (11 : Int) := (by omega); have q13 : 11 < a0.size := (by have : (11 : Int) < (a0.size : Int) := od_ (by first | (with_reducible assumption) | assumption); omega); have hx13 : ∀ h : 11 < a0.size, ((a0[11]'h).toNat : Int) = bt a0 11 := bt_at a0 11; clear p13; have qi13 : (11 < (a0.size : Int)) = True := eq_true (od_ (by first | (with_reducible assumption) | assumption)); replace q13 := eq_true q13))
         go_ret
         exact ⟨by first | rfl | (simp [errW_none, errW_some] <;> rfl) | (simp [*, errW_none, errW_some] <;> rfl), bw_⟩
       ·
        rw [if_neg c12] at H
        exact absurd H (by simp)
      ·
       rw [if_neg c11] at H
       have c11b0 : (t295 == 0) = false := q4_ c11
       have c11b1 : (t295 != 0) = true := q2_ c11
       obtain rfl := Option.some.inj H
       go_wp2_with (first | ((with_reducible refine gate_callee (f := 64) rfl ?_); refine goesL_ (some 17) rfl rfl Tryd.func64 (by kernel_rfl) rfl #[.string (a0.extract 0 11)] rfl (by (try simp only [List.map_toArray, List.map_cons, List.map_nil]); first | done | rfl | (simp only [List.length_drop, List.length_take]; rfl)) ?_; (with_reducible refine (ident_Digit.calls (a0.extract 0 11) t294 t295 _ A10.out).mono ?_); rintro e w17 ⟨rfl, hb⟩; refine ⟨_, rfl, ?_⟩; have n0_ := A_ (bs_ bw_ hb); clear HB; have HB := n0_; clear n0_; (try clear hb); (try clear hb2); (try clear hk); (try clear hi)))
       go_ret
       exact ⟨by first | rfl | (simp [errW_none, errW_some] <;> rfl) | (simp [*, errW_none, errW_some] <;> rfl), bw_⟩
     ·
      rw [if_neg c9] at H
      exact absurd H (by simp)
    ·
     rw [if_neg c8] at H
     exact absurd H (by simp)
end Go.Proofs.YtjbbigodkhnokaaDoor.Tr
end
section
namespace Go.Proofs.YtjbbigodkhnokaaDoor.Tr
open Go.RowKit Go.Proofs.YtjbbigodkhnokaaDoorW.PrintWords Go.Proofs.YtjbbigodkhnokaaDoorW.PrintLast Go.Proofs.YtjbbigodkhnokaaDoorW.PrintMore
attribute [local go_sem] max2_int min2_int max_two min_two max_three min_three max_four min_four   -- for this text's walks alone
set_option linter.unusedVariables false
set_option linter.unusedSimpArgs false
attribute [local go_sem] run_add64_any
def trade_names.l0 : Nat → List ByteArray → Int → Int → Int → ByteArray → ByteArray → ByteArray → Int → Int → Option (Int)
 | 0, _, _, _, _, _, _, _, _, _ => none
 | k + 1, x10, x11, x12, x302000, x302001, x302002, x302003, x302004, x302005 => if x12 < x11 then (if 0 ≤ x12 then (if x12 < (x10.length : Int) then ((ident_Member.f k (rdOf ByteArray.empty x10 x12)).bind fun t300 => (if t300 = 0 then (trade_names.l0 k x10 x11 (wrap64 (x12 + 1)) x302000 x302001 x302002 x302003 x302004 x302005) else (some t300))) else (none)) else (none)) else ((ident_Isin.f k x302003).bind fun t301 => (some t301))
def trade_names.f (k : Nat) (a0_0 : Int) (a0_1 : ByteArray) (a0_2 : ByteArray) (a0_3 : ByteArray) (a0_4 : Int) (a0_5 : Int) : Option (Int) := (some (([a0_1, a0_2] : List ByteArray) : List ByteArray)).bind fun y296 => (trade_names.l0 k y296 (y296.length : Int) 0 a0_0 a0_1 a0_2 a0_3 a0_4 a0_5)
set_option maxHeartbeats 8000000 in
set_option maxRecDepth 100000 in
theorem trade_names.calls (k : Nat) (a0_0 : Int) (a0_1 : ByteArray) (a0_2 : ByteArray) (a0_3 : ByteArray) (a0_4 : Int) (a0_5 : Int) (r : Int) (w : World) (h : trade_names.f k a0_0 a0_1 a0_2 a0_3 a0_4 a0_5 = some r) :
  Calls Tryd.prog 30 #[.agg #[.int .i64 a0_0, .string a0_1, .string a0_2, .string a0_3, .int .i64 a0_4, .int .i64 a0_5]] w fun e w' => e = .returned (.int .i64 r) ∧ Below w.heap.size w w' := by
 have hu28 := Tryd.underlying28
 have HB := A_ (Below.refl w.heap.size w)
 have H : ((some (([a0_1, a0_2] : List ByteArray) : List ByteArray)).bind fun y296 => (trade_names.l0 k y296 (y296.length : Int) 0 a0_0 a0_1 a0_2 a0_3 a0_4 a0_5)) = some r := h
 clear h
 obtain ⟨y296, hy296⟩ : ∃ y_ : List ByteArray, y_ = (([a0_1, a0_2] : List ByteArray)) := ⟨_, rfl⟩
 replace H : (trade_names.l0 k y296 (y296.length : Int) 0 a0_0 a0_1 a0_2 a0_3 a0_4 a0_5) = some r := by first | (rw [hy296]; with_reducible exact H) | (have H2_ := (Option.bind_some _ _).symm.trans H; rw [hy296]; with_reducible exact H2_) | (have H2_ := (Option.bind_some _ _).symm.trans H; with_reducible exact H2_) | with_reducible exact H | (rw [hy296]; exact H) | exact H
 have Ny296 := A_ hy296
 clear hy296
 have H' := A_ H
 clear H
 go_enter Tryd.func30, Tryd.ntmps30
 go_wp2_with (first | ((with_reducible refine gate_dst (N := 1) rfl ?_); refine box_event ?hg (N := 1) ?hd (cs := #[.int .i64 a0_0, .string a0_1, .string a0_2, .string a0_3, .int .i64 a0_4, .int .i64 a0_5]) (t := 28) ?hr ?_; (case hd => rfl); (case hg => rfl); (case hr => first | (go_simp; done) | (go_simp; rfl)); intro gb301 hg w2 hbox hb; have n0_ := A_ (bs_ bw_ hb); have n1_ := A_ (hbox); have n2_ := A_ ((by rw [hg]; exact (bz_ bw_) : w.heap.size ≤ gb301)); have n3_ := A_ ((by rw [hg]; exact (bz_ bw_) : w.heap.size ≤ gb301)); clear HB; have HB := n0_; have BK301 := n1_; have GW301 := n2_; have GE301 := n3_; clear n0_ n1_ n2_ n3_; clear hb hbox hg; have hcz3_0 : w2.cell? ⟨gb301, 0, none⟩ = some (.int .i64 a0_0) := (bc_ BK301.out 0).trans rfl; have hcz3_1 : w2.cell? ⟨gb301, 1, none⟩ = some (.string a0_1) := (bc_ BK301.out 1).trans rfl; have hcz3_2 : w2.cell? ⟨gb301, 2, none⟩ = some (.string a0_2) := (bc_ BK301.out 2).trans rfl; have hcz3_3 : w2.cell? ⟨gb301, 3, none⟩ = some (.string a0_3) := (bc_ BK301.out 3).trans rfl; have hcz3_4 : w2.cell? ⟨gb301, 4, none⟩ = some (.int .i64 a0_4) := (bc_ BK301.out 4).trans rfl; have hcz3_5 : w2.cell? ⟨gb301, 5, none⟩ = some (.int .i64 a0_5) := (bc_ BK301.out 5).trans rfl; have hfz3_0 := bf_ BK301.out 0; have hfz3_1 := bf_ BK301.out 1; have hfz3_2 := bf_ BK301.out 2; have hfz3_3 := bf_ BK301.out 3; have hfz3_4 := bf_ BK301.out 4; have hfz3_5 := bf_ BK301.out 5) | ((with_reducible refine gate_dst (N := 10) rfl ?_); refine Kd.R_lit Kd.string _ 9 ?hg (N := 10) ?hd (xs := ([a0_1, a0_2] : List ByteArray)) (inner := [.string a0_1, .string a0_2]) (ok := fun _ => True) (okp := fun _ => True) ?hr ?hp (fun _ hk => hk) trivial (Below.refl _ _) (Nat.le_refl _) (by simp) ?_; (case hd => rfl); (case hg => rfl); (case hr => first | (go_simp; done) | (go_simp; rfl)); (case hp => exact (Reps.one (show Kd.M Kd.string _ _ _ a0_1 [.string a0_1] from rfl) (Reps.one (show Kd.M Kd.string _ _ _ a0_2 [.string a0_2] from rfl) (Reps.none _ _)))); intro v297 w4 ho5 hb hg_ hnew_; clear hg_ hnew_; (first | rw [← Ny296.out] at ho5 | (simp only [Int.reduceToNat] at ho5; rw [← Ny296.out] at ho5)); have n0_ := A_ (Kd.R_lower ho5 (bz_ bw_)); have n1_ := A_ (kb_ BK301 hb); have n2_ := A_ (bs_ bw_ hb); clear BK301; clear HB; have HO298 := n0_; have BK301 := n1_; have HB := n2_; clear n0_ n1_ n2_; clear hb ho5; obtain ⟨Ao6, co6, eo6⟩ := Kd.R_slice HO298.out; subst eo6))
 (try simp only [Act.put, sA_, sZ_, sS_])
 go_loopg [12] k (fun kq v12 w' => ∃ (x12_1 : Int), v12 = .int .i64 x12_1 ∧ Aside0 (trade_names.l0 kq y296 (y296.length : Int) x12_1 a0_0 a0_1 a0_2 a0_3 a0_4 a0_5 = some r) ∧ Aside0 (kq ≤ k) ∧ Aside0 (Kd.R Kd.string 9 w' w.heap.size (fun _ => True) (.slice Ao6 y296.length co6) y296) ∧ Aside0 (w'.heap[gb301]? = some (.cells #[.int .i64 a0_0, .string a0_1, .string a0_2, .string a0_3, .int .i64 a0_4, .int .i64 a0_5] 28 (0, 0))) ∧ Aside0 (Below w.heap.size w w'))
 case atStart => exact ⟨(0), (by first | rfl | (simp; done) | (simp [*]; done)), H', ⟨Nat.le_refl _⟩, ⟨by (with_reducible repeat (first | apply Kd.R_alloc | apply Kd.R_drewN | apply Kd.R_drew)); exact HO298.out⟩, ⟨bk_⟩, ⟨bw_⟩⟩
 case round =>
  clear H'
  try clear p2
  try clear c3
  try clear hcz3_0
  try clear hcz3_1
  try clear hcz3_2
  try clear hcz3_3
  try clear hcz3_4
  try clear hcz3_5
  try clear hfz3_0
  try clear hfz3_1
  try clear hfz3_2
  try clear hfz3_3
  try clear hfz3_4
  try clear hfz3_5
  obtain ⟨x12_1, rfl, HA, HK1, HO_10, BK301, HB⟩ := hrel
  cases gk with
  | zero => exact absurd HA.out (by simp [trade_names.l0])
  | succ k1 =>
   have H := HA.out
   clear HA
   simp only [trade_names.l0] at H
   by_cases c7 : x12_1 < (y296.length : Int)
   ·
    rw [if_pos c7] at H
    have c7b0 : decide (x12_1 < (y296.length : Int)) = true := decide_eq_true c7
    clear c7
    by_cases c8 : 0 ≤ x12_1
    ·
     rw [if_pos c8] at H
     have c8b0 : decide (0 ≤ x12_1) = true := decide_eq_true c8
     clear c8
     by_cases c9 : x12_1 < (y296.length : Int)
     ·
      rw [if_pos c9] at H
      have c9b0 : decide (x12_1 < (y296.length : Int)) = true := decide_eq_true c9
      clear c9
      replace H := os_ H
      obtain ⟨t300, A100, H⟩ := H
      replace H : (if t300 = 0 then (trade_names.l0 k1 y296 (y296.length : Int) (wrap64 (x12_1 + 1)) a0_0 a0_1 a0_2 a0_3 a0_4 a0_5) else (some t300)) = some r := H
      have A10 := A_ A100
      clear A100
      by_cases c11 : t300 = 0
      ·
       rw [if_pos c11] at H
       have c11b0 : (t300 == 0) = true := q1_ c11
       have c11b1 : (t300 != 0) = false := q3_ c11
       clear c11
       have H' := A_ H
       clear H
       have p299 : 0 ≤ (x12_1 : Int) := od_ (by first | (with_reducible assumption) | assumption)
       have q299 : x12_1 < (y296.length : Int) := od_ (by first | (with_reducible assumption) | assumption)
       obtain ⟨ad299, e299, hx299_0⟩ := Kd.at_string (Kd.R_reads' HO_10.out).2.2 x12_1 p299 q299
       cases e299
       replace p299 := eq_true p299
       replace q299 := eq_true q299
       go_wp2_with (first | ((with_reducible refine gate_callee (f := 48) rfl ?_); refine goesL_ (some 17) rfl rfl Tryd.func48 (by kernel_rfl) rfl #[.string (rdOf ByteArray.empty y296 x12_1)] rfl (by (try simp only [List.map_toArray, List.map_cons, List.map_nil]); first | done | rfl | (simp only [List.length_drop, List.length_take]; rfl)) ?_; (with_reducible refine (ident_Member.calls k1 (rdOf ByteArray.empty y296 x12_1) t300 _ A10.out).mono ?_); rintro e w12 ⟨rfl, hb⟩; refine ⟨_, rfl, ?_⟩; have n0_ := A_ (Kd.R_below (by (with_reducible repeat (first | apply Kd.R_alloc | apply Kd.R_drewN | apply Kd.R_drew)); exact HO_10.out) hb); have n1_ := A_ (kb_ BK301 hb); have n2_ := A_ (bs_ bw_ hb); clear HO_10; clear BK301; clear HB; have HO_10 := n0_; have BK301 := n1_; have HB := n2_; clear n0_ n1_ n2_; (try clear hb); (try clear hb2); (try clear hk); (try clear hi)))
       go_roundg k1
       case measure => have := HK1.out; omega
       case rel => exact ⟨(wrap64 (x12_1 + 1)), (by first | rfl | (simp; done) | (simp [*]; done)), H', ⟨by have := HK1.out; omega⟩, ⟨by (with_reducible repeat (first | apply Kd.R_alloc | apply Kd.R_drewN | apply Kd.R_drew)); exact HO_10.out⟩, ⟨bk_⟩, ⟨bw_⟩⟩
      ·
       rw [if_neg c11] at H
       have c11b0 : (t300 == 0) = false := q4_ c11
       have c11b1 : (t300 != 0) = true := q2_ c11
       obtain rfl := Option.some.inj H
       have p299 : 0 ≤ (x12_1 : Int) := od_ (by first | (with_reducible assumption) | assumption)
       have q299 : x12_1 < (y296.length : Int) := od_ (by first | (with_reducible assumption) | assumption)
       obtain ⟨ad299, e299, hx299_0⟩ := Kd.at_string (Kd.R_reads' HO_10.out).2.2 x12_1 p299 q299
       cases e299
       replace p299 := eq_true p299
       replace q299 := eq_true q299
       go_wp2_with (first | ((with_reducible refine gate_callee (f := 48) rfl ?_); refine goesL_ (some 17) rfl rfl Tryd.func48 (by kernel_rfl) rfl #[.string (rdOf ByteArray.empty y296 x12_1)] rfl (by (try simp only [List.map_toArray, List.map_cons, List.map_nil]); first | done | rfl | (simp only [List.length_drop, List.length_take]; rfl)) ?_; (with_reducible refine (ident_Member.calls k1 (rdOf ByteArray.empty y296 x12_1) t300 _ A10.out).mono ?_); rintro e w13 ⟨rfl, hb⟩; refine ⟨_, rfl, ?_⟩; have n0_ := A_ (Kd.R_below (by (with_reducible repeat (first | apply Kd.R_alloc | apply Kd.R_drewN | apply Kd.R_drew)); exact HO_10.out) hb); have n1_ := A_ (kb_ BK301 hb); have n2_ := A_ (bs_ bw_ hb); clear HO_10; clear BK301; clear HB; have HO_10 := n0_; have BK301 := n1_; have HB := n2_; clear n0_ n1_ n2_; (try clear hb); (try clear hb2); (try clear hk); (try clear hi)))
       go_ret
       exact ⟨by first | rfl | (simp [errW_none, errW_some] <;> rfl) | (simp [*, errW_none, errW_some] <;> rfl), bw_⟩
     ·
      rw [if_neg c9] at H
      exact absurd H (by simp)
    ·
     rw [if_neg c8] at H
     exact absurd H (by simp)
   ·
    rw [if_neg c7] at H
    have c7b0 : decide (x12_1 < (y296.length : Int)) = false := decide_eq_false c7
    clear c7
    replace H := os_ H
    obtain ⟨t301, A140, H⟩ := H
    replace H : (some t301) = some r := H
    have A14 := A_ A140
    clear A140
    obtain rfl := Option.some.inj H
    have hcz15_0 : wr.cell? ⟨gb301, 0, none⟩ = some (.int .i64 a0_0) := (bc_ BK301.out 0).trans rfl
    have hcz15_1 : wr.cell? ⟨gb301, 1, none⟩ = some (.string a0_1) := (bc_ BK301.out 1).trans rfl
    have hcz15_2 : wr.cell? ⟨gb301, 2, none⟩ = some (.string a0_2) := (bc_ BK301.out 2).trans rfl
    have hcz15_3 : wr.cell? ⟨gb301, 3, none⟩ = some (.string a0_3) := (bc_ BK301.out 3).trans rfl
    have hcz15_4 : wr.cell? ⟨gb301, 4, none⟩ = some (.int .i64 a0_4) := (bc_ BK301.out 4).trans rfl
    have hcz15_5 : wr.cell? ⟨gb301, 5, none⟩ = some (.int .i64 a0_5) := (bc_ BK301.out 5).trans rfl
    have hfz15_0 := bf_ BK301.out 0
    have hfz15_1 := bf_ BK301.out 1
    have hfz15_2 := bf_ BK301.out 2
    have hfz15_3 := bf_ BK301.out 3
    have hfz15_4 := bf_ BK301.out 4
    have hfz15_5 := bf_ BK301.out 5
    go_wp2_with (first | ((with_reducible refine gate_callee (f := 49) rfl ?_); refine goesL_ (some 24) rfl rfl Tryd.func49 (by kernel_rfl) rfl #[.string a0_3] rfl (by (try simp only [List.map_toArray, List.map_cons, List.map_nil]); first | done | rfl | (simp only [List.length_drop, List.length_take]; rfl)) ?_; (with_reducible refine (ident_Isin.calls k1 a0_3 t301 _ A14.out).mono ?_); rintro e w16 ⟨rfl, hb⟩; refine ⟨_, rfl, ?_⟩; have n0_ := A_ (Kd.R_below (by (with_reducible repeat (first | apply Kd.R_alloc | apply Kd.R_drewN | apply Kd.R_drew)); exact HO_10.out) hb); have n1_ := A_ (kb_ BK301 hb); have n2_ := A_ (bs_ bw_ hb); clear HO_10; clear BK301; clear HB; have HO_10 := n0_; have BK301 := n1_; have HB := n2_; clear n0_ n1_ n2_; (try clear hb); (try clear hb2); (try clear hk); (try clear hi)))
    go_ret
    exact ⟨by first | rfl | (simp [errW_none, errW_some] <;> rfl) | (simp [*, errW_none, errW_some] <;> rfl), bw_⟩
end Go.Proofs.YtjbbigodkhnokaaDoor.Tr
end
section
namespace Go.Proofs.YtjbbigodkhnokaaDoor.Tr
open Go.RowKit Go.Proofs.YtjbbigodkhnokaaDoorW.PrintWords Go.Proofs.YtjbbigodkhnokaaDoorW.PrintLast Go.Proofs.YtjbbigodkhnokaaDoorW.PrintMore
attribute [local go_sem] max2_int min2_int max_two min_two max_three min_three max_four min_four   -- for this text's walks alone
set_option linter.unusedVariables false
set_option linter.unusedSimpArgs false
attribute [local go_sem] run_add64_any
def trade_Check.f (k : Nat) (a0_0 : Int) (a0_1 : ByteArray) (a0_2 : ByteArray) (a0_3 : ByteArray) (a0_4 : Int) (a0_5 : Int) : Option (Int) := if a0_0 < 1 then (some 1) else ((trade_names.f k a0_0 a0_1 a0_2 a0_3 a0_4 a0_5).bind fun t302 => (if t302 = 0 then (if a0_1.toList = a0_2.toList then (some 6) else (if a0_4 < 1 then (some 2) else (if a0_4 ≥ 2147483648 then (some 2) else (if a0_5 < 0 then (some 2) else (if a0_5 ≥ 2147483648 then (some 2) else (some 0)))))) else (some t302)))
set_option maxHeartbeats 8000000 in
set_option maxRecDepth 100000 in
theorem trade_Check.calls (k : Nat) (a0_0 : Int) (a0_1 : ByteArray) (a0_2 : ByteArray) (a0_3 : ByteArray) (a0_4 : Int) (a0_5 : Int) (r : Int) (w : World) (h : trade_Check.f k a0_0 a0_1 a0_2 a0_3 a0_4 a0_5 = some r) :
  Calls Tryd.prog 15 #[.agg #[.int .i64 a0_0, .string a0_1, .string a0_2, .string a0_3, .int .i64 a0_4, .int .i64 a0_5]] w fun e w' => e = .returned (.int .i64 r) ∧ Below w.heap.size w w' := by
 have hu28 := Tryd.underlying28
 have HB := A_ (Below.refl w.heap.size w)
 have H : (if a0_0 < 1 then (some 1) else ((trade_names.f k a0_0 a0_1 a0_2 a0_3 a0_4 a0_5).bind fun t302 => (if t302 = 0 then (if a0_1.toList = a0_2.toList then (some 6) else (if a0_4 < 1 then (some 2) else (if a0_4 ≥ 2147483648 then (some 2) else (if a0_5 < 0 then (some 2) else (if a0_5 ≥ 2147483648 then (some 2) else (some 0)))))) else (some t302)))) = some r := h
 clear h
 by_cases c2 : a0_0 < 1
 ·
  rw [if_pos c2] at H
  have c2b0 : decide (a0_0 < 1) = true := decide_eq_true c2
  clear c2
  obtain rfl := Option.some.inj H
  go_enter Tryd.func15, Tryd.ntmps15
  go_wp2_with (first | ((with_reducible refine gate_dst (N := 1) rfl ?_); refine box_event ?hg (N := 1) ?hd (cs := #[.int .i64 a0_0, .string a0_1, .string a0_2, .string a0_3, .int .i64 a0_4, .int .i64 a0_5]) (t := 28) ?hr ?_; (case hd => rfl); (case hg => rfl); (case hr => first | (go_simp; done) | (go_simp; rfl)); intro gb301 hg w3 hbox hb; have n0_ := A_ (bs_ bw_ hb); have n1_ := A_ (hbox); have n2_ := A_ ((by rw [hg]; exact (bz_ bw_) : w.heap.size ≤ gb301)); have n3_ := A_ ((by rw [hg]; exact (bz_ bw_) : w.heap.size ≤ gb301)); clear HB; have HB := n0_; have BK301 := n1_; have GW301 := n2_; have GE301 := n3_; clear n0_ n1_ n2_ n3_; clear hb hbox hg; have hcz4_0 : w3.cell? ⟨gb301, 0, none⟩ = some (.int .i64 a0_0) := (bc_ BK301.out 0).trans rfl; have hcz4_1 : w3.cell? ⟨gb301, 1, none⟩ = some (.string a0_1) := (bc_ BK301.out 1).trans rfl; have hcz4_2 : w3.cell? ⟨gb301, 2, none⟩ = some (.string a0_2) := (bc_ BK301.out 2).trans rfl; have hcz4_3 : w3.cell? ⟨gb301, 3, none⟩ = some (.string a0_3) := (bc_ BK301.out 3).trans rfl; have hcz4_4 : w3.cell? ⟨gb301, 4, none⟩ = some (.int .i64 a0_4) := (bc_ BK301.out 4).trans rfl; have hcz4_5 : w3.cell? ⟨gb301, 5, none⟩ = some (.int .i64 a0_5) := (bc_ BK301.out 5).trans rfl; have hfz4_0 := bf_ BK301.out 0; have hfz4_1 := bf_ BK301.out 1; have hfz4_2 := bf_ BK301.out 2; have hfz4_3 := bf_ BK301.out 3; have hfz4_4 := bf_ BK301.out 4; have hfz4_5 := bf_ BK301.out 5))
  go_ret
  exact ⟨by first | rfl | (simp [errW_none, errW_some] <;> rfl) | (simp [*, errW_none, errW_some] <;> rfl), bw_⟩
 ·
  rw [if_neg c2] at H
  have c2b0 : decide (a0_0 < 1) = false := decide_eq_false c2
  clear c2
  replace H := os_ H
  obtain ⟨t302, A50, H⟩ := H
  replace H : (if t302 = 0 then (if a0_1.toList = a0_2.toList then (some 6) else (if a0_4 < 1 then (some 2) else (if a0_4 ≥ 2147483648 then (some 2) else (if a0_5 < 0 then (some 2) else (if a0_5 ≥ 2147483648 then (some 2) else (some 0)))))) else (some t302)) = some r := H
  have A5 := A_ A50
  clear A50
  by_cases c6 : t302 = 0
  ·
   rw [if_pos c6] at H
   have c6b0 : (t302 == 0) = true := q1_ c6
   have c6b1 : (t302 != 0) = false := q3_ c6
   clear c6
   by_cases c7 : a0_1.toList = a0_2.toList
   ·
    rw [if_pos c7] at H
    have c7b0 : (a0_1.toList == a0_2.toList) = true := q1_ c7
    have c7b1 : (a0_1.toList != a0_2.toList) = false := q3_ c7
    clear c7
    obtain rfl := Option.some.inj H
    go_enter Tryd.func15, Tryd.ntmps15
    go_wp2_with (first | ((with_reducible refine gate_dst (N := 1) rfl ?_); refine box_event ?hg (N := 1) ?hd (cs := #[.int .i64 a0_0, .string a0_1, .string a0_2, .string a0_3, .int .i64 a0_4, .int .i64 a0_5]) (t := 28) ?hr ?_; (case hd => rfl); (case hg => rfl); (case hr => first | (go_simp; done) | (go_simp; rfl)); intro gb301 hg w8 hbox hb; have n0_ := A_ (bs_ bw_ hb); have n1_ := A_ (hbox); have n2_ := A_ ((by rw [hg]; exact (bz_ bw_) : w.heap.size ≤ gb301)); have n3_ := A_ ((by rw [hg]; exact (bz_ bw_) : w.heap.size ≤ gb301)); clear HB; have HB := n0_; have BK301 := n1_; have GW301 := n2_; have GE301 := n3_; clear n0_ n1_ n2_ n3_; clear hb hbox hg; have hcz9_0 : w8.cell? ⟨gb301, 0, none⟩ = some (.int .i64 a0_0) := (bc_ BK301.out 0).trans rfl; have hcz9_1 : w8.cell? ⟨gb301, 1, none⟩ = some (.string a0_1) := (bc_ BK301.out 1).trans rfl; have hcz9_2 : w8.cell? ⟨gb301, 2, none⟩ = some (.string a0_2) := (bc_ BK301.out 2).trans rfl; have hcz9_3 : w8.cell? ⟨gb301, 3, none⟩ = some (.string a0_3) := (bc_ BK301.out 3).trans rfl; have hcz9_4 : w8.cell? ⟨gb301, 4, none⟩ = some (.int .i64 a0_4) := (bc_ BK301.out 4).trans rfl; have hcz9_5 : w8.cell? ⟨gb301, 5, none⟩ = some (.int .i64 a0_5) := (bc_ BK301.out 5).trans rfl; have hfz9_0 := bf_ BK301.out 0; have hfz9_1 := bf_ BK301.out 1; have hfz9_2 := bf_ BK301.out 2; have hfz9_3 := bf_ BK301.out 3; have hfz9_4 := bf_ BK301.out 4; have hfz9_5 := bf_ BK301.out 5) | ((with_reducible refine gate_callee (f := 30) rfl ?_); refine goesL_ (some 8) rfl rfl Tryd.func30 (by kernel_rfl) rfl #[.agg #[.int .i64 a0_0, .string a0_1, .string a0_2, .string a0_3, .int .i64 a0_4, .int .i64 a0_5]] rfl (by (try simp only [List.map_toArray, List.map_cons, List.map_nil]); first | done | rfl | (simp only [List.length_drop, List.length_take]; rfl)) ?_; (with_reducible refine (trade_names.calls k a0_0 a0_1 a0_2 a0_3 a0_4 a0_5 t302 _ A5.out).mono ?_); rintro e w10 ⟨rfl, hb⟩; refine ⟨_, rfl, ?_⟩; have n0_ := A_ (kb_ BK301 hb); have n1_ := A_ (bs_ bw_ hb); clear BK301; clear HB; have BK301 := n0_; have HB := n1_; clear n0_ n1_; (try clear hb); (try clear hb2); (try clear hk); (try clear hi); have hcz11_0 : w10.cell? ⟨gb301, 0, none⟩ = some (.int .i64 a0_0) := (bc_ BK301.out 0).trans rfl; have hcz11_1 : w10.cell? ⟨gb301, 1, none⟩ = some (.string a0_1) := (bc_ BK301.out 1).trans rfl; have hcz11_2 : w10.cell? ⟨gb301, 2, none⟩ = some (.string a0_2) := (bc_ BK301.out 2).trans rfl; have hcz11_3 : w10.cell? ⟨gb301, 3, none⟩ = some (.string a0_3) := (bc_ BK301.out 3).trans rfl; have hcz11_4 : w10.cell? ⟨gb301, 4, none⟩ = some (.int .i64 a0_4) := (bc_ BK301.out 4).trans rfl; have hcz11_5 : w10.cell? ⟨gb301, 5, none⟩ = some (.int .i64 a0_5) := (bc_ BK301.out 5).trans rfl; have hfz11_0 := bf_ BK301.out 0; have hfz11_1 := bf_ BK301.out 1; have hfz11_2 := bf_ BK301.out 2; have hfz11_3 := bf_ BK301.out 3; have hfz11_4 := bf_ BK301.out 4; have hfz11_5 := bf_ BK301.out 5))
    go_ret
    exact ⟨by first | rfl | (simp [errW_none, errW_some] <;> rfl) | (simp [*, errW_none, errW_some] <;> rfl), bw_⟩
   ·
    rw [if_neg c7] at H
    have c7b0 : (a0_1.toList == a0_2.toList) = false := q4_ c7
    have c7b1 : (a0_1.toList != a0_2.toList) = true := q2_ c7
    by_cases c12 : a0_4 < 1
    ·
     rw [if_pos c12] at H
     have c12b0 : decide (a0_4 < 1) = true := decide_eq_true c12
     clear c12
     obtain rfl := Option.some.inj H
     go_enter Tryd.func15, Tryd.ntmps15
     go_wp2_with (first | ((with_reducible refine gate_dst (N := 1) rfl ?_); refine box_event ?hg (N := 1) ?hd (cs := #[.int .i64 a0_0, .string a0_1, .string a0_2, .string a0_3, .int .i64 a0_4, .int .i64 a0_5]) (t := 28) ?hr ?_; (case hd => rfl); (case hg => rfl); (case hr => first | (go_simp; done) | (go_simp; rfl)); intro gb301 hg w13 hbox hb; have n0_ := A_ (bs_ bw_ hb); have n1_ := A_ (hbox); have n2_ := A_ ((by rw [hg]; exact (bz_ bw_) : w.heap.size ≤ gb301)); have n3_ := A_ ((by rw [hg]; exact (bz_ bw_) : w.heap.size ≤ gb301)); clear HB; have HB := n0_; have BK301 := n1_; have GW301 := n2_; have GE301 := n3_; clear n0_ n1_ n2_ n3_; clear hb hbox hg; have hcz14_0 : w13.cell? ⟨gb301, 0, none⟩ = some (.int .i64 a0_0) := (bc_ BK301.out 0).trans rfl; have hcz14_1 : w13.cell? ⟨gb301, 1, none⟩ = some (.string a0_1) := (bc_ BK301.out 1).trans rfl; have hcz14_2 : w13.cell? ⟨gb301, 2, none⟩ = some (.string a0_2) := (bc_ BK301.out 2).trans rfl; have hcz14_3 : w13.cell? ⟨gb301, 3, none⟩ = some (.string a0_3) := (bc_ BK301.out 3).trans rfl; have hcz14_4 : w13.cell? ⟨gb301, 4, none⟩ = some (.int .i64 a0_4) := (bc_ BK301.out 4).trans rfl; have hcz14_5 : w13.cell? ⟨gb301, 5, none⟩ = some (.int .i64 a0_5) := (bc_ BK301.out 5).trans rfl; have hfz14_0 := bf_ BK301.out 0; have hfz14_1 := bf_ BK301.out 1; have hfz14_2 := bf_ BK301.out 2; have hfz14_3 := bf_ BK301.out 3; have hfz14_4 := bf_ BK301.out 4; have hfz14_5 := bf_ BK301.out 5) | ((with_reducible refine gate_callee (f := 30) rfl ?_); refine goesL_ (some 8) rfl rfl Tryd.func30 (by kernel_rfl) rfl #[.agg #[.int .i64 a0_0, .string a0_1, .string a0_2, .string a0_3, .int .i64 a0_4, .int .i64 a0_5]] rfl (by (try simp only [List.map_toArray, List.map_cons, List.map_nil]); first | done | rfl | (simp only [List.length_drop, List.length_take]; rfl)) ?_; (with_reducible refine (trade_names.calls k a0_0 a0_1 a0_2 a0_3 a0_4 a0_5 t302 _ A5.out).mono ?_); rintro e w15 ⟨rfl, hb⟩; refine ⟨_, rfl, ?_⟩; have n0_ := A_ (kb_ BK301 hb); have n1_ := A_ (bs_ bw_ hb); clear BK301; clear HB; have BK301 := n0_; have HB := n1_; clear n0_ n1_; (try clear hb); (try clear hb2); (try clear hk); (try clear hi); have hcz16_0 : w15.cell? ⟨gb301, 0, none⟩ = some (.int .i64 a0_0) := (bc_ BK301.out 0).trans rfl; have hcz16_1 : w15.cell? ⟨gb301, 1, none⟩ = some (.string a0_1) := (bc_ BK301.out 1).trans rfl; have hcz16_2 : w15.cell? ⟨gb301, 2, none⟩ = some (.string a0_2) := (bc_ BK301.out 2).trans rfl; have hcz16_3 : w15.cell? ⟨gb301, 3, none⟩ = some (.string a0_3) := (bc_ BK301.out 3).trans rfl; have hcz16_4 : w15.cell? ⟨gb301, 4, none⟩ = some (.int .i64 a0_4) := (bc_ BK301.out 4).trans rfl; have hcz16_5 : w15.cell? ⟨gb301, 5, none⟩ = some (.int .i64 a0_5) := (bc_ BK301.out 5).trans rfl; have hfz16_0 := bf_ BK301.out 0; have hfz16_1 := bf_ BK301.out 1; have hfz16_2 := bf_ BK301.out 2; have hfz16_3 := bf_ BK301.out 3; have hfz16_4 := bf_ BK301.out 4; have hfz16_5 := bf_ BK301.out 5))
     go_ret
     exact ⟨by first | rfl | (simp [errW_none, errW_some] <;> rfl) | (simp [*, errW_none, errW_some] <;> rfl), bw_⟩
    ·
     rw [if_neg c12] at H
     have c12b0 : decide (a0_4 < 1) = false := decide_eq_false c12
     clear c12
     by_cases c17 : a0_4 ≥ 2147483648
     ·
      rw [if_pos c17] at H
      have c17b0 : decide (2147483648 ≤ a0_4) = true := decide_eq_true c17
      clear c17
      obtain rfl := Option.some.inj H
      go_enter Tryd.func15, Tryd.ntmps15
      go_wp2_with (first | ((with_reducible refine gate_dst (N := 1) rfl ?_); refine box_event ?hg (N := 1) ?hd (cs := #[.int .i64 a0_0, .string a0_1, .string a0_2, .string a0_3, .int .i64 a0_4, .int .i64 a0_5]) (t := 28) ?hr ?_; (case hd => rfl); (case hg => rfl); (case hr => first | (go_simp; done) | (go_simp; rfl)); intro gb301 hg w18 hbox hb; have n0_ := A_ (bs_ bw_ hb); have n1_ := A_ (hbox); have n2_ := A_ ((by rw [hg]; exact (bz_ bw_) : w.heap.size ≤ gb301)); have n3_ := A_ ((by rw [hg]; exact (bz_ bw_) : w.heap.size ≤ gb301)); clear HB; have HB := n0_; have BK301 := n1_; have GW301 := n2_; have GE301 := n3_; clear n0_ n1_ n2_ n3_; clear hb hbox hg; have hcz19_0 : w18.cell? ⟨gb301, 0, none⟩ = some (.int .i64 a0_0) := (bc_ BK301.out 0).trans rfl; have hcz19_1 : w18.cell? ⟨gb301, 1, none⟩ = some (.string a0_1) := (bc_ BK301.out 1).trans rfl; have hcz19_2 : w18.cell? ⟨gb301, 2, none⟩ = some (.string a0_2) := (bc_ BK301.out 2).trans rfl; have hcz19_3 : w18.cell? ⟨gb301, 3, none⟩ = some (.string a0_3) := (bc_ BK301.out 3).trans rfl; have hcz19_4 : w18.cell? ⟨gb301, 4, none⟩ = some (.int .i64 a0_4) := (bc_ BK301.out 4).trans rfl; have hcz19_5 : w18.cell? ⟨gb301, 5, none⟩ = some (.int .i64 a0_5) := (bc_ BK301.out 5).trans rfl; have hfz19_0 := bf_ BK301.out 0; have hfz19_1 := bf_ BK301.out 1; have hfz19_2 := bf_ BK301.out 2; have hfz19_3 := bf_ BK301.out 3; have hfz19_4 := bf_ BK301.out 4; have hfz19_5 := bf_ BK301.out 5) | ((with_reducible refine gate_callee (f := 30) rfl ?_); refine goesL_ (some 8) rfl rfl Tryd.func30 (by kernel_rfl) rfl #[.agg #[.int .i64 a0_0, .string a0_1, .string a0_2, .string a0_3, .int .i64 a0_4, .int .i64 a0_5]] rfl (by (try simp only [List.map_toArray, List.map_cons, List.map_nil]); first | done | rfl | (simp only [List.length_drop, List.length_take]; rfl)) ?_; (with_reducible refine (trade_names.calls k a0_0 a0_1 a0_2 a0_3 a0_4 a0_5 t302 _ A5.out).mono ?_); rintro e w20 ⟨rfl, hb⟩; refine ⟨_, rfl, ?_⟩; have n0_ := A_ (kb_ BK301 hb); have n1_ := A_ (bs_ bw_ hb); clear BK301; clear HB; have BK301 := n0_; have HB := n1_; clear n0_ n1_; (try clear hb); (try clear hb2); (try clear hk); (try clear hi); have hcz21_0 : w20.cell? ⟨gb301, 0, none⟩ = some (.int .i64 a0_0) := (bc_ BK301.out 0).trans rfl; have hcz21_1 : w20.cell? ⟨gb301, 1, none⟩ = some (.string a0_1) := (bc_ BK301.out 1).trans rfl; have hcz21_2 : w20.cell? ⟨gb301, 2, none⟩ = some (.string a0_2) := (bc_ BK301.out 2).trans rfl; have hcz21_3 : w20.cell? ⟨gb301, 3, none⟩ = some (.string a0_3) := (bc_ BK301.out 3).trans rfl; have hcz21_4 : w20.cell? ⟨gb301, 4, none⟩ = some (.int .i64 a0_4) := (bc_ BK301.out 4).trans rfl; have hcz21_5 : w20.cell? ⟨gb301, 5, none⟩ = some (.int .i64 a0_5) := (bc_ BK301.out 5).trans rfl; have hfz21_0 := bf_ BK301.out 0; have hfz21_1 := bf_ BK301.out 1; have hfz21_2 := bf_ BK301.out 2; have hfz21_3 := bf_ BK301.out 3; have hfz21_4 := bf_ BK301.out 4; have hfz21_5 := bf_ BK301.out 5))
      go_ret
      exact ⟨by first | rfl | (simp [errW_none, errW_some] <;> rfl) | (simp [*, errW_none, errW_some] <;> rfl), bw_⟩
     ·
      rw [if_neg c17] at H
      have c17b0 : decide (2147483648 ≤ a0_4) = false := decide_eq_false c17
      clear c17
      by_cases c22 : a0_5 < 0
      ·
       rw [if_pos c22] at H
       have c22b0 : decide (a0_5 < 0) = true := decide_eq_true c22
       clear c22
       obtain rfl := Option.some.inj H
       go_enter Tryd.func15, Tryd.ntmps15
       go_wp2_with (first | ((with_reducible refine gate_dst (N := 1) rfl ?_); refine box_event ?hg (N := 1) ?hd (cs := #[.int .i64 a0_0, .string a0_1, .string a0_2, .string a0_3, .int .i64 a0_4, .int .i64 a0_5]) (t := 28) ?hr ?_; (case hd => rfl); (case hg => rfl); (case hr => first | (go_simp; done) | (go_simp; rfl)); intro gb301 hg w23 hbox hb; have n0_ := A_ (bs_ bw_ hb); have n1_ := A_ (hbox); have n2_ := A_ ((by rw [hg]; exact (bz_ bw_) : w.heap.size ≤ gb301)); have n3_ := A_ ((by rw [hg]; exact (bz_ bw_) : w.heap.size ≤ gb301)); clear HB; have HB := n0_; have BK301 := n1_; have GW301 := n2_; have GE301 := n3_; clear n0_ n1_ n2_ n3_; clear hb hbox hg; have hcz24_0 : w23.cell? ⟨gb301, 0, none⟩ = some (.int .i64 a0_0) := (bc_ BK301.out 0).trans rfl; have hcz24_1 : w23.cell? ⟨gb301, 1, none⟩ = some (.string a0_1) := (bc_ BK301.out 1).trans rfl; have hcz24_2 : w23.cell? ⟨gb301, 2, none⟩ = some (.string a0_2) := (bc_ BK301.out 2).trans rfl; have hcz24_3 : w23.cell? ⟨gb301, 3, none⟩ = some (.string a0_3) := (bc_ BK301.out 3).trans rfl; have hcz24_4 : w23.cell? ⟨gb301, 4, none⟩ = some (.int .i64 a0_4) := (bc_ BK301.out 4).trans rfl; have hcz24_5 : w23.cell? ⟨gb301, 5, none⟩ = some (.int .i64 a0_5) := (bc_ BK301.out 5).trans rfl; have hfz24_0 := bf_ BK301.out 0; have hfz24_1 := bf_ BK301.out 1; have hfz24_2 := bf_ BK301.out 2; have hfz24_3 := bf_ BK301.out 3; have hfz24_4 := bf_ BK301.out 4; have hfz24_5 := bf_ BK301.out 5) | ((with_reducible refine gate_callee (f := 30) rfl ?_); refine goesL_ (some 8) rfl rfl Tryd.func30 (by kernel_rfl) rfl #[.agg #[.int .i64 a0_0, .string a0_1, .string a0_2, .string a0_3, .int .i64 a0_4, .int .i64 a0_5]] rfl (by (try simp only [List.map_toArray, List.map_cons, List.map_nil]); first | done | rfl | (simp only [List.length_drop, List.length_take]; rfl)) ?_; (with_reducible refine (trade_names.calls k a0_0 a0_1 a0_2 a0_3 a0_4 a0_5 t302 _ A5.out).mono ?_); rintro e w25 ⟨rfl, hb⟩; refine ⟨_, rfl, ?_⟩; have n0_ := A_ (kb_ BK301 hb); have n1_ := A_ (bs_ bw_ hb); clear BK301; clear HB; have BK301 := n0_; have HB := n1_; clear n0_ n1_; (try clear hb); (try clear hb2); (try clear hk); (try clear hi); have hcz26_0 : w25.cell? ⟨gb301, 0, none⟩ = some (.int .i64 a0_0) := (bc_ BK301.out 0).trans rfl; have hcz26_1 : w25.cell? ⟨gb301, 1, none⟩ = some (.string a0_1) := (bc_ BK301.out 1).trans rfl; have hcz26_2 : w25.cell? ⟨gb301, 2, none⟩ = some (.string a0_2) := (bc_ BK301.out 2).trans rfl; have hcz26_3 : w25.cell? ⟨gb301, 3, none⟩ = some (.string a0_3) := (bc_ BK301.out 3).trans rfl; have hcz26_4 : w25.cell? ⟨gb301, 4, none⟩ = some (.int .i64 a0_4) := (bc_ BK301.out 4).trans rfl; have hcz26_5 : w25.cell? ⟨gb301, 5, none⟩ = some (.int .i64 a0_5) := (bc_ BK301.out 5).trans rfl; have hfz26_0 := bf_ BK301.out 0; have hfz26_1 := bf_ BK301.out 1; have hfz26_2 := bf_ BK301.out 2; have hfz26_3 := bf_ BK301.out 3; have hfz26_4 := bf_ BK301.out 4; have hfz26_5 := bf_ BK301.out 5))
       go_ret
       exact ⟨by first | rfl | (simp [errW_none, errW_some] <;> rfl) | (simp [*, errW_none, errW_some] <;> rfl), bw_⟩
      ·
       rw [if_neg c22] at H
       have c22b0 : decide (a0_5 < 0) = false := decide_eq_false c22
       clear c22
       by_cases c27 : a0_5 ≥ 2147483648
       ·
        rw [if_pos c27] at H
        have c27b0 : decide (2147483648 ≤ a0_5) = true := decide_eq_true c27
        clear c27
        obtain rfl := Option.some.inj H
        go_enter Tryd.func15, Tryd.ntmps15
        go_wp2_with (first | ((with_reducible refine gate_dst (N := 1) rfl ?_); refine box_event ?hg (N := 1) ?hd (cs := #[.int .i64 a0_0, .string a0_1, .string a0_2, .string a0_3, .int .i64 a0_4, .int .i64 a0_5]) (t := 28) ?hr ?_; (case hd => rfl); (case hg => rfl); (case hr => first | (go_simp; done) | (go_simp; rfl)); intro gb301 hg w28 hbox hb; have n0_ := A_ (bs_ bw_ hb); have n1_ := A_ (hbox); have n2_ := A_ ((by rw [hg]; exact (bz_ bw_) : w.heap.size ≤ gb301)); have n3_ := A_ ((by rw [hg]; exact (bz_ bw_) : w.heap.size ≤ gb301)); clear HB; have HB := n0_; have BK301 := n1_; have GW301 := n2_; have GE301 := n3_; clear n0_ n1_ n2_ n3_; clear hb hbox hg; have hcz29_0 : w28.cell? ⟨gb301, 0, none⟩ = some (.int .i64 a0_0) := (bc_ BK301.out 0).trans rfl; have hcz29_1 : w28.cell? ⟨gb301, 1, none⟩ = some (.string a0_1) := (bc_ BK301.out 1).trans rfl; have hcz29_2 : w28.cell? ⟨gb301, 2, none⟩ = some (.string a0_2) := (bc_ BK301.out 2).trans rfl; have hcz29_3 : w28.cell? ⟨gb301, 3, none⟩ = some (.string a0_3) := (bc_ BK301.out 3).trans rfl; have hcz29_4 : w28.cell? ⟨gb301, 4, none⟩ = some (.int .i64 a0_4) := (bc_ BK301.out 4).trans rfl; have hcz29_5 : w28.cell? ⟨gb301, 5, none⟩ = some (.int .i64 a0_5) := (bc_ BK301.out 5).trans rfl; have hfz29_0 := bf_ BK301.out 0; have hfz29_1 := bf_ BK301.out 1; have hfz29_2 := bf_ BK301.out 2; have hfz29_3 := bf_ BK301.out 3; have hfz29_4 := bf_ BK301.out 4; have hfz29_5 := bf_ BK301.out 5) | ((with_reducible refine gate_callee (f := 30) rfl ?_); refine goesL_ (some 8) rfl rfl Tryd.func30 (by kernel_rfl) rfl #[.agg #[.int .i64 a0_0, .string a0_1, .string a0_2, .string a0_3, .int .i64 a0_4, .int .i64 a0_5]] rfl (by (try simp only [List.map_toArray, List.map_cons, List.map_nil]); first | done | rfl | (simp only [List.length_drop, List.length_take]; rfl)) ?_; (with_reducible refine (trade_names.calls k a0_0 a0_1 a0_2 a0_3 a0_4 a0_5 t302 _ A5.out).mono ?_); rintro e w30 ⟨rfl, hb⟩; refine ⟨_, rfl, ?_⟩; have n0_ := A_ (kb_ BK301 hb); have n1_ := A_ (bs_ bw_ hb); clear BK301; clear HB; have BK301 := n0_; have HB := n1_; clear n0_ n1_; (try clear hb); (try clear hb2); (try clear hk); (try clear hi); have hcz31_0 : w30.cell? ⟨gb301, 0, none⟩ = some (.int .i64 a0_0) := (bc_ BK301.out 0).trans rfl; have hcz31_1 : w30.cell? ⟨gb301, 1, none⟩ = some (.string a0_1) := (bc_ BK301.out 1).trans rfl; have hcz31_2 : w30.cell? ⟨gb301, 2, none⟩ = some (.string a0_2) := (bc_ BK301.out 2).trans rfl; have hcz31_3 : w30.cell? ⟨gb301, 3, none⟩ = some (.string a0_3) := (bc_ BK301.out 3).trans rfl; have hcz31_4 : w30.cell? ⟨gb301, 4, none⟩ = some (.int .i64 a0_4) := (bc_ BK301.out 4).trans rfl; have hcz31_5 : w30.cell? ⟨gb301, 5, none⟩ = some (.int .i64 a0_5) := (bc_ BK301.out 5).trans rfl; have hfz31_0 := bf_ BK301.out 0; have hfz31_1 := bf_ BK301.out 1; have hfz31_2 := bf_ BK301.out 2; have hfz31_3 := bf_ BK301.out 3; have hfz31_4 := bf_ BK301.out 4; have hfz31_5 := bf_ BK301.out 5))
        go_ret
        exact ⟨by first | rfl | (simp [errW_none, errW_some] <;> rfl) | (simp [*, errW_none, errW_some] <;> rfl), bw_⟩
       ·
        rw [if_neg c27] at H
        have c27b0 : decide (2147483648 ≤ a0_5) = false := decide_eq_false c27
        clear c27
        obtain rfl := Option.some.inj H
        go_enter Tryd.func15, Tryd.ntmps15
        go_wp2_with (first | ((with_reducible refine gate_dst (N := 1) rfl ?_); refine box_event ?hg (N := 1) ?hd (cs := #[.int .i64 a0_0, .string a0_1, .string a0_2, .string a0_3, .int .i64 a0_4, .int .i64 a0_5]) (t := 28) ?hr ?_; (case hd => rfl); (case hg => rfl); (case hr => first | (go_simp; done) | (go_simp; rfl)); intro gb301 hg w32 hbox hb; have n0_ := A_ (bs_ bw_ hb); have n1_ := A_ (hbox); have n2_ := A_ ((by rw [hg]; exact (bz_ bw_) : w.heap.size ≤ gb301)); have n3_ := A_ ((by rw [hg]; exact (bz_ bw_) : w.heap.size ≤ gb301)); clear HB; have HB := n0_; have BK301 := n1_; have GW301 := n2_; have GE301 := n3_; clear n0_ n1_ n2_ n3_; clear hb hbox hg; have hcz33_0 : w32.cell? ⟨gb301, 0, none⟩ = some (.int .i64 a0_0) := (bc_ BK301.out 0).trans rfl; have hcz33_1 : w32.cell? ⟨gb301, 1, none⟩ = some (.string a0_1) := (bc_ BK301.out 1).trans rfl; have hcz33_2 : w32.cell? ⟨gb301, 2, none⟩ = some (.string a0_2) := (bc_ BK301.out 2).trans rfl; have hcz33_3 : w32.cell? ⟨gb301, 3, none⟩ = some (.string a0_3) := (bc_ BK301.out 3).trans rfl; have hcz33_4 : w32.cell? ⟨gb301, 4, none⟩ = some (.int .i64 a0_4) := (bc_ BK301.out 4).trans rfl; have hcz33_5 : w32.cell? ⟨gb301, 5, none⟩ = some (.int .i64 a0_5) := (bc_ BK301.out 5).trans rfl; have hfz33_0 := bf_ BK301.out 0; have hfz33_1 := bf_ BK301.out 1; have hfz33_2 := bf_ BK301.out 2; have hfz33_3 := bf_ BK301.out 3; have hfz33_4 := bf_ BK301.out 4; have hfz33_5 := bf_ BK301.out 5) | ((with_reducible refine gate_callee (f := 30) rfl ?_); refine goesL_ (some 8) rfl rfl Tryd.func30 (by kernel_rfl) rfl #[.agg #[.int .i64 a0_0, .string a0_1, .string a0_2, .string a0_3, .int .i64 a0_4, .int .i64 a0_5]] rfl (by (try simp only [List.map_toArray, List.map_cons, List.map_nil]); first | done | rfl | (simp only [List.length_drop, List.length_take]; rfl)) ?_; (with_reducible refine (trade_names.calls k a0_0 a0_1 a0_2 a0_3 a0_4 a0_5 t302 _ A5.out).mono ?_); rintro e w34 ⟨rfl, hb⟩; refine ⟨_, rfl, ?_⟩; have n0_ := A_ (kb_ BK301 hb); have n1_ := A_ (bs_ bw_ hb); clear BK301; clear HB; have BK301 := n0_; have HB := n1_; clear n0_ n1_; (try clear hb); (try clear hb2); (try clear hk); (try clear hi); have hcz35_0 : w34.cell? ⟨gb301, 0, none⟩ = some (.int .i64 a0_0) := (bc_ BK301.out 0).trans rfl; have hcz35_1 : w34.cell? ⟨gb301, 1, none⟩ = some (.string a0_1) := (bc_ BK301.out 1).trans rfl; have hcz35_2 : w34.cell? ⟨gb301, 2, none⟩ = some (.string a0_2) := (bc_ BK301.out 2).trans rfl; have hcz35_3 : w34.cell? ⟨gb301, 3, none⟩ = some (.string a0_3) := (bc_ BK301.out 3).trans rfl; have hcz35_4 : w34.cell? ⟨gb301, 4, none⟩ = some (.int .i64 a0_4) := (bc_ BK301.out 4).trans rfl; have hcz35_5 : w34.cell? ⟨gb301, 5, none⟩ = some (.int .i64 a0_5) := (bc_ BK301.out 5).trans rfl; have hfz35_0 := bf_ BK301.out 0; have hfz35_1 := bf_ BK301.out 1; have hfz35_2 := bf_ BK301.out 2; have hfz35_3 := bf_ BK301.out 3; have hfz35_4 := bf_ BK301.out 4; have hfz35_5 := bf_ BK301.out 5))
        go_ret
        exact ⟨by first | rfl | (simp [errW_none, errW_some] <;> rfl) | (simp [*, errW_none, errW_some] <;> rfl), bw_⟩
  ·
   rw [if_neg c6] at H
   have c6b0 : (t302 == 0) = false := q4_ c6
   have c6b1 : (t302 != 0) = true := q2_ c6
   obtain rfl := Option.some.inj H
   go_enter Tryd.func15, Tryd.ntmps15
   go_wp2_with (first | ((with_reducible refine gate_dst (N := 1) rfl ?_); refine box_event ?hg (N := 1) ?hd (cs := #[.int .i64 a0_0, .string a0_1, .string a0_2, .string a0_3, .int .i64 a0_4, .int .i64 a0_5]) (t := 28) ?hr ?_; (case hd => rfl); (case hg => rfl); (case hr => first | (go_simp; done) | (go_simp; rfl)); intro gb301 hg w36 hbox hb; have n0_ := A_ (bs_ bw_ hb); have n1_ := A_ (hbox); have n2_ := A_ ((by rw [hg]; exact (bz_ bw_) : w.heap.size ≤ gb301)); have n3_ := A_ ((by rw [hg]; exact (bz_ bw_) : w.heap.size ≤ gb301)); clear HB; have HB := n0_; have BK301 := n1_; have GW301 := n2_; have GE301 := n3_; clear n0_ n1_ n2_ n3_; clear hb hbox hg; have hcz37_0 : w36.cell? ⟨gb301, 0, none⟩ = some (.int .i64 a0_0) := (bc_ BK301.out 0).trans rfl; have hcz37_1 : w36.cell? ⟨gb301, 1, none⟩ = some (.string a0_1) := (bc_ BK301.out 1).trans rfl; have hcz37_2 : w36.cell? ⟨gb301, 2, none⟩ = some (.string a0_2) := (bc_ BK301.out 2).trans rfl; have hcz37_3 : w36.cell? ⟨gb301, 3, none⟩ = some (.string a0_3) := (bc_ BK301.out 3).trans rfl; have hcz37_4 : w36.cell? ⟨gb301, 4, none⟩ = some (.int .i64 a0_4) := (bc_ BK301.out 4).trans rfl; have hcz37_5 : w36.cell? ⟨gb301, 5, none⟩ = some (.int .i64 a0_5) := (bc_ BK301.out 5).trans rfl; have hfz37_0 := bf_ BK301.out 0; have hfz37_1 := bf_ BK301.out 1; have hfz37_2 := bf_ BK301.out 2; have hfz37_3 := bf_ BK301.out 3; have hfz37_4 := bf_ BK301.out 4; have hfz37_5 := bf_ BK301.out 5) | ((with_reducible refine gate_callee (f := 30) rfl ?_); refine goesL_ (some 8) rfl rfl Tryd.func30 (by kernel_rfl) rfl #[.agg #[.int .i64 a0_0, .string a0_1, .string a0_2, .string a0_3, .int .i64 a0_4, .int .i64 a0_5]] rfl (by (try simp only [List.map_toArray, List.map_cons, List.map_nil]); first | done | rfl | (simp only [List.length_drop, List.length_take]; rfl)) ?_; (with_reducible refine (trade_names.calls k a0_0 a0_1 a0_2 a0_3 a0_4 a0_5 t302 _ A5.out).mono ?_); rintro e w38 ⟨rfl, hb⟩; refine ⟨_, rfl, ?_⟩; have n0_ := A_ (kb_ BK301 hb); have n1_ := A_ (bs_ bw_ hb); clear BK301; clear HB; have BK301 := n0_; have HB := n1_; clear n0_ n1_; (try clear hb); (try clear hb2); (try clear hk); (try clear hi)))
   go_ret
   exact ⟨by first | rfl | (simp [errW_none, errW_some] <;> rfl) | (simp [*, errW_none, errW_some] <;> rfl), bw_⟩
end Go.Proofs.YtjbbigodkhnokaaDoor.Tr
end
section
namespace Go.Proofs.YtjbbigodkhnokaaDoor.Tr
open Go.RowKit Go.Proofs.YtjbbigodkhnokaaDoorW.PrintWords Go.Proofs.YtjbbigodkhnokaaDoorW.PrintLast Go.Proofs.YtjbbigodkhnokaaDoorW.PrintMore
attribute [local go_sem] max2_int min2_int max_two min_two max_three min_three max_four min_four   -- for this text's walks alone
set_option linter.unusedVariables false
set_option linter.unusedSimpArgs false
attribute [local go_sem] run_add64_any
def bits_Mul64.f (a0 : Int) (a1 : Int) : Option (Int × Int) := some (IntKind.u64.wrap ((IntKind.u64.wrap ((IntKind.u64.wrap ((a0 / 4294967296) * (a1 / 4294967296))) + ((IntKind.u64.wrap ((IntKind.u64.wrap ((a0 / 4294967296) * (Go.bits .and .u64 a1 4294967295))) + ((IntKind.u64.wrap ((Go.bits .and .u64 a0 4294967295) * (Go.bits .and .u64 a1 4294967295))) / 4294967296))) / 4294967296))) + ((IntKind.u64.wrap ((Go.bits .and .u64 (IntKind.u64.wrap ((IntKind.u64.wrap ((a0 / 4294967296) * (Go.bits .and .u64 a1 4294967295))) + ((IntKind.u64.wrap ((Go.bits .and .u64 a0 4294967295) * (Go.bits .and .u64 a1 4294967295))) / 4294967296))) 4294967295) + (IntKind.u64.wrap ((Go.bits .and .u64 a0 4294967295) * (a1 / 4294967296))))) / 4294967296)), IntKind.u64.wrap (a0 * a1))
set_option maxHeartbeats 8000000 in
set_option maxRecDepth 100000 in
theorem bits_Mul64.calls (a0 : Int) (a1 : Int) (r1 : Int) (r2 : Int) (w : World) (h : bits_Mul64.f a0 a1 = some (r1, r2)) :
  Calls Tryd.prog 53 #[.int .u64 a0, .int .u64 a1] w fun e w' => e = .returned (.tuple #[.int .u64 r1, .int .u64 r2]) ∧ Drawn0 w w' := by
 have H : (some (IntKind.u64.wrap ((IntKind.u64.wrap ((IntKind.u64.wrap ((a0 / 4294967296) * (a1 / 4294967296))) + ((IntKind.u64.wrap ((IntKind.u64.wrap ((a0 / 4294967296) * (Go.bits .and .u64 a1 4294967295))) + ((IntKind.u64.wrap ((Go.bits .and .u64 a0 4294967295) * (Go.bits .and .u64 a1 4294967295))) / 4294967296))) / 4294967296))) + ((IntKind.u64.wrap ((Go.bits .and .u64 (IntKind.u64.wrap ((IntKind.u64.wrap ((a0 / 4294967296) * (Go.bits .and .u64 a1 4294967295))) + ((IntKind.u64.wrap ((Go.bits .and .u64 a0 4294967295) * (Go.bits .and .u64 a1 4294967295))) / 4294967296))) 4294967295) + (IntKind.u64.wrap ((Go.bits .and .u64 a0 4294967295) * (a1 / 4294967296))))) / 4294967296)), IntKind.u64.wrap (a0 * a1))) = some (r1, r2) := h
 clear h
 simp only [Option.some.injEq, Prod.mk.injEq] at H
 obtain ⟨rfl, rfl⟩ := H
 go_enter Tryd.func53, Tryd.ntmps53
 go_wp2
 go_ret2
 exact ⟨by first | rfl | (simp; done) | (simp [*]; done), by repeat (first | exact Drawn0.refl _ | apply Drawn0.step)⟩
end Go.Proofs.YtjbbigodkhnokaaDoor.Tr
end
section
namespace Go.Proofs.YtjbbigodkhnokaaDoor.Tr
open Go.RowKit Go.Proofs.YtjbbigodkhnokaaDoorW.PrintWords Go.Proofs.YtjbbigodkhnokaaDoorW.PrintLast Go.Proofs.YtjbbigodkhnokaaDoorW.PrintMore
attribute [local go_sem] max2_int min2_int max_two min_two max_three min_three max_four min_four   -- for this text's walks alone
set_option linter.unusedVariables false
set_option linter.unusedSimpArgs false
attribute [local go_sem] run_add64_any
def fixed_size.f (a0 : Int) : Option (Int) := if a0 < 0 then (some (IntKind.u64.wrap (-(IntKind.u64.wrap (a0))))) else (some (IntKind.u64.wrap (a0)))
set_option maxHeartbeats 8000000 in
set_option maxRecDepth 100000 in
theorem fixed_size.calls (a0 : Int) (r : Int) (w : World) (h : fixed_size.f a0 = some r) :
  Calls Tryd.prog 54 #[.int .i64 a0] w fun e w' => e = .returned (.int .u64 r) ∧ Drawn0 w w' := by
 have H : (if a0 < 0 then (some (IntKind.u64.wrap (-(IntKind.u64.wrap (a0))))) else (some (IntKind.u64.wrap (a0)))) = some r := h
 clear h
 by_cases c2 : a0 < 0
 ·
  rw [if_pos c2] at H
  have c2b0 : decide (a0 < 0) = true := decide_eq_true c2
  clear c2
  obtain rfl := Option.some.inj H
  go_enter Tryd.func54, Tryd.ntmps54
  go_wp2
  go_ret
  exact ⟨by first | rfl | (simp; done) | (simp [*]; done), by repeat (first | exact Drawn0.refl _ | apply Drawn0.step)⟩
 ·
  rw [if_neg c2] at H
  have c2b0 : decide (a0 < 0) = false := decide_eq_false c2
  clear c2
  obtain rfl := Option.some.inj H
  go_enter Tryd.func54, Tryd.ntmps54
  go_wp2
  go_ret
  exact ⟨by first | rfl | (simp; done) | (simp [*]; done), by repeat (first | exact Drawn0.refl _ | apply Drawn0.step)⟩
end Go.Proofs.YtjbbigodkhnokaaDoor.Tr
end
section
namespace Go.Proofs.YtjbbigodkhnokaaDoor.Tr
open Go.RowKit Go.Proofs.YtjbbigodkhnokaaDoorW.PrintWords Go.Proofs.YtjbbigodkhnokaaDoorW.PrintLast Go.Proofs.YtjbbigodkhnokaaDoorW.PrintMore
attribute [local go_sem] max2_int min2_int max_two min_two max_three min_three max_four min_four   -- for this text's walks alone
set_option linter.unusedVariables false
set_option linter.unusedSimpArgs false
attribute [local go_sem] run_add64_any
def fixed_turned.f (a0_0 : Int) (a0_1 : Int) : Option (Int × Int) := some (wrap64 (IntKind.u64.wrap ((Go.bits .xor .u64 18446744073709551615 (IntKind.u64.wrap (a0_0))) + (addHi (Go.bits .xor .u64 18446744073709551615 a0_1) 1 0))), addLo (Go.bits .xor .u64 18446744073709551615 a0_1) 1 0)
set_option maxHeartbeats 8000000 in
set_option maxRecDepth 100000 in
theorem fixed_turned.calls (a0_0 : Int) (a0_1 : Int) (r1 : Int) (r2 : Int) (w : World) (h : fixed_turned.f a0_0 a0_1 = some (r1, r2)) :
  Calls Tryd.prog 55 #[.agg #[.int .i64 a0_0, .int .u64 a0_1]] w fun e w' => e = .returned (.agg #[.int .i64 r1, .int .u64 r2]) ∧ Below w.heap.size w w' := by
 have hu35 := Tryd.underlying35
 have HB := A_ (Below.refl w.heap.size w)
 have H : (some (wrap64 (IntKind.u64.wrap ((Go.bits .xor .u64 18446744073709551615 (IntKind.u64.wrap (a0_0))) + (addHi (Go.bits .xor .u64 18446744073709551615 a0_1) 1 0))), addLo (Go.bits .xor .u64 18446744073709551615 a0_1) 1 0)) = some (r1, r2) := h
 clear h
 simp only [Option.some.injEq, Prod.mk.injEq] at H
 obtain ⟨rfl, rfl⟩ := H
 go_enter Tryd.func55, Tryd.ntmps55
 go_wp2_with (first | ((with_reducible refine gate_dst (N := 1) rfl ?_); refine box_event ?hg (N := 1) ?hd (cs := #[.int .i64 a0_0, .int .u64 a0_1]) (t := 35) ?hr ?_; (case hd => rfl); (case hg => rfl); (case hr => first | (go_simp; done) | (go_simp; rfl)); intro gb301 hg w2 hbox hb; have n0_ := A_ (bs_ bw_ hb); have n1_ := A_ (hbox); have n2_ := A_ ((by rw [hg]; exact (bz_ bw_) : w.heap.size ≤ gb301)); have n3_ := A_ ((by rw [hg]; exact (bz_ bw_) : w.heap.size ≤ gb301)); clear HB; have HB := n0_; have BK301 := n1_; have GW301 := n2_; have GE301 := n3_; clear n0_ n1_ n2_ n3_; clear hb hbox hg) | ((with_reducible refine gate_dst (N := 2) rfl ?_); refine box_event ?hg (N := 2) ?hd (cs := #[.int .i64 0, .int .u64 0]) (t := 35) ?hr ?_; (case hd => rfl); (case hg => rfl); (case hr => first | (go_simp; done) | (go_simp; rfl)); intro gb302 hg w3 hbox hb; have n0_ := A_ (kb_ BK301 hb); have n1_ := A_ (bs_ bw_ hb); have n2_ := A_ (hbox); have n3_ := A_ ((by rw [hg]; exact (bz_ bw_) : w.heap.size ≤ gb302)); have n4_ := A_ ((by rw [hg]; exact (bz_ bw_) : w.heap.size ≤ gb302)); have n5_ := A_ ((by rw [hg]; exact nl_ (lt_ BK301) : gb301 ≠ gb302)); have n6_ := A_ ((by rw [hg]; exact ng_ (lt_ BK301) : gb302 ≠ gb301)); clear BK301; clear HB; have BK301 := n0_; have HB := n1_; have BK302 := n2_; have GW302 := n3_; have GE302 := n4_; have NB301_302 := n5_; have NB302_301 := n6_; clear n0_ n1_ n2_ n3_ n4_ n5_ n6_; clear hb hbox hg; have hnb4 := NB301_302.out; have hnc4 := NB302_301.out; have hcz5_0 : w3.cell? ⟨gb301, 0, none⟩ = some (.int .i64 a0_0) := (bc_ BK301.out 0).trans rfl; have hcz5_1 : w3.cell? ⟨gb301, 1, none⟩ = some (.int .u64 a0_1) := (bc_ BK301.out 1).trans rfl; have hfz5_0 := bf_ BK301.out 0; have hfz5_1 := bf_ BK301.out 1; have hcz6_0 : w3.cell? ⟨gb302, 0, none⟩ = some (.int .i64 0) := (bc_ BK302.out 0).trans rfl; have hcz6_1 : w3.cell? ⟨gb302, 1, none⟩ = some (.int .u64 0) := (bc_ BK302.out 1).trans rfl; have hfz6_0 := bf_ BK302.out 0; have hfz6_1 := bf_ BK302.out 1))
 refine bodyPost_ret (results_cell_row rfl _ _ gb302 35 #[.int .i64 (wrap64 (IntKind.u64.wrap ((Go.bits .xor .u64 18446744073709551615 (IntKind.u64.wrap (a0_0))) + (addHi (Go.bits .xor .u64 18446744073709551615 a0_1) 1 0)))), .int .u64 (addLo (Go.bits .xor .u64 18446744073709551615 a0_1) 1 0)] (0, 0) _ rfl (by (with_reducible repeat (first | refine bn_ ?_ _ | refine bd_ ?_ | refine ba_ ?_ _)); refine bp_ (cs := #[.int .i64 (wrap64 (IntKind.u64.wrap ((Go.bits .xor .u64 18446744073709551615 (IntKind.u64.wrap (a0_0))) + (addHi (Go.bits .xor .u64 18446744073709551615 a0_1) 1 0)))), .int .u64 0]) ?_ 1 _ rfl; (with_reducible repeat (first | refine bn_ ?_ _ | refine bd_ ?_ | refine ba_ ?_ _)); refine bp_ (cs := #[.int .i64 0, .int .u64 0]) ?_ 0 _ rfl; (with_reducible repeat (first | refine bn_ ?_ _ | refine bd_ ?_ | refine ba_ ?_ _)); exact BK302.out) Tryd.underlying35 rfl (by kernel_rfl)) rfl ?_
 exact ⟨by first | rfl | (simp [errW_none, errW_some] <;> rfl) | (simp [*, errW_none, errW_some] <;> rfl), bw_⟩
end Go.Proofs.YtjbbigodkhnokaaDoor.Tr
end
section
namespace Go.Proofs.YtjbbigodkhnokaaDoor.Tr
open Go.RowKit Go.Proofs.YtjbbigodkhnokaaDoorW.PrintWords Go.Proofs.YtjbbigodkhnokaaDoorW.PrintLast Go.Proofs.YtjbbigodkhnokaaDoorW.PrintMore
attribute [local go_sem] max2_int min2_int max_two min_two max_three min_three max_four min_four   -- for this text's walks alone
set_option linter.unusedVariables false
set_option linter.unusedSimpArgs false
attribute [local go_sem] run_add64_any
def fixed_Times.f (a0 : Int) (a1 : Int) : Option (Int × Int) := (fixed_size.f a0).bind fun t209 => ((fixed_size.f a1).bind fun t210 => ((bits_Mul64.f t209 t210).bind fun bt211 => (if ((decide (a0 < 0)) != (decide (a1 < 0))) = true then ((fixed_turned.f (wrap64 (bt211.1)) bt211.2).bind fun bt213 => (some (bt213.1, bt213.2))) else (some (wrap64 (bt211.1), bt211.2)))))
set_option maxHeartbeats 8000000 in
set_option maxRecDepth 100000 in
theorem fixed_Times.calls (a0 : Int) (a1 : Int) (r1 : Int) (r2 : Int) (w : World) (h : fixed_Times.f a0 a1 = some (r1, r2)) :
  Calls Tryd.prog 33 #[.int .i64 a0, .int .i64 a1] w fun e w' => e = .returned (.agg #[.int .i64 r1, .int .u64 r2]) ∧ Below w.heap.size w w' := by
 have hu35 := Tryd.underlying35
 have HB := A_ (Below.refl w.heap.size w)
 have H : ((fixed_size.f a0).bind fun t209 => ((fixed_size.f a1).bind fun t210 => ((bits_Mul64.f t209 t210).bind fun bt211 => (if ((decide (a0 < 0)) != (decide (a1 < 0))) = true then ((fixed_turned.f (wrap64 (bt211.1)) bt211.2).bind fun bt213 => (some (bt213.1, bt213.2))) else (some (wrap64 (bt211.1), bt211.2)))))) = some (r1, r2) := h
 clear h
 replace H := os_ H
 obtain ⟨t209, A30, H⟩ := H
 replace H : ((fixed_size.f a1).bind fun t210 => ((bits_Mul64.f t209 t210).bind fun bt211 => (if ((decide (a0 < 0)) != (decide (a1 < 0))) = true then ((fixed_turned.f (wrap64 (bt211.1)) bt211.2).bind fun bt213 => (some (bt213.1, bt213.2))) else (some (wrap64 (bt211.1), bt211.2))))) = some (r1, r2) := H
 have A3 := A_ A30
 clear A30
 replace H := os_ H
 obtain ⟨t210, A40, H⟩ := H
 replace H : ((bits_Mul64.f t209 t210).bind fun bt211 => (if ((decide (a0 < 0)) != (decide (a1 < 0))) = true then ((fixed_turned.f (wrap64 (bt211.1)) bt211.2).bind fun bt213 => (some (bt213.1, bt213.2))) else (some (wrap64 (bt211.1), bt211.2)))) = some (r1, r2) := H
 have A4 := A_ A40
 clear A40
 replace H := os_ H
 obtain ⟨⟨t211, t212⟩, A50, H⟩ := H
 replace H : (if ((decide (a0 < 0)) != (decide (a1 < 0))) = true then ((fixed_turned.f (wrap64 (t211)) t212).bind fun bt213 => (some (bt213.1, bt213.2))) else (some (wrap64 (t211), t212))) = some (r1, r2) := H
 have A5 := A_ A50
 clear A50
 by_cases c6 : ((decide (a0 < 0)) != (decide (a1 < 0))) = true
 ·
  rw [if_pos c6] at H
  have c6b0 : ((decide (a0 < 0)) != (decide (a1 < 0))) = true := c6
  (try (have c6b1 : decide ((decide (a0 < 0)) = (decide (a1 < 0))) = false := by simpa using c6))
  (try (have c6b2 : ((decide (a0 < 0)) == (decide (a1 < 0))) = false := by simpa using c6))
  (try (have c6b3 : ¬ ((decide (a0 < 0)) = (decide (a1 < 0))) := by simpa using c6))
  clear c6
  replace H := os_ H
  obtain ⟨⟨t213, t214⟩, A70, H⟩ := H
  replace H : (some (t213, t214)) = some (r1, r2) := H
  have A7 := A_ A70
  clear A70
  simp only [Option.some.injEq, Prod.mk.injEq] at H
  obtain ⟨rfl, rfl⟩ := H
  go_enter Tryd.func33, Tryd.ntmps33
  go_wp2_with (first | ((with_reducible refine gate_dst (N := 4) rfl ?_); refine box_event ?hg (N := 4) ?hd (cs := #[.int .i64 0, .int .u64 0]) (t := 35) ?hr ?_; (case hd => rfl); (case hg => rfl); (case hr => first | (go_simp; done) | (go_simp; rfl)); intro gb304 hg w8 hbox hb; have n0_ := A_ (bs_ bw_ hb); have n1_ := A_ (hbox); have n2_ := A_ ((by rw [hg]; exact (bz_ bw_) : w.heap.size ≤ gb304)); have n3_ := A_ ((by rw [hg]; exact (bz_ bw_) : w.heap.size ≤ gb304)); clear HB; have HB := n0_; have BK304 := n1_; have GW304 := n2_; have GE304 := n3_; clear n0_ n1_ n2_ n3_; clear hb hbox hg) | ((with_reducible refine gate_callee (f := 54) rfl ?_); refine goesL_ (some 10) rfl rfl Tryd.func54 (by kernel_rfl) rfl #[.int .i64 a0] rfl (by (try simp only [List.map_toArray, List.map_cons, List.map_nil]); first | done | rfl | (simp only [List.length_drop, List.length_take]; rfl)) ?_; (with_reducible refine (fixed_size.calls a0 t209 _ A3.out).mono ?_); rintro e w' ⟨rfl, ⟨nd, rfl⟩⟩; refine ⟨_, rfl, ?_⟩; (try (rw [drewN_self w8]; generalize hq_ : World.drewN w8 _ = w8; have n0_ : Aside0 (w8.heap[gb304]? = some (.cells #[.int .i64 0, .int .u64 0] 35 (0, 0))) := ⟨by rw [← hq_]; exact bk_⟩; have n1_ : Aside0 (Below w.heap.size w w8) := ⟨by rw [← hq_]; exact bw_⟩; clear BK304 HB hq_; have BK304 := n0_; have HB := n1_; clear n0_ n1_))) | ((with_reducible refine gate_callee (f := 54) rfl ?_); refine goesL_ (some 12) rfl rfl Tryd.func54 (by kernel_rfl) rfl #[.int .i64 a1] rfl (by (try simp only [List.map_toArray, List.map_cons, List.map_nil]); first | done | rfl | (simp only [List.length_drop, List.length_take]; rfl)) ?_; (with_reducible refine (fixed_size.calls a1 t210 _ A4.out).mono ?_); rintro e w' ⟨rfl, ⟨nd, rfl⟩⟩; refine ⟨_, rfl, ?_⟩; (try (rw [drewN_self w8]; generalize hq_ : World.drewN w8 _ = w8; have n0_ : Aside0 (w8.heap[gb304]? = some (.cells #[.int .i64 0, .int .u64 0] 35 (0, 0))) := ⟨by rw [← hq_]; exact bk_⟩; have n1_ : Aside0 (Below w.heap.size w w8) := ⟨by rw [← hq_]; exact bw_⟩; clear BK304 HB hq_; have BK304 := n0_; have HB := n1_; clear n0_ n1_))) | ((with_reducible refine gate_callee (f := 53) rfl ?_); refine goesL_ (some 13) rfl rfl Tryd.func53 (by kernel_rfl) rfl #[.int .u64 t209, .int .u64 t210] rfl (by (try simp only [List.map_toArray, List.map_cons, List.map_nil]); first | done | rfl | (simp only [List.length_drop, List.length_take]; rfl)) ?_; (with_reducible refine (bits_Mul64.calls t209 t210 t211 t212 _ A5.out).mono ?_); rintro e w' ⟨rfl, ⟨nd, rfl⟩⟩; refine ⟨_, rfl, ?_⟩; (try (rw [drewN_self w8]; generalize hq_ : World.drewN w8 _ = w8; have n0_ : Aside0 (w8.heap[gb304]? = some (.cells #[.int .i64 0, .int .u64 0] 35 (0, 0))) := ⟨by rw [← hq_]; exact bk_⟩; have n1_ : Aside0 (Below w.heap.size w w8) := ⟨by rw [← hq_]; exact bw_⟩; clear BK304 HB hq_; have BK304 := n0_; have HB := n1_; clear n0_ n1_))) | ((with_reducible refine gate_dst (N := 7) rfl ?_); refine box_event ?hg (N := 7) ?hd (cs := #[.int .i64 0, .int .u64 0]) (t := 35) ?hr ?_; (case hd => rfl); (case hg => rfl); (case hr => first | (go_simp; done) | (go_simp; rfl)); intro gb307 hg w9 hbox hb; have n0_ := A_ (kb_ BK304 hb); have n1_ := A_ (bs_ bw_ hb); have n2_ := A_ (hbox); have n3_ := A_ ((by rw [hg]; exact (bz_ bw_) : w.heap.size ≤ gb307)); have n4_ := A_ ((by rw [hg]; exact (bz_ bw_) : w.heap.size ≤ gb307)); have n5_ := A_ ((by rw [hg]; exact nl_ (lt_ BK304) : gb304 ≠ gb307)); have n6_ := A_ ((by rw [hg]; exact ng_ (lt_ BK304) : gb307 ≠ gb304)); clear BK304; clear HB; have BK304 := n0_; have HB := n1_; have BK307 := n2_; have GW307 := n3_; have GE307 := n4_; have NB304_307 := n5_; have NB307_304 := n6_; clear n0_ n1_ n2_ n3_ n4_ n5_ n6_; clear hb hbox hg; have hnb10 := NB307_304.out; have hnc10 := NB304_307.out; have hcz11_0 : w9.cell? ⟨gb307, 0, none⟩ = some (.int .i64 0) := (bc_ BK307.out 0).trans rfl; have hcz11_1 : w9.cell? ⟨gb307, 1, none⟩ = some (.int .u64 0) := (bc_ BK307.out 1).trans rfl; have hfz11_0 := bf_ BK307.out 0; have hfz11_1 := bf_ BK307.out 1) | ((with_reducible refine gate_callee (f := 55) rfl ?_); refine goesL_ (some 26) rfl rfl Tryd.func55 (by kernel_rfl) rfl #[.agg #[.int .i64 (wrap64 (t211)), .int .u64 t212]] rfl (by (try simp only [List.map_toArray, List.map_cons, List.map_nil]); first | done | rfl | (simp only [List.length_drop, List.length_take]; rfl)) ?_; (with_reducible refine (fixed_turned.calls (wrap64 (t211)) t212 t213 t214 _ A7.out).mono ?_); rintro e w12 ⟨rfl, hb⟩; refine ⟨_, rfl, ?_⟩; have n0_ := A_ (kb_ BK304 hb); have n1_ := A_ (blk_below (g := gb307) (o := .cells #[.int .i64 (wrap64 (t211)), .int .u64 t212] 35 (0, 0)) (by (with_reducible repeat (first | refine bn_ ?_ _ | refine bd_ ?_ | refine ba_ ?_ _)); refine bp_ (cs := #[.int .i64 (wrap64 (t211)), .int .u64 0]) ?_ 1 _ rfl; (with_reducible repeat (first | refine bn_ ?_ _ | refine bd_ ?_ | refine ba_ ?_ _)); refine bp_ (cs := #[.int .i64 0, .int .u64 0]) ?_ 0 _ rfl; (with_reducible repeat (first | refine bn_ ?_ _ | refine bd_ ?_ | refine ba_ ?_ _)); exact BK307.out) hb); have n2_ := A_ (bs_ bw_ hb); clear BK304; clear BK307; clear HB; have BK304 := n0_; have BK307 := n1_; have HB := n2_; clear n0_ n1_ n2_; (try clear hb); (try clear hb2); (try clear hk); (try clear hi); have hcz13_0 : w12.cell? ⟨gb304, 0, none⟩ = some (.int .i64 0) := (bc_ BK304.out 0).trans rfl; have hcz13_1 : w12.cell? ⟨gb304, 1, none⟩ = some (.int .u64 0) := (bc_ BK304.out 1).trans rfl; have hfz13_0 := bf_ BK304.out 0; have hfz13_1 := bf_ BK304.out 1))
  refine bodyPost_ret (results_cell_row rfl _ _ gb304 35 #[.int .i64 t213, .int .u64 t214] (0, 0) _ rfl (by (with_reducible repeat (first | refine bn_ ?_ _ | refine bd_ ?_ | refine ba_ ?_ _)); refine bp_ (cs := #[.int .i64 t213, .int .u64 0]) ?_ 1 _ rfl; (with_reducible repeat (first | refine bn_ ?_ _ | refine bd_ ?_ | refine ba_ ?_ _)); refine bp_ (cs := #[.int .i64 0, .int .u64 0]) ?_ 0 _ rfl; (with_reducible repeat (first | refine bn_ ?_ _ | refine bd_ ?_ | refine ba_ ?_ _)); exact BK304.out) Tryd.underlying35 rfl (by kernel_rfl)) rfl ?_
  exact ⟨by first | rfl | (simp [errW_none, errW_some] <;> rfl) | (simp [*, errW_none, errW_some] <;> rfl), bw_⟩
 ·
  rw [if_neg c6] at H
  have c6b0 : ((decide (a0 < 0)) != (decide (a1 < 0))) = false := by simpa using c6
  (try (have c6b1 : decide ((decide (a0 < 0)) = (decide (a1 < 0))) = true := by simpa using c6))
  (try (have c6b2 : ((decide (a0 < 0)) == (decide (a1 < 0))) = true := by simpa using c6))
  clear c6
  simp only [Option.some.injEq, Prod.mk.injEq] at H
  obtain ⟨rfl, rfl⟩ := H
  go_enter Tryd.func33, Tryd.ntmps33
  go_wp2_with (first | ((with_reducible refine gate_dst (N := 4) rfl ?_); refine box_event ?hg (N := 4) ?hd (cs := #[.int .i64 0, .int .u64 0]) (t := 35) ?hr ?_; (case hd => rfl); (case hg => rfl); (case hr => first | (go_simp; done) | (go_simp; rfl)); intro gb304 hg w14 hbox hb; have n0_ := A_ (bs_ bw_ hb); have n1_ := A_ (hbox); have n2_ := A_ ((by rw [hg]; exact (bz_ bw_) : w.heap.size ≤ gb304)); have n3_ := A_ ((by rw [hg]; exact (bz_ bw_) : w.heap.size ≤ gb304)); clear HB; have HB := n0_; have BK304 := n1_; have GW304 := n2_; have GE304 := n3_; clear n0_ n1_ n2_ n3_; clear hb hbox hg) | ((with_reducible refine gate_callee (f := 54) rfl ?_); refine goesL_ (some 10) rfl rfl Tryd.func54 (by kernel_rfl) rfl #[.int .i64 a0] rfl (by (try simp only [List.map_toArray, List.map_cons, List.map_nil]); first | done | rfl | (simp only [List.length_drop, List.length_take]; rfl)) ?_; (with_reducible refine (fixed_size.calls a0 t209 _ A3.out).mono ?_); rintro e w' ⟨rfl, ⟨nd, rfl⟩⟩; refine ⟨_, rfl, ?_⟩; (try (rw [drewN_self w14]; generalize hq_ : World.drewN w14 _ = w14; have n0_ : Aside0 (w14.heap[gb304]? = some (.cells #[.int .i64 0, .int .u64 0] 35 (0, 0))) := ⟨by rw [← hq_]; exact bk_⟩; have n1_ : Aside0 (Below w.heap.size w w14) := ⟨by rw [← hq_]; exact bw_⟩; clear BK304 HB hq_; have BK304 := n0_; have HB := n1_; clear n0_ n1_))) | ((with_reducible refine gate_callee (f := 54) rfl ?_); refine goesL_ (some 12) rfl rfl Tryd.func54 (by kernel_rfl) rfl #[.int .i64 a1] rfl (by (try simp only [List.map_toArray, List.map_cons, List.map_nil]); first | done | rfl | (simp only [List.length_drop, List.length_take]; rfl)) ?_; (with_reducible refine (fixed_size.calls a1 t210 _ A4.out).mono ?_); rintro e w' ⟨rfl, ⟨nd, rfl⟩⟩; refine ⟨_, rfl, ?_⟩; (try (rw [drewN_self w14]; generalize hq_ : World.drewN w14 _ = w14; have n0_ : Aside0 (w14.heap[gb304]? = some (.cells #[.int .i64 0, .int .u64 0] 35 (0, 0))) := ⟨by rw [← hq_]; exact bk_⟩; have n1_ : Aside0 (Below w.heap.size w w14) := ⟨by rw [← hq_]; exact bw_⟩; clear BK304 HB hq_; have BK304 := n0_; have HB := n1_; clear n0_ n1_))) | ((with_reducible refine gate_callee (f := 53) rfl ?_); refine goesL_ (some 13) rfl rfl Tryd.func53 (by kernel_rfl) rfl #[.int .u64 t209, .int .u64 t210] rfl (by (try simp only [List.map_toArray, List.map_cons, List.map_nil]); first | done | rfl | (simp only [List.length_drop, List.length_take]; rfl)) ?_; (with_reducible refine (bits_Mul64.calls t209 t210 t211 t212 _ A5.out).mono ?_); rintro e w' ⟨rfl, ⟨nd, rfl⟩⟩; refine ⟨_, rfl, ?_⟩; (try (rw [drewN_self w14]; generalize hq_ : World.drewN w14 _ = w14; have n0_ : Aside0 (w14.heap[gb304]? = some (.cells #[.int .i64 0, .int .u64 0] 35 (0, 0))) := ⟨by rw [← hq_]; exact bk_⟩; have n1_ : Aside0 (Below w.heap.size w w14) := ⟨by rw [← hq_]; exact bw_⟩; clear BK304 HB hq_; have BK304 := n0_; have HB := n1_; clear n0_ n1_))) | ((with_reducible refine gate_dst (N := 7) rfl ?_); refine box_event ?hg (N := 7) ?hd (cs := #[.int .i64 0, .int .u64 0]) (t := 35) ?hr ?_; (case hd => rfl); (case hg => rfl); (case hr => first | (go_simp; done) | (go_simp; rfl)); intro gb307 hg w15 hbox hb; have n0_ := A_ (kb_ BK304 hb); have n1_ := A_ (bs_ bw_ hb); have n2_ := A_ (hbox); have n3_ := A_ ((by rw [hg]; exact (bz_ bw_) : w.heap.size ≤ gb307)); have n4_ := A_ ((by rw [hg]; exact (bz_ bw_) : w.heap.size ≤ gb307)); have n5_ := A_ ((by rw [hg]; exact nl_ (lt_ BK304) : gb304 ≠ gb307)); have n6_ := A_ ((by rw [hg]; exact ng_ (lt_ BK304) : gb307 ≠ gb304)); clear BK304; clear HB; have BK304 := n0_; have HB := n1_; have BK307 := n2_; have GW307 := n3_; have GE307 := n4_; have NB304_307 := n5_; have NB307_304 := n6_; clear n0_ n1_ n2_ n3_ n4_ n5_ n6_; clear hb hbox hg; have hnb16 := NB307_304.out; have hnc16 := NB304_307.out; have hcz17_0 : w15.cell? ⟨gb307, 0, none⟩ = some (.int .i64 0) := (bc_ BK307.out 0).trans rfl; have hcz17_1 : w15.cell? ⟨gb307, 1, none⟩ = some (.int .u64 0) := (bc_ BK307.out 1).trans rfl; have hfz17_0 := bf_ BK307.out 0; have hfz17_1 := bf_ BK307.out 1; have hcz18_0 : w15.cell? ⟨gb304, 0, none⟩ = some (.int .i64 0) := (bc_ BK304.out 0).trans rfl; have hcz18_1 : w15.cell? ⟨gb304, 1, none⟩ = some (.int .u64 0) := (bc_ BK304.out 1).trans rfl; have hfz18_0 := bf_ BK304.out 0; have hfz18_1 := bf_ BK304.out 1))
  refine bodyPost_ret (results_cell_row rfl _ _ gb304 35 #[.int .i64 (wrap64 (t211)), .int .u64 t212] (0, 0) _ rfl (by (with_reducible repeat (first | refine bn_ ?_ _ | refine bd_ ?_ | refine ba_ ?_ _)); refine bp_ (cs := #[.int .i64 (wrap64 (t211)), .int .u64 0]) ?_ 1 _ rfl; (with_reducible repeat (first | refine bn_ ?_ _ | refine bd_ ?_ | refine ba_ ?_ _)); refine bp_ (cs := #[.int .i64 0, .int .u64 0]) ?_ 0 _ rfl; (with_reducible repeat (first | refine bn_ ?_ _ | refine bd_ ?_ | refine ba_ ?_ _)); refine br_ ?_ NB304_307.out _; (with_reducible repeat (first | refine bn_ ?_ _ | refine bd_ ?_ | refine ba_ ?_ _)); refine br_ ?_ NB304_307.out _; (with_reducible repeat (first | refine bn_ ?_ _ | refine bd_ ?_ | refine ba_ ?_ _)); exact BK304.out) Tryd.underlying35 rfl (by kernel_rfl)) rfl ?_
  exact ⟨by first | rfl | (simp [errW_none, errW_some] <;> rfl) | (simp [*, errW_none, errW_some] <;> rfl), bw_⟩
end Go.Proofs.YtjbbigodkhnokaaDoor.Tr
end
section
namespace Go.Proofs.YtjbbigodkhnokaaDoor.Tr
open Go.RowKit Go.Proofs.YtjbbigodkhnokaaDoorW.PrintWords Go.Proofs.YtjbbigodkhnokaaDoorW.PrintLast Go.Proofs.YtjbbigodkhnokaaDoorW.PrintMore
attribute [local go_sem] max2_int min2_int max_two min_two max_three min_three max_four min_four   -- for this text's walks alone
set_option linter.unusedVariables false
set_option linter.unusedSimpArgs false
attribute [local go_sem] run_add64_any
def trade_Value.f (a0_0 : Int) (a0_1 : ByteArray) (a0_2 : ByteArray) (a0_3 : ByteArray) (a0_4 : Int) (a0_5 : Int) : Option (Int × Int) := (fixed_Times.f a0_4 a0_5).bind fun bt215 => (some (bt215.1, bt215.2))
set_option maxHeartbeats 8000000 in
set_option maxRecDepth 100000 in
theorem trade_Value.calls (a0_0 : Int) (a0_1 : ByteArray) (a0_2 : ByteArray) (a0_3 : ByteArray) (a0_4 : Int) (a0_5 : Int) (r1 : Int) (r2 : Int) (w : World) (h : trade_Value.f a0_0 a0_1 a0_2 a0_3 a0_4 a0_5 = some (r1, r2)) :
  Calls Tryd.prog 17 #[.agg #[.int .i64 a0_0, .string a0_1, .string a0_2, .string a0_3, .int .i64 a0_4, .int .i64 a0_5]] w fun e w' => e = .returned (.agg #[.int .i64 r1, .int .u64 r2]) ∧ Below w.heap.size w w' := by
 have hu28 := Tryd.underlying28
 have hu35 := Tryd.underlying35
 have HB := A_ (Below.refl w.heap.size w)
 have H : ((fixed_Times.f a0_4 a0_5).bind fun bt215 => (some (bt215.1, bt215.2))) = some (r1, r2) := h
 clear h
 replace H := os_ H
 obtain ⟨⟨t215, t216⟩, A20, H⟩ := H
 replace H : (some (t215, t216)) = some (r1, r2) := H
 have A2 := A_ A20
 clear A20
 simp only [Option.some.injEq, Prod.mk.injEq] at H
 obtain ⟨rfl, rfl⟩ := H
 go_enter Tryd.func17, Tryd.ntmps17
 go_wp2_with (first | ((with_reducible refine gate_dst (N := 1) rfl ?_); refine box_event ?hg (N := 1) ?hd (cs := #[.int .i64 a0_0, .string a0_1, .string a0_2, .string a0_3, .int .i64 a0_4, .int .i64 a0_5]) (t := 28) ?hr ?_; (case hd => rfl); (case hg => rfl); (case hr => first | (go_simp; done) | (go_simp; rfl)); intro gb301 hg w3 hbox hb; have n0_ := A_ (bs_ bw_ hb); have n1_ := A_ (hbox); have n2_ := A_ ((by rw [hg]; exact (bz_ bw_) : w.heap.size ≤ gb301)); have n3_ := A_ ((by rw [hg]; exact (bz_ bw_) : w.heap.size ≤ gb301)); clear HB; have HB := n0_; have BK301 := n1_; have GW301 := n2_; have GE301 := n3_; clear n0_ n1_ n2_ n3_; clear hb hbox hg) | ((with_reducible refine gate_dst (N := 2) rfl ?_); refine box_event ?hg (N := 2) ?hd (cs := #[.int .i64 0, .int .u64 0]) (t := 35) ?hr ?_; (case hd => rfl); (case hg => rfl); (case hr => first | (go_simp; done) | (go_simp; rfl)); intro gb302 hg w4 hbox hb; have n0_ := A_ (kb_ BK301 hb); have n1_ := A_ (bs_ bw_ hb); have n2_ := A_ (hbox); have n3_ := A_ ((by rw [hg]; exact (bz_ bw_) : w.heap.size ≤ gb302)); have n4_ := A_ ((by rw [hg]; exact (bz_ bw_) : w.heap.size ≤ gb302)); have n5_ := A_ ((by rw [hg]; exact nl_ (lt_ BK301) : gb301 ≠ gb302)); have n6_ := A_ ((by rw [hg]; exact ng_ (lt_ BK301) : gb302 ≠ gb301)); clear BK301; clear HB; have BK301 := n0_; have HB := n1_; have BK302 := n2_; have GW302 := n3_; have GE302 := n4_; have NB301_302 := n5_; have NB302_301 := n6_; clear n0_ n1_ n2_ n3_ n4_ n5_ n6_; clear hb hbox hg; have hnb5 := NB301_302.out; have hnc5 := NB302_301.out; have hcz6_0 : w4.cell? ⟨gb301, 0, none⟩ = some (.int .i64 a0_0) := (bc_ BK301.out 0).trans rfl; have hcz6_1 : w4.cell? ⟨gb301, 1, none⟩ = some (.string a0_1) := (bc_ BK301.out 1).trans rfl; have hcz6_2 : w4.cell? ⟨gb301, 2, none⟩ = some (.string a0_2) := (bc_ BK301.out 2).trans rfl; have hcz6_3 : w4.cell? ⟨gb301, 3, none⟩ = some (.string a0_3) := (bc_ BK301.out 3).trans rfl; have hcz6_4 : w4.cell? ⟨gb301, 4, none⟩ = some (.int .i64 a0_4) := (bc_ BK301.out 4).trans rfl; have hcz6_5 : w4.cell? ⟨gb301, 5, none⟩ = some (.int .i64 a0_5) := (bc_ BK301.out 5).trans rfl; have hfz6_0 := bf_ BK301.out 0; have hfz6_1 := bf_ BK301.out 1; have hfz6_2 := bf_ BK301.out 2; have hfz6_3 := bf_ BK301.out 3; have hfz6_4 := bf_ BK301.out 4; have hfz6_5 := bf_ BK301.out 5) | ((with_reducible refine gate_callee (f := 33) rfl ?_); refine goesL_ (some 7) rfl rfl Tryd.func33 (by kernel_rfl) rfl #[.int .i64 a0_4, .int .i64 a0_5] rfl (by (try simp only [List.map_toArray, List.map_cons, List.map_nil]); first | done | rfl | (simp only [List.length_drop, List.length_take]; rfl)) ?_; (with_reducible refine (fixed_Times.calls a0_4 a0_5 t215 t216 _ A2.out).mono ?_); rintro e w7 ⟨rfl, hb⟩; refine ⟨_, rfl, ?_⟩; have n0_ := A_ (kb_ BK301 hb); have n1_ := A_ (kb_ BK302 hb); have n2_ := A_ (bs_ bw_ hb); clear BK301; clear BK302; clear HB; have BK301 := n0_; have BK302 := n1_; have HB := n2_; clear n0_ n1_ n2_; (try clear hb); (try clear hb2); (try clear hk); (try clear hi); have hcz8_0 : w7.cell? ⟨gb302, 0, none⟩ = some (.int .i64 0) := (bc_ BK302.out 0).trans rfl; have hcz8_1 : w7.cell? ⟨gb302, 1, none⟩ = some (.int .u64 0) := (bc_ BK302.out 1).trans rfl; have hfz8_0 := bf_ BK302.out 0; have hfz8_1 := bf_ BK302.out 1))
 refine bodyPost_ret (results_cell_row rfl _ _ gb302 35 #[.int .i64 t215, .int .u64 t216] (0, 0) _ rfl (by (with_reducible repeat (first | refine bn_ ?_ _ | refine bd_ ?_ | refine ba_ ?_ _)); refine bp_ (cs := #[.int .i64 t215, .int .u64 0]) ?_ 1 _ rfl; (with_reducible repeat (first | refine bn_ ?_ _ | refine bd_ ?_ | refine ba_ ?_ _)); refine bp_ (cs := #[.int .i64 0, .int .u64 0]) ?_ 0 _ rfl; (with_reducible repeat (first | refine bn_ ?_ _ | refine bd_ ?_ | refine ba_ ?_ _)); exact BK302.out) Tryd.underlying35 rfl (by kernel_rfl)) rfl ?_
 exact ⟨by first | rfl | (simp [errW_none, errW_some] <;> rfl) | (simp [*, errW_none, errW_some] <;> rfl), bw_⟩
end Go.Proofs.YtjbbigodkhnokaaDoor.Tr
end
section
namespace Go.Proofs.YtjbbigodkhnokaaDoor.Tr
open Go.RowKit Go.Proofs.YtjbbigodkhnokaaDoorW.PrintWords Go.Proofs.YtjbbigodkhnokaaDoorW.PrintLast Go.Proofs.YtjbbigodkhnokaaDoorW.PrintMore
attribute [local go_sem] max2_int min2_int max_two min_two max_three min_three max_four min_four   -- for this text's walks alone
set_option linter.unusedVariables false
set_option linter.unusedSimpArgs false
attribute [local go_sem] run_add64_any
mutual
def fixed_form.j0 : Nat → ByteArray → Bool → Option (Bool)
 | 0, _, _ => none
 | k + 1, x0, x11 => if x11 = true then (if 1 ≤ (x0.size : Int) then (if (x0.extract 1 x0.size).toList = ([48] : List UInt8) then (some false) else (fixed_form.j1 k (x0.extract 1 x0.size))) else (none)) else (fixed_form.j1 k x0)
def fixed_form.j1 : Nat → ByteArray → Option (Bool)
 | 0, _ => none
 | k + 1, x0 => if x0.toList = ([] : List UInt8) then (fixed_form.j2 k x0 true) else (if 0 < (x0.size : Int) then (if (bt x0 0) = 48 then (fixed_form.j2 k x0 (decide ((x0.size : Int) > 1))) else (fixed_form.j2 k x0 false)) else (none))
def fixed_form.j2 : Nat → ByteArray → Bool → Option (Bool)
 | 0, _, _ => none
 | k + 1, x0, x27 => if x27 = true then (some false) else (if x0.size ≤ 9223372036854775807 then ((some (bytesOf x0 : List Int)).bind fun y409 => (fixed_form.l0 k y409 (y409.length : Int) 0)) else (none))
def fixed_form.l0 : Nat → List Int → Int → Int → Option (Bool)
 | 0, _, _, _ => none
 | k + 1, x29, x30, x31 => if x31 < x30 then (if 0 ≤ x31 then (if x31 < (x29.length : Int) then (if (rd x29 x31) < 48 then (some false) else (if (rd x29 x31) > 57 then (some false) else (fixed_form.l0 k x29 x30 (wrap64 (x31 + 1))))) else (none)) else (none)) else (some true)
end
def fixed_form.f (k : Nat) (a0 : ByteArray) : Option (Bool) := if a0.toList = ([] : List UInt8) then (fixed_form.j0 k a0 false) else (if 0 < (a0.size : Int) then (fixed_form.j0 k a0 ((bt a0 0) == 45)) else (none))
set_option maxHeartbeats 8000000 in
set_option maxRecDepth 100000 in
theorem fixed_form.calls (k : Nat) (a0 : ByteArray) (r : Bool) (w : World) (h : fixed_form.f k a0 = some r) :
  Calls Tryd.prog 60 #[.string a0] w fun e w' => e = .returned (.bool r) ∧ Below w.heap.size w w' := by
 have HB := A_ (Below.refl w.heap.size w)
 have H : (if a0.toList = ([] : List UInt8) then (fixed_form.j0 k a0 false) else (if 0 < (a0.size : Int) then (fixed_form.j0 k a0 ((bt a0 0) == 45)) else (none))) = some r := h
 clear h
 have HC2 := A_ H
 clear H
 go_enter Tryd.func60, Tryd.ntmps60
 go_upto_region 1 with (fail)
 go_cut [11] (fun v11 wc => ∃ (kq : Nat) (x11_1 : Bool), v11 = .bool x11_1 ∧ Aside0 (fixed_form.j0 kq a0 x11_1 = some r) ∧ Aside0 (kq ≤ k) ∧ Aside0 (Below w.heap.size w wc))
 case first =>
  have H := HC2.out
  clear HC2
  by_cases c3 : a0.toList = ([] : List UInt8)
  ·
   rw [if_pos c3] at H
   have c3b0 : (a0.toList == ([] : List UInt8)) = true := q1_ c3
   have c3b1 : (a0.toList != ([] : List UInt8)) = false := q3_ c3
   clear c3
   (first | rw [c3b0] | (simp only [i64_w, i32_w]; rw [c3b0]) | skip)
   have H' := A_ H
   clear H
   go_wp2
   go_meet
   case rel => exact ⟨_, (false), (by first | rfl | (simp; done) | (simp [*]; done)), H', ⟨by first | omega | exact Nat.le_refl _⟩, ⟨bw_⟩⟩
  ·
   rw [if_neg c3] at H
   have c3b0 : (a0.toList == ([] : List UInt8)) = false := q4_ c3
   have c3b1 : (a0.toList != ([] : List UInt8)) = true := q2_ c3
   (first | rw [c3b0] | (simp only [i64_w, i32_w]; rw [c3b0]) | skip)
   by_cases c4 : 0 < (a0.size : Int)
   ·
    rw [if_pos c4] at H
    have c4b0 : decide (0 < (a0.size : Int)) = true := decide_eq_true c4
    have c4b1 : decide (0 < a0.size) = true := decide_eq_true (by omega)
    clear c4
    have H' := A_ H
    clear H
    have p5 : 0 ≤ (0 : Int) := (by omega)
    have q5 : 0 < a0.size := (by have : (0 : Int) < (a0.size : Int) := od_ (by first | (with_reducible assumption) | assumption); omega)
    have hx5 : ∀ h : 0 < a0.size, ((a0[0]'h).toNat : Int) = bt a0 0 := bt_at a0 0
    clear p5
    have qi5 : (0 < (a0.size : Int)) = True := eq_true (od_ (by first | (with_reducible assumption) | assumption))
    replace q5 := eq_true q5
    go_wp2
    go_meet
    case rel => exact ⟨_, (((bt a0 0) == 45)), (by first | rfl | (simp; done) | (simp [*]; done)), H', ⟨by first | omega | exact Nat.le_refl _⟩, ⟨bw_⟩⟩
   ·
    rw [if_neg c4] at H
    exact absurd H (by simp)
 case rest =>
  clear HC2
  try clear p2
  try clear c3
  try clear c3b0
  try clear c3b1
  try clear c4
  try clear c4b0
  try clear c4b1
  try clear p5
  try clear q5
  try clear hx5
  try clear qi5
  try clear p5
  try clear q5
  obtain ⟨kq, x11_1, rfl, HA, HJ1, HB⟩ := hcut
  cases kq with
  | zero => exact absurd HA.out (by simp [fixed_form.j0])
  | succ kj1 =>
   have H := HA.out
   clear HA
   simp only [fixed_form.j0] at H
   have HC6 := A_ H
   clear H
   go_upto_if 11 with (fail)
   go_cut [0] (fun v0 wc => ∃ (kq : Nat) (x0_5 : ByteArray), v0 = .string x0_5 ∧ Aside0 (fixed_form.j1 kq x0_5 = some r) ∧ Aside0 (kq ≤ kj1) ∧ Aside0 (Below w.heap.size w wc))
   case first =>
    have H := HC6.out
    clear HC6
    by_cases c7 : x11_1 = true
    ·
     subst c7
     have H1 : (if 1 ≤ (a0.size : Int) then (if (a0.extract 1 a0.size).toList = ([48] : List UInt8) then (some false) else (fixed_form.j1 kj1 (a0.extract 1 a0.size))) else (none)) = some r := by rw [if_pos rfl] at H; exact H
     clear H
     have H := H1
     clear H1
     by_cases c8 : 1 ≤ (a0.size : Int)
     ·
      rw [if_pos c8] at H
      have c8b0 := eq_true c8
      have c8b1 : decide (1 ≤ (a0.size : Int)) = true := decide_eq_true c8
      clear c8
      by_cases c9 : (a0.extract 1 a0.size).toList = ([48] : List UInt8)
      ·
       rw [if_pos c9] at H
       have c9b0 : ((a0.extract 1 a0.size).toList == ([48] : List UInt8)) = true := q1_ c9
       have c9b1 : ((a0.extract 1 a0.size).toList != ([48] : List UInt8)) = false := q3_ c9
       clear c9
       (first | rw [c9b0] | (simp only [i64_w, i32_w]; rw [c9b0]) | skip)
       obtain rfl := Option.some.inj H
       go_wp2
       go_ret
       exact ⟨by first | rfl | (simp [errW_none, errW_some] <;> rfl) | (simp [*, errW_none, errW_some] <;> rfl), bw_⟩
      ·
       rw [if_neg c9] at H
       have c9b0 : ((a0.extract 1 a0.size).toList == ([48] : List UInt8)) = false := q4_ c9
       have c9b1 : ((a0.extract 1 a0.size).toList != ([48] : List UInt8)) = true := q2_ c9
       (first | rw [c9b0] | (simp only [i64_w, i32_w]; rw [c9b0]) | skip)
       have H' := A_ H
       clear H
       go_wp2
       go_meet
       case rel => exact ⟨_, (a0.extract 1 a0.size), (by first | rfl | (simp; done) | (simp [*]; done)), H', ⟨by have := HJ1.out; first | omega | exact Nat.le_refl _⟩, ⟨bw_⟩⟩
     ·
      rw [if_neg c8] at H
      exact absurd H (by simp)
    ·
     replace c7 := Bool.eq_false_iff.mpr c7
     subst c7
     have H1 : (fixed_form.j1 kj1 a0) = some r := by rw [if_neg (show ¬ (false = true) by decide)] at H; exact H
     clear H
     have H := H1
     clear H1
     have H' := A_ H
     clear H
     go_wp2
     go_meet
     case rel => exact ⟨_, (a0), (by first | rfl | (simp; done) | (simp [*]; done)), H', ⟨by have := HJ1.out; first | omega | exact Nat.le_refl _⟩, ⟨bw_⟩⟩
   case rest =>
    clear HC6
    try clear p2
    try clear c3
    try clear c3b0
    try clear c3b1
    try clear c4
    try clear c4b0
    try clear c4b1
    try clear p5
    try clear q5
    try clear hx5
    try clear qi5
    try clear c6
    try clear c7
    try clear c8
    try clear c8b0
    try clear c8b1
    try clear c9
    try clear c9b0
    try clear c9b1
    try clear p2
    try clear p5
    try clear q5
    obtain ⟨kq, x0_5, rfl, HA, HJ5, HB⟩ := hcut
    cases kq with
    | zero => exact absurd HA.out (by simp [fixed_form.j1])
    | succ kj5 =>
     have H := HA.out
     clear HA
     simp only [fixed_form.j1] at H
     have HC10 := A_ H
     clear H
     go_upto_region 5 with (fail)
     go_cut [27] (fun v27 wc => ∃ (kq : Nat) (x27_9 : Bool), v27 = .bool x27_9 ∧ Aside0 (fixed_form.j2 kq x0_5 x27_9 = some r) ∧ Aside0 (kq ≤ kj5) ∧ Aside0 (Below w.heap.size w wc))
     case first =>
      have H := HC10.out
      clear HC10
      by_cases c11 : x0_5.toList = ([] : List UInt8)
      ·
       rw [if_pos c11] at H
       have c11b0 : (x0_5.toList == ([] : List UInt8)) = true := q1_ c11
       have c11b1 : (x0_5.toList != ([] : List UInt8)) = false := q3_ c11
       clear c11
       (first | rw [c11b0] | (simp only [i64_w, i32_w]; rw [c11b0]) | skip)
       have H' := A_ H
       clear H
       go_wp2
       go_meet
       case rel => exact ⟨_, (true), (by first | rfl | (simp; done) | (simp [*]; done)), H', ⟨by have := HJ1.out; have := HJ5.out; first | omega | exact Nat.le_refl _⟩, ⟨bw_⟩⟩
      ·
       rw [if_neg c11] at H
       have c11b0 : (x0_5.toList == ([] : List UInt8)) = false := q4_ c11
       have c11b1 : (x0_5.toList != ([] : List UInt8)) = true := q2_ c11
       (first | rw [c11b0] | (simp only [i64_w, i32_w]; rw [c11b0]) | skip)
       by_cases c12 : 0 < (x0_5.size : Int)
       ·
        rw [if_pos c12] at H
        have c12b0 : decide (0 < (x0_5.size : Int)) = true := decide_eq_true c12
        have c12b1 : decide (0 < x0_5.size) = true := decide_eq_true (by omega)
        clear c12
        by_cases c14 : (bt x0_5 0) = 48
        ·
         rw [if_pos c14] at H
         have c14b0 : ((bt x0_5 0) == 48) = true := q1_ c14
         have c14b1 : ((bt x0_5 0) != 48) = false := q3_ c14
         clear c14
         have H' := A_ H
         clear H
         have p13 : 0 ≤ (0 : Int) := (by omega)
         have q13 : 0 < x0_5.size := (by have : (0 : Int) < (x0_5.size : Int) := od_ (by first | (with_reducible assumption) | assumption); omega)
         have hx13 : ∀ h : 0 < x0_5.size, ((x0_5[0]'h).toNat : Int) = bt x0_5 0 := bt_at x0_5 0
         clear p13
         have qi13 : (0 < (x0_5.size : Int)) = True := eq_true (od_ (by first | (with_reducible assumption) | assumption))
         replace q13 := eq_true q13
         go_wp2
         go_meet
         case rel => exact ⟨_, (decide ((x0_5.size : Int) > 1)), (by first | rfl | (simp; done) | (simp [*]; done)), H', ⟨by have := HJ1.out; have := HJ5.out; first | omega | exact Nat.le_refl _⟩, ⟨bw_⟩⟩
        ·
         rw [if_neg c14] at H
         have c14b0 : ((bt x0_5 0) == 48) = false := q4_ c14
         have c14b1 : ((bt x0_5 0) != 48) = true := q2_ c14
         have H' := A_ H
         clear H
         have p13 : 0 ≤ (0 : Int) := (by omega)
         have q13 : 0 < x0_5.size := (by have : (0 : Int) < (x0_5.size : Int) := od_ (by first | (with_reducible assumption) | assumption); omega)
         have hx13 : ∀ h : 0 < x0_5.size, ((x0_5[0]'h).toNat : Int) = bt x0_5 0 := bt_at x0_5 0
         clear p13
         have qi13 : (0 < (x0_5.size : Int)) = True := eq_true (od_ (by first | (with_reducible assumption) | assumption))
         replace q13 := eq_true q13
         go_wp2
         go_meet
         case rel => exact ⟨_, (false), (by first | rfl | (simp; done) | (simp [*]; done)), H', ⟨by have := HJ1.out; have := HJ5.out; first | omega | exact Nat.le_refl _⟩, ⟨bw_⟩⟩
       ·
        rw [if_neg c12] at H
        exact absurd H (by simp)
     case rest =>
      clear HC10
      try clear c1
      try clear p1
      try clear q1
      try clear hx1
      try clear qi1
      try clear p2
      try clear c3
      try clear c3b0
      try clear c3b1
      try clear c4
      try clear c4b0
      try clear c4b1
      try clear p5
      try clear q5
      try clear hx5
      try clear qi5
      try clear c6
      try clear c7
      try clear c8
      try clear c8b0
      try clear c8b1
      try clear c9
      try clear c9b0
      try clear c9b1
      try clear c11
      try clear c11b0
      try clear c11b1
      try clear c12
      try clear c12b0
      try clear c12b1
      try clear p13
      try clear q13
      try clear hx13
      try clear qi13
      try clear c14
      try clear c14b0
      try clear c14b1
      try clear p13
      try clear p2
      try clear p5
      try clear q13
      try clear q5
      obtain ⟨kq, x27_9, rfl, HA, HJ9, HB⟩ := hcut
      cases kq with
      | zero => exact absurd HA.out (by simp [fixed_form.j2])
      | succ kj9 =>
       have H := HA.out
       clear HA
       simp only [fixed_form.j2] at H
       by_cases c15 : x27_9 = true
       ·
        subst c15
        have H1 : (some false) = some r := by rw [if_pos rfl] at H; exact H
        clear H
        have H := H1
        clear H1
        obtain rfl := Option.some.inj H
        go_wp2
        go_ret
        exact ⟨by first | rfl | (simp [errW_none, errW_some] <;> rfl) | (simp [*, errW_none, errW_some] <;> rfl), bw_⟩
       ·
        replace c15 := Bool.eq_false_iff.mpr c15
        subst c15
        have H1 : (if x0_5.size ≤ 9223372036854775807 then ((some (bytesOf x0_5 : List Int)).bind fun y409 => (fixed_form.l0 kj9 y409 (y409.length : Int) 0)) else (none)) = some r := by rw [if_neg (show ¬ (false = true) by decide)] at H; exact H
        clear H
        have H := H1
        clear H1
        by_cases c16 : x0_5.size ≤ 9223372036854775807
        ·
         rw [if_pos c16] at H
         have c16b0 := eq_true c16
         have c16b1 : decide (x0_5.size ≤ 9223372036854775807) = true := decide_eq_true c16
         try have c16b2 : (9223372036854775807 < x0_5.size) = False := eq_false (Nat.not_lt.2 c16)
         clear c16
         obtain ⟨y409, hy409⟩ : ∃ y_ : List Int, y_ = (bytesOf x0_5) := ⟨_, rfl⟩
         replace H : (fixed_form.l0 kj9 y409 (y409.length : Int) 0) = some r := by first | (rw [hy409]; with_reducible exact H) | (have H2_ := (Option.bind_some _ _).symm.trans H; rw [hy409]; with_reducible exact H2_) | (have H2_ := (Option.bind_some _ _).symm.trans H; with_reducible exact H2_) | with_reducible exact H | (rw [hy409]; exact H) | exact H
         have Ny409 := A_ hy409
         clear hy409
         have H' := A_ H
         clear H
         go_wp2_with (first | ((with_reducible refine gate_dst (N := 29) rfl ?_); (try (refine gate_guard (by rfl) ?_; dsimp only)); refine conv_event _ 5 ?hg (N := 29) ?hd x0_5 (od_ (by first | (with_reducible assumption) | assumption)) ?hr (Below.refl _ _) (Nat.le_refl _) ?_; (case hd => rfl); (case hg => rfl); (case hr => have kb_ := fun W_ => print_bytes (P := Tryd.prog) 9 97 5 Tryd.underlying9 Tryd.underlying97 Tryd.underlying5 x0_5 W_; first | (go_simp; done) | (go_simp; rfl)); intro v410 w17 ho18 hb hg_ hnew_; clear hg_ hnew_; (first | rw [← Ny409.out] at ho18 | (simp only [Int.reduceToNat] at ho18; rw [← Ny409.out] at ho18)); have n0_ := A_ (Kd.V_lower (vm_ (ok' := fun k_ => True) ho18 (fun k_ hk_ => trivial)) (bz_ bw_)); have n1_ := A_ (bs_ bw_ hb); clear HB; have HO411 := n0_; have HB := n1_; clear n0_ n1_; clear hb ho18; obtain ⟨Ao19, co19, eo19⟩ := Kd.V_slice HO411.out; subst eo19))
         (try simp only [Act.put, sA_, sZ_, sS_])
         go_loopg [31] kj9 (fun kq v31 w' => ∃ (x31_4 : Int), v31 = .int .i64 x31_4 ∧ Aside0 (fixed_form.l0 kq y409 (y409.length : Int) x31_4 = some r) ∧ Aside0 (kq ≤ kj9) ∧ Aside0 (Kd.V (Kd.int .u8) 5 w' w.heap.size (fun _ => True) (.slice Ao19 y409.length co19) y409) ∧ Aside0 (Below w.heap.size w w'))
         case atStart => exact ⟨(0), (by first | rfl | (simp; done) | (simp [*]; done)), H', ⟨Nat.le_refl _⟩, ⟨by (with_reducible repeat (first | apply va_ | apply vn_ | apply vd_)); exact HO411.out⟩, ⟨bw_⟩⟩
         case round =>
          clear H'
          try clear c1
          try clear p1
          try clear q1
          try clear hx1
          try clear qi1
          try clear p2
          try clear c3
          try clear c3b0
          try clear c3b1
          try clear c4
          try clear c4b0
          try clear c4b1
          try clear p5
          try clear q5
          try clear hx5
          try clear qi5
          try clear c6
          try clear c7
          try clear c8
          try clear c8b0
          try clear c8b1
          try clear c9
          try clear c9b0
          try clear c9b1
          try clear c11
          try clear c11b0
          try clear c11b1
          try clear c12
          try clear c12b0
          try clear c12b1
          try clear p13
          try clear q13
          try clear hx13
          try clear qi13
          try clear c14
          try clear c14b0
          try clear c14b1
          try clear c15
          try clear c16
          try clear c16b0
          try clear c16b1
          try clear c16b2
          try clear p1
          try clear p13
          try clear p2
          try clear p5
          try clear q1
          try clear q13
          try clear q5
          obtain ⟨x31_4, rfl, HA, HK4, HO_29, HB⟩ := hrel
          cases gk with
          | zero => exact absurd HA.out (by simp [fixed_form.l0])
          | succ k4 =>
           have H := HA.out
           clear HA
           simp only [fixed_form.l0] at H
           by_cases c20 : x31_4 < (y409.length : Int)
           ·
            rw [if_pos c20] at H
            have c20b0 : decide (x31_4 < (y409.length : Int)) = true := decide_eq_true c20
            clear c20
            by_cases c21 : 0 ≤ x31_4
            ·
             rw [if_pos c21] at H
             have c21b0 : decide (0 ≤ x31_4) = true := decide_eq_true c21
             clear c21
             by_cases c22 : x31_4 < (y409.length : Int)
             ·
              rw [if_pos c22] at H
              have c22b0 : decide (x31_4 < (y409.length : Int)) = true := decide_eq_true c22
              clear c22
              by_cases c23 : (rd y409 x31_4) < 48
              ·
               rw [if_pos c23] at H
               have c23b0 : decide ((rd y409 x31_4) < 48) = true := decide_eq_true c23
               clear c23
               obtain rfl := Option.some.inj H
               have p412 : 0 ≤ (x31_4 : Int) := od_ (by first | (with_reducible assumption) | assumption)
               have q412 : x31_4 < (y409.length : Int) := od_ (by first | (with_reducible assumption) | assumption)
               obtain ⟨ad412, e412, hx412_0⟩ := Kd.at_int (Kd.V_reads' HO_29.out).2.2 x31_4 p412 q412
               cases e412
               replace p412 := eq_true p412
               replace q412 := eq_true q412
               go_wp2
               go_ret
               exact ⟨by first | rfl | (simp [errW_none, errW_some] <;> rfl) | (simp [*, errW_none, errW_some] <;> rfl), bw_⟩
              ·
               rw [if_neg c23] at H
               have c23b0 : decide ((rd y409 x31_4) < 48) = false := decide_eq_false c23
               clear c23
               by_cases c24 : (rd y409 x31_4) > 57
               ·
                rw [if_pos c24] at H
                have c24b0 : decide (57 < (rd y409 x31_4)) = true := decide_eq_true c24
                clear c24
                obtain rfl := Option.some.inj H
                have p412 : 0 ≤ (x31_4 : Int) := od_ (by first | (with_reducible assumption) | assumption)
                have q412 : x31_4 < (y409.length : Int) := od_ (by first | (with_reducible assumption) | assumption)
                obtain ⟨ad412, e412, hx412_0⟩ := Kd.at_int (Kd.V_reads' HO_29.out).2.2 x31_4 p412 q412
                cases e412
                replace p412 := eq_true p412
                replace q412 := eq_true q412
                go_wp2
                go_ret
                exact ⟨by first | rfl | (simp [errW_none, errW_some] <;> rfl) | (simp [*, errW_none, errW_some] <;> rfl), bw_⟩
               ·
                rw [if_neg c24] at H
                have c24b0 : decide (57 < (rd y409 x31_4)) = false := decide_eq_false c24
                clear c24
                have H' := A_ H
                clear H
                have p412 : 0 ≤ (x31_4 : Int) := od_ (by first | (with_reducible assumption) | assumption)
                have q412 : x31_4 < (y409.length : Int) := od_ (by first | (with_reducible assumption) | assumption)
                obtain ⟨ad412, e412, hx412_0⟩ := Kd.at_int (Kd.V_reads' HO_29.out).2.2 x31_4 p412 q412
                cases e412
                replace p412 := eq_true p412
                replace q412 := eq_true q412
                go_wp2
                go_roundg k4
                case measure => have := HJ1.out; have := HJ5.out; have := HJ9.out; have := HK4.out; omega
                case rel => exact ⟨(wrap64 (x31_4 + 1)), (by first | rfl | (simp; done) | (simp [*]; done)), H', ⟨by have := HJ1.out; have := HJ5.out; have := HJ9.out; have := HK4.out; omega⟩, ⟨by (with_reducible repeat (first | apply va_ | apply vn_ | apply vd_)); exact HO_29.out⟩, ⟨bw_⟩⟩
             ·
              rw [if_neg c22] at H
              exact absurd H (by simp)
            ·
             rw [if_neg c21] at H
             exact absurd H (by simp)
           ·
            rw [if_neg c20] at H
            have c20b0 : decide (x31_4 < (y409.length : Int)) = false := decide_eq_false c20
            clear c20
            obtain rfl := Option.some.inj H
            go_wp2
            go_ret
            exact ⟨by first | rfl | (simp [errW_none, errW_some] <;> rfl) | (simp [*, errW_none, errW_some] <;> rfl), bw_⟩
        ·
         rw [if_neg c16] at H
         exact absurd H (by simp)
end Go.Proofs.YtjbbigodkhnokaaDoor.Tr
end
section
namespace Go.Proofs.YtjbbigodkhnokaaDoor.Tr
open Go.RowKit Go.Proofs.YtjbbigodkhnokaaDoorW.PrintWords Go.Proofs.YtjbbigodkhnokaaDoorW.PrintLast Go.Proofs.YtjbbigodkhnokaaDoorW.PrintMore
attribute [local go_sem] max2_int min2_int max_two min_two max_three min_three max_four min_four   -- for this text's walks alone
set_option linter.unusedVariables false
set_option linter.unusedSimpArgs false
attribute [local go_sem] run_add64_any
def fixed_signed.j0 : Nat → Int → Bool → Bool → Int → Int → Option (Int × Int × Int)
 | 0, _, _, _, _, _ => none
 | k + 1, x0, x2, x13, x309000, x309001 => if x13 = true then (some (x309000, x309001, 0)) else (if x0 ≥ 9223372036854775808 then (some (0, 0, 4)) else (if x2 = true then ((fixed_turned.f x309000 x309001).bind fun bt413 => (some (bt413.1, bt413.2, 0))) else (some (x309000, x309001, 0))))
def fixed_signed.f (k : Nat) (a0 : Int) (a1 : Int) (a2 : Bool) : Option (Int × Int × Int) := if a2 = true then (if a0 = 9223372036854775808 then (fixed_signed.j0 k a0 true (a1 == 0) (wrap64 (a0)) a1) else (fixed_signed.j0 k a0 true false (wrap64 (a0)) a1)) else (fixed_signed.j0 k a0 false false (wrap64 (a0)) a1)
set_option maxHeartbeats 8000000 in
set_option maxRecDepth 100000 in
theorem fixed_signed.calls (k : Nat) (a0 : Int) (a1 : Int) (a2 : Bool) (r1 : Int) (r2 : Int) (r3 : Int) (w : World) (h : fixed_signed.f k a0 a1 a2 = some (r1, r2, r3)) :
  Calls Tryd.prog 61 #[.int .u64 a0, .int .u64 a1, .bool a2] w fun e w' => e = .returned (.tuple #[.agg #[.int .i64 r1, .int .u64 r2], .int .i64 r3]) ∧ Below w.heap.size w w' := by
 have hu35 := Tryd.underlying35
 have HB := A_ (Below.refl w.heap.size w)
 have H : (if a2 = true then (if a0 = 9223372036854775808 then (fixed_signed.j0 k a0 true (a1 == 0) (wrap64 (a0)) a1) else (fixed_signed.j0 k a0 true false (wrap64 (a0)) a1)) else (fixed_signed.j0 k a0 false false (wrap64 (a0)) a1)) = some (r1, r2, r3) := h
 clear h
 have HC4 := A_ H
 clear H
 go_enter Tryd.func61, Tryd.ntmps61
 go_upto_region 2 with (first | ((with_reducible refine gate_dst (N := 6) rfl ?_); refine box_event ?hg (N := 6) ?hd (cs := #[.int .i64 0, .int .u64 0]) (t := 35) ?hr ?_; (case hd => rfl); (case hg => rfl); (case hr => first | (go_simp; done) | (go_simp; rfl)); intro gb306 hg w5 hbox hb; have n0_ := A_ (bs_ bw_ hb); have n1_ := A_ (hbox); have n2_ := A_ ((by rw [hg]; exact (bz_ bw_) : w.heap.size ≤ gb306)); have n3_ := A_ ((by rw [hg]; exact (bz_ bw_) : w.heap.size ≤ gb306)); clear HB; have HB := n0_; have BK306 := n1_; have GW306 := n2_; have GE306 := n3_; clear n0_ n1_ n2_ n3_; clear hb hbox hg) | ((with_reducible refine gate_dst (N := 8) rfl ?_); refine box_event ?hg (N := 8) ?hd (cs := #[.int .i64 0, .int .u64 0]) (t := 35) ?hr ?_; (case hd => rfl); (case hg => rfl); (case hr => first | (go_simp; done) | (go_simp; rfl)); intro gb308 hg w6 hbox hb; have n0_ := A_ (kb_ BK306 hb); have n1_ := A_ (bs_ bw_ hb); have n2_ := A_ (hbox); have n3_ := A_ ((by rw [hg]; exact (bz_ bw_) : w.heap.size ≤ gb308)); have n4_ := A_ ((by rw [hg]; exact (bz_ bw_) : w.heap.size ≤ gb308)); have n5_ := A_ ((by rw [hg]; exact nl_ (lt_ BK306) : gb306 ≠ gb308)); have n6_ := A_ ((by rw [hg]; exact ng_ (lt_ BK306) : gb308 ≠ gb306)); clear BK306; clear HB; have BK306 := n0_; have HB := n1_; have BK308 := n2_; have GW308 := n3_; have GE308 := n4_; have NB306_308 := n5_; have NB308_306 := n6_; clear n0_ n1_ n2_ n3_ n4_ n5_ n6_; clear hb hbox hg; have hnb7 := NB308_306.out; have hnc7 := NB306_308.out; have hcz8_0 : w6.cell? ⟨gb308, 0, none⟩ = some (.int .i64 0) := (bc_ BK308.out 0).trans rfl; have hcz8_1 : w6.cell? ⟨gb308, 1, none⟩ = some (.int .u64 0) := (bc_ BK308.out 1).trans rfl; have hfz8_0 := bf_ BK308.out 0; have hfz8_1 := bf_ BK308.out 1))
 (try simp only [Act.put, sA_, sZ_, sS_])
 go_cut [2, 13] (fun v2 v13 wc => ∃ (kq : Nat) (x2_3 : Bool) (x13_3 : Bool), v2 = .bool x2_3 ∧ v13 = .bool x13_3 ∧ Aside0 (fixed_signed.j0 kq a0 x2_3 x13_3 (wrap64 (a0)) a1 = some (r1, r2, r3)) ∧ Aside0 (kq ≤ k) ∧ Aside0 (wc.heap[gb306]? = some (.cells #[.int .i64 0, .int .u64 0] 35 (0, 0))) ∧ Aside0 (wc.heap[gb308]? = some (.cells #[.int .i64 (wrap64 (a0)), .int .u64 a1] 35 (0, 0))) ∧ Aside0 (Below w.heap.size w wc))
 case first =>
  have H := HC4.out
  clear HC4
  by_cases c9 : a2 = true
  ·
   subst c9
   have H1 : (if a0 = 9223372036854775808 then (fixed_signed.j0 k a0 true (a1 == 0) (wrap64 (a0)) a1) else (fixed_signed.j0 k a0 true false (wrap64 (a0)) a1)) = some (r1, r2, r3) := by rw [if_pos rfl] at H; exact H
   clear H
   have H := H1
   clear H1
   by_cases c10 : a0 = 9223372036854775808
   ·
    rw [if_pos c10] at H
    have c10b0 : (a0 == 9223372036854775808) = true := q1_ c10
    have c10b1 : (a0 != 9223372036854775808) = false := q3_ c10
    clear c10
    (first | rw [c10b0] | (simp only [i64_w, i32_w]; rw [c10b0]) | skip)
    have H' := A_ H
    clear H
    go_wp2
    go_meet
    case rel => exact ⟨_, (true), ((a1 == 0)), (by first | rfl | (simp; done) | (simp [*]; done)), (by first | rfl | (simp; done) | (simp [*]; done)), H', ⟨by first | omega | exact Nat.le_refl _⟩, ⟨bk_⟩, ⟨by (with_reducible repeat (first | refine bn_ ?_ _ | refine bd_ ?_ | refine ba_ ?_ _)); refine bp_ (cs := #[.int .i64 (wrap64 (a0)), .int .u64 0]) ?_ 1 _ rfl; (with_reducible repeat (first | refine bn_ ?_ _ | refine bd_ ?_ | refine ba_ ?_ _)); refine bp_ (cs := #[.int .i64 0, .int .u64 0]) ?_ 0 _ rfl; (with_reducible repeat (first | refine bn_ ?_ _ | refine bd_ ?_ | refine ba_ ?_ _)); exact BK308.out⟩, ⟨bw_⟩⟩
   ·
    rw [if_neg c10] at H
    have c10b0 : (a0 == 9223372036854775808) = false := q4_ c10
    have c10b1 : (a0 != 9223372036854775808) = true := q2_ c10
    (first | rw [c10b0] | (simp only [i64_w, i32_w]; rw [c10b0]) | skip)
    have H' := A_ H
    clear H
    go_wp2
    go_meet
    case rel => exact ⟨_, (true), (false), (by first | rfl | (simp; done) | (simp [*]; done)), (by first | rfl | (simp; done) | (simp [*]; done)), H', ⟨by first | omega | exact Nat.le_refl _⟩, ⟨bk_⟩, ⟨by (with_reducible repeat (first | refine bn_ ?_ _ | refine bd_ ?_ | refine ba_ ?_ _)); refine bp_ (cs := #[.int .i64 (wrap64 (a0)), .int .u64 0]) ?_ 1 _ rfl; (with_reducible repeat (first | refine bn_ ?_ _ | refine bd_ ?_ | refine ba_ ?_ _)); refine bp_ (cs := #[.int .i64 0, .int .u64 0]) ?_ 0 _ rfl; (with_reducible repeat (first | refine bn_ ?_ _ | refine bd_ ?_ | refine ba_ ?_ _)); exact BK308.out⟩, ⟨bw_⟩⟩
  ·
   replace c9 := Bool.eq_false_iff.mpr c9
   subst c9
   have H1 : (fixed_signed.j0 k a0 false false (wrap64 (a0)) a1) = some (r1, r2, r3) := by rw [if_neg (show ¬ (false = true) by decide)] at H; exact H
   clear H
   have H := H1
   clear H1
   have H' := A_ H
   clear H
   go_wp2
   go_meet
   case rel => exact ⟨_, (false), (false), (by first | rfl | (simp; done) | (simp [*]; done)), (by first | rfl | (simp; done) | (simp [*]; done)), H', ⟨by first | omega | exact Nat.le_refl _⟩, ⟨bk_⟩, ⟨by (with_reducible repeat (first | refine bn_ ?_ _ | refine bd_ ?_ | refine ba_ ?_ _)); refine bp_ (cs := #[.int .i64 (wrap64 (a0)), .int .u64 0]) ?_ 1 _ rfl; (with_reducible repeat (first | refine bn_ ?_ _ | refine bd_ ?_ | refine ba_ ?_ _)); refine bp_ (cs := #[.int .i64 0, .int .u64 0]) ?_ 0 _ rfl; (with_reducible repeat (first | refine bn_ ?_ _ | refine bd_ ?_ | refine ba_ ?_ _)); exact BK308.out⟩, ⟨bw_⟩⟩
 case rest =>
  clear HC4
  try clear c1
  try clear p2
  try clear c6
  try clear p6
  try clear c7
  try clear c9
  try clear c10
  try clear c10b0
  try clear c10b1
  try clear hcz8_0
  try clear hcz8_1
  try clear hfz8_0
  try clear hfz8_1
  obtain ⟨kq, x2_3, x13_3, rfl, rfl, HA, HJ3, BK306, BK308, HB⟩ := hcut
  cases kq with
  | zero => exact absurd HA.out (by simp [fixed_signed.j0])
  | succ kj3 =>
   have H := HA.out
   clear HA
   simp only [fixed_signed.j0] at H
   by_cases c11 : x13_3 = true
   ·
    subst c11
    have H1 : (some ((wrap64 (a0)), a1, 0)) = some (r1, r2, r3) := by rw [if_pos rfl] at H; exact H
    clear H
    have H := H1
    clear H1
    simp only [Option.some.injEq, Prod.mk.injEq] at H
    obtain ⟨rfl, rfl, rfl⟩ := H
    have hnb12 := NB308_306.out
    have hnc12 := NB306_308.out
    have hcz13_0 : wc.cell? ⟨gb308, 0, none⟩ = some (.int .i64 (wrap64 (a0))) := (bc_ BK308.out 0).trans rfl
    have hcz13_1 : wc.cell? ⟨gb308, 1, none⟩ = some (.int .u64 a1) := (bc_ BK308.out 1).trans rfl
    have hfz13_0 := bf_ BK308.out 0
    have hfz13_1 := bf_ BK308.out 1
    have hcz14_0 : wc.cell? ⟨gb306, 0, none⟩ = some (.int .i64 0) := (bc_ BK306.out 0).trans rfl
    have hcz14_1 : wc.cell? ⟨gb306, 1, none⟩ = some (.int .u64 0) := (bc_ BK306.out 1).trans rfl
    have hfz14_0 := bf_ BK306.out 0
    have hfz14_1 := bf_ BK306.out 1
    go_wp2
    refine bodyPost_ret (results_ct rfl _ _ gb306 35 #[.int .i64 (wrap64 (a0)), .int .u64 a1] (0, 0) _ rfl (by (with_reducible repeat (first | refine bn_ ?_ _ | refine bd_ ?_ | refine ba_ ?_ _)); refine bp_ (cs := #[.int .i64 (wrap64 (a0)), .int .u64 0]) ?_ 1 _ rfl; (with_reducible repeat (first | refine bn_ ?_ _ | refine bd_ ?_ | refine ba_ ?_ _)); refine bp_ (cs := #[.int .i64 0, .int .u64 0]) ?_ 0 _ rfl; (with_reducible repeat (first | refine bn_ ?_ _ | refine bd_ ?_ | refine ba_ ?_ _)); exact BK306.out) Tryd.underlying35 rfl (by kernel_rfl)) rfl ?_
    exact ⟨by first | rfl | (simp [errW_none, errW_some] <;> rfl) | (simp [*, errW_none, errW_some] <;> rfl), bw_⟩
   ·
    replace c11 := Bool.eq_false_iff.mpr c11
    subst c11
    have H1 : (if a0 ≥ 9223372036854775808 then (some (0, 0, 4)) else (if x2_3 = true then ((fixed_turned.f (wrap64 (a0)) a1).bind fun bt413 => (some (bt413.1, bt413.2, 0))) else (some ((wrap64 (a0)), a1, 0)))) = some (r1, r2, r3) := by rw [if_neg (show ¬ (false = true) by decide)] at H; exact H
    clear H
    have H := H1
    clear H1
    by_cases c15 : a0 ≥ 9223372036854775808
    ·
     rw [if_pos c15] at H
     have c15b0 : decide (9223372036854775808 ≤ a0) = true := decide_eq_true c15
     clear c15
     simp only [Option.some.injEq, Prod.mk.injEq] at H
     obtain ⟨rfl, rfl, rfl⟩ := H
     have hnb16 := NB306_308.out
     have hnc16 := NB308_306.out
     have hcz17_0 : wc.cell? ⟨gb306, 0, none⟩ = some (.int .i64 0) := (bc_ BK306.out 0).trans rfl
     have hcz17_1 : wc.cell? ⟨gb306, 1, none⟩ = some (.int .u64 0) := (bc_ BK306.out 1).trans rfl
     have hfz17_0 := bf_ BK306.out 0
     have hfz17_1 := bf_ BK306.out 1
     go_wp2
     refine bodyPost_ret (results_ct rfl _ _ gb306 35 #[.int .i64 0, .int .u64 0] (0, 0) _ rfl (by (with_reducible repeat (first | refine bn_ ?_ _ | refine bd_ ?_ | refine ba_ ?_ _)); refine bp_ (cs := #[.int .i64 0, .int .u64 0]) ?_ 1 _ rfl; (with_reducible repeat (first | refine bn_ ?_ _ | refine bd_ ?_ | refine ba_ ?_ _)); refine bp_ (cs := #[.int .i64 0, .int .u64 0]) ?_ 0 _ rfl; (with_reducible repeat (first | refine bn_ ?_ _ | refine bd_ ?_ | refine ba_ ?_ _)); exact BK306.out) Tryd.underlying35 rfl (by kernel_rfl)) rfl ?_
     exact ⟨by first | rfl | (simp [errW_none, errW_some] <;> rfl) | (simp [*, errW_none, errW_some] <;> rfl), bw_⟩
    ·
     rw [if_neg c15] at H
     have c15b0 : decide (9223372036854775808 ≤ a0) = false := decide_eq_false c15
     clear c15
     by_cases c18 : x2_3 = true
     ·
      subst c18
      have H1 : ((fixed_turned.f (wrap64 (a0)) a1).bind fun bt413 => (some (bt413.1, bt413.2, 0))) = some (r1, r2, r3) := by rw [if_pos rfl] at H; exact H
      clear H
      have H := H1
      clear H1
      replace H := os_ H
      obtain ⟨⟨t413, t414⟩, A190, H⟩ := H
      replace H : (some (t413, t414, 0)) = some (r1, r2, r3) := H
      have A19 := A_ A190
      clear A190
      simp only [Option.some.injEq, Prod.mk.injEq] at H
      obtain ⟨rfl, rfl, rfl⟩ := H
      have hnb20 := NB308_306.out
      have hnc20 := NB306_308.out
      have hcz21_0 : wc.cell? ⟨gb308, 0, none⟩ = some (.int .i64 (wrap64 (a0))) := (bc_ BK308.out 0).trans rfl
      have hcz21_1 : wc.cell? ⟨gb308, 1, none⟩ = some (.int .u64 a1) := (bc_ BK308.out 1).trans rfl
      have hfz21_0 := bf_ BK308.out 0
      have hfz21_1 := bf_ BK308.out 1
      go_wp2_with (first | ((with_reducible refine gate_callee (f := 55) rfl ?_); refine goesL_ (some 31) rfl rfl Tryd.func55 (by kernel_rfl) rfl #[.agg #[.int .i64 (wrap64 (a0)), .int .u64 a1]] rfl (by (try simp only [List.map_toArray, List.map_cons, List.map_nil]); first | done | rfl | (simp only [List.length_drop, List.length_take]; rfl)) ?_; (with_reducible refine (fixed_turned.calls (wrap64 (a0)) a1 t413 t414 _ A19.out).mono ?_); rintro e w22 ⟨rfl, hb⟩; refine ⟨_, rfl, ?_⟩; have n0_ := A_ (kb_ BK306 hb); have n1_ := A_ (kb_ BK308 hb); have n2_ := A_ (bs_ bw_ hb); clear BK306; clear BK308; clear HB; have BK306 := n0_; have BK308 := n1_; have HB := n2_; clear n0_ n1_ n2_; (try clear hb); (try clear hb2); (try clear hk); (try clear hi); have hcz23_0 : w22.cell? ⟨gb306, 0, none⟩ = some (.int .i64 0) := (bc_ BK306.out 0).trans rfl; have hcz23_1 : w22.cell? ⟨gb306, 1, none⟩ = some (.int .u64 0) := (bc_ BK306.out 1).trans rfl; have hfz23_0 := bf_ BK306.out 0; have hfz23_1 := bf_ BK306.out 1))
      refine bodyPost_ret (results_ct rfl _ _ gb306 35 #[.int .i64 t413, .int .u64 t414] (0, 0) _ rfl (by (with_reducible repeat (first | refine bn_ ?_ _ | refine bd_ ?_ | refine ba_ ?_ _)); refine bp_ (cs := #[.int .i64 t413, .int .u64 0]) ?_ 1 _ rfl; (with_reducible repeat (first | refine bn_ ?_ _ | refine bd_ ?_ | refine ba_ ?_ _)); refine bp_ (cs := #[.int .i64 0, .int .u64 0]) ?_ 0 _ rfl; (with_reducible repeat (first | refine bn_ ?_ _ | refine bd_ ?_ | refine ba_ ?_ _)); exact BK306.out) Tryd.underlying35 rfl (by kernel_rfl)) rfl ?_
      exact ⟨by first | rfl | (simp [errW_none, errW_some] <;> rfl) | (simp [*, errW_none, errW_some] <;> rfl), bw_⟩
     ·
      replace c18 := Bool.eq_false_iff.mpr c18
      subst c18
      have H1 : (some ((wrap64 (a0)), a1, 0)) = some (r1, r2, r3) := by rw [if_neg (show ¬ (false = true) by decide)] at H; exact H
      clear H
      have H := H1
      clear H1
      simp only [Option.some.injEq, Prod.mk.injEq] at H
      obtain ⟨rfl, rfl, rfl⟩ := H
      have hnb24 := NB308_306.out
      have hnc24 := NB306_308.out
      have hcz25_0 : wc.cell? ⟨gb308, 0, none⟩ = some (.int .i64 (wrap64 (a0))) := (bc_ BK308.out 0).trans rfl
      have hcz25_1 : wc.cell? ⟨gb308, 1, none⟩ = some (.int .u64 a1) := (bc_ BK308.out 1).trans rfl
      have hfz25_0 := bf_ BK308.out 0
      have hfz25_1 := bf_ BK308.out 1
      have hcz26_0 : wc.cell? ⟨gb306, 0, none⟩ = some (.int .i64 0) := (bc_ BK306.out 0).trans rfl
      have hcz26_1 : wc.cell? ⟨gb306, 1, none⟩ = some (.int .u64 0) := (bc_ BK306.out 1).trans rfl
      have hfz26_0 := bf_ BK306.out 0
      have hfz26_1 := bf_ BK306.out 1
      go_wp2
      refine bodyPost_ret (results_ct rfl _ _ gb306 35 #[.int .i64 (wrap64 (a0)), .int .u64 a1] (0, 0) _ rfl (by (with_reducible repeat (first | refine bn_ ?_ _ | refine bd_ ?_ | refine ba_ ?_ _)); refine bp_ (cs := #[.int .i64 (wrap64 (a0)), .int .u64 0]) ?_ 1 _ rfl; (with_reducible repeat (first | refine bn_ ?_ _ | refine bd_ ?_ | refine ba_ ?_ _)); refine bp_ (cs := #[.int .i64 0, .int .u64 0]) ?_ 0 _ rfl; (with_reducible repeat (first | refine bn_ ?_ _ | refine bd_ ?_ | refine ba_ ?_ _)); exact BK306.out) Tryd.underlying35 rfl (by kernel_rfl)) rfl ?_
      exact ⟨by first | rfl | (simp [errW_none, errW_some] <;> rfl) | (simp [*, errW_none, errW_some] <;> rfl), bw_⟩
end Go.Proofs.YtjbbigodkhnokaaDoor.Tr
end
section
namespace Go.Proofs.YtjbbigodkhnokaaDoor.Tr
open Go.RowKit Go.Proofs.YtjbbigodkhnokaaDoorW.PrintWords Go.Proofs.YtjbbigodkhnokaaDoorW.PrintLast Go.Proofs.YtjbbigodkhnokaaDoorW.PrintMore
attribute [local go_sem] max2_int min2_int max_two min_two max_three min_three max_four min_four   -- for this text's walks alone
set_option linter.unusedVariables false
set_option linter.unusedSimpArgs false
attribute [local go_sem] run_add64_any
mutual
def fixed_Parse.j0 : Nat → ByteArray → Bool → Option (Int × Int × Int)
 | 0, _, _ => none
 | k + 1, x0, x4 => if x0.size ≤ 9223372036854775807 then ((some (bytesOf x0 : List Int)).bind fun y416 => (fixed_Parse.l0 k x4 0 0 y416 (y416.length : Int) 0)) else (none)
def fixed_Parse.l0 : Nat → Bool → Int → Int → List Int → Int → Int → Option (Int × Int × Int)
 | 0, _, _, _, _, _, _ => none
 | k + 1, x4, x5, x6, x25, x26, x27 => if x27 < x26 then (if 0 ≤ x27 then (if x27 < (x25.length : Int) then ((bits_Mul64.f x5 10).bind fun bt423 => ((bits_Mul64.f x6 10).bind fun bt425 => (if (addHi bt425.2 (((rd x25 x27) - 48) % 256) 0) ≤ 1 then (if (IntKind.u64.wrap (bt423.1 + (addHi bt423.2 bt425.1 (addHi bt425.2 (((rd x25 x27) - 48) % 256) 0)))) > 0 then (some (0, 0, 4)) else (fixed_Parse.l0 k x4 (addLo bt423.2 bt425.1 (addHi bt425.2 (((rd x25 x27) - 48) % 256) 0)) (addLo bt425.2 (((rd x25 x27) - 48) % 256) 0) x25 x26 (wrap64 (x27 + 1)))) else (none)))) else (none)) else (none)) else ((fixed_signed.f k x5 x6 x4).bind fun bt419 => (some (bt419.1, bt419.2.1, bt419.2.2)))
end
def fixed_Parse.f (k : Nat) (a0 : ByteArray) : Option (Int × Int × Int) := (fixed_form.f k a0).bind fun t415 => (if t415 = true then (if 0 < (a0.size : Int) then (if (bt a0 0) = 45 then (if 1 ≤ (a0.size : Int) then (fixed_Parse.j0 k (a0.extract 1 a0.size) true) else (none)) else (fixed_Parse.j0 k a0 false)) else (none)) else (some (0, 0, 3)))
set_option maxHeartbeats 8000000 in
set_option maxRecDepth 100000 in
theorem fixed_Parse.calls (k : Nat) (a0 : ByteArray) (r1 : Int) (r2 : Int) (r3 : Int) (w : World) (h : fixed_Parse.f k a0 = some (r1, r2, r3)) :
  Calls Tryd.prog 46 #[.string a0] w fun e w' => e = .returned (.tuple #[.agg #[.int .i64 r1, .int .u64 r2], .int .i64 r3]) ∧ Below w.heap.size w w' := by
 have hu35 := Tryd.underlying35
 have HB := A_ (Below.refl w.heap.size w)
 have H : ((fixed_form.f k a0).bind fun t415 => (if t415 = true then (if 0 < (a0.size : Int) then (if (bt a0 0) = 45 then (if 1 ≤ (a0.size : Int) then (fixed_Parse.j0 k (a0.extract 1 a0.size) true) else (none)) else (fixed_Parse.j0 k a0 false)) else (none)) else (some (0, 0, 3)))) = some (r1, r2, r3) := h
 clear h
 replace H := os_ H
 obtain ⟨t415, A20, H⟩ := H
 replace H : (if t415 = true then (if 0 < (a0.size : Int) then (if (bt a0 0) = 45 then (if 1 ≤ (a0.size : Int) then (fixed_Parse.j0 k (a0.extract 1 a0.size) true) else (none)) else (fixed_Parse.j0 k a0 false)) else (none)) else (some (0, 0, 3))) = some (r1, r2, r3) := H
 have A2 := A_ A20
 clear A20
 by_cases c3 : t415 = true
 ·
  subst c3
  have H1 : (if 0 < (a0.size : Int) then (if (bt a0 0) = 45 then (if 1 ≤ (a0.size : Int) then (fixed_Parse.j0 k (a0.extract 1 a0.size) true) else (none)) else (fixed_Parse.j0 k a0 false)) else (none)) = some (r1, r2, r3) := by rw [if_pos rfl] at H; exact H
  clear H
  have H := H1
  clear H1
  by_cases c4 : 0 < (a0.size : Int)
  ·
   rw [if_pos c4] at H
   have c4b0 : decide (0 < (a0.size : Int)) = true := decide_eq_true c4
   have c4b1 : decide (0 < a0.size) = true := decide_eq_true (by omega)
   clear c4
   have HC6 := A_ H
   clear H
   go_enter Tryd.func46, Tryd.ntmps46
   go_upto_if 21 with (first | ((with_reducible refine gate_dst (N := 2) rfl ?_); refine box_event ?hg (N := 2) ?hd (cs := #[.int .i64 0, .int .u64 0]) (t := 35) ?hr ?_; (case hd => rfl); (case hg => rfl); (case hr => first | (go_simp; done) | (go_simp; rfl)); intro gb302 hg w7 hbox hb; have n0_ := A_ (bs_ bw_ hb); have n1_ := A_ (hbox); have n2_ := A_ ((by rw [hg]; exact (bz_ bw_) : w.heap.size ≤ gb302)); have n3_ := A_ ((by rw [hg]; exact (bz_ bw_) : w.heap.size ≤ gb302)); clear HB; have HB := n0_; have BK302 := n1_; have GW302 := n2_; have GE302 := n3_; clear n0_ n1_ n2_ n3_; clear hb hbox hg) | ((with_reducible refine gate_callee (f := 60) rfl ?_); refine goesL_ (some 15) rfl rfl Tryd.func60 (by kernel_rfl) rfl #[.string a0] rfl (by (try simp only [List.map_toArray, List.map_cons, List.map_nil]); first | done | rfl | (simp only [List.length_drop, List.length_take]; rfl)) ?_; (with_reducible refine (fixed_form.calls k a0 true _ A2.out).mono ?_); rintro e w8 ⟨rfl, hb⟩; refine ⟨_, rfl, ?_⟩; have n0_ := A_ (kb_ BK302 hb); have n1_ := A_ (bs_ bw_ hb); clear BK302; clear HB; have BK302 := n0_; have HB := n1_; clear n0_ n1_; (try clear hb); (try clear hb2); (try clear hk); (try clear hi); have p5 : 0 ≤ (0 : Int) := (by omega); have q5 : 0 < a0.size := (by have : (0 : Int) < (a0.size : Int) := od_ (by first | (with_reducible assumption) | assumption); omega); have hx5 : ∀ h : 0 < a0.size, ((a0[0]'h).toNat : Int) = bt a0 0 := bt_at a0 0; clear p5; have qi5 : (0 < (a0.size : Int)) = True := eq_true (od_ (by first | (with_reducible assumption) | assumption)); replace q5 := eq_true q5))
   (try simp only [Act.put, sA_, sZ_, sS_])
   go_cut [0, 4] (fun v0 v4 wc => ∃ (kq : Nat) (x0_5 : ByteArray) (x4_5 : Bool), v0 = .string x0_5 ∧ v4 = .bool x4_5 ∧ Aside0 (fixed_Parse.j0 kq x0_5 x4_5 = some (r1, r2, r3)) ∧ Aside0 (kq ≤ k) ∧ Aside0 (wc.heap[gb302]? = some (.cells #[.int .i64 0, .int .u64 0] 35 (0, 0))) ∧ Aside0 (Below w.heap.size w wc))
   case first =>
    have H := HC6.out
    clear HC6
    by_cases c9 : (bt a0 0) = 45
    ·
     rw [if_pos c9] at H
     have c9b0 : ((bt a0 0) == 45) = true := q1_ c9
     have c9b1 : ((bt a0 0) != 45) = false := q3_ c9
     clear c9
     (first | rw [c9b0] | (simp only [i64_w, i32_w]; rw [c9b0]) | skip)
     by_cases c10 : 1 ≤ (a0.size : Int)
     ·
      rw [if_pos c10] at H
      have c10b0 := eq_true c10
      have c10b1 : decide (1 ≤ (a0.size : Int)) = true := decide_eq_true c10
      clear c10
      have H' := A_ H
      clear H
      go_wp2
      go_meet
      case rel => exact ⟨_, (a0.extract 1 a0.size), (true), (by first | rfl | (simp; done) | (simp [*]; done)), (by first | rfl | (simp; done) | (simp [*]; done)), H', ⟨by first | omega | exact Nat.le_refl _⟩, ⟨bk_⟩, ⟨bw_⟩⟩
     ·
      rw [if_neg c10] at H
      exact absurd H (by simp)
    ·
     rw [if_neg c9] at H
     have c9b0 : ((bt a0 0) == 45) = false := q4_ c9
     have c9b1 : ((bt a0 0) != 45) = true := q2_ c9
     (first | rw [c9b0] | (simp only [i64_w, i32_w]; rw [c9b0]) | skip)
     have H' := A_ H
     clear H
     go_wp2
     go_meet
     case rel => exact ⟨_, (a0), (false), (by first | rfl | (simp; done) | (simp [*]; done)), (by first | rfl | (simp; done) | (simp [*]; done)), H', ⟨by first | omega | exact Nat.le_refl _⟩, ⟨bk_⟩, ⟨bw_⟩⟩
   case rest =>
    clear HC6
    try clear c1
    try clear p2
    try clear c3
    try clear c4
    try clear c4b0
    try clear c4b1
    try clear p5
    try clear q5
    try clear hx5
    try clear qi5
    try clear c6
    try clear c9
    try clear c9b0
    try clear c9b1
    try clear c10
    try clear c10b0
    try clear c10b1
    try clear p5
    try clear q5
    obtain ⟨kq, x0_5, x4_5, rfl, rfl, HA, HJ5, BK302, HB⟩ := hcut
    cases kq with
    | zero => exact absurd HA.out (by simp [fixed_Parse.j0])
    | succ kj5 =>
     have H := HA.out
     clear HA
     simp only [fixed_Parse.j0] at H
     by_cases c11 : x0_5.size ≤ 9223372036854775807
     ·
      rw [if_pos c11] at H
      have c11b0 := eq_true c11
      have c11b1 : decide (x0_5.size ≤ 9223372036854775807) = true := decide_eq_true c11
      try have c11b2 : (9223372036854775807 < x0_5.size) = False := eq_false (Nat.not_lt.2 c11)
      clear c11
      obtain ⟨y416, hy416⟩ : ∃ y_ : List Int, y_ = (bytesOf x0_5) := ⟨_, rfl⟩
      replace H : (fixed_Parse.l0 kj5 x4_5 0 0 y416 (y416.length : Int) 0) = some (r1, r2, r3) := by first | (rw [hy416]; with_reducible exact H) | (have H2_ := (Option.bind_some _ _).symm.trans H; rw [hy416]; with_reducible exact H2_) | (have H2_ := (Option.bind_some _ _).symm.trans H; with_reducible exact H2_) | with_reducible exact H | (rw [hy416]; exact H) | exact H
      have Ny416 := A_ hy416
      clear hy416
      have H' := A_ H
      clear H
      go_wp2_with (first | ((with_reducible refine gate_dst (N := 25) rfl ?_); refine conv_event _ 5 ?hg (N := 25) ?hd x0_5 (od_ (by first | (with_reducible assumption) | assumption)) ?hr (Below.refl _ _) (Nat.le_refl _) ?_; (case hd => rfl); (case hg => rfl); (case hr => have kb_ := fun W_ => print_bytes (P := Tryd.prog) 9 97 5 Tryd.underlying9 Tryd.underlying97 Tryd.underlying5 x0_5 W_; first | (go_simp; done) | (go_simp; rfl)); intro v417 w12 ho13 hb hg_ hnew_; clear hg_ hnew_; (first | rw [← Ny416.out] at ho13 | (simp only [Int.reduceToNat] at ho13; rw [← Ny416.out] at ho13)); have n0_ := A_ (Kd.V_lower (vm_ (ok' := fun k_ => k_ ≠ gb302) ho13 (fun k_ hk_ => (Kd.freshB (g := gb302) (o := .cells #[.int .i64 0, .int .u64 0] 35 (0, 0)) bk_ k_ hk_))) (bz_ bw_)); have n1_ := A_ (kb_ BK302 hb); have n2_ := A_ (bs_ bw_ hb); clear BK302; clear HB; have HO418 := n0_; have BK302 := n1_; have HB := n2_; clear n0_ n1_ n2_; clear hb ho13; obtain ⟨Ao14, co14, eo14⟩ := Kd.V_slice HO418.out; subst eo14))
      (try simp only [Act.put, sA_, sZ_, sS_])
      go_loopg [5, 6, 27] kj5 (fun kq v5 v6 v27 w' => ∃ (x5_2 : Int) (x6_2 : Int) (x27_2 : Int) (x303000_2 : Int) (x303001_2 : Int), v5 = .int .u64 x5_2 ∧ v6 = .int .u64 x6_2 ∧ v27 = .int .i64 x27_2 ∧ Aside0 (fixed_Parse.l0 kq x4_5 x5_2 x6_2 y416 (y416.length : Int) x27_2 = some (r1, r2, r3)) ∧ Aside0 (kq ≤ kj5) ∧ Aside0 (Kd.V (Kd.int .u8) 5 w' w.heap.size (fun k_ => k_ ≠ gb302) (.slice Ao14 y416.length co14) y416) ∧ Aside0 (w'.heap[gb302]? = some (.cells #[.int .i64 x303000_2, .int .u64 x303001_2] 35 (0, 0))) ∧ Aside0 (Below w.heap.size w w'))
      case atStart => exact ⟨(0), (0), (0), (0), (0), (by first | rfl | (simp; done) | (simp [*]; done)), (by first | rfl | (simp; done) | (simp [*]; done)), (by first | rfl | (simp; done) | (simp [*]; done)), H', ⟨Nat.le_refl _⟩, ⟨by (with_reducible repeat (first | apply va_ | apply vn_ | apply vd_)); exact HO418.out⟩, ⟨bk_⟩, ⟨bw_⟩⟩
      case round =>
       clear H'
       try clear c1
       try clear p2
       try clear c3
       try clear c4
       try clear c4b0
       try clear c4b1
       try clear p5
       try clear q5
       try clear hx5
       try clear qi5
       try clear c6
       try clear c9
       try clear c9b0
       try clear c9b1
       try clear c10
       try clear c10b0
       try clear c10b1
       try clear c11
       try clear c11b0
       try clear c11b1
       try clear c11b2
       try clear p2
       try clear p5
       try clear q5
       obtain ⟨x5_2, x6_2, x27_2, x303000_2, x303001_2, rfl, rfl, rfl, HA, HK2, HO_25, BK302, HB⟩ := hrel
       cases gk with
       | zero => exact absurd HA.out (by simp [fixed_Parse.l0])
       | succ k2 =>
        have H := HA.out
        clear HA
        simp only [fixed_Parse.l0] at H
        by_cases c15 : x27_2 < (y416.length : Int)
        ·
         rw [if_pos c15] at H
         have c15b0 : decide (x27_2 < (y416.length : Int)) = true := decide_eq_true c15
         clear c15
         by_cases c16 : 0 ≤ x27_2
         ·
          rw [if_pos c16] at H
          have c16b0 : decide (0 ≤ x27_2) = true := decide_eq_true c16
          clear c16
          by_cases c17 : x27_2 < (y416.length : Int)
          ·
           rw [if_pos c17] at H
           have c17b0 : decide (x27_2 < (y416.length : Int)) = true := decide_eq_true c17
           clear c17
           replace H := os_ H
           obtain ⟨⟨t423, t424⟩, A180, H⟩ := H
           replace H : ((bits_Mul64.f x6_2 10).bind fun bt425 => (if (addHi bt425.2 (((rd y416 x27_2) - 48) % 256) 0) ≤ 1 then (if (IntKind.u64.wrap (t423 + (addHi t424 bt425.1 (addHi bt425.2 (((rd y416 x27_2) - 48) % 256) 0)))) > 0 then (some (0, 0, 4)) else (fixed_Parse.l0 k2 x4_5 (addLo t424 bt425.1 (addHi bt425.2 (((rd y416 x27_2) - 48) % 256) 0)) (addLo bt425.2 (((rd y416 x27_2) - 48) % 256) 0) y416 (y416.length : Int) (wrap64 (x27_2 + 1)))) else (none))) = some (r1, r2, r3) := H
           have A18 := A_ A180
           clear A180
           replace H := os_ H
           obtain ⟨⟨t425, t426⟩, A190, H⟩ := H
           replace H : (if (addHi t426 (((rd y416 x27_2) - 48) % 256) 0) ≤ 1 then (if (IntKind.u64.wrap (t423 + (addHi t424 t425 (addHi t426 (((rd y416 x27_2) - 48) % 256) 0)))) > 0 then (some (0, 0, 4)) else (fixed_Parse.l0 k2 x4_5 (addLo t424 t425 (addHi t426 (((rd y416 x27_2) - 48) % 256) 0)) (addLo t426 (((rd y416 x27_2) - 48) % 256) 0) y416 (y416.length : Int) (wrap64 (x27_2 + 1)))) else (none)) = some (r1, r2, r3) := H
           have A19 := A_ A190
           clear A190
           by_cases c20 : (addHi t426 (((rd y416 x27_2) - 48) % 256) 0) ≤ 1
           ·
            rw [if_pos c20] at H
            have c20b0 := eq_true c20
            have c20b1 : decide ((addHi t426 (((rd y416 x27_2) - 48) % 256) 0) ≤ 1) = true := decide_eq_true c20
            clear c20
            by_cases c21 : (IntKind.u64.wrap (t423 + (addHi t424 t425 (addHi t426 (((rd y416 x27_2) - 48) % 256) 0)))) > 0
            ·
             rw [if_pos c21] at H
             have c21b0 : decide (0 < (IntKind.u64.wrap (t423 + (addHi t424 t425 (addHi t426 (((rd y416 x27_2) - 48) % 256) 0))))) = true := decide_eq_true c21
             clear c21
             simp only [Option.some.injEq, Prod.mk.injEq] at H
             obtain ⟨rfl, rfl, rfl⟩ := H
             have p422 : 0 ≤ (x27_2 : Int) := od_ (by first | (with_reducible assumption) | assumption)
             have q422 : x27_2 < (y416.length : Int) := od_ (by first | (with_reducible assumption) | assumption)
             obtain ⟨ad422, e422, hx422_0⟩ := Kd.at_int (Kd.V_reads' HO_25.out).2.2 x27_2 p422 q422
             cases e422
             replace p422 := eq_true p422
             replace q422 := eq_true q422
             go_wp2_with (first | ((with_reducible refine gate_callee (f := 53) rfl ?_); refine goesL_ (some 33) rfl rfl Tryd.func53 (by kernel_rfl) rfl #[.int .u64 x5_2, .int .u64 10] rfl (by (try simp only [List.map_toArray, List.map_cons, List.map_nil]); first | done | rfl | (simp only [List.length_drop, List.length_take]; rfl)) ?_; (with_reducible refine (bits_Mul64.calls x5_2 10 t423 t424 _ A18.out).mono ?_); rintro e w' ⟨rfl, ⟨nd, rfl⟩⟩; refine ⟨_, rfl, ?_⟩; (try (rw [drewN_self wr]; generalize hq_ : World.drewN wr _ = wr; have n0_ : Aside0 (Kd.V (Kd.int .u8) 5 wr w.heap.size (fun k_ => k_ ≠ gb302) (.slice (some ad422) y416.length co14) y416) := ⟨by rw [← hq_]; exact (by (with_reducible repeat (first | apply va_ | apply vn_ | apply vd_)); exact HO_25.out)⟩; have n1_ : Aside0 (wr.heap[gb302]? = some (.cells #[.int .i64 x303000_2, .int .u64 x303001_2] 35 (0, 0))) := ⟨by rw [← hq_]; exact bk_⟩; have n2_ : Aside0 (Below w.heap.size w wr) := ⟨by rw [← hq_]; exact bw_⟩; clear HO_25 BK302 HB hq_; have HO_25 := n0_; have BK302 := n1_; have HB := n2_; clear n0_ n1_ n2_))) | ((with_reducible refine gate_callee (f := 53) rfl ?_); refine goesL_ (some 38) rfl rfl Tryd.func53 (by kernel_rfl) rfl #[.int .u64 x6_2, .int .u64 10] rfl (by (try simp only [List.map_toArray, List.map_cons, List.map_nil]); first | done | rfl | (simp only [List.length_drop, List.length_take]; rfl)) ?_; (with_reducible refine (bits_Mul64.calls x6_2 10 t425 t426 _ A19.out).mono ?_); rintro e w' ⟨rfl, ⟨nd, rfl⟩⟩; refine ⟨_, rfl, ?_⟩; (try (rw [drewN_self wr]; generalize hq_ : World.drewN wr _ = wr; have n0_ : Aside0 (Kd.V (Kd.int .u8) 5 wr w.heap.size (fun k_ => k_ ≠ gb302) (.slice (some ad422) y416.length co14) y416) := ⟨by rw [← hq_]; exact (by (with_reducible repeat (first | apply va_ | apply vn_ | apply vd_)); exact HO_25.out)⟩; have n1_ : Aside0 (wr.heap[gb302]? = some (.cells #[.int .i64 x303000_2, .int .u64 x303001_2] 35 (0, 0))) := ⟨by rw [← hq_]; exact bk_⟩; have n2_ : Aside0 (Below w.heap.size w wr) := ⟨by rw [← hq_]; exact bw_⟩; clear HO_25 BK302 HB hq_; have HO_25 := n0_; have BK302 := n1_; have HB := n2_; clear n0_ n1_ n2_)); have hcz22_0 : wr.cell? ⟨gb302, 0, none⟩ = some (.int .i64 x303000_2) := (bc_ BK302.out 0).trans rfl; have hcz22_1 : wr.cell? ⟨gb302, 1, none⟩ = some (.int .u64 x303001_2) := (bc_ BK302.out 1).trans rfl; have hfz22_0 := bf_ BK302.out 0; have hfz22_1 := bf_ BK302.out 1))
             refine bodyPost_ret (results_ct rfl _ _ gb302 35 #[.int .i64 0, .int .u64 0] (0, 0) _ rfl (by (with_reducible repeat (first | refine bn_ ?_ _ | refine bd_ ?_ | refine ba_ ?_ _)); refine bp_ (cs := #[.int .i64 0, .int .u64 x303001_2]) ?_ 1 _ rfl; (with_reducible repeat (first | refine bn_ ?_ _ | refine bd_ ?_ | refine ba_ ?_ _)); refine bp_ (cs := #[.int .i64 x303000_2, .int .u64 x303001_2]) ?_ 0 _ rfl; (with_reducible repeat (first | refine bn_ ?_ _ | refine bd_ ?_ | refine ba_ ?_ _)); exact BK302.out) Tryd.underlying35 rfl (by kernel_rfl)) rfl ?_
             exact ⟨by first | rfl | (simp [errW_none, errW_some] <;> rfl) | (simp [*, errW_none, errW_some] <;> rfl), bw_⟩
            ·
             rw [if_neg c21] at H
             have c21b0 : decide (0 < (IntKind.u64.wrap (t423 + (addHi t424 t425 (addHi t426 (((rd y416 x27_2) - 48) % 256) 0))))) = false := decide_eq_false c21
             clear c21
             have H' := A_ H
             clear H
             have p422 : 0 ≤ (x27_2 : Int) := od_ (by first | (with_reducible assumption) | assumption)
             have q422 : x27_2 < (y416.length : Int) := od_ (by first | (with_reducible assumption) | assumption)
             obtain ⟨ad422, e422, hx422_0⟩ := Kd.at_int (Kd.V_reads' HO_25.out).2.2 x27_2 p422 q422
             cases e422
             replace p422 := eq_true p422
             replace q422 := eq_true q422
             go_wp2_with (first | ((with_reducible refine gate_callee (f := 53) rfl ?_); refine goesL_ (some 33) rfl rfl Tryd.func53 (by kernel_rfl) rfl #[.int .u64 x5_2, .int .u64 10] rfl (by (try simp only [List.map_toArray, List.map_cons, List.map_nil]); first | done | rfl | (simp only [List.length_drop, List.length_take]; rfl)) ?_; (with_reducible refine (bits_Mul64.calls x5_2 10 t423 t424 _ A18.out).mono ?_); rintro e w' ⟨rfl, ⟨nd, rfl⟩⟩; refine ⟨_, rfl, ?_⟩) | ((with_reducible refine gate_callee (f := 53) rfl ?_); refine goesL_ (some 38) rfl rfl Tryd.func53 (by kernel_rfl) rfl #[.int .u64 x6_2, .int .u64 10] rfl (by (try simp only [List.map_toArray, List.map_cons, List.map_nil]); first | done | rfl | (simp only [List.length_drop, List.length_take]; rfl)) ?_; (with_reducible refine (bits_Mul64.calls x6_2 10 t425 t426 _ A19.out).mono ?_); rintro e w' ⟨rfl, ⟨nd, rfl⟩⟩; refine ⟨_, rfl, ?_⟩))
             go_roundg k2
             case measure => have := HJ5.out; have := HK2.out; omega
             case rel => exact ⟨(addLo t424 t425 (addHi t426 (((rd y416 x27_2) - 48) % 256) 0)), (addLo t426 (((rd y416 x27_2) - 48) % 256) 0), (wrap64 (x27_2 + 1)), (x303000_2), (x303001_2), (by first | rfl | (simp; done) | (simp [*]; done)), (by first | rfl | (simp; done) | (simp [*]; done)), (by first | rfl | (simp; done) | (simp [*]; done)), H', ⟨by have := HJ5.out; have := HK2.out; omega⟩, ⟨by (with_reducible repeat (first | apply va_ | apply vn_ | apply vd_)); exact HO_25.out⟩, ⟨bk_⟩, ⟨bw_⟩⟩
           ·
            rw [if_neg c20] at H
            exact absurd H (by simp)
          ·
           rw [if_neg c17] at H
           exact absurd H (by simp)
         ·
          rw [if_neg c16] at H
          exact absurd H (by simp)
        ·
         rw [if_neg c15] at H
         have c15b0 : decide (x27_2 < (y416.length : Int)) = false := decide_eq_false c15
         clear c15
         replace H := os_ H
         obtain ⟨⟨t419, t420, t421⟩, A230, H⟩ := H
         replace H : (some (t419, t420, t421)) = some (r1, r2, r3) := H
         have A23 := A_ A230
         clear A230
         simp only [Option.some.injEq, Prod.mk.injEq] at H
         obtain ⟨rfl, rfl, rfl⟩ := H
         go_wp2_with (first | ((with_reducible refine gate_callee (f := 61) rfl ?_); refine goesL_ (some 65) rfl rfl Tryd.func61 (by kernel_rfl) rfl #[.int .u64 x5_2, .int .u64 x6_2, .bool x4_5] rfl (by (try simp only [List.map_toArray, List.map_cons, List.map_nil]); first | done | rfl | (simp only [List.length_drop, List.length_take]; rfl)) ?_; (with_reducible refine (fixed_signed.calls k2 x5_2 x6_2 x4_5 t419 t420 t421 _ A23.out).mono ?_); rintro e w24 ⟨rfl, hb⟩; refine ⟨_, rfl, ?_⟩; have n0_ := A_ (Kd.V_below (by (with_reducible repeat (first | apply va_ | apply vn_ | apply vd_)); exact HO_25.out) hb); have n1_ := A_ (kb_ BK302 hb); have n2_ := A_ (bs_ bw_ hb); clear HO_25; clear BK302; clear HB; have HO_25 := n0_; have BK302 := n1_; have HB := n2_; clear n0_ n1_ n2_; (try clear hb); (try clear hb2); (try clear hk); (try clear hi); have hcz25_0 : w24.cell? ⟨gb302, 0, none⟩ = some (.int .i64 x303000_2) := (bc_ BK302.out 0).trans rfl; have hcz25_1 : w24.cell? ⟨gb302, 1, none⟩ = some (.int .u64 x303001_2) := (bc_ BK302.out 1).trans rfl; have hfz25_0 := bf_ BK302.out 0; have hfz25_1 := bf_ BK302.out 1))
         refine bodyPost_ret (results_ct rfl _ _ gb302 35 #[.int .i64 t419, .int .u64 t420] (0, 0) _ rfl (by (with_reducible repeat (first | refine bn_ ?_ _ | refine bd_ ?_ | refine ba_ ?_ _)); refine bp_ (cs := #[.int .i64 t419, .int .u64 x303001_2]) ?_ 1 _ rfl; (with_reducible repeat (first | refine bn_ ?_ _ | refine bd_ ?_ | refine ba_ ?_ _)); refine bp_ (cs := #[.int .i64 x303000_2, .int .u64 x303001_2]) ?_ 0 _ rfl; (with_reducible repeat (first | refine bn_ ?_ _ | refine bd_ ?_ | refine ba_ ?_ _)); exact BK302.out) Tryd.underlying35 rfl (by kernel_rfl)) rfl ?_
         exact ⟨by first | rfl | (simp [errW_none, errW_some] <;> rfl) | (simp [*, errW_none, errW_some] <;> rfl), bw_⟩
     ·
      rw [if_neg c11] at H
      exact absurd H (by simp)
  ·
   rw [if_neg c4] at H
   exact absurd H (by simp)
 ·
  replace c3 := Bool.eq_false_iff.mpr c3
  subst c3
  have H1 : (some (0, 0, 3)) = some (r1, r2, r3) := by rw [if_neg (show ¬ (false = true) by decide)] at H; exact H
  clear H
  have H := H1
  clear H1
  simp only [Option.some.injEq, Prod.mk.injEq] at H
  obtain ⟨rfl, rfl, rfl⟩ := H
  go_enter Tryd.func46, Tryd.ntmps46
  go_wp2_with (first | ((with_reducible refine gate_dst (N := 2) rfl ?_); refine box_event ?hg (N := 2) ?hd (cs := #[.int .i64 0, .int .u64 0]) (t := 35) ?hr ?_; (case hd => rfl); (case hg => rfl); (case hr => first | (go_simp; done) | (go_simp; rfl)); intro gb302 hg w26 hbox hb; have n0_ := A_ (bs_ bw_ hb); have n1_ := A_ (hbox); have n2_ := A_ ((by rw [hg]; exact (bz_ bw_) : w.heap.size ≤ gb302)); have n3_ := A_ ((by rw [hg]; exact (bz_ bw_) : w.heap.size ≤ gb302)); clear HB; have HB := n0_; have BK302 := n1_; have GW302 := n2_; have GE302 := n3_; clear n0_ n1_ n2_ n3_; clear hb hbox hg) | ((with_reducible refine gate_callee (f := 60) rfl ?_); refine goesL_ (some 15) rfl rfl Tryd.func60 (by kernel_rfl) rfl #[.string a0] rfl (by (try simp only [List.map_toArray, List.map_cons, List.map_nil]); first | done | rfl | (simp only [List.length_drop, List.length_take]; rfl)) ?_; (with_reducible refine (fixed_form.calls k a0 false _ A2.out).mono ?_); rintro e w27 ⟨rfl, hb⟩; refine ⟨_, rfl, ?_⟩; have n0_ := A_ (kb_ BK302 hb); have n1_ := A_ (bs_ bw_ hb); clear BK302; clear HB; have BK302 := n0_; have HB := n1_; clear n0_ n1_; (try clear hb); (try clear hb2); (try clear hk); (try clear hi); have hcz28_0 : w27.cell? ⟨gb302, 0, none⟩ = some (.int .i64 0) := (bc_ BK302.out 0).trans rfl; have hcz28_1 : w27.cell? ⟨gb302, 1, none⟩ = some (.int .u64 0) := (bc_ BK302.out 1).trans rfl; have hfz28_0 := bf_ BK302.out 0; have hfz28_1 := bf_ BK302.out 1))
  refine bodyPost_ret (results_ct rfl _ _ gb302 35 #[.int .i64 0, .int .u64 0] (0, 0) _ rfl (by (with_reducible repeat (first | refine bn_ ?_ _ | refine bd_ ?_ | refine ba_ ?_ _)); refine bp_ (cs := #[.int .i64 0, .int .u64 0]) ?_ 1 _ rfl; (with_reducible repeat (first | refine bn_ ?_ _ | refine bd_ ?_ | refine ba_ ?_ _)); refine bp_ (cs := #[.int .i64 0, .int .u64 0]) ?_ 0 _ rfl; (with_reducible repeat (first | refine bn_ ?_ _ | refine bd_ ?_ | refine ba_ ?_ _)); exact BK302.out) Tryd.underlying35 rfl (by kernel_rfl)) rfl ?_
  exact ⟨by first | rfl | (simp [errW_none, errW_some] <;> rfl) | (simp [*, errW_none, errW_some] <;> rfl), bw_⟩
end Go.Proofs.YtjbbigodkhnokaaDoor.Tr
end
section
namespace Go.Proofs.YtjbbigodkhnokaaDoor.Tr
open Go.RowKit Go.Proofs.YtjbbigodkhnokaaDoorW.PrintWords Go.Proofs.YtjbbigodkhnokaaDoorW.PrintLast Go.Proofs.YtjbbigodkhnokaaDoorW.PrintMore
attribute [local go_sem] max2_int min2_int max_two min_two max_three min_three max_four min_four   -- for this text's walks alone
set_option linter.unusedVariables false
set_option linter.unusedSimpArgs false
attribute [local go_sem] run_add64_any
def fixed_Int.f (a0_0 : Int) (a0_1 : Int) : Option (Int × Int) := if a0_0 = ((wrap64 (a0_1)) / 9223372036854775808) then (some (wrap64 (a0_1), 0)) else (some (0, 4))
set_option maxHeartbeats 8000000 in
set_option maxRecDepth 100000 in
theorem fixed_Int.calls (a0_0 : Int) (a0_1 : Int) (r1 : Int) (r2 : Int) (w : World) (h : fixed_Int.f a0_0 a0_1 = some (r1, r2)) :
  Calls Tryd.prog 47 #[.agg #[.int .i64 a0_0, .int .u64 a0_1]] w fun e w' => e = .returned (.tuple #[.int .i64 r1, .int .i64 r2]) ∧ Below w.heap.size w w' := by
 have hu35 := Tryd.underlying35
 have HB := A_ (Below.refl w.heap.size w)
 have H : (if a0_0 = ((wrap64 (a0_1)) / 9223372036854775808) then (some (wrap64 (a0_1), 0)) else (some (0, 4))) = some (r1, r2) := h
 clear h
 by_cases c2 : a0_0 = ((wrap64 (a0_1)) / 9223372036854775808)
 ·
  rw [if_pos c2] at H
  have c2b0 : (a0_0 == ((wrap64 (a0_1)) / 9223372036854775808)) = true := q1_ c2
  have c2b1 : (a0_0 != ((wrap64 (a0_1)) / 9223372036854775808)) = false := q3_ c2
  clear c2
  simp only [Option.some.injEq, Prod.mk.injEq] at H
  obtain ⟨rfl, rfl⟩ := H
  go_enter Tryd.func47, Tryd.ntmps47
  go_wp2_with (first | ((with_reducible refine gate_dst (N := 1) rfl ?_); refine box_event ?hg (N := 1) ?hd (cs := #[.int .i64 a0_0, .int .u64 a0_1]) (t := 35) ?hr ?_; (case hd => rfl); (case hg => rfl); (case hr => first | (go_simp; done) | (go_simp; rfl)); intro gb301 hg w3 hbox hb; have n0_ := A_ (bs_ bw_ hb); have n1_ := A_ (hbox); have n2_ := A_ ((by rw [hg]; exact (bz_ bw_) : w.heap.size ≤ gb301)); have n3_ := A_ ((by rw [hg]; exact (bz_ bw_) : w.heap.size ≤ gb301)); clear HB; have HB := n0_; have BK301 := n1_; have GW301 := n2_; have GE301 := n3_; clear n0_ n1_ n2_ n3_; clear hb hbox hg; have hcz4_0 : w3.cell? ⟨gb301, 0, none⟩ = some (.int .i64 a0_0) := (bc_ BK301.out 0).trans rfl; have hcz4_1 : w3.cell? ⟨gb301, 1, none⟩ = some (.int .u64 a0_1) := (bc_ BK301.out 1).trans rfl; have hfz4_0 := bf_ BK301.out 0; have hfz4_1 := bf_ BK301.out 1))
  go_ret2
  exact ⟨by first | rfl | (simp [errW_none, errW_some] <;> rfl) | (simp [*, errW_none, errW_some] <;> rfl), bw_⟩
 ·
  rw [if_neg c2] at H
  have c2b0 : (a0_0 == ((wrap64 (a0_1)) / 9223372036854775808)) = false := q4_ c2
  have c2b1 : (a0_0 != ((wrap64 (a0_1)) / 9223372036854775808)) = true := q2_ c2
  simp only [Option.some.injEq, Prod.mk.injEq] at H
  obtain ⟨rfl, rfl⟩ := H
  go_enter Tryd.func47, Tryd.ntmps47
  go_wp2_with (first | ((with_reducible refine gate_dst (N := 1) rfl ?_); refine box_event ?hg (N := 1) ?hd (cs := #[.int .i64 a0_0, .int .u64 a0_1]) (t := 35) ?hr ?_; (case hd => rfl); (case hg => rfl); (case hr => first | (go_simp; done) | (go_simp; rfl)); intro gb301 hg w5 hbox hb; have n0_ := A_ (bs_ bw_ hb); have n1_ := A_ (hbox); have n2_ := A_ ((by rw [hg]; exact (bz_ bw_) : w.heap.size ≤ gb301)); have n3_ := A_ ((by rw [hg]; exact (bz_ bw_) : w.heap.size ≤ gb301)); clear HB; have HB := n0_; have BK301 := n1_; have GW301 := n2_; have GE301 := n3_; clear n0_ n1_ n2_ n3_; clear hb hbox hg; have hcz6_0 : w5.cell? ⟨gb301, 0, none⟩ = some (.int .i64 a0_0) := (bc_ BK301.out 0).trans rfl; have hcz6_1 : w5.cell? ⟨gb301, 1, none⟩ = some (.int .u64 a0_1) := (bc_ BK301.out 1).trans rfl; have hfz6_0 := bf_ BK301.out 0; have hfz6_1 := bf_ BK301.out 1))
  go_ret2
  exact ⟨by first | rfl | (simp [errW_none, errW_some] <;> rfl) | (simp [*, errW_none, errW_some] <;> rfl), bw_⟩
end Go.Proofs.YtjbbigodkhnokaaDoor.Tr
end
section
namespace Go.Proofs.YtjbbigodkhnokaaDoor.Tr
open Go.RowKit Go.Proofs.YtjbbigodkhnokaaDoorW.PrintWords Go.Proofs.YtjbbigodkhnokaaDoorW.PrintLast Go.Proofs.YtjbbigodkhnokaaDoorW.PrintMore
attribute [local go_sem] max2_int min2_int max_two min_two max_three min_three max_four min_four   -- for this text's walks alone
set_option linter.unusedVariables false
set_option linter.unusedSimpArgs false
attribute [local go_sem] run_add64_any
def cmp_Or_int.l0 : Nat → Int → List Int → Int → Int → Option (Int)
 | 0, _, _, _, _ => none
 | k + 1, x3, x6, x7, x8 => if x8 < x7 then (if 0 ≤ x8 then (if x8 < (x6.length : Int) then (if (rd x6 x8) = x3 then (cmp_Or_int.l0 k x3 x6 x7 (wrap64 (x8 + 1))) else (some (rd x6 x8))) else (none)) else (none)) else (some x3)
def cmp_Or_int.f (k : Nat) (l0 : List Int) : Option (Int) := cmp_Or_int.l0 k 0 l0 (l0.length : Int) 0
set_option maxHeartbeats 8000000 in
set_option maxRecDepth 100000 in
theorem cmp_Or_int.calls (k : Nat) (A0 : Option Addr) (c0 : Nat) (l0 : List Int) (r : Int) (w : World) (hr0 : Kd.C (Kd.int .i64) w A0 l0.length l0) (hc0 : l0.length ≤ c0) (h : cmp_Or_int.f k l0 = some r) :
  Calls Tryd.prog 34 #[.slice A0 l0.length c0] w fun e w' => e = .returned (.int .i64 r) ∧ Drawn0 w w' := by
 have HR0 := A_ hr0
 have HC0 := A_ hc0
 clear hr0 hc0
 have H : (cmp_Or_int.l0 k 0 l0 (l0.length : Int) 0) = some r := h
 clear h
 have H' := A_ H
 clear H
 go_enter Tryd.func34, Tryd.ntmps34
 go_wp2
 (try simp only [Act.put, sA_, sZ_, sS_])
 go_loopg [8] k (fun kq v8 w' => ∃ (x8_1 : Int), v8 = .int .i64 x8_1 ∧ Aside0 (cmp_Or_int.l0 kq 0 l0 (l0.length : Int) x8_1 = some r) ∧ Aside0 (kq ≤ k) ∧ Drawn0 w w')
 case atStart => exact ⟨(0), (by first | rfl | (simp; done) | (simp [*]; done)), H', ⟨Nat.le_refl _⟩, by repeat (first | exact Drawn0.refl _ | apply Drawn0.step)⟩
 case round =>
  clear H'
  obtain ⟨x8_1, rfl, HA, HK1, ⟨m1, rfl⟩⟩ := hrel
  cases gk with
  | zero => exact absurd HA.out (by simp [cmp_Or_int.l0])
  | succ k1 =>
   have H := HA.out
   clear HA
   simp only [cmp_Or_int.l0] at H
   by_cases c2 : x8_1 < (l0.length : Int)
   ·
    rw [if_pos c2] at H
    have c2b0 : decide (x8_1 < (l0.length : Int)) = true := decide_eq_true c2
    clear c2
    by_cases c3 : 0 ≤ x8_1
    ·
     rw [if_pos c3] at H
     have c3b0 : decide (0 ≤ x8_1) = true := decide_eq_true c3
     clear c3
     by_cases c4 : x8_1 < (l0.length : Int)
     ·
      rw [if_pos c4] at H
      have c4b0 : decide (x8_1 < (l0.length : Int)) = true := decide_eq_true c4
      clear c4
      by_cases c5 : (rd l0 x8_1) = 0
      ·
       rw [if_pos c5] at H
       have c5b0 : ((rd l0 x8_1) == 0) = true := q1_ c5
       have c5b1 : ((rd l0 x8_1) != 0) = false := q3_ c5
       clear c5
       have H' := A_ H
       clear H
       have p348 : 0 ≤ (x8_1 : Int) := od_ (by first | (with_reducible assumption) | assumption)
       have q348 : x8_1 < (l0.length : Int) := od_ (by first | (with_reducible assumption) | assumption)
       obtain ⟨ad348, e348, hx348_0⟩ := Kd.at_int HR0.out x8_1 p348 q348
       cases e348
       replace p348 := eq_true p348
       replace q348 := eq_true q348
       go_wp2
       go_roundg k1
       case measure => have := HK1.out; omega
       case rel => exact ⟨(wrap64 (x8_1 + 1)), (by first | rfl | (simp; done) | (simp [*]; done)), H', ⟨by have := HK1.out; omega⟩, by repeat (first | exact Drawn0.refl _ | apply Drawn0.step)⟩
      ·
       rw [if_neg c5] at H
       have c5b0 : ((rd l0 x8_1) == 0) = false := q4_ c5
       have c5b1 : ((rd l0 x8_1) != 0) = true := q2_ c5
       obtain rfl := Option.some.inj H
       have p348 : 0 ≤ (x8_1 : Int) := od_ (by first | (with_reducible assumption) | assumption)
       have q348 : x8_1 < (l0.length : Int) := od_ (by first | (with_reducible assumption) | assumption)
       obtain ⟨ad348, e348, hx348_0⟩ := Kd.at_int HR0.out x8_1 p348 q348
       cases e348
       replace p348 := eq_true p348
       replace q348 := eq_true q348
       go_wp2
       go_ret
       exact ⟨by first | rfl | (simp; done) | (simp [*]; done), by repeat (first | exact Drawn0.refl _ | apply Drawn0.step)⟩
     ·
      rw [if_neg c4] at H
      exact absurd H (by simp)
    ·
     rw [if_neg c3] at H
     exact absurd H (by simp)
   ·
    rw [if_neg c2] at H
    have c2b0 : decide (x8_1 < (l0.length : Int)) = false := decide_eq_false c2
    clear c2
    obtain rfl := Option.some.inj H
    go_wp2
    go_ret
    exact ⟨by first | rfl | (simp; done) | (simp [*]; done), by repeat (first | exact Drawn0.refl _ | apply Drawn0.step)⟩
end Go.Proofs.YtjbbigodkhnokaaDoor.Tr
end
section
namespace Go.Proofs.YtjbbigodkhnokaaDoor.Tr
open Go.RowKit Go.Proofs.YtjbbigodkhnokaaDoorW.PrintWords Go.Proofs.YtjbbigodkhnokaaDoorW.PrintLast Go.Proofs.YtjbbigodkhnokaaDoorW.PrintMore
attribute [local go_sem] max2_int min2_int max_two min_two max_three min_three max_four min_four   -- for this text's walks alone
set_option linter.unusedVariables false
set_option linter.unusedSimpArgs false
attribute [local go_sem] run_add64_any
def cmp_isNaN_int64.f (a0 : Int) : Option (Bool) := some (a0 != a0)
set_option maxHeartbeats 8000000 in
set_option maxRecDepth 100000 in
theorem cmp_isNaN_int64.calls (a0 : Int) (r : Bool) (w : World) (h : cmp_isNaN_int64.f a0 = some r) :
  Calls Tryd.prog 56 #[.int .i64 a0] w fun e w' => e = .returned (.bool r) ∧ Drawn0 w w' := by
 have H : (some (a0 != a0)) = some r := h
 clear h
 obtain rfl := Option.some.inj H
 go_enter Tryd.func56, Tryd.ntmps56
 go_wp2
 go_ret
 exact ⟨by first | rfl | (simp; done) | (simp [*]; done), by repeat (first | exact Drawn0.refl _ | apply Drawn0.step)⟩
end Go.Proofs.YtjbbigodkhnokaaDoor.Tr
end
section
namespace Go.Proofs.YtjbbigodkhnokaaDoor.Tr
open Go.RowKit Go.Proofs.YtjbbigodkhnokaaDoorW.PrintWords Go.Proofs.YtjbbigodkhnokaaDoorW.PrintLast Go.Proofs.YtjbbigodkhnokaaDoorW.PrintMore
attribute [local go_sem] max2_int min2_int max_two min_two max_three min_three max_four min_four   -- for this text's walks alone
set_option linter.unusedVariables false
set_option linter.unusedSimpArgs false
attribute [local go_sem] run_add64_any
def cmp_Compare_int64.f (a0 : Int) (a1 : Int) : Option (Int) := (cmp_isNaN_int64.f a0).bind fun t349 => ((cmp_isNaN_int64.f a1).bind fun t350 => (if t349 = true then (if t350 = true then (some 0) else (some (-1))) else (if t350 = true then (some 1) else (if a0 < a1 then (some (-1)) else (if a0 > a1 then (some 1) else (some 0))))))
set_option maxHeartbeats 8000000 in
set_option maxRecDepth 100000 in
theorem cmp_Compare_int64.calls (a0 : Int) (a1 : Int) (r : Int) (w : World) (h : cmp_Compare_int64.f a0 a1 = some r) :
  Calls Tryd.prog 35 #[.int .i64 a0, .int .i64 a1] w fun e w' => e = .returned (.int .i64 r) ∧ Drawn0 w w' := by
 have H : ((cmp_isNaN_int64.f a0).bind fun t349 => ((cmp_isNaN_int64.f a1).bind fun t350 => (if t349 = true then (if t350 = true then (some 0) else (some (-1))) else (if t350 = true then (some 1) else (if a0 < a1 then (some (-1)) else (if a0 > a1 then (some 1) else (some 0))))))) = some r := h
 clear h
 replace H := os_ H
 obtain ⟨t349, A30, H⟩ := H
 replace H : ((cmp_isNaN_int64.f a1).bind fun t350 => (if t349 = true then (if t350 = true then (some 0) else (some (-1))) else (if t350 = true then (some 1) else (if a0 < a1 then (some (-1)) else (if a0 > a1 then (some 1) else (some 0)))))) = some r := H
 have A3 := A_ A30
 clear A30
 replace H := os_ H
 obtain ⟨t350, A40, H⟩ := H
 replace H : (if t349 = true then (if t350 = true then (some 0) else (some (-1))) else (if t350 = true then (some 1) else (if a0 < a1 then (some (-1)) else (if a0 > a1 then (some 1) else (some 0))))) = some r := H
 have A4 := A_ A40
 clear A40
 by_cases c5 : t349 = true
 ·
  subst c5
  have H1 : (if t350 = true then (some 0) else (some (-1))) = some r := by rw [if_pos rfl] at H; exact H
  clear H
  have H := H1
  clear H1
  by_cases c6 : t350 = true
  ·
   subst c6
   have H1 : (some 0) = some r := by rw [if_pos rfl] at H; exact H
   clear H
   have H := H1
   clear H1
   obtain rfl := Option.some.inj H
   go_enter Tryd.func35, Tryd.ntmps35
   go_wp2_with (first | ((with_reducible refine gate_callee (f := 56) rfl ?_); refine goesL_ (some 8) rfl rfl Tryd.func56 (by kernel_rfl) rfl #[.int .i64 a0] rfl (by (try simp only [List.map_toArray, List.map_cons, List.map_nil]); first | done | rfl | (simp only [List.length_drop, List.length_take]; rfl)) ?_; (with_reducible refine (cmp_isNaN_int64.calls a0 true _ A3.out).mono ?_); rintro e w' ⟨rfl, ⟨nd, rfl⟩⟩; refine ⟨_, rfl, ?_⟩) | ((with_reducible refine gate_callee (f := 56) rfl ?_); refine goesL_ (some 10) rfl rfl Tryd.func56 (by kernel_rfl) rfl #[.int .i64 a1] rfl (by (try simp only [List.map_toArray, List.map_cons, List.map_nil]); first | done | rfl | (simp only [List.length_drop, List.length_take]; rfl)) ?_; (with_reducible refine (cmp_isNaN_int64.calls a1 true _ A4.out).mono ?_); rintro e w' ⟨rfl, ⟨nd, rfl⟩⟩; refine ⟨_, rfl, ?_⟩))
   go_ret
   exact ⟨by first | rfl | (simp; done) | (simp [*]; done), by repeat (first | exact Drawn0.refl _ | apply Drawn0.step)⟩
  ·
   replace c6 := Bool.eq_false_iff.mpr c6
   subst c6
   have H1 : (some (-1)) = some r := by rw [if_neg (show ¬ (false = true) by decide)] at H; exact H
   clear H
   have H := H1
   clear H1
   obtain rfl := Option.some.inj H
   go_enter Tryd.func35, Tryd.ntmps35
   go_wp2_with (first | ((with_reducible refine gate_callee (f := 56) rfl ?_); refine goesL_ (some 8) rfl rfl Tryd.func56 (by kernel_rfl) rfl #[.int .i64 a0] rfl (by (try simp only [List.map_toArray, List.map_cons, List.map_nil]); first | done | rfl | (simp only [List.length_drop, List.length_take]; rfl)) ?_; (with_reducible refine (cmp_isNaN_int64.calls a0 true _ A3.out).mono ?_); rintro e w' ⟨rfl, ⟨nd, rfl⟩⟩; refine ⟨_, rfl, ?_⟩) | ((with_reducible refine gate_callee (f := 56) rfl ?_); refine goesL_ (some 10) rfl rfl Tryd.func56 (by kernel_rfl) rfl #[.int .i64 a1] rfl (by (try simp only [List.map_toArray, List.map_cons, List.map_nil]); first | done | rfl | (simp only [List.length_drop, List.length_take]; rfl)) ?_; (with_reducible refine (cmp_isNaN_int64.calls a1 false _ A4.out).mono ?_); rintro e w' ⟨rfl, ⟨nd, rfl⟩⟩; refine ⟨_, rfl, ?_⟩))
   go_ret
   exact ⟨by first | rfl | (simp; done) | (simp [*]; done), by repeat (first | exact Drawn0.refl _ | apply Drawn0.step)⟩
 ·
  replace c5 := Bool.eq_false_iff.mpr c5
  subst c5
  have H1 : (if t350 = true then (some 1) else (if a0 < a1 then (some (-1)) else (if a0 > a1 then (some 1) else (some 0)))) = some r := by rw [if_neg (show ¬ (false = true) by decide)] at H; exact H
  clear H
  have H := H1
  clear H1
  by_cases c7 : t350 = true
  ·
   subst c7
   have H1 : (some 1) = some r := by rw [if_pos rfl] at H; exact H
   clear H
   have H := H1
   clear H1
   obtain rfl := Option.some.inj H
   go_enter Tryd.func35, Tryd.ntmps35
   go_wp2_with (first | ((with_reducible refine gate_callee (f := 56) rfl ?_); refine goesL_ (some 8) rfl rfl Tryd.func56 (by kernel_rfl) rfl #[.int .i64 a0] rfl (by (try simp only [List.map_toArray, List.map_cons, List.map_nil]); first | done | rfl | (simp only [List.length_drop, List.length_take]; rfl)) ?_; (with_reducible refine (cmp_isNaN_int64.calls a0 false _ A3.out).mono ?_); rintro e w' ⟨rfl, ⟨nd, rfl⟩⟩; refine ⟨_, rfl, ?_⟩) | ((with_reducible refine gate_callee (f := 56) rfl ?_); refine goesL_ (some 10) rfl rfl Tryd.func56 (by kernel_rfl) rfl #[.int .i64 a1] rfl (by (try simp only [List.map_toArray, List.map_cons, List.map_nil]); first | done | rfl | (simp only [List.length_drop, List.length_take]; rfl)) ?_; (with_reducible refine (cmp_isNaN_int64.calls a1 true _ A4.out).mono ?_); rintro e w' ⟨rfl, ⟨nd, rfl⟩⟩; refine ⟨_, rfl, ?_⟩))
   go_ret
   exact ⟨by first | rfl | (simp; done) | (simp [*]; done), by repeat (first | exact Drawn0.refl _ | apply Drawn0.step)⟩
  ·
   replace c7 := Bool.eq_false_iff.mpr c7
   subst c7
   have H1 : (if a0 < a1 then (some (-1)) else (if a0 > a1 then (some 1) else (some 0))) = some r := by rw [if_neg (show ¬ (false = true) by decide)] at H; exact H
   clear H
   have H := H1
   clear H1
   by_cases c8 : a0 < a1
   ·
    rw [if_pos c8] at H
    have c8b0 : decide (a0 < a1) = true := decide_eq_true c8
    clear c8
    obtain rfl := Option.some.inj H
    go_enter Tryd.func35, Tryd.ntmps35
    go_wp2_with (first | ((with_reducible refine gate_callee (f := 56) rfl ?_); refine goesL_ (some 8) rfl rfl Tryd.func56 (by kernel_rfl) rfl #[.int .i64 a0] rfl (by (try simp only [List.map_toArray, List.map_cons, List.map_nil]); first | done | rfl | (simp only [List.length_drop, List.length_take]; rfl)) ?_; (with_reducible refine (cmp_isNaN_int64.calls a0 false _ A3.out).mono ?_); rintro e w' ⟨rfl, ⟨nd, rfl⟩⟩; refine ⟨_, rfl, ?_⟩) | ((with_reducible refine gate_callee (f := 56) rfl ?_); refine goesL_ (some 10) rfl rfl Tryd.func56 (by kernel_rfl) rfl #[.int .i64 a1] rfl (by (try simp only [List.map_toArray, List.map_cons, List.map_nil]); first | done | rfl | (simp only [List.length_drop, List.length_take]; rfl)) ?_; (with_reducible refine (cmp_isNaN_int64.calls a1 false _ A4.out).mono ?_); rintro e w' ⟨rfl, ⟨nd, rfl⟩⟩; refine ⟨_, rfl, ?_⟩))
    go_ret
    exact ⟨by first | rfl | (simp; done) | (simp [*]; done), by repeat (first | exact Drawn0.refl _ | apply Drawn0.step)⟩
   ·
    rw [if_neg c8] at H
    have c8b0 : decide (a0 < a1) = false := decide_eq_false c8
    clear c8
    by_cases c9 : a0 > a1
    ·
     rw [if_pos c9] at H
     have c9b0 : decide (a1 < a0) = true := decide_eq_true c9
     clear c9
     obtain rfl := Option.some.inj H
     go_enter Tryd.func35, Tryd.ntmps35
     go_wp2_with (first | ((with_reducible refine gate_callee (f := 56) rfl ?_); refine goesL_ (some 8) rfl rfl Tryd.func56 (by kernel_rfl) rfl #[.int .i64 a0] rfl (by (try simp only [List.map_toArray, List.map_cons, List.map_nil]); first | done | rfl | (simp only [List.length_drop, List.length_take]; rfl)) ?_; (with_reducible refine (cmp_isNaN_int64.calls a0 false _ A3.out).mono ?_); rintro e w' ⟨rfl, ⟨nd, rfl⟩⟩; refine ⟨_, rfl, ?_⟩) | ((with_reducible refine gate_callee (f := 56) rfl ?_); refine goesL_ (some 10) rfl rfl Tryd.func56 (by kernel_rfl) rfl #[.int .i64 a1] rfl (by (try simp only [List.map_toArray, List.map_cons, List.map_nil]); first | done | rfl | (simp only [List.length_drop, List.length_take]; rfl)) ?_; (with_reducible refine (cmp_isNaN_int64.calls a1 false _ A4.out).mono ?_); rintro e w' ⟨rfl, ⟨nd, rfl⟩⟩; refine ⟨_, rfl, ?_⟩))
     go_ret
     exact ⟨by first | rfl | (simp; done) | (simp [*]; done), by repeat (first | exact Drawn0.refl _ | apply Drawn0.step)⟩
    ·
     rw [if_neg c9] at H
     have c9b0 : decide (a1 < a0) = false := decide_eq_false c9
     clear c9
     obtain rfl := Option.some.inj H
     go_enter Tryd.func35, Tryd.ntmps35
     go_wp2_with (first | ((with_reducible refine gate_callee (f := 56) rfl ?_); refine goesL_ (some 8) rfl rfl Tryd.func56 (by kernel_rfl) rfl #[.int .i64 a0] rfl (by (try simp only [List.map_toArray, List.map_cons, List.map_nil]); first | done | rfl | (simp only [List.length_drop, List.length_take]; rfl)) ?_; (with_reducible refine (cmp_isNaN_int64.calls a0 false _ A3.out).mono ?_); rintro e w' ⟨rfl, ⟨nd, rfl⟩⟩; refine ⟨_, rfl, ?_⟩) | ((with_reducible refine gate_callee (f := 56) rfl ?_); refine goesL_ (some 10) rfl rfl Tryd.func56 (by kernel_rfl) rfl #[.int .i64 a1] rfl (by (try simp only [List.map_toArray, List.map_cons, List.map_nil]); first | done | rfl | (simp only [List.length_drop, List.length_take]; rfl)) ?_; (with_reducible refine (cmp_isNaN_int64.calls a1 false _ A4.out).mono ?_); rintro e w' ⟨rfl, ⟨nd, rfl⟩⟩; refine ⟨_, rfl, ?_⟩))
     go_ret
     exact ⟨by first | rfl | (simp; done) | (simp [*]; done), by repeat (first | exact Drawn0.refl _ | apply Drawn0.step)⟩
end Go.Proofs.YtjbbigodkhnokaaDoor.Tr
end
section
namespace Go.Proofs.YtjbbigodkhnokaaDoor.Tr
open Go.RowKit Go.Proofs.YtjbbigodkhnokaaDoorW.PrintWords Go.Proofs.YtjbbigodkhnokaaDoorW.PrintLast Go.Proofs.YtjbbigodkhnokaaDoorW.PrintMore
attribute [local go_sem] max2_int min2_int max_two min_two max_three min_three max_four min_four   -- for this text's walks alone
set_option linter.unusedVariables false
set_option linter.unusedSimpArgs false
attribute [local go_sem] run_add64_any
def cmp_isNaN_string.f (a0 : ByteArray) : Option (Bool) := some (a0.toList != a0.toList)
set_option maxHeartbeats 8000000 in
set_option maxRecDepth 100000 in
theorem cmp_isNaN_string.calls (a0 : ByteArray) (r : Bool) (w : World) (h : cmp_isNaN_string.f a0 = some r) :
  Calls Tryd.prog 57 #[.string a0] w fun e w' => e = .returned (.bool r) ∧ Drawn0 w w' := by
 have H : (some (a0.toList != a0.toList)) = some r := h
 clear h
 obtain rfl := Option.some.inj H
 go_enter Tryd.func57, Tryd.ntmps57
 go_wp2
 go_ret
 exact ⟨by first | rfl | (simp; done) | (simp [*]; done), by repeat (first | exact Drawn0.refl _ | apply Drawn0.step)⟩
end Go.Proofs.YtjbbigodkhnokaaDoor.Tr
end
section
namespace Go.Proofs.YtjbbigodkhnokaaDoor.Tr
open Go.RowKit Go.Proofs.YtjbbigodkhnokaaDoorW.PrintWords Go.Proofs.YtjbbigodkhnokaaDoorW.PrintLast Go.Proofs.YtjbbigodkhnokaaDoorW.PrintMore
attribute [local go_sem] max2_int min2_int max_two min_two max_three min_three max_four min_four   -- for this text's walks alone
set_option linter.unusedVariables false
set_option linter.unusedSimpArgs false
attribute [local go_sem] run_add64_any
def cmp_Compare_string.f (a0 : ByteArray) (a1 : ByteArray) : Option (Int) := some (if Op.bytesLess a0.toList a1.toList = true then -1 else if (a0.toList == a1.toList) = true then 0 else 1)
set_option maxHeartbeats 2000000 in
theorem cmp_Compare_string.calls (a0 : ByteArray) (a1 : ByteArray) (r : Int) (w : World) (h : cmp_Compare_string.f a0 a1 = some r) :
  Calls Tryd.prog 36 #[.string a0, .string a1] w fun e w' => e = .returned (.int .i64 r) ∧ Drawn0 w w' := by
 have h1 := Option.some.inj h
 clear h
 by_cases c1 : Op.bytesLess a0.toList a1.toList = true
 ·
  rw [if_pos c1] at h1
  subst h1
  go_enter Tryd.func36, Tryd.ntmps36
  go_wp2_with fail
  refine (cmp_isNaN_string.calls a0 false _ (by simp [cmp_isNaN_string.f])).mono ?_
  rintro e w1 ⟨rfl, ⟨n1, rfl⟩⟩
  go_wp2_with fail
  refine (cmp_isNaN_string.calls a1 false _ (by simp [cmp_isNaN_string.f])).mono ?_
  rintro e w2 ⟨rfl, ⟨n2, rfl⟩⟩
  go_wp2
  go_ret
  exact ⟨rfl, by repeat (first | exact Drawn0.refl _ | apply Drawn0.step)⟩
 ·
  rw [if_neg c1] at h1
  have c1 : Op.bytesLess a0.toList a1.toList = false := by simpa using c1
  by_cases c2 : (a0.toList == a1.toList) = true
  ·
   rw [if_pos c2] at h1
   subst h1
   go_enter Tryd.func36, Tryd.ntmps36
   go_wp2_with fail
   refine (cmp_isNaN_string.calls a0 false _ (by simp [cmp_isNaN_string.f])).mono ?_
   rintro e w1 ⟨rfl, ⟨n1, rfl⟩⟩
   go_wp2_with fail
   refine (cmp_isNaN_string.calls a1 false _ (by simp [cmp_isNaN_string.f])).mono ?_
   rintro e w2 ⟨rfl, ⟨n2, rfl⟩⟩
   go_wp2
   go_ret
   exact ⟨rfl, by repeat (first | exact Drawn0.refl _ | apply Drawn0.step)⟩
  ·
   rw [if_neg c2] at h1
   have c2 : (a0.toList == a1.toList) = false := by simpa using c2
   subst h1
   go_enter Tryd.func36, Tryd.ntmps36
   go_wp2_with fail
   refine (cmp_isNaN_string.calls a0 false _ (by simp [cmp_isNaN_string.f])).mono ?_
   rintro e w1 ⟨rfl, ⟨n1, rfl⟩⟩
   go_wp2_with fail
   refine (cmp_isNaN_string.calls a1 false _ (by simp [cmp_isNaN_string.f])).mono ?_
   rintro e w2 ⟨rfl, ⟨n2, rfl⟩⟩
   go_wp2
   go_ret
   exact ⟨rfl, by repeat (first | exact Drawn0.refl _ | apply Drawn0.step)⟩
end Go.Proofs.YtjbbigodkhnokaaDoor.Tr
end
section
namespace Go.Proofs.YtjbbigodkhnokaaDoor.Tr
open Go.RowKit Go.Proofs.YtjbbigodkhnokaaDoorW.PrintWords Go.Proofs.YtjbbigodkhnokaaDoorW.PrintLast Go.Proofs.YtjbbigodkhnokaaDoorW.PrintMore
attribute [local go_sem] max2_int min2_int max_two min_two max_three min_three max_four min_four   -- for this text's walks alone
set_option linter.unusedVariables false
set_option linter.unusedSimpArgs false
attribute [local go_sem] run_add64_any
def trade_Compare.f (k : Nat) (a0_0 : Int) (a0_1 : ByteArray) (a0_2 : ByteArray) (a0_3 : ByteArray) (a0_4 : Int) (a0_5 : Int) (a1_0 : Int) (a1_1 : ByteArray) (a1_2 : ByteArray) (a1_3 : ByteArray) (a1_4 : Int) (a1_5 : Int) : Option (Int) := (cmp_Compare_int64.f a0_0 a1_0).bind fun t351 => ((cmp_Compare_string.f a0_1 a1_1).bind fun t352 => ((cmp_Compare_string.f a0_2 a1_2).bind fun t353 => ((cmp_Compare_string.f a0_3 a1_3).bind fun t354 => ((cmp_Compare_int64.f a0_4 a1_4).bind fun t355 => ((cmp_Compare_int64.f a0_5 a1_5).bind fun t356 => ((cmp_Or_int.f k (([t351, t352, t353, t354, t355, t356] : List Int))).bind fun t360 => (some t360)))))))
def trade_Compare.T1 : Bool × List (List Nat × List Nat) := (true, [([], []), ([0], [0]), ([], []), ([2], [2]), ([1, 3], [1, 3]), ([], []), ([5], [5]), ([], []), ([7], [7]), ([6, 8, 4], [6, 8]), ([], []), ([10], [10]), ([], []), ([12], [12]), ([11, 13, 9], [11, 13]), ([], []), ([15], [15]), ([], []), ([17], [17]), ([16, 18, 14], [16, 18]), ([], []), ([20], [20]), ([], []), ([22], [22]), ([21, 23, 19], [21, 23]), ([], []), ([25], [25]), ([], []), ([27], [27]), ([26, 28, 24], [26, 28]), ([4, 9, 14, 19, 24, 29], [4, 9, 14, 19, 24, 29]), ([30, 29], [30]), ([31, 31, 0, 1, 2, 3, 4, 5, 6, 7, 8, 9, 10, 11, 12, 13, 14, 15, 16, 17, 18, 19, 20, 21, 22, 23, 24, 25, 26, 27, 28, 29, 30, 31], [31])])
def trade_Compare.B1 : List Nat := [0, 1, 0, 4, 15, 0, 32, 0, 128, 511, 0, 1024, 0, 4096, 16383, 0, 32768, 0, 131072, 524287, 0, 1048576, 0, 4194304, 16777215, 0, 33554432, 0, 134217728, 536870911, 1073741823, 2147483647, 4294967295]
theorem trade_Compare.tab1 : rtab .any (opsOf Tryd.f18 1) = trade_Compare.T1 := by kernel_rfl
theorem trade_Compare.bits1 : waitsOk trade_Compare.T1.2 trade_Compare.B1 = true := by kernel_rfl
set_option maxHeartbeats 8000000 in
set_option maxRecDepth 100000 in
theorem trade_Compare.calls (k : Nat) (a0_0 : Int) (a0_1 : ByteArray) (a0_2 : ByteArray) (a0_3 : ByteArray) (a0_4 : Int) (a0_5 : Int) (a1_0 : Int) (a1_1 : ByteArray) (a1_2 : ByteArray) (a1_3 : ByteArray) (a1_4 : Int) (a1_5 : Int) (r : Int) (w : World) (h : trade_Compare.f k a0_0 a0_1 a0_2 a0_3 a0_4 a0_5 a1_0 a1_1 a1_2 a1_3 a1_4 a1_5 = some r) :
  Calls Tryd.prog 18 #[.agg #[.int .i64 a0_0, .string a0_1, .string a0_2, .string a0_3, .int .i64 a0_4, .int .i64 a0_5], .agg #[.int .i64 a1_0, .string a1_1, .string a1_2, .string a1_3, .int .i64 a1_4, .int .i64 a1_5]] w fun e w' => e = .returned (.int .i64 r) ∧ Below w.heap.size w w' := by
 have hu28 := Tryd.underlying28
 have HB := A_ (Below.refl w.heap.size w)
 have H : ((cmp_Compare_int64.f a0_0 a1_0).bind fun t351 => ((cmp_Compare_string.f a0_1 a1_1).bind fun t352 => ((cmp_Compare_string.f a0_2 a1_2).bind fun t353 => ((cmp_Compare_string.f a0_3 a1_3).bind fun t354 => ((cmp_Compare_int64.f a0_4 a1_4).bind fun t355 => ((cmp_Compare_int64.f a0_5 a1_5).bind fun t356 => ((cmp_Or_int.f k (([t351, t352, t353, t354, t355, t356] : List Int))).bind fun t360 => (some t360)))))))) = some r := h
 clear h
 replace H := os_ H
 obtain ⟨t351, A30, H⟩ := H
 replace H : ((cmp_Compare_string.f a0_1 a1_1).bind fun t352 => ((cmp_Compare_string.f a0_2 a1_2).bind fun t353 => ((cmp_Compare_string.f a0_3 a1_3).bind fun t354 => ((cmp_Compare_int64.f a0_4 a1_4).bind fun t355 => ((cmp_Compare_int64.f a0_5 a1_5).bind fun t356 => ((cmp_Or_int.f k (([t351, t352, t353, t354, t355, t356] : List Int))).bind fun t360 => (some t360))))))) = some r := H
 have A3 := A_ A30
 clear A30
 replace H := os_ H
 obtain ⟨t352, A40, H⟩ := H
 replace H : ((cmp_Compare_string.f a0_2 a1_2).bind fun t353 => ((cmp_Compare_string.f a0_3 a1_3).bind fun t354 => ((cmp_Compare_int64.f a0_4 a1_4).bind fun t355 => ((cmp_Compare_int64.f a0_5 a1_5).bind fun t356 => ((cmp_Or_int.f k (([t351, t352, t353, t354, t355, t356] : List Int))).bind fun t360 => (some t360)))))) = some r := H
 have A4 := A_ A40
 clear A40
 replace H := os_ H
 obtain ⟨t353, A50, H⟩ := H
 replace H : ((cmp_Compare_string.f a0_3 a1_3).bind fun t354 => ((cmp_Compare_int64.f a0_4 a1_4).bind fun t355 => ((cmp_Compare_int64.f a0_5 a1_5).bind fun t356 => ((cmp_Or_int.f k (([t351, t352, t353, t354, t355, t356] : List Int))).bind fun t360 => (some t360))))) = some r := H
 have A5 := A_ A50
 clear A50
 replace H := os_ H
 obtain ⟨t354, A60, H⟩ := H
 replace H : ((cmp_Compare_int64.f a0_4 a1_4).bind fun t355 => ((cmp_Compare_int64.f a0_5 a1_5).bind fun t356 => ((cmp_Or_int.f k (([t351, t352, t353, t354, t355, t356] : List Int))).bind fun t360 => (some t360)))) = some r := H
 have A6 := A_ A60
 clear A60
 replace H := os_ H
 obtain ⟨t355, A70, H⟩ := H
 replace H : ((cmp_Compare_int64.f a0_5 a1_5).bind fun t356 => ((cmp_Or_int.f k (([t351, t352, t353, t354, t355, t356] : List Int))).bind fun t360 => (some t360))) = some r := H
 have A7 := A_ A70
 clear A70
 replace H := os_ H
 obtain ⟨t356, A80, H⟩ := H
 replace H : ((cmp_Or_int.f k (([t351, t352, t353, t354, t355, t356] : List Int))).bind fun t360 => (some t360)) = some r := H
 have A8 := A_ A80
 clear A80
 obtain ⟨y357, hy357⟩ : ∃ y_ : List Int, y_ = (([t351, t352, t353, t354, t355, t356] : List Int)) := ⟨_, rfl⟩
 replace H : ((cmp_Or_int.f k y357).bind fun t360 => (some t360)) = some r := by first | (rw [hy357]; with_reducible exact H) | (have H2_ := (Option.bind_some _ _).symm.trans H; rw [hy357]; with_reducible exact H2_) | (have H2_ := (Option.bind_some _ _).symm.trans H; with_reducible exact H2_) | with_reducible exact H | (rw [hy357]; exact H) | exact H
 have Ny357 := A_ hy357
 clear hy357
 replace H := os_ H
 obtain ⟨t360, A90, H⟩ := H
 replace H : (some t360) = some r := H
 have A9 := A_ A90
 clear A90
 obtain rfl := Option.some.inj H
 go_enter Tryd.func18, Tryd.ntmps18
 try go_wp2_with (first | ((with_reducible refine gate_dst (N := 2) rfl ?_); refine box_event ?hg (N := 2) ?hd (cs := #[.int .i64 a0_0, .string a0_1, .string a0_2, .string a0_3, .int .i64 a0_4, .int .i64 a0_5]) (t := 28) ?hr ?_; (case hd => rfl); (case hg => rfl); (case hr => first | (go_simp; done) | (go_simp; rfl)); intro gb302 hg w10 hbox hb; have n0_ := A_ (bs_ bw_ hb); have n1_ := A_ (hbox); have n2_ := A_ ((by rw [hg]; exact (bz_ bw_) : w.heap.size ≤ gb302)); have n3_ := A_ ((by rw [hg]; exact (bz_ bw_) : w.heap.size ≤ gb302)); clear HB; have HB := n0_; have BK302 := n1_; have GW302 := n2_; have GE302 := n3_; clear n0_ n1_ n2_ n3_; clear hb hbox hg) | ((with_reducible refine gate_dst (N := 3) rfl ?_); refine box_event ?hg (N := 3) ?hd (cs := #[.int .i64 a1_0, .string a1_1, .string a1_2, .string a1_3, .int .i64 a1_4, .int .i64 a1_5]) (t := 28) ?hr ?_; (case hd => rfl); (case hg => rfl); (case hr => first | (go_simp; done) | (go_simp; rfl)); intro gb303 hg w11 hbox hb; have n0_ := A_ (kb_ BK302 hb); have n1_ := A_ (bs_ bw_ hb); have n2_ := A_ (hbox); have n3_ := A_ ((by rw [hg]; exact (bz_ bw_) : w.heap.size ≤ gb303)); have n4_ := A_ ((by rw [hg]; exact (bz_ bw_) : w.heap.size ≤ gb303)); have n5_ := A_ ((by rw [hg]; exact nl_ (lt_ BK302) : gb302 ≠ gb303)); have n6_ := A_ ((by rw [hg]; exact ng_ (lt_ BK302) : gb303 ≠ gb302)); clear BK302; clear HB; have BK302 := n0_; have HB := n1_; have BK303 := n2_; have GW303 := n3_; have GE303 := n4_; have NB302_303 := n5_; have NB303_302 := n6_; clear n0_ n1_ n2_ n3_ n4_ n5_ n6_; clear hb hbox hg))
 have n0_ := A_ (bd_ BK302.out)
 have n1_ := A_ (bd_ BK303.out)
 have n2_ := A_ (b1_ HB.out)
 clear BK302
 clear BK303
 clear HB
 have BK302 := n0_
 have BK303 := n1_
 have HB := n2_
 clear n0_ n1_ n2_
 refine start_ (n := 33) (S := fun w' => w'.cell? ⟨gb302, 0, none⟩ = some (.int .i64 a0_0) ∧ w'.cell? ⟨gb302, 1, none⟩ = some (.string a0_1) ∧ w'.cell? ⟨gb302, 2, none⟩ = some (.string a0_2) ∧ w'.cell? ⟨gb302, 3, none⟩ = some (.string a0_3) ∧ w'.cell? ⟨gb302, 4, none⟩ = some (.int .i64 a0_4) ∧ w'.cell? ⟨gb302, 5, none⟩ = some (.int .i64 a0_5) ∧ w'.cell? ⟨gb303, 0, none⟩ = some (.int .i64 a1_0) ∧ w'.cell? ⟨gb303, 1, none⟩ = some (.string a1_1) ∧ w'.cell? ⟨gb303, 2, none⟩ = some (.string a1_2) ∧ w'.cell? ⟨gb303, 3, none⟩ = some (.string a1_3) ∧ w'.cell? ⟨gb303, 4, none⟩ = some (.int .i64 a1_4) ∧ w'.cell? ⟨gb303, 5, none⟩ = some (.int .i64 a1_5)) (ds := []) #[false, false, false, false, false, false, false, false, false, false, false, false, false, false, false, false, false, false, false, false, false, false, false, false, false, false, false, false, false, false, false, false, false] (by kernel_rfl) rfl rfl ⟨(bc_ BK302.out 0).trans rfl, (bc_ BK302.out 1).trans rfl, (bc_ BK302.out 2).trans rfl, (bc_ BK302.out 3).trans rfl, (bc_ BK302.out 4).trans rfl, (bc_ BK302.out 5).trans rfl, (bc_ BK303.out 0).trans rfl, (bc_ BK303.out 1).trans rfl, (bc_ BK303.out 2).trans rfl, (bc_ BK303.out 3).trans rfl, (bc_ BK303.out 4).trans rfl, (bc_ BK303.out 5).trans rfl⟩ (fun hHeld => ?_); refine with_tabW trade_Compare.tab1 trade_Compare.bits1 (fun HT_ HW_ => ?_)
 generalize w11.drew = w12 at BK302 BK303 HB hHeld ⊢
 refine pure_ (i := 0) (N := some 5) (v := ?_) (a' := ?_) #[true, false, false, false, false, false, false, false, false, false, false, false, false, false, false, false, false, false, false, false, false, false, false, false, false, false, false, false, false, false, false, false, false] rfl rfl (any_of HT_.out (by kernel_rfl)) (fun _ _ _ h => h) (Or.inl ⟨by rfl, ?_⟩) ?_ ?_
 rotate_left
 ·
  intro w'
  go_simp
  with_reducible rfl
 rotate_left
 ·
  simp only [Act.put, sA_, sZ_, sS_, i64_w, i32_w]
  rfl
 refine pure_ (i := 2) (N := some 7) (v := ?_) (a' := ?_) #[true, false, true, false, false, false, false, false, false, false, false, false, false, false, false, false, false, false, false, false, false, false, false, false, false, false, false, false, false, false, false, false, false] rfl rfl (any_of HT_.out (by kernel_rfl)) (fun _ _ _ h => h) (Or.inl ⟨by rfl, ?_⟩) ?_ ?_
 rotate_left
 ·
  intro w'
  go_simp
  with_reducible rfl
 rotate_left
 ·
  simp only [Act.put, sA_, sZ_, sS_, i64_w, i32_w]
  rfl
 refine pure_ (i := 5) (N := some 10) (v := ?_) (a' := ?_) #[true, false, true, false, false, true, false, false, false, false, false, false, false, false, false, false, false, false, false, false, false, false, false, false, false, false, false, false, false, false, false, false, false] rfl rfl (any_of HT_.out (by kernel_rfl)) (fun _ _ _ h => h) (Or.inl ⟨by rfl, ?_⟩) ?_ ?_
 rotate_left
 ·
  intro w'
  go_simp
  with_reducible rfl
 rotate_left
 ·
  simp only [Act.put, sA_, sZ_, sS_, i64_w, i32_w]
  rfl
 refine pure_ (i := 7) (N := some 12) (v := ?_) (a' := ?_) #[true, false, true, false, false, true, false, true, false, false, false, false, false, false, false, false, false, false, false, false, false, false, false, false, false, false, false, false, false, false, false, false, false] rfl rfl (any_of HT_.out (by kernel_rfl)) (fun _ _ _ h => h) (Or.inl ⟨by rfl, ?_⟩) ?_ ?_
 rotate_left
 ·
  intro w'
  go_simp
  with_reducible rfl
 rotate_left
 ·
  simp only [Act.put, sA_, sZ_, sS_, i64_w, i32_w]
  rfl
 refine pure_ (i := 10) (N := some 15) (v := ?_) (a' := ?_) #[true, false, true, false, false, true, false, true, false, false, true, false, false, false, false, false, false, false, false, false, false, false, false, false, false, false, false, false, false, false, false, false, false] rfl rfl (any_of HT_.out (by kernel_rfl)) (fun _ _ _ h => h) (Or.inl ⟨by rfl, ?_⟩) ?_ ?_
 rotate_left
 ·
  intro w'
  go_simp
  with_reducible rfl
 rotate_left
 ·
  simp only [Act.put, sA_, sZ_, sS_, i64_w, i32_w]
  rfl
 refine pure_ (i := 12) (N := some 17) (v := ?_) (a' := ?_) #[true, false, true, false, false, true, false, true, false, false, true, false, true, false, false, false, false, false, false, false, false, false, false, false, false, false, false, false, false, false, false, false, false] rfl rfl (any_of HT_.out (by kernel_rfl)) (fun _ _ _ h => h) (Or.inl ⟨by rfl, ?_⟩) ?_ ?_
 rotate_left
 ·
  intro w'
  go_simp
  with_reducible rfl
 rotate_left
 ·
  simp only [Act.put, sA_, sZ_, sS_, i64_w, i32_w]
  rfl
 refine pure_ (i := 15) (N := some 20) (v := ?_) (a' := ?_) #[true, false, true, false, false, true, false, true, false, false, true, false, true, false, false, true, false, false, false, false, false, false, false, false, false, false, false, false, false, false, false, false, false] rfl rfl (any_of HT_.out (by kernel_rfl)) (fun _ _ _ h => h) (Or.inl ⟨by rfl, ?_⟩) ?_ ?_
 rotate_left
 ·
  intro w'
  go_simp
  with_reducible rfl
 rotate_left
 ·
  simp only [Act.put, sA_, sZ_, sS_, i64_w, i32_w]
  rfl
 refine pure_ (i := 17) (N := some 22) (v := ?_) (a' := ?_) #[true, false, true, false, false, true, false, true, false, false, true, false, true, false, false, true, false, true, false, false, false, false, false, false, false, false, false, false, false, false, false, false, false] rfl rfl (any_of HT_.out (by kernel_rfl)) (fun _ _ _ h => h) (Or.inl ⟨by rfl, ?_⟩) ?_ ?_
 rotate_left
 ·
  intro w'
  go_simp
  with_reducible rfl
 rotate_left
 ·
  simp only [Act.put, sA_, sZ_, sS_, i64_w, i32_w]
  rfl
 refine pure_ (i := 20) (N := some 25) (v := ?_) (a' := ?_) #[true, false, true, false, false, true, false, true, false, false, true, false, true, false, false, true, false, true, false, false, true, false, false, false, false, false, false, false, false, false, false, false, false] rfl rfl (any_of HT_.out (by kernel_rfl)) (fun _ _ _ h => h) (Or.inl ⟨by rfl, ?_⟩) ?_ ?_
 rotate_left
 ·
  intro w'
  go_simp
  with_reducible rfl
 rotate_left
 ·
  simp only [Act.put, sA_, sZ_, sS_, i64_w, i32_w]
  rfl
 refine pure_ (i := 22) (N := some 27) (v := ?_) (a' := ?_) #[true, false, true, false, false, true, false, true, false, false, true, false, true, false, false, true, false, true, false, false, true, false, true, false, false, false, false, false, false, false, false, false, false] rfl rfl (any_of HT_.out (by kernel_rfl)) (fun _ _ _ h => h) (Or.inl ⟨by rfl, ?_⟩) ?_ ?_
 rotate_left
 ·
  intro w'
  go_simp
  with_reducible rfl
 rotate_left
 ·
  simp only [Act.put, sA_, sZ_, sS_, i64_w, i32_w]
  rfl
 refine pure_ (i := 25) (N := some 30) (v := ?_) (a' := ?_) #[true, false, true, false, false, true, false, true, false, false, true, false, true, false, false, true, false, true, false, false, true, false, true, false, false, true, false, false, false, false, false, false, false] rfl rfl (any_of HT_.out (by kernel_rfl)) (fun _ _ _ h => h) (Or.inl ⟨by rfl, ?_⟩) ?_ ?_
 rotate_left
 ·
  intro w'
  go_simp
  with_reducible rfl
 rotate_left
 ·
  simp only [Act.put, sA_, sZ_, sS_, i64_w, i32_w]
  rfl
 refine pure_ (i := 27) (N := some 32) (v := ?_) (a' := ?_) #[true, false, true, false, false, true, false, true, false, false, true, false, true, false, false, true, false, true, false, false, true, false, true, false, false, true, false, true, false, false, false, false, false] rfl rfl (any_of HT_.out (by kernel_rfl)) (fun _ _ _ h => h) (Or.inl ⟨by rfl, ?_⟩) ?_ ?_
 rotate_left
 ·
  intro w'
  go_simp
  with_reducible rfl
 rotate_left
 ·
  simp only [Act.put, sA_, sZ_, sS_, i64_w, i32_w]
  rfl
 refine take_ (i := 1) (N := some 6) (v := ?_) (a' := ?_) #[true, true, true, false, false, true, false, true, false, false, true, false, true, false, false, true, false, true, false, false, true, false, true, false, false, true, false, true, false, false, false, false, false] rfl rfl (take_ofW HT_.out HW_.out (by kernel_rfl)) (fun _ _ _ h => h) (Or.inl ⟨by rfl, ?_⟩) hHeld ?_ ?_
 rotate_left
 ·
  rintro w' ⟨s0, s1, s2, s3, s4, s5, s6, s7, s8, s9, s10, s11⟩
  go_simp
  with_reducible rfl
 rotate_left
 ·
  simp only [Act.put, sA_, sZ_, sS_, i64_w, i32_w]
  rfl
 refine take_ (i := 3) (N := some 8) (v := ?_) (a' := ?_) #[true, true, true, true, false, true, false, true, false, false, true, false, true, false, false, true, false, true, false, false, true, false, true, false, false, true, false, true, false, false, false, false, false] rfl rfl (take_ofW HT_.out HW_.out (by kernel_rfl)) (fun _ _ _ h => h) (Or.inl ⟨by rfl, ?_⟩) hHeld ?_ ?_
 rotate_left
 ·
  rintro w' ⟨s0, s1, s2, s3, s4, s5, s6, s7, s8, s9, s10, s11⟩
  go_simp
  with_reducible rfl
 rotate_left
 ·
  simp only [Act.put, sA_, sZ_, sS_, i64_w, i32_w]
  rfl
 refine take_ (i := 6) (N := some 11) (v := ?_) (a' := ?_) #[true, true, true, true, false, true, true, true, false, false, true, false, true, false, false, true, false, true, false, false, true, false, true, false, false, true, false, true, false, false, false, false, false] rfl rfl (take_ofW HT_.out HW_.out (by kernel_rfl)) (fun _ _ _ h => h) (Or.inl ⟨by rfl, ?_⟩) hHeld ?_ ?_
 rotate_left
 ·
  rintro w' ⟨s0, s1, s2, s3, s4, s5, s6, s7, s8, s9, s10, s11⟩
  go_simp
  with_reducible rfl
 rotate_left
 ·
  simp only [Act.put, sA_, sZ_, sS_, i64_w, i32_w]
  rfl
 refine take_ (i := 8) (N := some 13) (v := ?_) (a' := ?_) #[true, true, true, true, false, true, true, true, true, false, true, false, true, false, false, true, false, true, false, false, true, false, true, false, false, true, false, true, false, false, false, false, false] rfl rfl (take_ofW HT_.out HW_.out (by kernel_rfl)) (fun _ _ _ h => h) (Or.inl ⟨by rfl, ?_⟩) hHeld ?_ ?_
 rotate_left
 ·
  rintro w' ⟨s0, s1, s2, s3, s4, s5, s6, s7, s8, s9, s10, s11⟩
  go_simp
  with_reducible rfl
 rotate_left
 ·
  simp only [Act.put, sA_, sZ_, sS_, i64_w, i32_w]
  rfl
 refine take_ (i := 11) (N := some 16) (v := ?_) (a' := ?_) #[true, true, true, true, false, true, true, true, true, false, true, true, true, false, false, true, false, true, false, false, true, false, true, false, false, true, false, true, false, false, false, false, false] rfl rfl (take_ofW HT_.out HW_.out (by kernel_rfl)) (fun _ _ _ h => h) (Or.inl ⟨by rfl, ?_⟩) hHeld ?_ ?_
 rotate_left
 ·
  rintro w' ⟨s0, s1, s2, s3, s4, s5, s6, s7, s8, s9, s10, s11⟩
  go_simp
  with_reducible rfl
 rotate_left
 ·
  simp only [Act.put, sA_, sZ_, sS_, i64_w, i32_w]
  rfl
 refine take_ (i := 13) (N := some 18) (v := ?_) (a' := ?_) #[true, true, true, true, false, true, true, true, true, false, true, true, true, true, false, true, false, true, false, false, true, false, true, false, false, true, false, true, false, false, false, false, false] rfl rfl (take_ofW HT_.out HW_.out (by kernel_rfl)) (fun _ _ _ h => h) (Or.inl ⟨by rfl, ?_⟩) hHeld ?_ ?_
 rotate_left
 ·
  rintro w' ⟨s0, s1, s2, s3, s4, s5, s6, s7, s8, s9, s10, s11⟩
  go_simp
  with_reducible rfl
 rotate_left
 ·
  simp only [Act.put, sA_, sZ_, sS_, i64_w, i32_w]
  rfl
 refine take_ (i := 16) (N := some 21) (v := ?_) (a' := ?_) #[true, true, true, true, false, true, true, true, true, false, true, true, true, true, false, true, true, true, false, false, true, false, true, false, false, true, false, true, false, false, false, false, false] rfl rfl (take_ofW HT_.out HW_.out (by kernel_rfl)) (fun _ _ _ h => h) (Or.inl ⟨by rfl, ?_⟩) hHeld ?_ ?_
 rotate_left
 ·
  rintro w' ⟨s0, s1, s2, s3, s4, s5, s6, s7, s8, s9, s10, s11⟩
  go_simp
  with_reducible rfl
 rotate_left
 ·
  simp only [Act.put, sA_, sZ_, sS_, i64_w, i32_w]
  rfl
 refine take_ (i := 18) (N := some 23) (v := ?_) (a' := ?_) #[true, true, true, true, false, true, true, true, true, false, true, true, true, true, false, true, true, true, true, false, true, false, true, false, false, true, false, true, false, false, false, false, false] rfl rfl (take_ofW HT_.out HW_.out (by kernel_rfl)) (fun _ _ _ h => h) (Or.inl ⟨by rfl, ?_⟩) hHeld ?_ ?_
 rotate_left
 ·
  rintro w' ⟨s0, s1, s2, s3, s4, s5, s6, s7, s8, s9, s10, s11⟩
  go_simp
  with_reducible rfl
 rotate_left
 ·
  simp only [Act.put, sA_, sZ_, sS_, i64_w, i32_w]
  rfl
 refine take_ (i := 21) (N := some 26) (v := ?_) (a' := ?_) #[true, true, true, true, false, true, true, true, true, false, true, true, true, true, false, true, true, true, true, false, true, true, true, false, false, true, false, true, false, false, false, false, false] rfl rfl (take_ofW HT_.out HW_.out (by kernel_rfl)) (fun _ _ _ h => h) (Or.inl ⟨by rfl, ?_⟩) hHeld ?_ ?_
 rotate_left
 ·
  rintro w' ⟨s0, s1, s2, s3, s4, s5, s6, s7, s8, s9, s10, s11⟩
  go_simp
  with_reducible rfl
 rotate_left
 ·
  simp only [Act.put, sA_, sZ_, sS_, i64_w, i32_w]
  rfl
 refine take_ (i := 23) (N := some 28) (v := ?_) (a' := ?_) #[true, true, true, true, false, true, true, true, true, false, true, true, true, true, false, true, true, true, true, false, true, true, true, true, false, true, false, true, false, false, false, false, false] rfl rfl (take_ofW HT_.out HW_.out (by kernel_rfl)) (fun _ _ _ h => h) (Or.inl ⟨by rfl, ?_⟩) hHeld ?_ ?_
 rotate_left
 ·
  rintro w' ⟨s0, s1, s2, s3, s4, s5, s6, s7, s8, s9, s10, s11⟩
  go_simp
  with_reducible rfl
 rotate_left
 ·
  simp only [Act.put, sA_, sZ_, sS_, i64_w, i32_w]
  rfl
 refine take_ (i := 26) (N := some 31) (v := ?_) (a' := ?_) #[true, true, true, true, false, true, true, true, true, false, true, true, true, true, false, true, true, true, true, false, true, true, true, true, false, true, true, true, false, false, false, false, false] rfl rfl (take_ofW HT_.out HW_.out (by kernel_rfl)) (fun _ _ _ h => h) (Or.inl ⟨by rfl, ?_⟩) hHeld ?_ ?_
 rotate_left
 ·
  rintro w' ⟨s0, s1, s2, s3, s4, s5, s6, s7, s8, s9, s10, s11⟩
  go_simp
  with_reducible rfl
 rotate_left
 ·
  simp only [Act.put, sA_, sZ_, sS_, i64_w, i32_w]
  rfl
 refine take_ (i := 28) (N := some 33) (v := ?_) (a' := ?_) #[true, true, true, true, false, true, true, true, true, false, true, true, true, true, false, true, true, true, true, false, true, true, true, true, false, true, true, true, true, false, false, false, false] rfl rfl (take_ofW HT_.out HW_.out (by kernel_rfl)) (fun _ _ _ h => h) (Or.inl ⟨by rfl, ?_⟩) hHeld ?_ ?_
 rotate_left
 ·
  rintro w' ⟨s0, s1, s2, s3, s4, s5, s6, s7, s8, s9, s10, s11⟩
  go_simp
  with_reducible rfl
 rotate_left
 ·
  simp only [Act.put, sA_, sZ_, sS_, i64_w, i32_w]
  rfl
 refine one_ (i := 4) (N := some 9) #[true, true, true, true, true, true, true, true, true, false, true, true, true, true, false, true, true, true, true, false, true, true, true, true, false, true, true, true, true, false, false, false, false] rfl rfl (one_of HT_.out (by kernel_rfl)) (by decide) (fun K hK => ?_)
 refine goes_ Tryd.func35 (by kernel_rfl) rfl #[.int .i64 a0_0, .int .i64 a1_0] (by rfl) rfl rfl (by (try simp only [List.map_toArray, List.map_cons, List.map_nil]); first | done | rfl | (simp only [List.length_drop, List.length_take]; rfl)) ?_
 with_reducible refine (cmp_Compare_int64.calls a0_0 a1_0 t351 _ A3.out).mono ?_
 rintro e w' ⟨rfl, ⟨nd, rfl⟩⟩
 refine ⟨_, rfl, ?_⟩
 refine hK.out _ _ ⟨(bc_ BK302.out 0).trans rfl, (bc_ BK302.out 1).trans rfl, (bc_ BK302.out 2).trans rfl, (bc_ BK302.out 3).trans rfl, (bc_ BK302.out 4).trans rfl, (bc_ BK302.out 5).trans rfl, (bc_ BK303.out 0).trans rfl, (bc_ BK303.out 1).trans rfl, (bc_ BK303.out 2).trans rfl, (bc_ BK303.out 3).trans rfl, (bc_ BK303.out 4).trans rfl, (bc_ BK303.out 5).trans rfl⟩ (fun hHeld => ?_)
 clear hK K
 refine norm_ (a' := ?_) ?_ ?_
 rotate_left
 ·
  show Act.put _ (some 9) _ = _
  simp only [Act.put, sA_, sZ_, sS_, i64_w, i32_w]
  rfl
 refine one_ (i := 9) (N := some 14) #[true, true, true, true, true, true, true, true, true, true, true, true, true, true, false, true, true, true, true, false, true, true, true, true, false, true, true, true, true, false, false, false, false] rfl rfl (one_of HT_.out (by kernel_rfl)) (by decide) (fun K hK => ?_)
 refine goes_ Tryd.func36 (by kernel_rfl) rfl #[.string a0_1, .string a1_1] (by rfl) rfl rfl (by (try simp only [List.map_toArray, List.map_cons, List.map_nil]); first | done | rfl | (simp only [List.length_drop, List.length_take]; rfl)) ?_
 with_reducible refine (cmp_Compare_string.calls a0_1 a1_1 t352 _ A4.out).mono ?_
 rintro e w' ⟨rfl, ⟨nd, rfl⟩⟩
 refine ⟨_, rfl, ?_⟩
 refine hK.out _ _ ⟨(bc_ BK302.out 0).trans rfl, (bc_ BK302.out 1).trans rfl, (bc_ BK302.out 2).trans rfl, (bc_ BK302.out 3).trans rfl, (bc_ BK302.out 4).trans rfl, (bc_ BK302.out 5).trans rfl, (bc_ BK303.out 0).trans rfl, (bc_ BK303.out 1).trans rfl, (bc_ BK303.out 2).trans rfl, (bc_ BK303.out 3).trans rfl, (bc_ BK303.out 4).trans rfl, (bc_ BK303.out 5).trans rfl⟩ (fun hHeld => ?_)
 clear hK K
 refine norm_ (a' := ?_) ?_ ?_
 rotate_left
 ·
  show Act.put _ (some 14) _ = _
  simp only [Act.put, sA_, sZ_, sS_, i64_w, i32_w]
  rfl
 refine one_ (i := 14) (N := some 19) #[true, true, true, true, true, true, true, true, true, true, true, true, true, true, true, true, true, true, true, false, true, true, true, true, false, true, true, true, true, false, false, false, false] rfl rfl (one_of HT_.out (by kernel_rfl)) (by decide) (fun K hK => ?_)
 refine goes_ Tryd.func36 (by kernel_rfl) rfl #[.string a0_2, .string a1_2] (by rfl) rfl rfl (by (try simp only [List.map_toArray, List.map_cons, List.map_nil]); first | done | rfl | (simp only [List.length_drop, List.length_take]; rfl)) ?_
 with_reducible refine (cmp_Compare_string.calls a0_2 a1_2 t353 _ A5.out).mono ?_
 rintro e w' ⟨rfl, ⟨nd, rfl⟩⟩
 refine ⟨_, rfl, ?_⟩
 refine hK.out _ _ ⟨(bc_ BK302.out 0).trans rfl, (bc_ BK302.out 1).trans rfl, (bc_ BK302.out 2).trans rfl, (bc_ BK302.out 3).trans rfl, (bc_ BK302.out 4).trans rfl, (bc_ BK302.out 5).trans rfl, (bc_ BK303.out 0).trans rfl, (bc_ BK303.out 1).trans rfl, (bc_ BK303.out 2).trans rfl, (bc_ BK303.out 3).trans rfl, (bc_ BK303.out 4).trans rfl, (bc_ BK303.out 5).trans rfl⟩ (fun hHeld => ?_)
 clear hK K
 refine norm_ (a' := ?_) ?_ ?_
 rotate_left
 ·
  show Act.put _ (some 19) _ = _
  simp only [Act.put, sA_, sZ_, sS_, i64_w, i32_w]
  rfl
 refine one_ (i := 19) (N := some 24) #[true, true, true, true, true, true, true, true, true, true, true, true, true, true, true, true, true, true, true, true, true, true, true, true, false, true, true, true, true, false, false, false, false] rfl rfl (one_of HT_.out (by kernel_rfl)) (by decide) (fun K hK => ?_)
 refine goes_ Tryd.func36 (by kernel_rfl) rfl #[.string a0_3, .string a1_3] (by rfl) rfl rfl (by (try simp only [List.map_toArray, List.map_cons, List.map_nil]); first | done | rfl | (simp only [List.length_drop, List.length_take]; rfl)) ?_
 with_reducible refine (cmp_Compare_string.calls a0_3 a1_3 t354 _ A6.out).mono ?_
 rintro e w' ⟨rfl, ⟨nd, rfl⟩⟩
 refine ⟨_, rfl, ?_⟩
 refine hK.out _ _ ⟨(bc_ BK302.out 0).trans rfl, (bc_ BK302.out 1).trans rfl, (bc_ BK302.out 2).trans rfl, (bc_ BK302.out 3).trans rfl, (bc_ BK302.out 4).trans rfl, (bc_ BK302.out 5).trans rfl, (bc_ BK303.out 0).trans rfl, (bc_ BK303.out 1).trans rfl, (bc_ BK303.out 2).trans rfl, (bc_ BK303.out 3).trans rfl, (bc_ BK303.out 4).trans rfl, (bc_ BK303.out 5).trans rfl⟩ (fun hHeld => ?_)
 clear hK K
 refine norm_ (a' := ?_) ?_ ?_
 rotate_left
 ·
  show Act.put _ (some 24) _ = _
  simp only [Act.put, sA_, sZ_, sS_, i64_w, i32_w]
  rfl
 refine one_ (i := 24) (N := some 29) #[true, true, true, true, true, true, true, true, true, true, true, true, true, true, true, true, true, true, true, true, true, true, true, true, true, true, true, true, true, false, false, false, false] rfl rfl (one_of HT_.out (by kernel_rfl)) (by decide) (fun K hK => ?_)
 refine goes_ Tryd.func35 (by kernel_rfl) rfl #[.int .i64 a0_4, .int .i64 a1_4] (by rfl) rfl rfl (by (try simp only [List.map_toArray, List.map_cons, List.map_nil]); first | done | rfl | (simp only [List.length_drop, List.length_take]; rfl)) ?_
 with_reducible refine (cmp_Compare_int64.calls a0_4 a1_4 t355 _ A7.out).mono ?_
 rintro e w' ⟨rfl, ⟨nd, rfl⟩⟩
 refine ⟨_, rfl, ?_⟩
 refine hK.out _ _ ⟨(bc_ BK302.out 0).trans rfl, (bc_ BK302.out 1).trans rfl, (bc_ BK302.out 2).trans rfl, (bc_ BK302.out 3).trans rfl, (bc_ BK302.out 4).trans rfl, (bc_ BK302.out 5).trans rfl, (bc_ BK303.out 0).trans rfl, (bc_ BK303.out 1).trans rfl, (bc_ BK303.out 2).trans rfl, (bc_ BK303.out 3).trans rfl, (bc_ BK303.out 4).trans rfl, (bc_ BK303.out 5).trans rfl⟩ (fun hHeld => ?_)
 clear hK K
 refine norm_ (a' := ?_) ?_ ?_
 rotate_left
 ·
  show Act.put _ (some 29) _ = _
  simp only [Act.put, sA_, sZ_, sS_, i64_w, i32_w]
  rfl
 refine one_ (i := 29) (N := some 34) #[true, true, true, true, true, true, true, true, true, true, true, true, true, true, true, true, true, true, true, true, true, true, true, true, true, true, true, true, true, true, false, false, false] rfl rfl (one_of HT_.out (by kernel_rfl)) (by decide) (fun K hK => ?_)
 refine goes_ Tryd.func35 (by kernel_rfl) rfl #[.int .i64 a0_5, .int .i64 a1_5] (by rfl) rfl rfl (by (try simp only [List.map_toArray, List.map_cons, List.map_nil]); first | done | rfl | (simp only [List.length_drop, List.length_take]; rfl)) ?_
 with_reducible refine (cmp_Compare_int64.calls a0_5 a1_5 t356 _ A8.out).mono ?_
 rintro e w' ⟨rfl, ⟨nd, rfl⟩⟩
 refine ⟨_, rfl, ?_⟩
 refine hK.out _ _ ⟨(bc_ BK302.out 0).trans rfl, (bc_ BK302.out 1).trans rfl, (bc_ BK302.out 2).trans rfl, (bc_ BK302.out 3).trans rfl, (bc_ BK302.out 4).trans rfl, (bc_ BK302.out 5).trans rfl, (bc_ BK303.out 0).trans rfl, (bc_ BK303.out 1).trans rfl, (bc_ BK303.out 2).trans rfl, (bc_ BK303.out 3).trans rfl, (bc_ BK303.out 4).trans rfl, (bc_ BK303.out 5).trans rfl⟩ (fun hHeld => ?_)
 clear hK K
 refine norm_ (a' := ?_) ?_ ?_
 rotate_left
 ·
  show Act.put _ (some 34) _ = _
  simp only [Act.put, sA_, sZ_, sS_, i64_w, i32_w]
  rfl
 refine one_ (i := 30) (N := some 35) #[true, true, true, true, true, true, true, true, true, true, true, true, true, true, true, true, true, true, true, true, true, true, true, true, true, true, true, true, true, true, true, false, false] rfl rfl (one_of HT_.out (by kernel_rfl)) (by decide) (fun K hK => ?_)
 refine Kd.R_lit_step (Kd.int .i64) _ 3 ?hg (N := 35) ?hd (xs := ([t351, t352, t353, t354, t355, t356] : List Int)) (inner := [.int .i64 t351, .int .i64 t352, .int .i64 t353, .int .i64 t354, .int .i64 t355, .int .i64 t356]) (ok := fun _ => True) (okp := fun _ => True) ?hr ?hp (fun _ hk => hk) trivial (Below.refl _ _) (Nat.le_refl _) (by simp) ?_; (case hd => rfl); (case hg => rfl); (case hr => first | (go_simp; done) | (go_simp; rfl)); (case hp => exact (Reps.one (show Kd.M (Kd.int .i64) _ _ _ t351 [.int .i64 t351] from rfl) (Reps.one (show Kd.M (Kd.int .i64) _ _ _ t352 [.int .i64 t352] from rfl) (Reps.one (show Kd.M (Kd.int .i64) _ _ _ t353 [.int .i64 t353] from rfl) (Reps.one (show Kd.M (Kd.int .i64) _ _ _ t354 [.int .i64 t354] from rfl) (Reps.one (show Kd.M (Kd.int .i64) _ _ _ t355 [.int .i64 t355] from rfl) (Reps.one (show Kd.M (Kd.int .i64) _ _ _ t356 [.int .i64 t356] from rfl) (Reps.none _ _))))))))
 intro v358 w13 ho14 hb hg_ hnew_
 clear hg_ hnew_
 (first | rw [← Ny357.out] at ho14 | (simp only [Int.reduceToNat] at ho14; rw [← Ny357.out] at ho14))
 have n0_ := A_ (Kd.R_lower ho14 (bz_ bw_))
 have n1_ := A_ (kb_ BK302 hb)
 have n2_ := A_ (kb_ BK303 hb)
 have n3_ := A_ (bs_ bw_ hb)
 clear BK302
 clear BK303
 clear HB
 have HO359 := n0_
 have BK302 := n1_
 have BK303 := n2_
 have HB := n3_
 clear n0_ n1_ n2_ n3_
 clear hb ho14
 obtain ⟨Ao15, co15, eo15⟩ := Kd.R_slice HO359.out
 (first | subst eo15 | (injection eo15 with f1_ f2_ f3_; have f4_ := f1_.symm; have f5_ := f3_.symm; clear f1_ f2_ f3_; subst f4_; subst f5_))
 refine hK.out _ _ ⟨(bc_ BK302.out 0).trans rfl, (bc_ BK302.out 1).trans rfl, (bc_ BK302.out 2).trans rfl, (bc_ BK302.out 3).trans rfl, (bc_ BK302.out 4).trans rfl, (bc_ BK302.out 5).trans rfl, (bc_ BK303.out 0).trans rfl, (bc_ BK303.out 1).trans rfl, (bc_ BK303.out 2).trans rfl, (bc_ BK303.out 3).trans rfl, (bc_ BK303.out 4).trans rfl, (bc_ BK303.out 5).trans rfl⟩ (fun hHeld => ?_)
 clear hK K
 refine norm_ (a' := ?_) ?_ ?_
 rotate_left
 ·
  show Act.put _ (some 35) _ = _
  simp only [Act.put, sA_, sZ_, sS_, i64_w, i32_w]
  rfl
 refine one_ (i := 31) (N := some 36) #[true, true, true, true, true, true, true, true, true, true, true, true, true, true, true, true, true, true, true, true, true, true, true, true, true, true, true, true, true, true, true, true, false] rfl rfl (one_of HT_.out (by kernel_rfl)) (by decide) (fun K hK => ?_)
 refine goes_ Tryd.func34 (by kernel_rfl) rfl #[.slice Ao15 y357.length co15] (by rfl) rfl rfl (by (try simp only [List.map_toArray, List.map_cons, List.map_nil]); first | done | rfl | (simp only [List.length_drop, List.length_take]; rfl)) ?_
 with_reducible refine (cmp_Or_int.calls k _ _ y357 t360 _ ?side1 ?side2 A9.out).mono ?_
 (case side1 => repeat (first | exact (Kd.R_reads' HO359.out).2.2 | (with_reducible refine ca_ ?_ _) | (with_reducible refine cn_ ?_ _) | (with_reducible refine cd_ ?_)))
 (case side2 => exact (Kd.R_reads' HO359.out).2.1)
 rintro e w' ⟨rfl, ⟨nd, rfl⟩⟩
 refine ⟨_, rfl, ?_⟩
 refine hK.out _ _ ⟨(bc_ BK302.out 0).trans rfl, (bc_ BK302.out 1).trans rfl, (bc_ BK302.out 2).trans rfl, (bc_ BK302.out 3).trans rfl, (bc_ BK302.out 4).trans rfl, (bc_ BK302.out 5).trans rfl, (bc_ BK303.out 0).trans rfl, (bc_ BK303.out 1).trans rfl, (bc_ BK303.out 2).trans rfl, (bc_ BK303.out 3).trans rfl, (bc_ BK303.out 4).trans rfl, (bc_ BK303.out 5).trans rfl⟩ (fun hHeld => ?_)
 clear hK K
 refine norm_ (a' := ?_) ?_ ?_
 rotate_left
 ·
  show Act.put _ (some 36) _ = _
  simp only [Act.put, sA_, sZ_, sS_, i64_w, i32_w]
  rfl
 refine pure_ (i := 32) (N := some 4) (v := ?_) (a' := ?_) #[true, true, true, true, true, true, true, true, true, true, true, true, true, true, true, true, true, true, true, true, true, true, true, true, true, true, true, true, true, true, true, true, true] rfl rfl (any_of HT_.out (by kernel_rfl)) (fun _ _ _ h => h) (Or.inl ⟨by rfl, ?_⟩) ?_ ?_
 rotate_left
 ·
  intro w'
  go_simp
  with_reducible rfl
 rotate_left
 ·
  simp only [Act.put, sA_, sZ_, sS_, i64_w, i32_w]
  rfl
 refine done_ (done_of HT_.out (by kernel_rfl)) ?_
 try go_wp2
 go_ret
 exact ⟨by first | rfl | (simp [errW_none, errW_some] <;> rfl) | (simp [*, errW_none, errW_some] <;> rfl), bw_⟩
end Go.Proofs.YtjbbigodkhnokaaDoor.Tr
end
section
namespace Go.Proofs.YtjbbigodkhnokaaDoor.Tr
open Go.RowKit Go.Proofs.YtjbbigodkhnokaaDoorW.PrintWords Go.Proofs.YtjbbigodkhnokaaDoorW.PrintLast Go.Proofs.YtjbbigodkhnokaaDoorW.PrintMore
attribute [local go_sem] max2_int min2_int max_two min_two max_three min_three max_four min_four   -- for this text's walks alone
set_option linter.unusedVariables false
set_option linter.unusedSimpArgs false
attribute [local go_sem] run_add64_any
def clevislaw07_To.f (a0_0 : Int) (a0_1 : ByteArray) (a0_2 : ByteArray) (a0_3 : ByteArray) (a0_4 : Int) (a0_5 : Int) : Option (Int × ByteArray × ByteArray × ByteArray × Int × Int) := if 0 ≤ (mn (a0_1.size : Int) 40) then (if (mn (a0_1.size : Int) 40) ≤ (a0_1.size : Int) then (if 0 ≤ (mn (a0_2.size : Int) 40) then (if (mn (a0_2.size : Int) 40) ≤ (a0_2.size : Int) then (if 0 ≤ (mn (a0_3.size : Int) 40) then (if (mn (a0_3.size : Int) 40) ≤ (a0_3.size : Int) then (some (a0_0, a0_1.extract 0 ((mn (a0_1.size : Int) 40) : Int).toNat, a0_2.extract 0 ((mn (a0_2.size : Int) 40) : Int).toNat, a0_3.extract 0 ((mn (a0_3.size : Int) 40) : Int).toNat, a0_4, a0_5)) else (none)) else (none)) else (none)) else (none)) else (none)) else (none)
def clevislaw07_To.T1 : Bool × List (List Nat × List Nat) := (true, [([], []), ([0], [0]), ([], []), ([2], [2]), ([], []), ([4], [4]), ([5], [5]), ([6], [6]), ([3, 7], [3, 7]), ([], []), ([9], [9]), ([], []), ([11], [11]), ([12], [12]), ([13], [13]), ([10, 14], [10, 14]), ([], []), ([16], [16]), ([], []), ([18], [18]), ([19], [19]), ([20], [20]), ([17, 21], [17, 21]), ([], []), ([23], [23]), ([], []), ([25], [25]), ([1, 8, 15, 22, 24, 26], [1, 8, 15, 22, 24, 26]), ([27, 0, 1, 2, 3, 4, 5, 6, 7, 8, 9, 10, 11, 12, 13, 14, 15, 16, 17, 18, 19, 20, 21, 22, 23, 24, 25, 26, 27], [27])])
def clevislaw07_To.B1 : List Nat := [0, 1, 0, 4, 0, 16, 48, 112, 252, 0, 512, 0, 2048, 6144, 14336, 32256, 0, 65536, 0, 262144, 786432, 1835008, 4128768, 0, 8388608, 0, 33554432, 134217727, 268435455]
theorem clevislaw07_To.tab1 : rtab .any (opsOf Tryd.f6 1) = clevislaw07_To.T1 := by kernel_rfl
theorem clevislaw07_To.bits1 : waitsOk clevislaw07_To.T1.2 clevislaw07_To.B1 = true := by kernel_rfl
set_option maxHeartbeats 8000000 in
set_option maxRecDepth 100000 in
theorem clevislaw07_To.calls (a0_0 : Int) (a0_1 : ByteArray) (a0_2 : ByteArray) (a0_3 : ByteArray) (a0_4 : Int) (a0_5 : Int) (r1 : Int) (r2 : ByteArray) (r3 : ByteArray) (r4 : ByteArray) (r5 : Int) (r6 : Int) (w : World) (h : clevislaw07_To.f a0_0 a0_1 a0_2 a0_3 a0_4 a0_5 = some (r1, r2, r3, r4, r5, r6)) :
  Calls Tryd.prog 6 #[.agg #[.int .i64 a0_0, .string a0_1, .string a0_2, .string a0_3, .int .i64 a0_4, .int .i64 a0_5]] w fun e w' => e = .returned (.agg #[.int .i64 r1, .string r2, .string r3, .string r4, .int .i64 r5, .int .i64 r6]) ∧ Below w.heap.size w w' := by
 have hu30 := Tryd.underlying30
 have hu28 := Tryd.underlying28
 have HB := A_ (Below.refl w.heap.size w)
 have H : (if 0 ≤ (mn (a0_1.size : Int) 40) then (if (mn (a0_1.size : Int) 40) ≤ (a0_1.size : Int) then (if 0 ≤ (mn (a0_2.size : Int) 40) then (if (mn (a0_2.size : Int) 40) ≤ (a0_2.size : Int) then (if 0 ≤ (mn (a0_3.size : Int) 40) then (if (mn (a0_3.size : Int) 40) ≤ (a0_3.size : Int) then (some (a0_0, a0_1.extract 0 ((mn (a0_1.size : Int) 40) : Int).toNat, a0_2.extract 0 ((mn (a0_2.size : Int) 40) : Int).toNat, a0_3.extract 0 ((mn (a0_3.size : Int) 40) : Int).toNat, a0_4, a0_5)) else (none)) else (none)) else (none)) else (none)) else (none)) else (none)) = some (r1, r2, r3, r4, r5, r6) := h
 clear h
 obtain ⟨ji2, hji2⟩ : ∃ j_ : Int, (mn (a0_1.size : Int) 40) = j_ := ⟨_, rfl⟩
 replace H : (if 0 ≤ (ji2) then (if (ji2) ≤ (a0_1.size : Int) then (if 0 ≤ (mn (a0_2.size : Int) 40) then (if (mn (a0_2.size : Int) 40) ≤ (a0_2.size : Int) then (if 0 ≤ (mn (a0_3.size : Int) 40) then (if (mn (a0_3.size : Int) 40) ≤ (a0_3.size : Int) then (some (a0_0, a0_1.extract 0 ((ji2) : Int).toNat, a0_2.extract 0 ((mn (a0_2.size : Int) 40) : Int).toNat, a0_3.extract 0 ((mn (a0_3.size : Int) 40) : Int).toNat, a0_4, a0_5)) else (none)) else (none)) else (none)) else (none)) else (none)) else (none)) = some (r1, r2, r3, r4, r5, r6) := by first | (rw [hji2] at H; exact H) | (simp only [hji2] at H ⊢; exact H)
 (try (have hji2h : ji2 ≤ 40 := by (rw [← hji2]; unfold mn; (repeat' split) <;> omega)))
 (try (have hji2g : ji2 ≤ 64 := by omega))
 (try (have hji2l : 0 ≤ ji2 := by (rw [← hji2]; unfold mn; (repeat' split) <;> omega)))
 (try (have hji2m : 0 ≤ ji2 := by omega))
 have hji2_ : (if 40 < (a0_1.size : Int) then 40 else (a0_1.size : Int)) = ji2 := hji2
 by_cases c3 : 0 ≤ (ji2)
 ·
  rw [if_pos c3] at H
  have c3b0 := eq_true c3
  have c3b1 : decide (0 ≤ (ji2)) = true := decide_eq_true c3
  clear c3
  by_cases c4 : (ji2) ≤ (a0_1.size : Int)
  ·
   rw [if_pos c4] at H
   have c4b0 := eq_true c4
   have c4b1 : decide ((ji2) ≤ (a0_1.size : Int)) = true := decide_eq_true c4
   clear c4
   obtain ⟨ji5, hji5⟩ : ∃ j_ : Int, (mn (a0_2.size : Int) 40) = j_ := ⟨_, rfl⟩
   replace H : (if 0 ≤ (ji5) then (if (ji5) ≤ (a0_2.size : Int) then (if 0 ≤ (mn (a0_3.size : Int) 40) then (if (mn (a0_3.size : Int) 40) ≤ (a0_3.size : Int) then (some (a0_0, a0_1.extract 0 ((ji2) : Int).toNat, a0_2.extract 0 ((ji5) : Int).toNat, a0_3.extract 0 ((mn (a0_3.size : Int) 40) : Int).toNat, a0_4, a0_5)) else (none)) else (none)) else (none)) else (none)) = some (r1, r2, r3, r4, r5, r6) := by first | (rw [hji5] at H; exact H) | (simp only [hji5] at H ⊢; exact H)
   (try (have hji5h : ji5 ≤ 40 := by (rw [← hji5]; unfold mn; (repeat' split) <;> omega)))
   (try (have hji5g : ji5 ≤ 64 := by omega))
   (try (have hji5l : 0 ≤ ji5 := by (rw [← hji5]; unfold mn; (repeat' split) <;> omega)))
   (try (have hji5m : 0 ≤ ji5 := by omega))
   have hji5_ : (if 40 < (a0_2.size : Int) then 40 else (a0_2.size : Int)) = ji5 := hji5
   by_cases c6 : 0 ≤ (ji5)
   ·
    rw [if_pos c6] at H
    have c6b0 := eq_true c6
    have c6b1 : decide (0 ≤ (ji5)) = true := decide_eq_true c6
    clear c6
    by_cases c7 : (ji5) ≤ (a0_2.size : Int)
    ·
     rw [if_pos c7] at H
     have c7b0 := eq_true c7
     have c7b1 : decide ((ji5) ≤ (a0_2.size : Int)) = true := decide_eq_true c7
     clear c7
     obtain ⟨ji8, hji8⟩ : ∃ j_ : Int, (mn (a0_3.size : Int) 40) = j_ := ⟨_, rfl⟩
     replace H : (if 0 ≤ (ji8) then (if (ji8) ≤ (a0_3.size : Int) then (some (a0_0, a0_1.extract 0 ((ji2) : Int).toNat, a0_2.extract 0 ((ji5) : Int).toNat, a0_3.extract 0 ((ji8) : Int).toNat, a0_4, a0_5)) else (none)) else (none)) = some (r1, r2, r3, r4, r5, r6) := by first | (rw [hji8] at H; exact H) | (simp only [hji8] at H ⊢; exact H)
     (try (have hji8h : ji8 ≤ 40 := by (rw [← hji8]; unfold mn; (repeat' split) <;> omega)))
     (try (have hji8g : ji8 ≤ 64 := by omega))
     (try (have hji8l : 0 ≤ ji8 := by (rw [← hji8]; unfold mn; (repeat' split) <;> omega)))
     (try (have hji8m : 0 ≤ ji8 := by omega))
     have hji8_ : (if 40 < (a0_3.size : Int) then 40 else (a0_3.size : Int)) = ji8 := hji8
     by_cases c9 : 0 ≤ (ji8)
     ·
      rw [if_pos c9] at H
      have c9b0 := eq_true c9
      have c9b1 : decide (0 ≤ (ji8)) = true := decide_eq_true c9
      clear c9
      by_cases c10 : (ji8) ≤ (a0_3.size : Int)
      ·
       rw [if_pos c10] at H
       have c10b0 := eq_true c10
       have c10b1 : decide ((ji8) ≤ (a0_3.size : Int)) = true := decide_eq_true c10
       clear c10
       simp only [Option.some.injEq, Prod.mk.injEq] at H
       obtain ⟨rfl, rfl, rfl, rfl, rfl, rfl⟩ := H
       go_enter Tryd.func6, Tryd.ntmps6
       try go_wp2_with (first | ((with_reducible refine gate_dst (N := 1) rfl ?_); refine box_event ?hg (N := 1) ?hd (cs := #[.int .i64 a0_0, .string a0_1, .string a0_2, .string a0_3, .int .i64 a0_4, .int .i64 a0_5]) (t := 30) ?hr ?_; (case hd => rfl); (case hg => rfl); (case hr => first | (go_simp; done) | (go_simp; rfl)); intro gb301 hg w11 hbox hb; have n0_ := A_ (bs_ bw_ hb); have n1_ := A_ (hbox); have n2_ := A_ ((by rw [hg]; exact (bz_ bw_) : w.heap.size ≤ gb301)); have n3_ := A_ ((by rw [hg]; exact (bz_ bw_) : w.heap.size ≤ gb301)); clear HB; have HB := n0_; have BK301 := n1_; have GW301 := n2_; have GE301 := n3_; clear n0_ n1_ n2_ n3_; clear hb hbox hg) | ((with_reducible refine gate_dst (N := 2) rfl ?_); refine box_event ?hg (N := 2) ?hd (cs := #[.int .i64 0, .string (⟨#[]⟩ : ByteArray), .string (⟨#[]⟩ : ByteArray), .string (⟨#[]⟩ : ByteArray), .int .i64 0, .int .i64 0]) (t := 28) ?hr ?_; (case hd => rfl); (case hg => rfl); (case hr => first | (go_simp; done) | (go_simp; rfl)); intro gb302 hg w12 hbox hb; have n0_ := A_ (kb_ BK301 hb); have n1_ := A_ (bs_ bw_ hb); have n2_ := A_ (hbox); have n3_ := A_ ((by rw [hg]; exact (bz_ bw_) : w.heap.size ≤ gb302)); have n4_ := A_ ((by rw [hg]; exact (bz_ bw_) : w.heap.size ≤ gb302)); have n5_ := A_ ((by rw [hg]; exact nl_ (lt_ BK301) : gb301 ≠ gb302)); have n6_ := A_ ((by rw [hg]; exact ng_ (lt_ BK301) : gb302 ≠ gb301)); clear BK301; clear HB; have BK301 := n0_; have HB := n1_; have BK302 := n2_; have GW302 := n3_; have GE302 := n4_; have NB301_302 := n5_; have NB302_301 := n6_; clear n0_ n1_ n2_ n3_ n4_ n5_ n6_; clear hb hbox hg))
       have n0_ := A_ (bd_ BK301.out)
       have n1_ := A_ (bd_ BK302.out)
       have n2_ := A_ (b1_ HB.out)
       clear BK301
       clear BK302
       clear HB
       have BK301 := n0_
       have BK302 := n1_
       have HB := n2_
       clear n0_ n1_ n2_
       refine start_ (n := 29) (S := fun w' => w'.cell? ⟨gb301, 0, none⟩ = some (.int .i64 a0_0) ∧ w'.cell? ⟨gb301, 1, none⟩ = some (.string a0_1) ∧ w'.cell? ⟨gb301, 2, none⟩ = some (.string a0_2) ∧ w'.cell? ⟨gb301, 3, none⟩ = some (.string a0_3) ∧ w'.cell? ⟨gb301, 4, none⟩ = some (.int .i64 a0_4) ∧ w'.cell? ⟨gb301, 5, none⟩ = some (.int .i64 a0_5)) (ds := []) #[false, false, false, false, false, false, false, false, false, false, false, false, false, false, false, false, false, false, false, false, false, false, false, false, false, false, false, false, false] (by kernel_rfl) rfl rfl ⟨(bc_ BK301.out 0).trans rfl, (bc_ BK301.out 1).trans rfl, (bc_ BK301.out 2).trans rfl, (bc_ BK301.out 3).trans rfl, (bc_ BK301.out 4).trans rfl, (bc_ BK301.out 5).trans rfl⟩ (fun hHeld => ?_); refine with_tabW clevislaw07_To.tab1 clevislaw07_To.bits1 (fun HT_ HW_ => ?_)
       generalize w12.drew = w13 at BK301 BK302 HB hHeld ⊢
       refine pure_ (i := 0) (N := some 3) (v := ?_) (a' := ?_) #[true, false, false, false, false, false, false, false, false, false, false, false, false, false, false, false, false, false, false, false, false, false, false, false, false, false, false, false, false] rfl rfl (any_of HT_.out (by kernel_rfl)) (fun _ _ _ h => h) (Or.inl ⟨by rfl, ?_⟩) ?_ ?_
       rotate_left
       ·
        intro w'
        go_simp
        with_reducible rfl
       rotate_left
       ·
        simp only [Act.put, sA_, sZ_, sS_, i64_w, i32_w]
        rfl
       refine pure_ (i := 2) (N := some 5) (v := ?_) (a' := ?_) #[true, false, true, false, false, false, false, false, false, false, false, false, false, false, false, false, false, false, false, false, false, false, false, false, false, false, false, false, false] rfl rfl (any_of HT_.out (by kernel_rfl)) (fun _ _ _ h => h) (Or.inl ⟨by rfl, ?_⟩) ?_ ?_
       rotate_left
       ·
        intro w'
        go_simp
        with_reducible rfl
       rotate_left
       ·
        simp only [Act.put, sA_, sZ_, sS_, i64_w, i32_w]
        rfl
       refine pure_ (i := 4) (N := some 7) (v := ?_) (a' := ?_) #[true, false, true, false, true, false, false, false, false, false, false, false, false, false, false, false, false, false, false, false, false, false, false, false, false, false, false, false, false] rfl rfl (any_of HT_.out (by kernel_rfl)) (fun _ _ _ h => h) (Or.inl ⟨by rfl, ?_⟩) ?_ ?_
       rotate_left
       ·
        intro w'
        go_simp
        with_reducible rfl
       rotate_left
       ·
        simp only [Act.put, sA_, sZ_, sS_, i64_w, i32_w]
        rfl
       refine pure_ (i := 9) (N := some 12) (v := ?_) (a' := ?_) #[true, false, true, false, true, false, false, false, false, true, false, false, false, false, false, false, false, false, false, false, false, false, false, false, false, false, false, false, false] rfl rfl (any_of HT_.out (by kernel_rfl)) (fun _ _ _ h => h) (Or.inl ⟨by rfl, ?_⟩) ?_ ?_
       rotate_left
       ·
        intro w'
        go_simp
        with_reducible rfl
       rotate_left
       ·
        simp only [Act.put, sA_, sZ_, sS_, i64_w, i32_w]
        rfl
       refine pure_ (i := 11) (N := some 14) (v := ?_) (a' := ?_) #[true, false, true, false, true, false, false, false, false, true, false, true, false, false, false, false, false, false, false, false, false, false, false, false, false, false, false, false, false] rfl rfl (any_of HT_.out (by kernel_rfl)) (fun _ _ _ h => h) (Or.inl ⟨by rfl, ?_⟩) ?_ ?_
       rotate_left
       ·
        intro w'
        go_simp
        with_reducible rfl
       rotate_left
       ·
        simp only [Act.put, sA_, sZ_, sS_, i64_w, i32_w]
        rfl
       refine pure_ (i := 16) (N := some 19) (v := ?_) (a' := ?_) #[true, false, true, false, true, false, false, false, false, true, false, true, false, false, false, false, true, false, false, false, false, false, false, false, false, false, false, false, false] rfl rfl (any_of HT_.out (by kernel_rfl)) (fun _ _ _ h => h) (Or.inl ⟨by rfl, ?_⟩) ?_ ?_
       rotate_left
       ·
        intro w'
        go_simp
        with_reducible rfl
       rotate_left
       ·
        simp only [Act.put, sA_, sZ_, sS_, i64_w, i32_w]
        rfl
       refine pure_ (i := 18) (N := some 21) (v := ?_) (a' := ?_) #[true, false, true, false, true, false, false, false, false, true, false, true, false, false, false, false, true, false, true, false, false, false, false, false, false, false, false, false, false] rfl rfl (any_of HT_.out (by kernel_rfl)) (fun _ _ _ h => h) (Or.inl ⟨by rfl, ?_⟩) ?_ ?_
       rotate_left
       ·
        intro w'
        go_simp
        with_reducible rfl
       rotate_left
       ·
        simp only [Act.put, sA_, sZ_, sS_, i64_w, i32_w]
        rfl
       refine pure_ (i := 23) (N := some 26) (v := ?_) (a' := ?_) #[true, false, true, false, true, false, false, false, false, true, false, true, false, false, false, false, true, false, true, false, false, false, false, true, false, false, false, false, false] rfl rfl (any_of HT_.out (by kernel_rfl)) (fun _ _ _ h => h) (Or.inl ⟨by rfl, ?_⟩) ?_ ?_
       rotate_left
       ·
        intro w'
        go_simp
        with_reducible rfl
       rotate_left
       ·
        simp only [Act.put, sA_, sZ_, sS_, i64_w, i32_w]
        rfl
       refine pure_ (i := 25) (N := some 28) (v := ?_) (a' := ?_) #[true, false, true, false, true, false, false, false, false, true, false, true, false, false, false, false, true, false, true, false, false, false, false, true, false, true, false, false, false] rfl rfl (any_of HT_.out (by kernel_rfl)) (fun _ _ _ h => h) (Or.inl ⟨by rfl, ?_⟩) ?_ ?_
       rotate_left
       ·
        intro w'
        go_simp
        with_reducible rfl
       rotate_left
       ·
        simp only [Act.put, sA_, sZ_, sS_, i64_w, i32_w]
        rfl
       refine take_ (i := 1) (N := some 4) (v := ?_) (a' := ?_) #[true, true, true, false, true, false, false, false, false, true, false, true, false, false, false, false, true, false, true, false, false, false, false, true, false, true, false, false, false] rfl rfl (take_ofW HT_.out HW_.out (by kernel_rfl)) (fun _ _ _ h => h) (Or.inl ⟨by rfl, ?_⟩) hHeld ?_ ?_
       rotate_left
       ·
        rintro w' ⟨s0, s1, s2, s3, s4, s5⟩
        go_simp
        with_reducible rfl
       rotate_left
       ·
        simp only [Act.put, sA_, sZ_, sS_, i64_w, i32_w]
        rfl
       refine take_ (i := 3) (N := some 6) (v := ?_) (a' := ?_) #[true, true, true, true, true, false, false, false, false, true, false, true, false, false, false, false, true, false, true, false, false, false, false, true, false, true, false, false, false] rfl rfl (take_ofW HT_.out HW_.out (by kernel_rfl)) (fun _ _ _ h => h) (Or.inl ⟨by rfl, ?_⟩) hHeld ?_ ?_
       rotate_left
       ·
        rintro w' ⟨s0, s1, s2, s3, s4, s5⟩
        go_simp
        with_reducible rfl
       rotate_left
       ·
        simp only [Act.put, sA_, sZ_, sS_, i64_w, i32_w]
        rfl
       refine take_ (i := 5) (N := some 8) (v := ?_) (a' := ?_) #[true, true, true, true, true, true, false, false, false, true, false, true, false, false, false, false, true, false, true, false, false, false, false, true, false, true, false, false, false] rfl rfl (take_ofW HT_.out HW_.out (by kernel_rfl)) (fun _ _ _ h => h) (Or.inl ⟨by rfl, ?_⟩) hHeld ?_ ?_
       rotate_left
       ·
        rintro w' ⟨s0, s1, s2, s3, s4, s5⟩
        go_simp
        with_reducible rfl
       rotate_left
       ·
        simp only [Act.put, sA_, sZ_, sS_, i64_w, i32_w]
        rfl
       refine pure_ (i := 6) (N := some 9) (v := ?_) (a' := ?_) #[true, true, true, true, true, true, true, false, false, true, false, true, false, false, false, false, true, false, true, false, false, false, false, true, false, true, false, false, false] rfl rfl (any_of HT_.out (by kernel_rfl)) (fun _ _ _ h => h) (Or.inl ⟨by rfl, ?_⟩) ?_ ?_
       rotate_left
       ·
        intro w'
        go_simp
        with_reducible rfl
       rotate_left
       ·
        simp only [Act.put, sA_, sZ_, sS_, i64_w, i32_w]
        rfl
       refine pure_ (i := 7) (N := some 10) (v := ?_) (a' := ?_) #[true, true, true, true, true, true, true, true, false, true, false, true, false, false, false, false, true, false, true, false, false, false, false, true, false, true, false, false, false] rfl rfl (any_of HT_.out (by kernel_rfl)) (fun _ _ _ h => h) (Or.inl ⟨by rfl, ?_⟩) ?_ ?_
       rotate_left
       ·
        intro w'
        go_simp
        with_reducible rfl
       rotate_left
       ·
        simp only [Act.put, sA_, sZ_, sS_, i64_w, i32_w]
        rfl
       refine pure_ (i := 8) (N := some 11) (v := ?_) (a' := ?_) #[true, true, true, true, true, true, true, true, true, true, false, true, false, false, false, false, true, false, true, false, false, false, false, true, false, true, false, false, false] rfl rfl (any_of HT_.out (by kernel_rfl)) (fun _ _ _ h => h) (Or.inl ⟨by rfl, ?_⟩) ?_ ?_
       rotate_left
       ·
        intro w'
        go_simp
        with_reducible rfl
       rotate_left
       ·
        simp only [Act.put, sA_, sZ_, sS_, i64_w, i32_w]
        rfl
       refine take_ (i := 10) (N := some 13) (v := ?_) (a' := ?_) #[true, true, true, true, true, true, true, true, true, true, true, true, false, false, false, false, true, false, true, false, false, false, false, true, false, true, false, false, false] rfl rfl (take_ofW HT_.out HW_.out (by kernel_rfl)) (fun _ _ _ h => h) (Or.inl ⟨by rfl, ?_⟩) hHeld ?_ ?_
       rotate_left
       ·
        rintro w' ⟨s0, s1, s2, s3, s4, s5⟩
        go_simp
        with_reducible rfl
       rotate_left
       ·
        simp only [Act.put, sA_, sZ_, sS_, i64_w, i32_w]
        rfl
       refine take_ (i := 12) (N := some 15) (v := ?_) (a' := ?_) #[true, true, true, true, true, true, true, true, true, true, true, true, true, false, false, false, true, false, true, false, false, false, false, true, false, true, false, false, false] rfl rfl (take_ofW HT_.out HW_.out (by kernel_rfl)) (fun _ _ _ h => h) (Or.inl ⟨by rfl, ?_⟩) hHeld ?_ ?_
       rotate_left
       ·
        rintro w' ⟨s0, s1, s2, s3, s4, s5⟩
        go_simp
        with_reducible rfl
       rotate_left
       ·
        simp only [Act.put, sA_, sZ_, sS_, i64_w, i32_w]
        rfl
       refine pure_ (i := 13) (N := some 16) (v := ?_) (a' := ?_) #[true, true, true, true, true, true, true, true, true, true, true, true, true, true, false, false, true, false, true, false, false, false, false, true, false, true, false, false, false] rfl rfl (any_of HT_.out (by kernel_rfl)) (fun _ _ _ h => h) (Or.inl ⟨by rfl, ?_⟩) ?_ ?_
       rotate_left
       ·
        intro w'
        go_simp
        with_reducible rfl
       rotate_left
       ·
        simp only [Act.put, sA_, sZ_, sS_, i64_w, i32_w]
        rfl
       refine pure_ (i := 14) (N := some 17) (v := ?_) (a' := ?_) #[true, true, true, true, true, true, true, true, true, true, true, true, true, true, true, false, true, false, true, false, false, false, false, true, false, true, false, false, false] rfl rfl (any_of HT_.out (by kernel_rfl)) (fun _ _ _ h => h) (Or.inl ⟨by rfl, ?_⟩) ?_ ?_
       rotate_left
       ·
        intro w'
        go_simp
        with_reducible rfl
       rotate_left
       ·
        simp only [Act.put, sA_, sZ_, sS_, i64_w, i32_w]
        rfl
       refine pure_ (i := 15) (N := some 18) (v := ?_) (a' := ?_) #[true, true, true, true, true, true, true, true, true, true, true, true, true, true, true, true, true, false, true, false, false, false, false, true, false, true, false, false, false] rfl rfl (any_of HT_.out (by kernel_rfl)) (fun _ _ _ h => h) (Or.inl ⟨by rfl, ?_⟩) ?_ ?_
       rotate_left
       ·
        intro w'
        go_simp
        with_reducible rfl
       rotate_left
       ·
        simp only [Act.put, sA_, sZ_, sS_, i64_w, i32_w]
        rfl
       refine take_ (i := 17) (N := some 20) (v := ?_) (a' := ?_) #[true, true, true, true, true, true, true, true, true, true, true, true, true, true, true, true, true, true, true, false, false, false, false, true, false, true, false, false, false] rfl rfl (take_ofW HT_.out HW_.out (by kernel_rfl)) (fun _ _ _ h => h) (Or.inl ⟨by rfl, ?_⟩) hHeld ?_ ?_
       rotate_left
       ·
        rintro w' ⟨s0, s1, s2, s3, s4, s5⟩
        go_simp
        with_reducible rfl
       rotate_left
       ·
        simp only [Act.put, sA_, sZ_, sS_, i64_w, i32_w]
        rfl
       refine take_ (i := 19) (N := some 22) (v := ?_) (a' := ?_) #[true, true, true, true, true, true, true, true, true, true, true, true, true, true, true, true, true, true, true, true, false, false, false, true, false, true, false, false, false] rfl rfl (take_ofW HT_.out HW_.out (by kernel_rfl)) (fun _ _ _ h => h) (Or.inl ⟨by rfl, ?_⟩) hHeld ?_ ?_
       rotate_left
       ·
        rintro w' ⟨s0, s1, s2, s3, s4, s5⟩
        go_simp
        with_reducible rfl
       rotate_left
       ·
        simp only [Act.put, sA_, sZ_, sS_, i64_w, i32_w]
        rfl
       refine pure_ (i := 20) (N := some 23) (v := ?_) (a' := ?_) #[true, true, true, true, true, true, true, true, true, true, true, true, true, true, true, true, true, true, true, true, true, false, false, true, false, true, false, false, false] rfl rfl (any_of HT_.out (by kernel_rfl)) (fun _ _ _ h => h) (Or.inl ⟨by rfl, ?_⟩) ?_ ?_
       rotate_left
       ·
        intro w'
        go_simp
        with_reducible rfl
       rotate_left
       ·
        simp only [Act.put, sA_, sZ_, sS_, i64_w, i32_w]
        rfl
       refine pure_ (i := 21) (N := some 24) (v := ?_) (a' := ?_) #[true, true, true, true, true, true, true, true, true, true, true, true, true, true, true, true, true, true, true, true, true, true, false, true, false, true, false, false, false] rfl rfl (any_of HT_.out (by kernel_rfl)) (fun _ _ _ h => h) (Or.inl ⟨by rfl, ?_⟩) ?_ ?_
       rotate_left
       ·
        intro w'
        go_simp
        with_reducible rfl
       rotate_left
       ·
        simp only [Act.put, sA_, sZ_, sS_, i64_w, i32_w]
        rfl
       refine pure_ (i := 22) (N := some 25) (v := ?_) (a' := ?_) #[true, true, true, true, true, true, true, true, true, true, true, true, true, true, true, true, true, true, true, true, true, true, true, true, false, true, false, false, false] rfl rfl (any_of HT_.out (by kernel_rfl)) (fun _ _ _ h => h) (Or.inl ⟨by rfl, ?_⟩) ?_ ?_
       rotate_left
       ·
        intro w'
        go_simp
        with_reducible rfl
       rotate_left
       ·
        simp only [Act.put, sA_, sZ_, sS_, i64_w, i32_w]
        rfl
       refine take_ (i := 24) (N := some 27) (v := ?_) (a' := ?_) #[true, true, true, true, true, true, true, true, true, true, true, true, true, true, true, true, true, true, true, true, true, true, true, true, true, true, false, false, false] rfl rfl (take_ofW HT_.out HW_.out (by kernel_rfl)) (fun _ _ _ h => h) (Or.inl ⟨by rfl, ?_⟩) hHeld ?_ ?_
       rotate_left
       ·
        rintro w' ⟨s0, s1, s2, s3, s4, s5⟩
        go_simp
        with_reducible rfl
       rotate_left
       ·
        simp only [Act.put, sA_, sZ_, sS_, i64_w, i32_w]
        rfl
       refine take_ (i := 26) (N := some 29) (v := ?_) (a' := ?_) #[true, true, true, true, true, true, true, true, true, true, true, true, true, true, true, true, true, true, true, true, true, true, true, true, true, true, true, false, false] rfl rfl (take_ofW HT_.out HW_.out (by kernel_rfl)) (fun _ _ _ h => h) (Or.inl ⟨by rfl, ?_⟩) hHeld ?_ ?_
       rotate_left
       ·
        rintro w' ⟨s0, s1, s2, s3, s4, s5⟩
        go_simp
        with_reducible rfl
       rotate_left
       ·
        simp only [Act.put, sA_, sZ_, sS_, i64_w, i32_w]
        rfl
       refine pure_ (i := 27) (N := some 30) (v := ?_) (a' := ?_) #[true, true, true, true, true, true, true, true, true, true, true, true, true, true, true, true, true, true, true, true, true, true, true, true, true, true, true, true, false] rfl rfl (any_of HT_.out (by kernel_rfl)) (fun _ _ _ h => h) (Or.inl ⟨by rfl, ?_⟩) ?_ ?_
       rotate_left
       ·
        intro w'
        go_simp
        with_reducible rfl
       rotate_left
       ·
        simp only [Act.put, sA_, sZ_, sS_, i64_w, i32_w]
        rfl
       refine one_ (i := 28) (N := none) #[true, true, true, true, true, true, true, true, true, true, true, true, true, true, true, true, true, true, true, true, true, true, true, true, true, true, true, true, true] rfl rfl (one_of HT_.out (by kernel_rfl)) (by decide) (fun K hK => ?_)
       have hs14 : w13.cell? ⟨gb302, 0, none⟩ = some (.int .i64 0) := (bc_ BK302.out 0).trans rfl
       have hfs14 := bf_ BK302.out 0
       have hns14_0 := NB301_302.out
       have hms14_0 := NB302_301.out
       have hs15 : w13.cell? ⟨gb302, 1, none⟩ = some (.string (⟨#[]⟩ : ByteArray)) := (bc_ BK302.out 1).trans rfl
       have hfs15 := bf_ BK302.out 1
       have hns15_0 := NB301_302.out
       have hms15_0 := NB302_301.out
       have hs16 : w13.cell? ⟨gb302, 2, none⟩ = some (.string (⟨#[]⟩ : ByteArray)) := (bc_ BK302.out 2).trans rfl
       have hfs16 := bf_ BK302.out 2
       have hns16_0 := NB301_302.out
       have hms16_0 := NB302_301.out
       have hs17 : w13.cell? ⟨gb302, 3, none⟩ = some (.string (⟨#[]⟩ : ByteArray)) := (bc_ BK302.out 3).trans rfl
       have hfs17 := bf_ BK302.out 3
       have hns17_0 := NB301_302.out
       have hms17_0 := NB302_301.out
       have hs18 : w13.cell? ⟨gb302, 4, none⟩ = some (.int .i64 0) := (bc_ BK302.out 4).trans rfl
       have hfs18 := bf_ BK302.out 4
       have hns18_0 := NB301_302.out
       have hms18_0 := NB302_301.out
       have hs19 : w13.cell? ⟨gb302, 5, none⟩ = some (.int .i64 0) := (bc_ BK302.out 5).trans rfl
       have hfs19 := bf_ BK302.out 5
       have hns19_0 := NB301_302.out
       have hms19_0 := NB302_301.out
       refine skip_ (w1 := ?_) (by rfl) rfl ?_ ?_
       rotate_left
       ·
        go_simp
        rfl
       refine hK.out _ _ ⟨((cell_far (p := ⟨gb302, _, none⟩) NB301_302.out _).trans (((cell_far (p := ⟨gb302, _, none⟩) NB301_302.out _).trans (((cell_far (p := ⟨gb302, _, none⟩) NB301_302.out _).trans (((cell_far (p := ⟨gb302, _, none⟩) NB301_302.out _).trans (((cell_far (p := ⟨gb302, _, none⟩) NB301_302.out _).trans (((cell_far (p := ⟨gb302, _, none⟩) NB301_302.out _).trans (hHeld.1)))))))))))), ((cell_far (p := ⟨gb302, _, none⟩) NB301_302.out _).trans (((cell_far (p := ⟨gb302, _, none⟩) NB301_302.out _).trans (((cell_far (p := ⟨gb302, _, none⟩) NB301_302.out _).trans (((cell_far (p := ⟨gb302, _, none⟩) NB301_302.out _).trans (((cell_far (p := ⟨gb302, _, none⟩) NB301_302.out _).trans (((cell_far (p := ⟨gb302, _, none⟩) NB301_302.out _).trans (hHeld.2.1)))))))))))), ((cell_far (p := ⟨gb302, _, none⟩) NB301_302.out _).trans (((cell_far (p := ⟨gb302, _, none⟩) NB301_302.out _).trans (((cell_far (p := ⟨gb302, _, none⟩) NB301_302.out _).trans (((cell_far (p := ⟨gb302, _, none⟩) NB301_302.out _).trans (((cell_far (p := ⟨gb302, _, none⟩) NB301_302.out _).trans (((cell_far (p := ⟨gb302, _, none⟩) NB301_302.out _).trans (hHeld.2.2.1)))))))))))), ((cell_far (p := ⟨gb302, _, none⟩) NB301_302.out _).trans (((cell_far (p := ⟨gb302, _, none⟩) NB301_302.out _).trans (((cell_far (p := ⟨gb302, _, none⟩) NB301_302.out _).trans (((cell_far (p := ⟨gb302, _, none⟩) NB301_302.out _).trans (((cell_far (p := ⟨gb302, _, none⟩) NB301_302.out _).trans (((cell_far (p := ⟨gb302, _, none⟩) NB301_302.out _).trans (hHeld.2.2.2.1)))))))))))), ((cell_far (p := ⟨gb302, _, none⟩) NB301_302.out _).trans (((cell_far (p := ⟨gb302, _, none⟩) NB301_302.out _).trans (((cell_far (p := ⟨gb302, _, none⟩) NB301_302.out _).trans (((cell_far (p := ⟨gb302, _, none⟩) NB301_302.out _).trans (((cell_far (p := ⟨gb302, _, none⟩) NB301_302.out _).trans (((cell_far (p := ⟨gb302, _, none⟩) NB301_302.out _).trans (hHeld.2.2.2.2.1)))))))))))), ((cell_far (p := ⟨gb302, _, none⟩) NB301_302.out _).trans (((cell_far (p := ⟨gb302, _, none⟩) NB301_302.out _).trans (((cell_far (p := ⟨gb302, _, none⟩) NB301_302.out _).trans (((cell_far (p := ⟨gb302, _, none⟩) NB301_302.out _).trans (((cell_far (p := ⟨gb302, _, none⟩) NB301_302.out _).trans (((cell_far (p := ⟨gb302, _, none⟩) NB301_302.out _).trans (hHeld.2.2.2.2.2))))))))))))⟩ (fun hHeld => ?_)
       clear hK K
       refine done_ (done_of HT_.out (by kernel_rfl)) ?_
       try go_wp2
       refine bodyPost_ret (results_cell_row rfl _ _ gb302 28 #[.int .i64 a0_0, .string (a0_1.extract 0 ((ji2) : Int).toNat), .string (a0_2.extract 0 ((ji5) : Int).toNat), .string (a0_3.extract 0 ((ji8) : Int).toNat), .int .i64 a0_4, .int .i64 a0_5] (0, 0) _ rfl (by (with_reducible repeat (first | refine bn_ ?_ _ | refine bd_ ?_ | refine ba_ ?_ _)); refine bp_ (cs := #[.int .i64 a0_0, .string (a0_1.extract 0 ((ji2) : Int).toNat), .string (a0_2.extract 0 ((ji5) : Int).toNat), .string (a0_3.extract 0 ((ji8) : Int).toNat), .int .i64 a0_4, .int .i64 0]) ?_ 5 _ rfl; (with_reducible repeat (first | refine bn_ ?_ _ | refine bd_ ?_ | refine ba_ ?_ _)); refine bp_ (cs := #[.int .i64 a0_0, .string (a0_1.extract 0 ((ji2) : Int).toNat), .string (a0_2.extract 0 ((ji5) : Int).toNat), .string (a0_3.extract 0 ((ji8) : Int).toNat), .int .i64 0, .int .i64 0]) ?_ 4 _ rfl; (with_reducible repeat (first | refine bn_ ?_ _ | refine bd_ ?_ | refine ba_ ?_ _)); refine bp_ (cs := #[.int .i64 a0_0, .string (a0_1.extract 0 ((ji2) : Int).toNat), .string (a0_2.extract 0 ((ji5) : Int).toNat), .string (⟨#[]⟩ : ByteArray), .int .i64 0, .int .i64 0]) ?_ 3 _ rfl; (with_reducible repeat (first | refine bn_ ?_ _ | refine bd_ ?_ | refine ba_ ?_ _)); refine bp_ (cs := #[.int .i64 a0_0, .string (a0_1.extract 0 ((ji2) : Int).toNat), .string (⟨#[]⟩ : ByteArray), .string (⟨#[]⟩ : ByteArray), .int .i64 0, .int .i64 0]) ?_ 2 _ rfl; (with_reducible repeat (first | refine bn_ ?_ _ | refine bd_ ?_ | refine ba_ ?_ _)); refine bp_ (cs := #[.int .i64 a0_0, .string (⟨#[]⟩ : ByteArray), .string (⟨#[]⟩ : ByteArray), .string (⟨#[]⟩ : ByteArray), .int .i64 0, .int .i64 0]) ?_ 1 _ rfl; (with_reducible repeat (first | refine bn_ ?_ _ | refine bd_ ?_ | refine ba_ ?_ _)); refine bp_ (cs := #[.int .i64 0, .string (⟨#[]⟩ : ByteArray), .string (⟨#[]⟩ : ByteArray), .string (⟨#[]⟩ : ByteArray), .int .i64 0, .int .i64 0]) ?_ 0 _ rfl; (with_reducible repeat (first | refine bn_ ?_ _ | refine bd_ ?_ | refine ba_ ?_ _)); exact BK302.out) Tryd.underlying28 rfl (by kernel_rfl)) rfl ?_
       exact ⟨by first | rfl | (simp [errW_none, errW_some] <;> rfl) | (simp only [← hji2, ← hji5, ← hji8]; first | rfl | (simp [errW_none, errW_some] <;> rfl)) | (simp [*, errW_none, errW_some] <;> rfl), bw_⟩
      ·
       rw [if_neg c10] at H
       exact absurd H (by simp)
     ·
      rw [if_neg c9] at H
      exact absurd H (by simp)
    ·
     rw [if_neg c7] at H
     exact absurd H (by simp)
   ·
    rw [if_neg c6] at H
    exact absurd H (by simp)
  ·
   rw [if_neg c4] at H
   exact absurd H (by simp)
 ·
  rw [if_neg c3] at H
  exact absurd H (by simp)
end Go.Proofs.YtjbbigodkhnokaaDoor.Tr
end
section
namespace Go.Proofs.YtjbbigodkhnokaaDoor.Tr
open Go.RowKit Go.Proofs.YtjbbigodkhnokaaDoorW.PrintWords Go.Proofs.YtjbbigodkhnokaaDoorW.PrintLast Go.Proofs.YtjbbigodkhnokaaDoorW.PrintMore
attribute [local go_sem] max2_int min2_int max_two min_two max_three min_three max_four min_four   -- for this text's walks alone
set_option linter.unusedVariables false
set_option linter.unusedSimpArgs false
attribute [local go_sem] run_add64_any
def clevisref07_number.f (a0 : Int) (a1 : Int) : Option (Int) := if a0 < a1 then (some (-1)) else (if a0 > a1 then (some 1) else (some 0))
set_option maxHeartbeats 8000000 in
set_option maxRecDepth 100000 in
theorem clevisref07_number.calls (a0 : Int) (a1 : Int) (r : Int) (w : World) (h : clevisref07_number.f a0 a1 = some r) :
  Calls Tryd.prog 37 #[.int .i64 a0, .int .i64 a1] w fun e w' => e = .returned (.int .i64 r) ∧ Drawn0 w w' := by
 have H : (if a0 < a1 then (some (-1)) else (if a0 > a1 then (some 1) else (some 0))) = some r := h
 clear h
 by_cases c3 : a0 < a1
 ·
  rw [if_pos c3] at H
  have c3b0 : decide (a0 < a1) = true := decide_eq_true c3
  clear c3
  obtain rfl := Option.some.inj H
  go_enter Tryd.func37, Tryd.ntmps37
  go_wp2
  go_ret
  exact ⟨by first | rfl | (simp; done) | (simp [*]; done), by repeat (first | exact Drawn0.refl _ | apply Drawn0.step)⟩
 ·
  rw [if_neg c3] at H
  have c3b0 : decide (a0 < a1) = false := decide_eq_false c3
  clear c3
  by_cases c4 : a0 > a1
  ·
   rw [if_pos c4] at H
   have c4b0 : decide (a1 < a0) = true := decide_eq_true c4
   clear c4
   obtain rfl := Option.some.inj H
   go_enter Tryd.func37, Tryd.ntmps37
   go_wp2
   go_ret
   exact ⟨by first | rfl | (simp; done) | (simp [*]; done), by repeat (first | exact Drawn0.refl _ | apply Drawn0.step)⟩
  ·
   rw [if_neg c4] at H
   have c4b0 : decide (a1 < a0) = false := decide_eq_false c4
   clear c4
   obtain rfl := Option.some.inj H
   go_enter Tryd.func37, Tryd.ntmps37
   go_wp2
   go_ret
   exact ⟨by first | rfl | (simp; done) | (simp [*]; done), by repeat (first | exact Drawn0.refl _ | apply Drawn0.step)⟩
end Go.Proofs.YtjbbigodkhnokaaDoor.Tr
end
section
namespace Go.Proofs.YtjbbigodkhnokaaDoor.Tr
open Go.RowKit Go.Proofs.YtjbbigodkhnokaaDoorW.PrintWords Go.Proofs.YtjbbigodkhnokaaDoorW.PrintLast Go.Proofs.YtjbbigodkhnokaaDoorW.PrintMore
attribute [local go_sem] max2_int min2_int max_two min_two max_three min_three max_four min_four   -- for this text's walks alone
set_option linter.unusedVariables false
set_option linter.unusedSimpArgs false
attribute [local go_sem] run_add64_any
def clevisref07_text.f (a0 : ByteArray) (a1 : ByteArray) : Option (Int) := some (if Op.bytesLess a0.toList a1.toList = true then -1 else if (a0.toList == a1.toList) = true then 0 else 1)
set_option maxHeartbeats 2000000 in
theorem clevisref07_text.calls (a0 : ByteArray) (a1 : ByteArray) (r : Int) (w : World) (h : clevisref07_text.f a0 a1 = some r) :
  Calls Tryd.prog 38 #[.string a0, .string a1] w fun e w' => e = .returned (.int .i64 r) ∧ Drawn0 w w' := by
 have h1 := Option.some.inj h
 clear h
 by_cases c1 : Op.bytesLess a0.toList a1.toList = true
 ·
  rw [if_pos c1] at h1
  subst h1
  go_enter Tryd.func38, Tryd.ntmps38
  go_wp2
  go_ret
  exact ⟨rfl, by repeat (first | exact Drawn0.refl _ | apply Drawn0.step)⟩
 ·
  rw [if_neg c1] at h1
  have c1 : Op.bytesLess a0.toList a1.toList = false := by simpa using c1
  by_cases c2 : (a0.toList == a1.toList) = true
  ·
   rw [if_pos c2] at h1
   subst h1
   go_enter Tryd.func38, Tryd.ntmps38
   go_wp2
   go_ret
   exact ⟨rfl, by repeat (first | exact Drawn0.refl _ | apply Drawn0.step)⟩
  ·
   rw [if_neg c2] at h1
   have c2 : (a0.toList == a1.toList) = false := by simpa using c2
   subst h1
   go_enter Tryd.func38, Tryd.ntmps38
   go_wp2
   go_ret
   exact ⟨rfl, by repeat (first | exact Drawn0.refl _ | apply Drawn0.step)⟩
end Go.Proofs.YtjbbigodkhnokaaDoor.Tr
end
section
namespace Go.Proofs.YtjbbigodkhnokaaDoor.Tr
open Go.RowKit Go.Proofs.YtjbbigodkhnokaaDoorW.PrintWords Go.Proofs.YtjbbigodkhnokaaDoorW.PrintLast Go.Proofs.YtjbbigodkhnokaaDoorW.PrintMore
attribute [local go_sem] max2_int min2_int max_two min_two max_three min_three max_four min_four   -- for this text's walks alone
set_option linter.unusedVariables false
set_option linter.unusedSimpArgs false
attribute [local go_sem] run_add64_any
def clevisref02_letter.f (a0 : Int) (a1 : Int) : Option (Bool) := if a0 ≥ a1 then (some (decide (a0 ≤ ((a1 + 25) % 256)))) else (some false)
set_option maxHeartbeats 8000000 in
set_option maxRecDepth 100000 in
theorem clevisref02_letter.calls (a0 : Int) (a1 : Int) (r : Bool) (w : World) (h : clevisref02_letter.f a0 a1 = some r) :
  Calls Tryd.prog 50 #[.int .u8 a0, .int .u8 a1] w fun e w' => e = .returned (.bool r) ∧ Drawn0 w w' := by
 have H : (if a0 ≥ a1 then (some (decide (a0 ≤ ((a1 + 25) % 256)))) else (some false)) = some r := h
 clear h
 by_cases c3 : a0 ≥ a1
 ·
  rw [if_pos c3] at H
  have c3b0 : decide (a1 ≤ a0) = true := decide_eq_true c3
  clear c3
  obtain rfl := Option.some.inj H
  go_enter Tryd.func50, Tryd.ntmps50
  go_wp2
  go_ret
  exact ⟨by first | rfl | (simp; done) | (simp [*]; done), by repeat (first | exact Drawn0.refl _ | apply Drawn0.step)⟩
 ·
  rw [if_neg c3] at H
  have c3b0 : decide (a1 ≤ a0) = false := decide_eq_false c3
  clear c3
  obtain rfl := Option.some.inj H
  go_enter Tryd.func50, Tryd.ntmps50
  go_wp2
  go_ret
  exact ⟨by first | rfl | (simp; done) | (simp [*]; done), by repeat (first | exact Drawn0.refl _ | apply Drawn0.step)⟩
end Go.Proofs.YtjbbigodkhnokaaDoor.Tr
end
section
namespace Go.Proofs.YtjbbigodkhnokaaDoor.Tr
open Go.RowKit Go.Proofs.YtjbbigodkhnokaaDoorW.PrintWords Go.Proofs.YtjbbigodkhnokaaDoorW.PrintLast Go.Proofs.YtjbbigodkhnokaaDoorW.PrintMore
attribute [local go_sem] max2_int min2_int max_two min_two max_three min_three max_four min_four   -- for this text's walks alone
set_option linter.unusedVariables false
set_option linter.unusedSimpArgs false
attribute [local go_sem] run_add64_any
def clevisref02_digit.f (a0 : Int) : Option (Bool) := if a0 ≥ 48 then (some (decide (a0 ≤ 57))) else (some false)
set_option maxHeartbeats 8000000 in
set_option maxRecDepth 100000 in
theorem clevisref02_digit.calls (a0 : Int) (r : Bool) (w : World) (h : clevisref02_digit.f a0 = some r) :
  Calls Tryd.prog 51 #[.int .u8 a0] w fun e w' => e = .returned (.bool r) ∧ Drawn0 w w' := by
 have H : (if a0 ≥ 48 then (some (decide (a0 ≤ 57))) else (some false)) = some r := h
 clear h
 by_cases c2 : a0 ≥ 48
 ·
  rw [if_pos c2] at H
  have c2b0 : decide (48 ≤ a0) = true := decide_eq_true c2
  clear c2
  obtain rfl := Option.some.inj H
  go_enter Tryd.func51, Tryd.ntmps51
  go_wp2
  go_ret
  exact ⟨by first | rfl | (simp; done) | (simp [*]; done), by repeat (first | exact Drawn0.refl _ | apply Drawn0.step)⟩
 ·
  rw [if_neg c2] at H
  have c2b0 : decide (48 ≤ a0) = false := decide_eq_false c2
  clear c2
  obtain rfl := Option.some.inj H
  go_enter Tryd.func51, Tryd.ntmps51
  go_wp2
  go_ret
  exact ⟨by first | rfl | (simp; done) | (simp [*]; done), by repeat (first | exact Drawn0.refl _ | apply Drawn0.step)⟩
end Go.Proofs.YtjbbigodkhnokaaDoor.Tr
end
