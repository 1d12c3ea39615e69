/- Texts of this seat, put together (Zd16). -/
import Derived.Test.YtcbpmmcpidfllaaProg
import Derived.Below
import Derived.Deep.Draws
import Derived.Deep.AppendLies
import Derived.Maps.AppendAt
import Derived.OwnWalk
import Derived.Laws.BytesArg
import Derived.Laws.MakeOwn
import Derived.Laws.OwnMore
import Derived.Deep.OwnRows
import Derived.Tactics
import Derived.Lib.ConvBytes
import Derived.Laws.Slices
import Derived.WalkKit
import Derived.KernelRfl
import Derived.RowKit3
import Derived.Deep.LoopGhost
import Derived.Deep.QuietTactic
import Derived.BigQuiet
import Derived.WideLaws
import Derived.Deep.DeepCutAuto
import Derived.Deep.CutBlock
import Derived.Deep.RegionHeld3
import Derived.Laws.Rows
import Derived.Lib.AppendStr
import Derived.ArgAppend
import Derived.Laws.IdiomCopy
import Derived.OrdersHeld
import Derived.Laws.BitsLemmas
import Derived.RowKit
import Derived.Laws.Externs
import Derived.WalkSpells
import Derived.WalkLawsBesides
import Derived.RegionTactic
import Derived.ChangeAlike
import Derived.BigRegion
import Derived.Test.YtcbpmmcpidfllaaZd0
import Derived.Test.YtcbpmmcpidfllaaZd1
import Derived.Test.YtcbpmmcpidfllaaZd2
import Derived.Test.YtcbpmmcpidfllaaZd10
section
namespace Go.Proofs.Ytcbpmmcpidfllaa.So
open Go.RowKit Go.Proofs.YtcbpmmcpidfllaaW.PrintWords Go.Proofs.YtcbpmmcpidfllaaW.PrintLast Go.Proofs.YtcbpmmcpidfllaaW.PrintMore
attribute [local go_sem] max2_int min2_int max_two min_two max_three min_three max_four min_four   -- for this text's walks alone
set_option linter.unusedVariables false
set_option linter.unusedSimpArgs false
def errW : Option Int → Value
 | none => .nilIface
 | some c => .iface 0 (.int .i64 c)
theorem errW_none : errW none = .nilIface := rfl
theorem errW_some (c : Int) : errW (some c) = .iface 0 (.int .i64 c) := rfl
theorem conv_V (W : World) (e : TypeId) (s : ByteArray) (hs : s.size ≤ 9223372036854775807) : Kd.V (Kd.int .u8) e (Lib.bytesWorld W e s) W.heap.size (fun k => W.heap.size ≤ k) (.slice (some ⟨W.heap.size, 0, none⟩) s.size (grownCap W s.size 0 e)) (bytesOf s) := by
 refine ⟨some ⟨W.heap.size, 0, none⟩, grownCap W s.size 0 e, by rw [bytesOf_length], by rw [bytesOf_length]; exact grownCap_ge _ _ _ _, ?_⟩
 intro W' hW
 have hb : W'.heap[W.heap.size]? = (Lib.bytesWorld W e s).heap[W.heap.size]? := hW _ (Nat.le_refl _) (by rw [Lib.bytesWorld_size]; omega)
 have hr := bytes_reads W e s hs
 rw [bytesOf_length]
 refine Kd.C_of_reads (enc := Value.int .u8) (d := (0 : Int)) (readsInt_of.1 ⟨hr.1, hr.2.1, fun hn => ?_⟩)
 obtain ⟨ad, ea, hc⟩ := hr.2.2 hn
 injection ea with ea
 subst ea
 refine ⟨_, rfl, fun j hj => ?_⟩
 have := hc j hj
 rw [add_plain] at this ⊢
 simpa only [World.cell?, hb] using this
section
variable {P : Program} {ops : Array Oper} {Q : Exit → Act → World → Prop} {rest : List Oper} {o : Oper} {a : Act}
theorem conv_event {w0 W : World} (base : Nat) (e : TypeId) (hgd : o.guard = none) {N : Tmp} (_hN : o.dst = some N) (s : ByteArray) (hm : s.size ≤ 9223372036854775807)
  (hrun : (execOp a.eval o).run P W = .ok (.value (.slice (some ⟨W.heap.size, 0, none⟩) s.size (grownCap W s.size 0 e))) (Lib.bytesWorld W e s)) (HB : Below base w0 W) (hbase : base ≤ W.heap.size)
  (h : ∀ v1 w1, Kd.V (Kd.int .u8) e w1 W.heap.size (fun k => W.heap.size ≤ k) v1 (bytesOf s) → Below base w0 w1 → W.grownBy w1 none → True → wpList P ops Q rest (a.put o.dst v1) w1) : wpList P ops Q (o :: rest) a W :=
 Kd.event_run hgd hrun (h _ _ (conv_V W e s hm) (bytes_below HB hbase e s) (grown_of_below (bytes_below (Below.refl _ _) (Nat.le_refl _) e s) none) trivial)
end
structure S63 where
 f0 : ByteArray
 f1 : Int
def z63 : S63 := ⟨(⟨#[]⟩ : ByteArray), (0 : Int)⟩
def k63 : Kd S63 := Kd.iso (Kd.pair Kd.string (Kd.int .i64)) (fun x : S63 => (x.f0, x.f1))
theorem k63_open {w : World} {x : S63} {cs : List Value} (h : k63.K w x cs) : cs = [.string x.f0, .int .i64 x.f1] := by
 obtain ⟨_, _, rfl, rfl, rfl⟩ := h
 exact rfl
theorem k63_mk (w : World) (x : S63)  : k63.K w x [.string x.f0, .int .i64 x.f1] := ⟨[.string x.f0], [.int .i64 x.f1], rfl, rfl, rfl⟩
def rd_T63 (xs : List S63) (i : Int) : S63 := xs.getD i.toNat z63
theorem at_T63 {w : World} {A : Option Addr} {n : Nat} {xs : List S63} (h : Kd.C k63 w A n xs) (i : Int) (h0 : 0 ≤ i) (h1 : i < n) : ∃ ad , A = some ad ∧ w.cell? (ad.add (i.toNat * 2)) = some (.string (rd_T63 xs i).f0) ∧ w.cell? ⟨(ad.add (i.toNat * 2)).block, (ad.add (i.toNat * 2)).off + 1, none⟩ = some (.int .i64 (rd_T63 xs i).f1) := by
 obtain ⟨ad, c, e, _, hK, hc0⟩ := Kd.C_get h z63 i h0 h1
 have hc : ∀ j u, c[j]? = some u → w.cell? (ad.add (i.toNat * 2 + j)) = some u := hc0
 obtain rfl := k63_open hK
 exact ⟨ad, e, hc 0 _ rfl, by rw [← add_field _ _ 1 (by omega)]; exact hc 1 _ rfl⟩
end Go.Proofs.Ytcbpmmcpidfllaa.So
end
section
namespace Go.Proofs.Ytcbpmmcpidfllaa.So
open Go.RowKit Go.Proofs.YtcbpmmcpidfllaaW.PrintWords Go.Proofs.YtcbpmmcpidfllaaW.PrintLast Go.Proofs.YtcbpmmcpidfllaaW.PrintMore
attribute [local go_sem] max2_int min2_int max_two min_two max_three min_three max_four min_four   -- for this text's walks alone
set_option linter.unusedVariables false
set_option linter.unusedSimpArgs false
mutual
def clevisref08_Sorted.l0 : Nat → List ByteArray → List ByteArray → Int → Option (List ByteArray)
 | 0, _, _, _ => none
 | k + 1, x0, x3, x4 => if x4 < (x0.length : Int) then (clevisref08_Sorted.l1 k x0 x3 x4 0) else (some x3)
def clevisref08_Sorted.l1 : Nat → List ByteArray → List ByteArray → Int → Int → Option (List ByteArray)
 | 0, _, _, _, _ => none
 | k + 1, x0, x3, x4, x5 => if x5 < (x3.length : Int) then (if 0 ≤ x5 then (if 0 ≤ x4 then (if x4 < (x0.length : Int) then (if (Op.bytesLess ((rdOf ByteArray.empty x3 x5).toList) ((rdOf ByteArray.empty x0 x4).toList)) = true then (clevisref08_Sorted.l1 k x0 x3 x4 (wrap64 (x5 + 1))) else ((some (([] : List ByteArray) : List ByteArray)).bind fun y103 => (if x5 ≤ (x3.length : Int) then ((some (x3.take (x5 : Int).toNat : List ByteArray)).bind fun y106 => (if y103.length + y106.length < 8796093022208 then ((some (y103 ++ y106 : List ByteArray)).bind fun y110 => (if y110.length < 8796093022208 then ((some (y110 ++ [rdOf ByteArray.empty x0 x4] : List ByteArray)).bind fun y114 => ((some (x3.drop (x5 : Int).toNat : List ByteArray)).bind fun y117 => (if y114.length + y117.length < 8796093022208 then (clevisref08_Sorted.l0 k x0 (y114 ++ y117) (wrap64 (x4 + 1))) else (none)))) else (none))) else (none))) else (none)))) else (none)) else (none)) else (none)) else ((some (([] : List ByteArray) : List ByteArray)).bind fun y124 => (if 0 ≤ x5 then (if x5 ≤ (x3.length : Int) then ((some (x3.take (x5 : Int).toNat : List ByteArray)).bind fun y127 => (if y124.length + y127.length < 8796093022208 then ((some (y124 ++ y127 : List ByteArray)).bind fun y131 => (if 0 ≤ x4 then (if x4 < (x0.length : Int) then (if y131.length < 8796093022208 then ((some (y131 ++ [rdOf ByteArray.empty x0 x4] : List ByteArray)).bind fun y135 => ((some (x3.drop (x5 : Int).toNat : List ByteArray)).bind fun y138 => (if y135.length + y138.length < 8796093022208 then (clevisref08_Sorted.l0 k x0 (y135 ++ y138) (wrap64 (x4 + 1))) else (none)))) else (none)) else (none)) else (none))) else (none))) else (none)) else (none)))
end
end Go.Proofs.Ytcbpmmcpidfllaa.So
end
section
namespace Go.Proofs.Ytcbpmmcpidfllaa.So
open Go.RowKit Go.Proofs.YtcbpmmcpidfllaaW.PrintWords Go.Proofs.YtcbpmmcpidfllaaW.PrintLast Go.Proofs.YtcbpmmcpidfllaaW.PrintMore
attribute [local go_sem] max2_int min2_int max_two min_two max_three min_three max_four min_four   -- for this text's walks alone
set_option linter.unusedVariables false
set_option linter.unusedSimpArgs false
end Go.Proofs.Ytcbpmmcpidfllaa.So
end
