/- Texts of this seat, put together (Zs6). -/
import Derived.Test.YtfbkgfffalppmaaProg
import Derived.Below
import Derived.Deep.Draws
import Derived.Deep.AppendLies
import Derived.Maps.AppendAt
import Derived.OwnWalk
import Derived.Laws.BytesArg
import Derived.Laws.MakeOwn
import Derived.Laws.OwnMore
import Derived.Deep.OwnRows
import Derived.Tactics
import Derived.Lib.ConvBytes
import Derived.Laws.Slices
import Derived.WalkKit
import Derived.KernelRfl
import Derived.RowKit3
import Derived.Deep.LoopGhost
import Derived.Deep.QuietTactic
import Derived.BigQuiet
import Derived.WideLaws
import Derived.Deep.DeepCutAuto
import Derived.Deep.CutBlock
import Derived.Deep.RegionHeld3
import Derived.Laws.Rows
import Derived.Lib.AppendStr
import Derived.ArgAppend
import Derived.Laws.IdiomCopy
import Derived.OrdersHeld
import Derived.Laws.BitsLemmas
import Derived.RowKit
import Derived.Laws.Externs
import Derived.WalkSpells
import Derived.WalkLawsBesides
import Derived.RegionTactic
import Derived.ChangeAlike
import Derived.BigRegion
import Derived.Test.YtfbkgfffalppmaaZs0
import Derived.Test.YtfbkgfffalppmaaZs1
import Derived.Test.YtfbkgfffalppmaaZs2
import Derived.Test.YtfbkgfffalppmaaZs5
section
namespace Go.Proofs.Ytfbkgfffalppmaa.Wf
open Go.RowKit Go.Proofs.YtfbkgfffalppmaaW.PrintWords Go.Proofs.YtfbkgfffalppmaaW.PrintLast Go.Proofs.YtfbkgfffalppmaaW.PrintMore
attribute [local go_sem] max2_int min2_int max_two min_two max_three min_three max_four min_four   -- for this text's walks alone
set_option linter.unusedVariables false
set_option linter.unusedSimpArgs false
def errW : Option Int → Value
 | none => .nilIface
 | some c => .iface 0 (.int .i64 c)
theorem errW_none : errW none = .nilIface := rfl
theorem errW_some (c : Int) : errW (some c) = .iface 0 (.int .i64 c) := rfl
def addLo (x y c : Int) : Int := (x.toNat + y.toNat + c.toNat) % 18446744073709551616
def addHi (x y c : Int) : Int := (x.toNat + y.toNat + c.toNat) / 18446744073709551616
theorem run_add64_any (x y c : Int) (hc : decide (c ≤ 1) = true) (w : World) : (callFunc 79 #[.int .u64 x, .int .u64 y, .int .u64 c]).run Try.prog w = .ok (.value (.tuple #[.int .u64 (addLo x y c), .int .u64 (addHi x y c)])) w := by
 have hc' : c ≤ 1 := od_ hc
 rw [run_callFunc_extern Try.func79 (by kernel_rfl) (by kernel_rfl) (by kernel_rfl) (e := add64Entry) (by kernel_rfl)]
 have key : (add64Entry #[.int .u64 x, .int .u64 y, .int .u64 c]).run Try.prog w = .ok (.tuple #[.int .u64 (addLo x y c), .int .u64 (addHi x y c)]) w := by
  cases c with
  | ofNat m =>
   have hm : m = 0 ∨ m = 1 := by have : (m : Int) ≤ 1 := hc'; omega
   rcases hm with rfl | rfl <;> rfl
  | negSucc m => rfl
 rw [key]
 rfl
section
variable {P : Program} {ops : Array Oper} {Q : Exit → Act → World → Prop} {rest : List Oper} {o : Oper} {a : Act}
end
theorem info2 : (Try.prog.info? 2).map (fun i => (i.zero, i.size, i.bytes)) = some (some (.int .i64 0), 1, 8) := by kernel_rfl
theorem info28 : (Try.prog.info? 28).map (fun i => (i.zero, i.size, i.bytes)) = some (some (.agg #[(.string ⟨#[]⟩), (.slice none 0 0)]), 2, 40) := by kernel_rfl
theorem info35 : (Try.prog.info? 35).map (fun i => (i.zero, i.size, i.bytes)) = some (some (.agg #[(.string ⟨#[]⟩), (.slice none 0 0)]), 2, 40) := by kernel_rfl
theorem info41 : (Try.prog.info? 41).map (fun i => (i.zero, i.size, i.bytes)) = some (some (.agg #[(.string ⟨#[]⟩), (.int .i64 0)]), 2, 24) := by kernel_rfl
theorem info52 : (Try.prog.info? 52).map (fun i => (i.zero, i.size, i.bytes)) = some (some (.agg #[(.string ⟨#[]⟩), (.string ⟨#[]⟩), (.int .i64 0)]), 3, 40) := by kernel_rfl
theorem info74 : (Try.prog.info? 74).map (fun i => (i.zero, i.size, i.bytes)) = some (some (.agg #[(.string ⟨#[]⟩), (.int .i64 0)]), 2, 24) := by kernel_rfl
structure S41 where
 f0 : ByteArray
 f1 : Int
def z41 : S41 := ⟨(⟨#[]⟩ : ByteArray), (0 : Int)⟩
def k41 : Kd S41 := Kd.iso (Kd.pair Kd.string (Kd.int .i64)) (fun x : S41 => (x.f0, x.f1))
theorem k41_open {w : World} {x : S41} {cs : List Value} (h : k41.K w x cs) : cs = [.string x.f0, .int .i64 x.f1] := by
 obtain ⟨_, _, rfl, rfl, rfl⟩ := h
 exact rfl
theorem k41_mk (w : World) (x : S41)  : k41.K w x [.string x.f0, .int .i64 x.f1] := ⟨[.string x.f0], [.int .i64 x.f1], rfl, rfl, rfl⟩
theorem k41_mkM (w : World) (base : Nat) (ok : Nat → Prop) (x : S41)  : k41.M w base ok x [.string x.f0, .int .i64 x.f1] := ⟨[.string x.f0], [.int .i64 x.f1], rfl, rfl, rfl⟩
def rd_T41 (xs : List S41) (i : Int) : S41 := xs.getD i.toNat z41
theorem at_T41 {w : World} {A : Option Addr} {n : Nat} {xs : List S41} (h : Kd.C k41 w A n xs) (i : Int) (h0 : 0 ≤ i) (h1 : i < n) : ∃ ad , A = some ad ∧ w.cell? (ad.add (i.toNat * 2)) = some (.string (rd_T41 xs i).f0) ∧ w.cell? ⟨(ad.add (i.toNat * 2)).block, (ad.add (i.toNat * 2)).off + 1, none⟩ = some (.int .i64 (rd_T41 xs i).f1) := by
 obtain ⟨ad, c, e, _, hK, hc0⟩ := Kd.C_get h z41 i h0 h1
 have hc : ∀ j u, c[j]? = some u → w.cell? (ad.add (i.toNat * 2 + j)) = some u := hc0
 obtain rfl := k41_open hK
 exact ⟨ad, e, hc 0 _ rfl, by rw [← add_field _ _ 1 (by omega)]; exact hc 1 _ rfl⟩
structure S28 where
 f0 : ByteArray
 f1 : (List S41)
def z28 : S28 := ⟨(⟨#[]⟩ : ByteArray), ([] : List S41)⟩
def k28 : Kd S28 := Kd.iso (Kd.pair Kd.string (Kd.slice 41 k41)) (fun x : S28 => (x.f0, x.f1))
theorem k28_open {w : World} {x : S28} {cs : List Value} (h : k28.K w x cs) : ∃ A1 c1, cs = [.string x.f0, .slice A1 x.f1.length c1] ∧ x.f1.length ≤ c1 ∧ k41.C w A1 x.f1.length x.f1 := by
 obtain ⟨_, _, rfl, rfl, ⟨A1, c1, rfl, l1, g1⟩⟩ := h
 exact ⟨A1, c1, rfl, l1, g1⟩
theorem k28_mk (w : World) (x : S28) {A1 : Option Addr} {c1 : Nat} (l1 : x.f1.length ≤ c1) (g1 : k41.C w A1 x.f1.length x.f1) : k28.K w x [.string x.f0, .slice A1 x.f1.length c1] := ⟨[.string x.f0], [.slice A1 x.f1.length c1], rfl, rfl, ⟨A1, c1, rfl, l1, g1⟩⟩
theorem k28_mkM (w : World) (base : Nat) (ok : Nat → Prop) (x : S28) {v1 : Value} (g1 : k41.R 41 w base ok v1 x.f1) : k28.M w base ok x [.string x.f0, v1] := ⟨[.string x.f0], [v1], rfl, rfl, ⟨v1, rfl, g1⟩⟩
def rd_T28 (xs : List S28) (i : Int) : S28 := xs.getD i.toNat z28
theorem at_T28 {w : World} {A : Option Addr} {n : Nat} {xs : List S28} (h : Kd.C k28 w A n xs) (i : Int) (h0 : 0 ≤ i) (h1 : i < n) : ∃ ad A1 c1, A = some ad ∧ w.cell? (ad.add (i.toNat * 2)) = some (.string (rd_T28 xs i).f0) ∧ w.cell? ⟨(ad.add (i.toNat * 2)).block, (ad.add (i.toNat * 2)).off + 1, none⟩ = some (.slice A1 (rd_T28 xs i).f1.length c1) ∧ (rd_T28 xs i).f1.length ≤ c1 ∧ k41.C w A1 (rd_T28 xs i).f1.length (rd_T28 xs i).f1 := by
 obtain ⟨ad, c, e, _, hK, hc0⟩ := Kd.C_get h z28 i h0 h1
 have hc : ∀ j u, c[j]? = some u → w.cell? (ad.add (i.toNat * 2 + j)) = some u := hc0
 obtain ⟨A1, c1, rfl, l1, g1⟩ := k28_open hK
 exact ⟨ad, A1, c1, e, hc 0 _ rfl, by rw [← add_field _ _ 1 (by omega)]; exact hc 1 _ rfl, l1, g1⟩
structure S74 where
 f0 : ByteArray
 f1 : Int
def z74 : S74 := ⟨(⟨#[]⟩ : ByteArray), (0 : Int)⟩
def k74 : Kd S74 := Kd.iso (Kd.pair Kd.string (Kd.int .i64)) (fun x : S74 => (x.f0, x.f1))
theorem k74_open {w : World} {x : S74} {cs : List Value} (h : k74.K w x cs) : cs = [.string x.f0, .int .i64 x.f1] := by
 obtain ⟨_, _, rfl, rfl, rfl⟩ := h
 exact rfl
theorem k74_mkM (w : World) (base : Nat) (ok : Nat → Prop) (x : S74)  : k74.M w base ok x [.string x.f0, .int .i64 x.f1] := ⟨[.string x.f0], [.int .i64 x.f1], rfl, rfl, rfl⟩
def rd_T74 (xs : List S74) (i : Int) : S74 := xs.getD i.toNat z74
theorem at_T74 {w : World} {A : Option Addr} {n : Nat} {xs : List S74} (h : Kd.C k74 w A n xs) (i : Int) (h0 : 0 ≤ i) (h1 : i < n) : ∃ ad , A = some ad ∧ w.cell? (ad.add (i.toNat * 2)) = some (.string (rd_T74 xs i).f0) ∧ w.cell? ⟨(ad.add (i.toNat * 2)).block, (ad.add (i.toNat * 2)).off + 1, none⟩ = some (.int .i64 (rd_T74 xs i).f1) := by
 obtain ⟨ad, c, e, _, hK, hc0⟩ := Kd.C_get h z74 i h0 h1
 have hc : ∀ j u, c[j]? = some u → w.cell? (ad.add (i.toNat * 2 + j)) = some u := hc0
 obtain rfl := k74_open hK
 exact ⟨ad, e, hc 0 _ rfl, by rw [← add_field _ _ 1 (by omega)]; exact hc 1 _ rfl⟩
structure S35 where
 f0 : ByteArray
 f1 : (List S74)
def z35 : S35 := ⟨(⟨#[]⟩ : ByteArray), ([] : List S74)⟩
def k35 : Kd S35 := Kd.iso (Kd.pair Kd.string (Kd.slice 74 k74)) (fun x : S35 => (x.f0, x.f1))
theorem k35_open {w : World} {x : S35} {cs : List Value} (h : k35.K w x cs) : ∃ A1 c1, cs = [.string x.f0, .slice A1 x.f1.length c1] ∧ x.f1.length ≤ c1 ∧ k74.C w A1 x.f1.length x.f1 := by
 obtain ⟨_, _, rfl, rfl, ⟨A1, c1, rfl, l1, g1⟩⟩ := h
 exact ⟨A1, c1, rfl, l1, g1⟩
theorem k35_mk (w : World) (x : S35) {A1 : Option Addr} {c1 : Nat} (l1 : x.f1.length ≤ c1) (g1 : k74.C w A1 x.f1.length x.f1) : k35.K w x [.string x.f0, .slice A1 x.f1.length c1] := ⟨[.string x.f0], [.slice A1 x.f1.length c1], rfl, rfl, ⟨A1, c1, rfl, l1, g1⟩⟩
theorem k35_mkM (w : World) (base : Nat) (ok : Nat → Prop) (x : S35) {v1 : Value} (g1 : k74.R 74 w base ok v1 x.f1) : k35.M w base ok x [.string x.f0, v1] := ⟨[.string x.f0], [v1], rfl, rfl, ⟨v1, rfl, g1⟩⟩
theorem k35_mkF (W : World) (ok : Nat → Prop) (x : S35) {A1 : Option Addr} {c1 : Nat} (l1 : x.f1.length ≤ c1) (g1 : Kd.F k74 W ok A1 x.f1.length x.f1) : Kd.FK k35 W ok x [.string x.f0, .slice A1 x.f1.length c1] := fun W2 hW => k35_mk W2 x l1 (g1 W2 hW)
def rd_T35 (xs : List S35) (i : Int) : S35 := xs.getD i.toNat z35
theorem at_T35 {w : World} {A : Option Addr} {n : Nat} {xs : List S35} (h : Kd.C k35 w A n xs) (i : Int) (h0 : 0 ≤ i) (h1 : i < n) : ∃ ad A1 c1, A = some ad ∧ w.cell? (ad.add (i.toNat * 2)) = some (.string (rd_T35 xs i).f0) ∧ w.cell? ⟨(ad.add (i.toNat * 2)).block, (ad.add (i.toNat * 2)).off + 1, none⟩ = some (.slice A1 (rd_T35 xs i).f1.length c1) ∧ (rd_T35 xs i).f1.length ≤ c1 ∧ k74.C w A1 (rd_T35 xs i).f1.length (rd_T35 xs i).f1 := by
 obtain ⟨ad, c, e, _, hK, hc0⟩ := Kd.C_get h z35 i h0 h1
 have hc : ∀ j u, c[j]? = some u → w.cell? (ad.add (i.toNat * 2 + j)) = some u := hc0
 obtain ⟨A1, c1, rfl, l1, g1⟩ := k35_open hK
 exact ⟨ad, A1, c1, e, hc 0 _ rfl, by rw [← add_field _ _ 1 (by omega)]; exact hc 1 _ rfl, l1, g1⟩
structure S52 where
 f0 : ByteArray
 f1 : ByteArray
 f2 : Int
def z52 : S52 := ⟨(⟨#[]⟩ : ByteArray), (⟨#[]⟩ : ByteArray), (0 : Int)⟩
def k52 : Kd S52 := Kd.iso (Kd.pair Kd.string (Kd.pair Kd.string (Kd.int .i64))) (fun x : S52 => (x.f0, x.f1, x.f2))
theorem k52_open {w : World} {x : S52} {cs : List Value} (h : k52.K w x cs) : cs = [.string x.f0, .string x.f1, .int .i64 x.f2] := by
 obtain ⟨_, _, rfl, rfl, ⟨_, _, rfl, rfl, rfl⟩⟩ := h
 exact rfl
theorem k52_mkM (w : World) (base : Nat) (ok : Nat → Prop) (x : S52)  : k52.M w base ok x [.string x.f0, .string x.f1, .int .i64 x.f2] := ⟨[.string x.f0], [.string x.f1, .int .i64 x.f2], rfl, rfl, ⟨[.string x.f1], [.int .i64 x.f2], rfl, rfl, rfl⟩⟩
def rd_T52 (xs : List S52) (i : Int) : S52 := xs.getD i.toNat z52
theorem at_T52 {w : World} {A : Option Addr} {n : Nat} {xs : List S52} (h : Kd.C k52 w A n xs) (i : Int) (h0 : 0 ≤ i) (h1 : i < n) : ∃ ad , A = some ad ∧ w.cell? (ad.add (i.toNat * 3)) = some (.string (rd_T52 xs i).f0) ∧ w.cell? ⟨(ad.add (i.toNat * 3)).block, (ad.add (i.toNat * 3)).off + 1, none⟩ = some (.string (rd_T52 xs i).f1) ∧ w.cell? ⟨(ad.add (i.toNat * 3)).block, (ad.add (i.toNat * 3)).off + 2, none⟩ = some (.int .i64 (rd_T52 xs i).f2) := by
 obtain ⟨ad, c, e, _, hK, hc0⟩ := Kd.C_get h z52 i h0 h1
 have hc : ∀ j u, c[j]? = some u → w.cell? (ad.add (i.toNat * 3 + j)) = some u := hc0
 obtain rfl := k52_open hK
 exact ⟨ad, e, hc 0 _ rfl, by rw [← add_field _ _ 1 (by omega)]; exact hc 1 _ rfl, by rw [← add_field _ _ 2 (by omega)]; exact hc 2 _ rfl⟩
end Go.Proofs.Ytfbkgfffalppmaa.Wf
end
section
namespace Go.Proofs.Ytfbkgfffalppmaa.Wf
open Go.RowKit Go.Proofs.YtfbkgfffalppmaaW.PrintWords Go.Proofs.YtfbkgfffalppmaaW.PrintLast Go.Proofs.YtfbkgfffalppmaaW.PrintMore
attribute [local go_sem] max2_int min2_int max_two min_two max_three min_three max_four min_four   -- for this text's walks alone
set_option linter.unusedVariables false
set_option linter.unusedSimpArgs false
attribute [local go_sem] run_add64_any
end Go.Proofs.Ytfbkgfffalppmaa.Wf
end
section
namespace Go.Proofs.Ytfbkgfffalppmaa.Wf
open Go.RowKit Go.Proofs.YtfbkgfffalppmaaW.PrintWords Go.Proofs.YtfbkgfffalppmaaW.PrintLast Go.Proofs.YtfbkgfffalppmaaW.PrintMore
attribute [local go_sem] max2_int min2_int max_two min_two max_three min_three max_four min_four   -- for this text's walks alone
set_option linter.unusedVariables false
set_option linter.unusedSimpArgs false
attribute [local go_sem] run_add64_any
end Go.Proofs.Ytfbkgfffalppmaa.Wf
end
section
namespace Go.Proofs.Ytfbkgfffalppmaa.Wf
open Go.RowKit Go.Proofs.YtfbkgfffalppmaaW.PrintWords Go.Proofs.YtfbkgfffalppmaaW.PrintLast Go.Proofs.YtfbkgfffalppmaaW.PrintMore
attribute [local go_sem] max2_int min2_int max_two min_two max_three min_three max_four min_four   -- for this text's walks alone
set_option linter.unusedVariables false
set_option linter.unusedSimpArgs false
attribute [local go_sem] run_add64_any
end Go.Proofs.Ytfbkgfffalppmaa.Wf
end
section
namespace Go.Proofs.Ytfbkgfffalppmaa.Wf
open Go.RowKit Go.Proofs.YtfbkgfffalppmaaW.PrintWords Go.Proofs.YtfbkgfffalppmaaW.PrintLast Go.Proofs.YtfbkgfffalppmaaW.PrintMore
attribute [local go_sem] max2_int min2_int max_two min_two max_three min_three max_four min_four   -- for this text's walks alone
set_option linter.unusedVariables false
set_option linter.unusedSimpArgs false
attribute [local go_sem] run_add64_any
end Go.Proofs.Ytfbkgfffalppmaa.Wf
end
section
namespace Go.Proofs.Ytfbkgfffalppmaa.Wf
open Go.RowKit Go.Proofs.YtfbkgfffalppmaaW.PrintWords Go.Proofs.YtfbkgfffalppmaaW.PrintLast Go.Proofs.YtfbkgfffalppmaaW.PrintMore
attribute [local go_sem] max2_int min2_int max_two min_two max_three min_three max_four min_four   -- for this text's walks alone
set_option linter.unusedVariables false
set_option linter.unusedSimpArgs false
attribute [local go_sem] run_add64_any
end Go.Proofs.Ytfbkgfffalppmaa.Wf
end
section
namespace Go.Proofs.Ytfbkgfffalppmaa.Wf
open Go.RowKit Go.Proofs.YtfbkgfffalppmaaW.PrintWords Go.Proofs.YtfbkgfffalppmaaW.PrintLast Go.Proofs.YtfbkgfffalppmaaW.PrintMore
attribute [local go_sem] max2_int min2_int max_two min_two max_three min_three max_four min_four   -- for this text's walks alone
set_option linter.unusedVariables false
set_option linter.unusedSimpArgs false
attribute [local go_sem] run_add64_any
end Go.Proofs.Ytfbkgfffalppmaa.Wf
end
section
namespace Go.Proofs.Ytfbkgfffalppmaa.Wf
open Go.RowKit Go.Proofs.YtfbkgfffalppmaaW.PrintWords Go.Proofs.YtfbkgfffalppmaaW.PrintLast Go.Proofs.YtfbkgfffalppmaaW.PrintMore
attribute [local go_sem] max2_int min2_int max_two min_two max_three min_three max_four min_four   -- for this text's walks alone
set_option linter.unusedVariables false
set_option linter.unusedSimpArgs false
attribute [local go_sem] run_add64_any
end Go.Proofs.Ytfbkgfffalppmaa.Wf
end
section
namespace Go.Proofs.Ytfbkgfffalppmaa.Wf
open Go.RowKit Go.Proofs.YtfbkgfffalppmaaW.PrintWords Go.Proofs.YtfbkgfffalppmaaW.PrintLast Go.Proofs.YtfbkgfffalppmaaW.PrintMore
attribute [local go_sem] max2_int min2_int max_two min_two max_three min_three max_four min_four   -- for this text's walks alone
set_option linter.unusedVariables false
set_option linter.unusedSimpArgs false
attribute [local go_sem] run_add64_any
end Go.Proofs.Ytfbkgfffalppmaa.Wf
end
section
namespace Go.Proofs.Ytfbkgfffalppmaa.Wf
open Go.RowKit Go.Proofs.YtfbkgfffalppmaaW.PrintWords Go.Proofs.YtfbkgfffalppmaaW.PrintLast Go.Proofs.YtfbkgfffalppmaaW.PrintMore
attribute [local go_sem] max2_int min2_int max_two min_two max_three min_three max_four min_four   -- for this text's walks alone
set_option linter.unusedVariables false
set_option linter.unusedSimpArgs false
attribute [local go_sem] run_add64_any
end Go.Proofs.Ytfbkgfffalppmaa.Wf
end
section
namespace Go.Proofs.Ytfbkgfffalppmaa.Wf
open Go.RowKit Go.Proofs.YtfbkgfffalppmaaW.PrintWords Go.Proofs.YtfbkgfffalppmaaW.PrintLast Go.Proofs.YtfbkgfffalppmaaW.PrintMore
attribute [local go_sem] max2_int min2_int max_two min_two max_three min_three max_four min_four   -- for this text's walks alone
set_option linter.unusedVariables false
set_option linter.unusedSimpArgs false
attribute [local go_sem] run_add64_any
end Go.Proofs.Ytfbkgfffalppmaa.Wf
end
section
namespace Go.Proofs.Ytfbkgfffalppmaa.Wf
open Go.RowKit Go.Proofs.YtfbkgfffalppmaaW.PrintWords Go.Proofs.YtfbkgfffalppmaaW.PrintLast Go.Proofs.YtfbkgfffalppmaaW.PrintMore
attribute [local go_sem] max2_int min2_int max_two min_two max_three min_three max_four min_four   -- for this text's walks alone
set_option linter.unusedVariables false
set_option linter.unusedSimpArgs false
attribute [local go_sem] run_add64_any
end Go.Proofs.Ytfbkgfffalppmaa.Wf
end
section
namespace Go.Proofs.Ytfbkgfffalppmaa.Wf
open Go.RowKit Go.Proofs.YtfbkgfffalppmaaW.PrintWords Go.Proofs.YtfbkgfffalppmaaW.PrintLast Go.Proofs.YtfbkgfffalppmaaW.PrintMore
attribute [local go_sem] max2_int min2_int max_two min_two max_three min_three max_four min_four   -- for this text's walks alone
set_option linter.unusedVariables false
set_option linter.unusedSimpArgs false
attribute [local go_sem] run_add64_any
end Go.Proofs.Ytfbkgfffalppmaa.Wf
end
section
namespace Go.Proofs.Ytfbkgfffalppmaa.Wf
open Go.RowKit Go.Proofs.YtfbkgfffalppmaaW.PrintWords Go.Proofs.YtfbkgfffalppmaaW.PrintLast Go.Proofs.YtfbkgfffalppmaaW.PrintMore
attribute [local go_sem] max2_int min2_int max_two min_two max_three min_three max_four min_four   -- for this text's walks alone
set_option linter.unusedVariables false
set_option linter.unusedSimpArgs false
attribute [local go_sem] run_add64_any
end Go.Proofs.Ytfbkgfffalppmaa.Wf
end
section
namespace Go.Proofs.Ytfbkgfffalppmaa.Wf
open Go.RowKit Go.Proofs.YtfbkgfffalppmaaW.PrintWords Go.Proofs.YtfbkgfffalppmaaW.PrintLast Go.Proofs.YtfbkgfffalppmaaW.PrintMore
attribute [local go_sem] max2_int min2_int max_two min_two max_three min_three max_four min_four   -- for this text's walks alone
set_option linter.unusedVariables false
set_option linter.unusedSimpArgs false
attribute [local go_sem] run_add64_any
def bits_Mul64.f (a0 : Int) (a1 : Int) : Option (Int × Int) := some (IntKind.u64.wrap ((IntKind.u64.wrap ((IntKind.u64.wrap ((a0 / 4294967296) * (a1 / 4294967296))) + ((IntKind.u64.wrap ((IntKind.u64.wrap ((a0 / 4294967296) * (Go.bits .and .u64 a1 4294967295))) + ((IntKind.u64.wrap ((Go.bits .and .u64 a0 4294967295) * (Go.bits .and .u64 a1 4294967295))) / 4294967296))) / 4294967296))) + ((IntKind.u64.wrap ((Go.bits .and .u64 (IntKind.u64.wrap ((IntKind.u64.wrap ((a0 / 4294967296) * (Go.bits .and .u64 a1 4294967295))) + ((IntKind.u64.wrap ((Go.bits .and .u64 a0 4294967295) * (Go.bits .and .u64 a1 4294967295))) / 4294967296))) 4294967295) + (IntKind.u64.wrap ((Go.bits .and .u64 a0 4294967295) * (a1 / 4294967296))))) / 4294967296)), IntKind.u64.wrap (a0 * a1))
set_option maxHeartbeats 8000000 in
set_option maxRecDepth 100000 in
theorem bits_Mul64.calls (a0 : Int) (a1 : Int) (r1 : Int) (r2 : Int) (w : World) (h : bits_Mul64.f a0 a1 = some (r1, r2)) :
  Calls Try.prog 81 #[.int .u64 a0, .int .u64 a1] w fun e w' => e = .returned (.tuple #[.int .u64 r1, .int .u64 r2]) ∧ Drawn0 w w' := by
 have H : (some (IntKind.u64.wrap ((IntKind.u64.wrap ((IntKind.u64.wrap ((a0 / 4294967296) * (a1 / 4294967296))) + ((IntKind.u64.wrap ((IntKind.u64.wrap ((a0 / 4294967296) * (Go.bits .and .u64 a1 4294967295))) + ((IntKind.u64.wrap ((Go.bits .and .u64 a0 4294967295) * (Go.bits .and .u64 a1 4294967295))) / 4294967296))) / 4294967296))) + ((IntKind.u64.wrap ((Go.bits .and .u64 (IntKind.u64.wrap ((IntKind.u64.wrap ((a0 / 4294967296) * (Go.bits .and .u64 a1 4294967295))) + ((IntKind.u64.wrap ((Go.bits .and .u64 a0 4294967295) * (Go.bits .and .u64 a1 4294967295))) / 4294967296))) 4294967295) + (IntKind.u64.wrap ((Go.bits .and .u64 a0 4294967295) * (a1 / 4294967296))))) / 4294967296)), IntKind.u64.wrap (a0 * a1))) = some (r1, r2) := h
 clear h
 simp only [Option.some.injEq, Prod.mk.injEq] at H
 obtain ⟨rfl, rfl⟩ := H
 go_enter Try.func81, Try.ntmps81
 go_wp2
 go_ret2
 exact ⟨by first | rfl | (simp; done) | (simp [*]; done), by repeat (first | exact Drawn0.refl _ | apply Drawn0.step)⟩
end Go.Proofs.Ytfbkgfffalppmaa.Wf
end
section
namespace Go.Proofs.Ytfbkgfffalppmaa.Wf
open Go.RowKit Go.Proofs.YtfbkgfffalppmaaW.PrintWords Go.Proofs.YtfbkgfffalppmaaW.PrintLast Go.Proofs.YtfbkgfffalppmaaW.PrintMore
attribute [local go_sem] max2_int min2_int max_two min_two max_three min_three max_four min_four   -- for this text's walks alone
set_option linter.unusedVariables false
set_option linter.unusedSimpArgs false
attribute [local go_sem] run_add64_any
def IsS113 (w0 W : World) (g : Nat) (f0 : Int) (f1 : Int) (f2 : Int) : Prop := W.heap[g]? = some (.cells #[.int .i64 f0, .int .u64 f1, .int .u64 f2] 113 (0, 0)) ∧ w0.heap.size ≤ g
theorem IsS113.grown {w0 W : World} {g : Nat} {f0 : Int} {f1 : Int} {f2 : Int} {W1 : World} {row : Option Nat} (h : IsS113 w0 W g f0 f1 f2) (hw : W.grownBy W1 row) (hne : some g ≠ row) : IsS113 w0 W1 g f0 f1 f2 := by
 obtain ⟨hb, hg⟩ := h
 exact ⟨blk_grown hb hw hne, hg⟩
theorem IsS113.kept {w0 W : World} {g : Nat} {f0 : Int} {f1 : Int} {f2 : Int} {W1 : World} {S : Nat → Prop} (h : IsS113 w0 W g f0 f1 f2) (hk : Kept W W1 S) (hne : ¬ S g) : IsS113 w0 W1 g f0 f1 f2 := by
 obtain ⟨hb, hg⟩ := h
 exact ⟨blk_kept hb hk hne, hg⟩
theorem IsS113.below {w0 W : World} {g : Nat} {f0 : Int} {f1 : Int} {f2 : Int} {W1 : World} (h : IsS113 w0 W g f0 f1 f2) (hw : Below W.heap.size W W1) : IsS113 w0 W1 g f0 f1 f2 := h.grown (grown_of_below hw none) (by simp)
theorem IsS113.alloc {w0 W : World} {g : Nat} {f0 : Int} {f1 : Int} {f2 : Int} (h : IsS113 w0 W g f0 f1 f2) (o : Obj) : IsS113 w0 (W.alloc o) g f0 f1 f2 := h.below (bl_ (Below.refl _ _) o)
theorem IsS113.drewN {w0 W : World} {g : Nat} {f0 : Int} {f1 : Int} {f2 : Int} (h : IsS113 w0 W g f0 f1 f2) (m : Nat) : IsS113 w0 (W.drewN m) g f0 f1 f2 := h
theorem IsS113.drew {w0 W : World} {g : Nat} {f0 : Int} {f1 : Int} {f2 : Int} (h : IsS113 w0 W g f0 f1 f2) : IsS113 w0 W.drew g f0 f1 f2 := h
theorem IsS113.at_ {w0 W : World} {g : Nat} {f0 : Int} {f1 : Int} {f2 : Int} {w' : World} {m : Nat} (hq : W.drewN m = w') (h : IsS113 w0 W g f0 f1 f2) : IsS113 w0 w' g f0 f1 f2 := by subst hq; exact IsS113.drewN h m
theorem IsS113.apart {w0 W : World} {g : Nat} {f0 : Int} {f1 : Int} {f2 : Int} {α : Type} {d : Kd α} {e : Nat} {base : Nat} {ok : Nat → Prop} {v : Value} {xs : List α} (h : IsS113 w0 W g f0 f1 f2) (ho : d.R e W base ok v xs) (ht : ∀ q, q ∈ e :: d.E → q ≠ 113) : d.R e W base (fun k => ok k ∧ k ≠ g) v xs := by
 obtain ⟨hb, hg⟩ := h
 exact Kd.R_types ho hb ht
theorem IsS113.own_ne {w0 W : World} {g : Nat} {f0 : Int} {f1 : Int} {f2 : Int} {α : Type} {d : Kd α} {e : Nat} {base : Nat} {ok : Nat → Prop} {v : Value} {xs : List α} (h : IsS113 w0 W g f0 f1 f2) (ho : d.R e W base ok v xs) (ht : e ≠ 113) : some g ≠ v.ownBlock := by
 obtain ⟨hb, hg⟩ := h
 exact Kd.R_ne ho hb ht
theorem IsS113.lt {w0 W : World} {g : Nat} {f0 : Int} {f1 : Int} {f2 : Int} (h : IsS113 w0 W g f0 f1 f2) : g < W.heap.size := by
 obtain ⟨hb, hg⟩ := h
 exact blk_lt hb
theorem IsS113.new (w0 W : World) (f0 : Int) (f1 : Int) (f2 : Int) (hB : Below w0.heap.size w0 W) : IsS113 w0 (W.alloc (.cells #[.int .i64 f0, .int .u64 f1, .int .u64 f2] 113)) W.heap.size f0 f1 f2 := ⟨by simpa using heap_alloc_new W _, hB.size⟩
def fixed_long_add.f (s0 s1 s2 a0 a1 : Int) : Option (Int × Int × Int) := if addHi s2 a1 0 ≤ 1 then some (wrap64 (s0 + wrap64 (a0 / 9223372036854775808 + wrap64 (addHi s1 (IntKind.u64.wrap a0) (addHi s2 a1 0)))), addLo s1 (IntKind.u64.wrap a0) (addHi s2 a1 0), addLo s2 a1 0) else none
section
attribute [local go_sem] run_add64_any
set_option maxHeartbeats 1000000 in
theorem fixed_long_add.walk (g : Nat) (s0_0 s0_1 s0_2 a1_0 a1_1 : Int) (w : World) (h0 : w.cell? ⟨g, 0, none⟩ = some (.int .i64 s0_0)) (h1 : w.cell? ⟨g, 1, none⟩ = some (.int .u64 s0_1)) (h2 : w.cell? ⟨g, 2, none⟩ = some (.int .u64 s0_2)) (f0 : w.frozen? ⟨g, 0, none⟩ = false) (f1 : w.frozen? ⟨g, 1, none⟩ = false) (f2 : w.frozen? ⟨g, 2, none⟩ = false) (hg : g < w.heap.size) (hc : decide (addHi s0_2 a1_1 0 ≤ 1) = true) :
  Calls Try.prog 66 #[.pointer (some ⟨g, 0, none⟩), .agg #[.int .i64 a1_0, .int .u64 a1_1]] w fun e w' => e = .returned (.tuple #[]) ∧ w' = ((((w.setCell ⟨g, 2, none⟩ (.int .u64 (addLo s0_2 a1_1 0))).setCell ⟨g, 1, none⟩ (.int .u64 (addLo s0_1 (IntKind.u64.wrap a1_0) (addHi s0_2 a1_1 0)))).setCell ⟨g, 0, none⟩ (.int .i64 (wrap64 (s0_0 + wrap64 (a1_0 / 9223372036854775808 + wrap64 (addHi s0_1 (IntKind.u64.wrap a1_0) (addHi s0_2 a1_1 0))))))).alloc (.cells #[.int .i64 a1_0, .int .u64 a1_1] 66)).drew.drew.drew := by
 go_enter Try.func66, Try.ntmps66
 go_wp2
 go_region
 go_wp2
 go_region
 go_wp2
 go_region
 go_wp2
 go_end0
 exact ⟨rfl, rfl⟩
end
theorem fixed_long_add.walkf (g : Nat) (s0_0 s0_1 s0_2 a1_0 a1_1 r1 r2 r3 : Int) (w : World) (h : fixed_long_add.f s0_0 s0_1 s0_2 a1_0 a1_1 = some (r1, r2, r3)) (h0 : w.cell? ⟨g, 0, none⟩ = some (.int .i64 s0_0)) (h1 : w.cell? ⟨g, 1, none⟩ = some (.int .u64 s0_1)) (h2 : w.cell? ⟨g, 2, none⟩ = some (.int .u64 s0_2)) (f0 : w.frozen? ⟨g, 0, none⟩ = false) (f1 : w.frozen? ⟨g, 1, none⟩ = false) (f2 : w.frozen? ⟨g, 2, none⟩ = false) (hg : g < w.heap.size) :
  Calls Try.prog 66 #[.pointer (some ⟨g, 0, none⟩), .agg #[.int .i64 a1_0, .int .u64 a1_1]] w fun e w' => e = .returned (.tuple #[]) ∧ w' = ((((w.setCell ⟨g, 2, none⟩ (.int .u64 r3)).setCell ⟨g, 1, none⟩ (.int .u64 r2)).setCell ⟨g, 0, none⟩ (.int .i64 r1)).alloc (.cells #[.int .i64 a1_0, .int .u64 a1_1] 66)).drew.drew.drew := by
 unfold fixed_long_add.f at h
 split at h
 case isFalse => cases h
 rename_i hc
 simp only [Option.some.injEq, Prod.mk.injEq] at h
 obtain ⟨rfl, rfl, rfl⟩ := h
 exact fixed_long_add.walk g s0_0 s0_1 s0_2 a1_0 a1_1 w h0 h1 h2 f0 f1 f2 hg (decide_eq_true hc)
end Go.Proofs.Ytfbkgfffalppmaa.Wf
end
section
namespace Go.Proofs.Ytfbkgfffalppmaa.Wf
open Go.RowKit Go.Proofs.YtfbkgfffalppmaaW.PrintWords Go.Proofs.YtfbkgfffalppmaaW.PrintLast Go.Proofs.YtfbkgfffalppmaaW.PrintMore
attribute [local go_sem] max2_int min2_int max_two min_two max_three min_three max_four min_four   -- for this text's walks alone
set_option linter.unusedVariables false
set_option linter.unusedSimpArgs false
attribute [local go_sem] run_add64_any
def fixed_fits.f (a0_0 : Int) (a0_1 : Int) (a1 : Bool) : Option (Int × Int × Int) := if a1 = true then (some (a0_0, a0_1, 0)) else (some (0, 0, 4))
set_option maxHeartbeats 8000000 in
set_option maxRecDepth 100000 in
theorem fixed_fits.calls (a0_0 : Int) (a0_1 : Int) (a1 : Bool) (r1 : Int) (r2 : Int) (r3 : Int) (w : World) (h : fixed_fits.f a0_0 a0_1 a1 = some (r1, r2, r3)) :
  Calls Try.prog 67 #[.agg #[.int .i64 a0_0, .int .u64 a0_1], .bool a1] w fun e w' => e = .returned (.tuple #[.agg #[.int .i64 r1, .int .u64 r2], .int .i64 r3]) ∧ Below w.heap.size w w' := by
 have hu66 := Try.underlying66
 have HB := A_ (Below.refl w.heap.size w)
 have H : (if a1 = true then (some (a0_0, a0_1, 0)) else (some (0, 0, 4))) = some (r1, r2, r3) := h
 clear h
 by_cases c3 : a1 = true
 ·
  subst c3
  have H1 : (some (a0_0, a0_1, 0)) = some (r1, r2, r3) := by rw [if_pos rfl] at H; exact H
  clear H
  have H := H1
  clear H1
  simp only [Option.some.injEq, Prod.mk.injEq] at H
  obtain ⟨rfl, rfl, rfl⟩ := H
  go_enter Try.func67, Try.ntmps67
  go_wp2_with (first | ((with_reducible refine gate_dst (N := 2) rfl ?_); refine box_event ?hg (N := 2) ?hd (cs := #[.int .i64 a0_0, .int .u64 a0_1]) (t := 66) ?hr ?_; (case hd => rfl); (case hg => rfl); (case hr => first | (go_simp; done) | (go_simp; rfl)); intro gb302 hg w4 hbox hb; have n0_ := A_ (bs_ bw_ hb); have n1_ := A_ (hbox); have n2_ := A_ ((by rw [hg]; exact (bz_ bw_) : w.heap.size ≤ gb302)); have n3_ := A_ ((by rw [hg]; exact (bz_ bw_) : w.heap.size ≤ gb302)); clear HB; have HB := n0_; have BK302 := n1_; have GW302 := n2_; have GE302 := n3_; clear n0_ n1_ n2_ n3_; clear hb hbox hg) | ((with_reducible refine gate_dst (N := 4) rfl ?_); refine box_event ?hg (N := 4) ?hd (cs := #[.int .i64 0, .int .u64 0]) (t := 66) ?hr ?_; (case hd => rfl); (case hg => rfl); (case hr => first | (go_simp; done) | (go_simp; rfl)); intro gb304 hg w5 hbox hb; have n0_ := A_ (kb_ BK302 hb); have n1_ := A_ (bs_ bw_ hb); have n2_ := A_ (hbox); have n3_ := A_ ((by rw [hg]; exact (bz_ bw_) : w.heap.size ≤ gb304)); have n4_ := A_ ((by rw [hg]; exact (bz_ bw_) : w.heap.size ≤ gb304)); have n5_ := A_ ((by rw [hg]; exact nl_ (lt_ BK302) : gb302 ≠ gb304)); have n6_ := A_ ((by rw [hg]; exact ng_ (lt_ BK302) : gb304 ≠ gb302)); clear BK302; clear HB; have BK302 := n0_; have HB := n1_; have BK304 := n2_; have GW304 := n3_; have GE304 := n4_; have NB302_304 := n5_; have NB304_302 := n6_; clear n0_ n1_ n2_ n3_ n4_ n5_ n6_; clear hb hbox hg; have hnb6 := NB302_304.out; have hnc6 := NB304_302.out; have hcz7_0 : w5.cell? ⟨gb302, 0, none⟩ = some (.int .i64 a0_0) := (bc_ BK302.out 0).trans rfl; have hcz7_1 : w5.cell? ⟨gb302, 1, none⟩ = some (.int .u64 a0_1) := (bc_ BK302.out 1).trans rfl; have hfz7_0 := bf_ BK302.out 0; have hfz7_1 := bf_ BK302.out 1; have hcz8_0 : w5.cell? ⟨gb304, 0, none⟩ = some (.int .i64 0) := (bc_ BK304.out 0).trans rfl; have hcz8_1 : w5.cell? ⟨gb304, 1, none⟩ = some (.int .u64 0) := (bc_ BK304.out 1).trans rfl; have hfz8_0 := bf_ BK304.out 0; have hfz8_1 := bf_ BK304.out 1))
  refine bodyPost_ret (results_ct rfl _ _ gb304 66 #[.int .i64 a0_0, .int .u64 a0_1] (0, 0) _ rfl (by (with_reducible repeat (first | refine bn_ ?_ _ | refine bd_ ?_ | refine ba_ ?_ _)); refine bp_ (cs := #[.int .i64 a0_0, .int .u64 0]) ?_ 1 _ rfl; (with_reducible repeat (first | refine bn_ ?_ _ | refine bd_ ?_ | refine ba_ ?_ _)); refine bp_ (cs := #[.int .i64 0, .int .u64 0]) ?_ 0 _ rfl; (with_reducible repeat (first | refine bn_ ?_ _ | refine bd_ ?_ | refine ba_ ?_ _)); exact BK304.out) Try.underlying66 rfl (by kernel_rfl)) rfl ?_
  exact ⟨by first | rfl | (simp [errW_none, errW_some] <;> rfl) | (simp [*, errW_none, errW_some] <;> rfl), bw_⟩
 ·
  replace c3 := Bool.eq_false_iff.mpr c3
  subst c3
  have H1 : (some (0, 0, 4)) = some (r1, r2, r3) := by rw [if_neg (show ¬ (false = true) by decide)] at H; exact H
  clear H
  have H := H1
  clear H1
  simp only [Option.some.injEq, Prod.mk.injEq] at H
  obtain ⟨rfl, rfl, rfl⟩ := H
  go_enter Try.func67, Try.ntmps67
  go_wp2_with (first | ((with_reducible refine gate_dst (N := 2) rfl ?_); refine box_event ?hg (N := 2) ?hd (cs := #[.int .i64 a0_0, .int .u64 a0_1]) (t := 66) ?hr ?_; (case hd => rfl); (case hg => rfl); (case hr => first | (go_simp; done) | (go_simp; rfl)); intro gb302 hg w9 hbox hb; have n0_ := A_ (bs_ bw_ hb); have n1_ := A_ (hbox); have n2_ := A_ ((by rw [hg]; exact (bz_ bw_) : w.heap.size ≤ gb302)); have n3_ := A_ ((by rw [hg]; exact (bz_ bw_) : w.heap.size ≤ gb302)); clear HB; have HB := n0_; have BK302 := n1_; have GW302 := n2_; have GE302 := n3_; clear n0_ n1_ n2_ n3_; clear hb hbox hg) | ((with_reducible refine gate_dst (N := 4) rfl ?_); refine box_event ?hg (N := 4) ?hd (cs := #[.int .i64 0, .int .u64 0]) (t := 66) ?hr ?_; (case hd => rfl); (case hg => rfl); (case hr => first | (go_simp; done) | (go_simp; rfl)); intro gb304 hg w10 hbox hb; have n0_ := A_ (kb_ BK302 hb); have n1_ := A_ (bs_ bw_ hb); have n2_ := A_ (hbox); have n3_ := A_ ((by rw [hg]; exact (bz_ bw_) : w.heap.size ≤ gb304)); have n4_ := A_ ((by rw [hg]; exact (bz_ bw_) : w.heap.size ≤ gb304)); have n5_ := A_ ((by rw [hg]; exact nl_ (lt_ BK302) : gb302 ≠ gb304)); have n6_ := A_ ((by rw [hg]; exact ng_ (lt_ BK302) : gb304 ≠ gb302)); clear BK302; clear HB; have BK302 := n0_; have HB := n1_; have BK304 := n2_; have GW304 := n3_; have GE304 := n4_; have NB302_304 := n5_; have NB304_302 := n6_; clear n0_ n1_ n2_ n3_ n4_ n5_ n6_; clear hb hbox hg; have hnb11 := NB304_302.out; have hnc11 := NB302_304.out; have hcz12_0 : w10.cell? ⟨gb304, 0, none⟩ = some (.int .i64 0) := (bc_ BK304.out 0).trans rfl; have hcz12_1 : w10.cell? ⟨gb304, 1, none⟩ = some (.int .u64 0) := (bc_ BK304.out 1).trans rfl; have hfz12_0 := bf_ BK304.out 0; have hfz12_1 := bf_ BK304.out 1))
  refine bodyPost_ret (results_ct rfl _ _ gb304 66 #[.int .i64 0, .int .u64 0] (0, 0) _ rfl (by (with_reducible repeat (first | refine bn_ ?_ _ | refine bd_ ?_ | refine ba_ ?_ _)); refine bp_ (cs := #[.int .i64 0, .int .u64 0]) ?_ 1 _ rfl; (with_reducible repeat (first | refine bn_ ?_ _ | refine bd_ ?_ | refine ba_ ?_ _)); refine bp_ (cs := #[.int .i64 0, .int .u64 0]) ?_ 0 _ rfl; (with_reducible repeat (first | refine bn_ ?_ _ | refine bd_ ?_ | refine ba_ ?_ _)); exact BK304.out) Try.underlying66 rfl (by kernel_rfl)) rfl ?_
  exact ⟨by first | rfl | (simp [errW_none, errW_some] <;> rfl) | (simp [*, errW_none, errW_some] <;> rfl), bw_⟩
end Go.Proofs.Ytfbkgfffalppmaa.Wf
end
section
namespace Go.Proofs.Ytfbkgfffalppmaa.Wf
open Go.RowKit Go.Proofs.YtfbkgfffalppmaaW.PrintWords Go.Proofs.YtfbkgfffalppmaaW.PrintLast Go.Proofs.YtfbkgfffalppmaaW.PrintMore
attribute [local go_sem] max2_int min2_int max_two min_two max_three min_three max_four min_four   -- for this text's walks alone
set_option linter.unusedVariables false
set_option linter.unusedSimpArgs false
attribute [local go_sem] run_add64_any
set_option maxHeartbeats 1000000 in
theorem fixed_long_wide.walk (g : Nat) (s0_0 s0_1 s0_2 : Int) (w : World) (h0 : w.cell? ⟨g, 0, none⟩ = some (.int .i64 s0_0)) (h1 : w.cell? ⟨g, 1, none⟩ = some (.int .u64 s0_1)) (h2 : w.cell? ⟨g, 2, none⟩ = some (.int .u64 s0_2)) (hg : g < w.heap.size) :
  Calls Try.prog 68 #[.pointer (some ⟨g, 0, none⟩)] w fun e w' => e = .returned (.tuple #[.agg #[.int .i64 (wrap64 s0_1), .int .u64 s0_2], .bool (s0_0 == wrap64 s0_1 / 9223372036854775808)]) ∧ w' = ((w.alloc (.cells #[.int .i64 (wrap64 s0_1), .int .u64 s0_2] 66)).alloc (.cells #[.int .i64 (wrap64 s0_1), .int .u64 s0_2] 66)).drew.drew := by
 go_enter Try.func68, Try.ntmps68
 go_wp2
 go_region
 go_wp2
 go_region
 go_wp2
 refine bodyPost_ret (v := .tuple #[.agg #[.int .i64 (wrap64 s0_1), .int .u64 s0_2], .bool (s0_0 == wrap64 s0_1 / 9223372036854775808)]) (by simp [results, Try.results68, go_sem]) rfl ⟨rfl, rfl⟩
def longWide (s : Int × Int × Int) : Option (Int × Int × Int) := fixed_fits.f (wrap64 s.2.1) s.2.2 (s.1 == wrap64 s.2.1 / 9223372036854775808)
end Go.Proofs.Ytfbkgfffalppmaa.Wf
end
section
namespace Go.Proofs.Ytfbkgfffalppmaa.Wf
open Go.RowKit Go.Proofs.YtfbkgfffalppmaaW.PrintWords Go.Proofs.YtfbkgfffalppmaaW.PrintLast Go.Proofs.YtfbkgfffalppmaaW.PrintMore
attribute [local go_sem] max2_int min2_int max_two min_two max_three min_three max_four min_four   -- for this text's walks alone
set_option linter.unusedVariables false
set_option linter.unusedSimpArgs false
attribute [local go_sem] run_add64_any
end Go.Proofs.Ytfbkgfffalppmaa.Wf
end
section
namespace Go.Proofs.Ytfbkgfffalppmaa.Wf
open Go.RowKit Go.Proofs.YtfbkgfffalppmaaW.PrintWords Go.Proofs.YtfbkgfffalppmaaW.PrintLast Go.Proofs.YtfbkgfffalppmaaW.PrintMore
attribute [local go_sem] max2_int min2_int max_two min_two max_three min_three max_four min_four   -- for this text's walks alone
set_option linter.unusedVariables false
set_option linter.unusedSimpArgs false
attribute [local go_sem] run_add64_any
def fixed_turned.f (a0_0 : Int) (a0_1 : Int) : Option (Int × Int) := some (wrap64 (IntKind.u64.wrap ((Go.bits .xor .u64 18446744073709551615 (IntKind.u64.wrap (a0_0))) + (addHi (Go.bits .xor .u64 18446744073709551615 a0_1) 1 0))), addLo (Go.bits .xor .u64 18446744073709551615 a0_1) 1 0)
set_option maxHeartbeats 8000000 in
set_option maxRecDepth 100000 in
theorem fixed_turned.calls (a0_0 : Int) (a0_1 : Int) (r1 : Int) (r2 : Int) (w : World) (h : fixed_turned.f a0_0 a0_1 = some (r1, r2)) :
  Calls Try.prog 82 #[.agg #[.int .i64 a0_0, .int .u64 a0_1]] w fun e w' => e = .returned (.agg #[.int .i64 r1, .int .u64 r2]) ∧ Below w.heap.size w w' := by
 have hu66 := Try.underlying66
 have HB := A_ (Below.refl w.heap.size w)
 have H : (some (wrap64 (IntKind.u64.wrap ((Go.bits .xor .u64 18446744073709551615 (IntKind.u64.wrap (a0_0))) + (addHi (Go.bits .xor .u64 18446744073709551615 a0_1) 1 0))), addLo (Go.bits .xor .u64 18446744073709551615 a0_1) 1 0)) = some (r1, r2) := h
 clear h
 simp only [Option.some.injEq, Prod.mk.injEq] at H
 obtain ⟨rfl, rfl⟩ := H
 go_enter Try.func82, Try.ntmps82
 go_wp2_with (first | ((with_reducible refine gate_dst (N := 1) rfl ?_); refine box_event ?hg (N := 1) ?hd (cs := #[.int .i64 a0_0, .int .u64 a0_1]) (t := 66) ?hr ?_; (case hd => rfl); (case hg => rfl); (case hr => first | (go_simp; done) | (go_simp; rfl)); intro gb301 hg w2 hbox hb; have n0_ := A_ (bs_ bw_ hb); have n1_ := A_ (hbox); have n2_ := A_ ((by rw [hg]; exact (bz_ bw_) : w.heap.size ≤ gb301)); have n3_ := A_ ((by rw [hg]; exact (bz_ bw_) : w.heap.size ≤ gb301)); clear HB; have HB := n0_; have BK301 := n1_; have GW301 := n2_; have GE301 := n3_; clear n0_ n1_ n2_ n3_; clear hb hbox hg) | ((with_reducible refine gate_dst (N := 2) rfl ?_); refine box_event ?hg (N := 2) ?hd (cs := #[.int .i64 0, .int .u64 0]) (t := 66) ?hr ?_; (case hd => rfl); (case hg => rfl); (case hr => first | (go_simp; done) | (go_simp; rfl)); intro gb302 hg w3 hbox hb; have n0_ := A_ (kb_ BK301 hb); have n1_ := A_ (bs_ bw_ hb); have n2_ := A_ (hbox); have n3_ := A_ ((by rw [hg]; exact (bz_ bw_) : w.heap.size ≤ gb302)); have n4_ := A_ ((by rw [hg]; exact (bz_ bw_) : w.heap.size ≤ gb302)); have n5_ := A_ ((by rw [hg]; exact nl_ (lt_ BK301) : gb301 ≠ gb302)); have n6_ := A_ ((by rw [hg]; exact ng_ (lt_ BK301) : gb302 ≠ gb301)); clear BK301; clear HB; have BK301 := n0_; have HB := n1_; have BK302 := n2_; have GW302 := n3_; have GE302 := n4_; have NB301_302 := n5_; have NB302_301 := n6_; clear n0_ n1_ n2_ n3_ n4_ n5_ n6_; clear hb hbox hg; have hnb4 := NB301_302.out; have hnc4 := NB302_301.out; have hcz5_0 : w3.cell? ⟨gb301, 0, none⟩ = some (.int .i64 a0_0) := (bc_ BK301.out 0).trans rfl; have hcz5_1 : w3.cell? ⟨gb301, 1, none⟩ = some (.int .u64 a0_1) := (bc_ BK301.out 1).trans rfl; have hfz5_0 := bf_ BK301.out 0; have hfz5_1 := bf_ BK301.out 1; have hcz6_0 : w3.cell? ⟨gb302, 0, none⟩ = some (.int .i64 0) := (bc_ BK302.out 0).trans rfl; have hcz6_1 : w3.cell? ⟨gb302, 1, none⟩ = some (.int .u64 0) := (bc_ BK302.out 1).trans rfl; have hfz6_0 := bf_ BK302.out 0; have hfz6_1 := bf_ BK302.out 1))
 refine bodyPost_ret (results_cell_row rfl _ _ gb302 66 #[.int .i64 (wrap64 (IntKind.u64.wrap ((Go.bits .xor .u64 18446744073709551615 (IntKind.u64.wrap (a0_0))) + (addHi (Go.bits .xor .u64 18446744073709551615 a0_1) 1 0)))), .int .u64 (addLo (Go.bits .xor .u64 18446744073709551615 a0_1) 1 0)] (0, 0) _ rfl (by (with_reducible repeat (first | refine bn_ ?_ _ | refine bd_ ?_ | refine ba_ ?_ _)); refine bp_ (cs := #[.int .i64 (wrap64 (IntKind.u64.wrap ((Go.bits .xor .u64 18446744073709551615 (IntKind.u64.wrap (a0_0))) + (addHi (Go.bits .xor .u64 18446744073709551615 a0_1) 1 0)))), .int .u64 0]) ?_ 1 _ rfl; (with_reducible repeat (first | refine bn_ ?_ _ | refine bd_ ?_ | refine ba_ ?_ _)); refine bp_ (cs := #[.int .i64 0, .int .u64 0]) ?_ 0 _ rfl; (with_reducible repeat (first | refine bn_ ?_ _ | refine bd_ ?_ | refine ba_ ?_ _)); exact BK302.out) Try.underlying66 rfl (by kernel_rfl)) rfl ?_
 exact ⟨by first | rfl | (simp [errW_none, errW_some] <;> rfl) | (simp [*, errW_none, errW_some] <;> rfl), bw_⟩
end Go.Proofs.Ytfbkgfffalppmaa.Wf
end
section
namespace Go.Proofs.Ytfbkgfffalppmaa.Wf
open Go.RowKit Go.Proofs.YtfbkgfffalppmaaW.PrintWords Go.Proofs.YtfbkgfffalppmaaW.PrintLast Go.Proofs.YtfbkgfffalppmaaW.PrintMore
attribute [local go_sem] max2_int min2_int max_two min_two max_three min_three max_four min_four   -- for this text's walks alone
set_option linter.unusedVariables false
set_option linter.unusedSimpArgs false
attribute [local go_sem] run_add64_any
def fixed_size.f (a0 : Int) : Option (Int) := if a0 < 0 then (some (IntKind.u64.wrap (-(IntKind.u64.wrap (a0))))) else (some (IntKind.u64.wrap (a0)))
set_option maxHeartbeats 8000000 in
set_option maxRecDepth 100000 in
theorem fixed_size.calls (a0 : Int) (r : Int) (w : World) (h : fixed_size.f a0 = some r) :
  Calls Try.prog 76 #[.int .i64 a0] w fun e w' => e = .returned (.int .u64 r) ∧ Drawn0 w w' := by
 have H : (if a0 < 0 then (some (IntKind.u64.wrap (-(IntKind.u64.wrap (a0))))) else (some (IntKind.u64.wrap (a0)))) = some r := h
 clear h
 by_cases c2 : a0 < 0
 ·
  rw [if_pos c2] at H
  have c2b0 : decide (a0 < 0) = true := decide_eq_true c2
  clear c2
  obtain rfl := Option.some.inj H
  go_enter Try.func76, Try.ntmps76
  go_wp2
  go_ret
  exact ⟨by first | rfl | (simp; done) | (simp [*]; done), by repeat (first | exact Drawn0.refl _ | apply Drawn0.step)⟩
 ·
  rw [if_neg c2] at H
  have c2b0 : decide (a0 < 0) = false := decide_eq_false c2
  clear c2
  obtain rfl := Option.some.inj H
  go_enter Try.func76, Try.ntmps76
  go_wp2
  go_ret
  exact ⟨by first | rfl | (simp; done) | (simp [*]; done), by repeat (first | exact Drawn0.refl _ | apply Drawn0.step)⟩
end Go.Proofs.Ytfbkgfffalppmaa.Wf
end
section
namespace Go.Proofs.Ytfbkgfffalppmaa.Wf
open Go.RowKit Go.Proofs.YtfbkgfffalppmaaW.PrintWords Go.Proofs.YtfbkgfffalppmaaW.PrintLast Go.Proofs.YtfbkgfffalppmaaW.PrintMore
attribute [local go_sem] max2_int min2_int max_two min_two max_three min_three max_four min_four   -- for this text's walks alone
set_option linter.unusedVariables false
set_option linter.unusedSimpArgs false
attribute [local go_sem] run_add64_any
def fixed_Times.f (a0 : Int) (a1 : Int) : Option (Int × Int) := (fixed_size.f a0).bind fun t151 => ((fixed_size.f a1).bind fun t152 => ((bits_Mul64.f t151 t152).bind fun bt153 => (if ((decide (a0 < 0)) != (decide (a1 < 0))) = true then ((fixed_turned.f (wrap64 (bt153.1)) bt153.2).bind fun bt155 => (some (bt155.1, bt155.2))) else (some (wrap64 (bt153.1), bt153.2)))))
set_option maxHeartbeats 8000000 in
set_option maxRecDepth 100000 in
theorem fixed_Times.calls (a0 : Int) (a1 : Int) (r1 : Int) (r2 : Int) (w : World) (h : fixed_Times.f a0 a1 = some (r1, r2)) :
  Calls Try.prog 62 #[.int .i64 a0, .int .i64 a1] w fun e w' => e = .returned (.agg #[.int .i64 r1, .int .u64 r2]) ∧ Below w.heap.size w w' := by
 have hu66 := Try.underlying66
 have HB := A_ (Below.refl w.heap.size w)
 have H : ((fixed_size.f a0).bind fun t151 => ((fixed_size.f a1).bind fun t152 => ((bits_Mul64.f t151 t152).bind fun bt153 => (if ((decide (a0 < 0)) != (decide (a1 < 0))) = true then ((fixed_turned.f (wrap64 (bt153.1)) bt153.2).bind fun bt155 => (some (bt155.1, bt155.2))) else (some (wrap64 (bt153.1), bt153.2)))))) = some (r1, r2) := h
 clear h
 replace H := os_ H
 obtain ⟨t151, A30, H⟩ := H
 replace H : ((fixed_size.f a1).bind fun t152 => ((bits_Mul64.f t151 t152).bind fun bt153 => (if ((decide (a0 < 0)) != (decide (a1 < 0))) = true then ((fixed_turned.f (wrap64 (bt153.1)) bt153.2).bind fun bt155 => (some (bt155.1, bt155.2))) else (some (wrap64 (bt153.1), bt153.2))))) = some (r1, r2) := H
 have A3 := A_ A30
 clear A30
 replace H := os_ H
 obtain ⟨t152, A40, H⟩ := H
 replace H : ((bits_Mul64.f t151 t152).bind fun bt153 => (if ((decide (a0 < 0)) != (decide (a1 < 0))) = true then ((fixed_turned.f (wrap64 (bt153.1)) bt153.2).bind fun bt155 => (some (bt155.1, bt155.2))) else (some (wrap64 (bt153.1), bt153.2)))) = some (r1, r2) := H
 have A4 := A_ A40
 clear A40
 replace H := os_ H
 obtain ⟨⟨t153, t154⟩, A50, H⟩ := H
 replace H : (if ((decide (a0 < 0)) != (decide (a1 < 0))) = true then ((fixed_turned.f (wrap64 (t153)) t154).bind fun bt155 => (some (bt155.1, bt155.2))) else (some (wrap64 (t153), t154))) = some (r1, r2) := H
 have A5 := A_ A50
 clear A50
 by_cases c6 : ((decide (a0 < 0)) != (decide (a1 < 0))) = true
 ·
  rw [if_pos c6] at H
  have c6b0 : ((decide (a0 < 0)) != (decide (a1 < 0))) = true := c6
  (try (have c6b1 : decide ((decide (a0 < 0)) = (decide (a1 < 0))) = false := by simpa using c6))
  (try (have c6b2 : ((decide (a0 < 0)) == (decide (a1 < 0))) = false := by simpa using c6))
  (try (have c6b3 : ¬ ((decide (a0 < 0)) = (decide (a1 < 0))) := by simpa using c6))
  clear c6
  replace H := os_ H
  obtain ⟨⟨t155, t156⟩, A70, H⟩ := H
  replace H : (some (t155, t156)) = some (r1, r2) := H
  have A7 := A_ A70
  clear A70
  simp only [Option.some.injEq, Prod.mk.injEq] at H
  obtain ⟨rfl, rfl⟩ := H
  go_enter Try.func62, Try.ntmps62
  go_wp2_with (first | ((with_reducible refine gate_dst (N := 4) rfl ?_); refine box_event ?hg (N := 4) ?hd (cs := #[.int .i64 0, .int .u64 0]) (t := 66) ?hr ?_; (case hd => rfl); (case hg => rfl); (case hr => first | (go_simp; done) | (go_simp; rfl)); intro gb304 hg w8 hbox hb; have n0_ := A_ (bs_ bw_ hb); have n1_ := A_ (hbox); have n2_ := A_ ((by rw [hg]; exact (bz_ bw_) : w.heap.size ≤ gb304)); have n3_ := A_ ((by rw [hg]; exact (bz_ bw_) : w.heap.size ≤ gb304)); clear HB; have HB := n0_; have BK304 := n1_; have GW304 := n2_; have GE304 := n3_; clear n0_ n1_ n2_ n3_; clear hb hbox hg) | ((with_reducible refine gate_callee (f := 76) rfl ?_); refine goesL_ (some 10) rfl rfl Try.func76 (by kernel_rfl) rfl #[.int .i64 a0] rfl (by (try simp only [List.map_toArray, List.map_cons, List.map_nil]); first | done | rfl | (simp only [List.length_drop, List.length_take]; rfl)) ?_; (with_reducible refine (fixed_size.calls a0 t151 _ A3.out).mono ?_); rintro e w' ⟨rfl, ⟨nd, rfl⟩⟩; refine ⟨_, rfl, ?_⟩; (try (rw [drewN_self w8]; generalize hq_ : World.drewN w8 _ = w8; have n0_ : Aside0 (w8.heap[gb304]? = some (.cells #[.int .i64 0, .int .u64 0] 66 (0, 0))) := ⟨by rw [← hq_]; exact bk_⟩; have n1_ : Aside0 (Below w.heap.size w w8) := ⟨by rw [← hq_]; exact bw_⟩; clear BK304 HB hq_; have BK304 := n0_; have HB := n1_; clear n0_ n1_))) | ((with_reducible refine gate_callee (f := 76) rfl ?_); refine goesL_ (some 12) rfl rfl Try.func76 (by kernel_rfl) rfl #[.int .i64 a1] rfl (by (try simp only [List.map_toArray, List.map_cons, List.map_nil]); first | done | rfl | (simp only [List.length_drop, List.length_take]; rfl)) ?_; (with_reducible refine (fixed_size.calls a1 t152 _ A4.out).mono ?_); rintro e w' ⟨rfl, ⟨nd, rfl⟩⟩; refine ⟨_, rfl, ?_⟩; (try (rw [drewN_self w8]; generalize hq_ : World.drewN w8 _ = w8; have n0_ : Aside0 (w8.heap[gb304]? = some (.cells #[.int .i64 0, .int .u64 0] 66 (0, 0))) := ⟨by rw [← hq_]; exact bk_⟩; have n1_ : Aside0 (Below w.heap.size w w8) := ⟨by rw [← hq_]; exact bw_⟩; clear BK304 HB hq_; have BK304 := n0_; have HB := n1_; clear n0_ n1_))) | ((with_reducible refine gate_callee (f := 81) rfl ?_); refine goesL_ (some 13) rfl rfl Try.func81 (by kernel_rfl) rfl #[.int .u64 t151, .int .u64 t152] rfl (by (try simp only [List.map_toArray, List.map_cons, List.map_nil]); first | done | rfl | (simp only [List.length_drop, List.length_take]; rfl)) ?_; (with_reducible refine (bits_Mul64.calls t151 t152 t153 t154 _ A5.out).mono ?_); rintro e w' ⟨rfl, ⟨nd, rfl⟩⟩; refine ⟨_, rfl, ?_⟩; (try (rw [drewN_self w8]; generalize hq_ : World.drewN w8 _ = w8; have n0_ : Aside0 (w8.heap[gb304]? = some (.cells #[.int .i64 0, .int .u64 0] 66 (0, 0))) := ⟨by rw [← hq_]; exact bk_⟩; have n1_ : Aside0 (Below w.heap.size w w8) := ⟨by rw [← hq_]; exact bw_⟩; clear BK304 HB hq_; have BK304 := n0_; have HB := n1_; clear n0_ n1_))) | ((with_reducible refine gate_dst (N := 7) rfl ?_); refine box_event ?hg (N := 7) ?hd (cs := #[.int .i64 0, .int .u64 0]) (t := 66) ?hr ?_; (case hd => rfl); (case hg => rfl); (case hr => first | (go_simp; done) | (go_simp; rfl)); intro gb307 hg w9 hbox hb; have n0_ := A_ (kb_ BK304 hb); have n1_ := A_ (bs_ bw_ hb); have n2_ := A_ (hbox); have n3_ := A_ ((by rw [hg]; exact (bz_ bw_) : w.heap.size ≤ gb307)); have n4_ := A_ ((by rw [hg]; exact (bz_ bw_) : w.heap.size ≤ gb307)); have n5_ := A_ ((by rw [hg]; exact nl_ (lt_ BK304) : gb304 ≠ gb307)); have n6_ := A_ ((by rw [hg]; exact ng_ (lt_ BK304) : gb307 ≠ gb304)); clear BK304; clear HB; have BK304 := n0_; have HB := n1_; have BK307 := n2_; have GW307 := n3_; have GE307 := n4_; have NB304_307 := n5_; have NB307_304 := n6_; clear n0_ n1_ n2_ n3_ n4_ n5_ n6_; clear hb hbox hg; have hnb10 := NB307_304.out; have hnc10 := NB304_307.out; have hcz11_0 : w9.cell? ⟨gb307, 0, none⟩ = some (.int .i64 0) := (bc_ BK307.out 0).trans rfl; have hcz11_1 : w9.cell? ⟨gb307, 1, none⟩ = some (.int .u64 0) := (bc_ BK307.out 1).trans rfl; have hfz11_0 := bf_ BK307.out 0; have hfz11_1 := bf_ BK307.out 1) | ((with_reducible refine gate_callee (f := 82) rfl ?_); refine goesL_ (some 26) rfl rfl Try.func82 (by kernel_rfl) rfl #[.agg #[.int .i64 (wrap64 (t153)), .int .u64 t154]] rfl (by (try simp only [List.map_toArray, List.map_cons, List.map_nil]); first | done | rfl | (simp only [List.length_drop, List.length_take]; rfl)) ?_; (with_reducible refine (fixed_turned.calls (wrap64 (t153)) t154 t155 t156 _ A7.out).mono ?_); rintro e w12 ⟨rfl, hb⟩; refine ⟨_, rfl, ?_⟩; have n0_ := A_ (kb_ BK304 hb); have n1_ := A_ (blk_below (g := gb307) (o := .cells #[.int .i64 (wrap64 (t153)), .int .u64 t154] 66 (0, 0)) (by (with_reducible repeat (first | refine bn_ ?_ _ | refine bd_ ?_ | refine ba_ ?_ _)); refine bp_ (cs := #[.int .i64 (wrap64 (t153)), .int .u64 0]) ?_ 1 _ rfl; (with_reducible repeat (first | refine bn_ ?_ _ | refine bd_ ?_ | refine ba_ ?_ _)); refine bp_ (cs := #[.int .i64 0, .int .u64 0]) ?_ 0 _ rfl; (with_reducible repeat (first | refine bn_ ?_ _ | refine bd_ ?_ | refine ba_ ?_ _)); exact BK307.out) hb); have n2_ := A_ (bs_ bw_ hb); clear BK304; clear BK307; clear HB; have BK304 := n0_; have BK307 := n1_; have HB := n2_; clear n0_ n1_ n2_; (try clear hb); (try clear hb2); (try clear hk); (try clear hi); have hcz13_0 : w12.cell? ⟨gb304, 0, none⟩ = some (.int .i64 0) := (bc_ BK304.out 0).trans rfl; have hcz13_1 : w12.cell? ⟨gb304, 1, none⟩ = some (.int .u64 0) := (bc_ BK304.out 1).trans rfl; have hfz13_0 := bf_ BK304.out 0; have hfz13_1 := bf_ BK304.out 1))
  refine bodyPost_ret (results_cell_row rfl _ _ gb304 66 #[.int .i64 t155, .int .u64 t156] (0, 0) _ rfl (by (with_reducible repeat (first | refine bn_ ?_ _ | refine bd_ ?_ | refine ba_ ?_ _)); refine bp_ (cs := #[.int .i64 t155, .int .u64 0]) ?_ 1 _ rfl; (with_reducible repeat (first | refine bn_ ?_ _ | refine bd_ ?_ | refine ba_ ?_ _)); refine bp_ (cs := #[.int .i64 0, .int .u64 0]) ?_ 0 _ rfl; (with_reducible repeat (first | refine bn_ ?_ _ | refine bd_ ?_ | refine ba_ ?_ _)); exact BK304.out) Try.underlying66 rfl (by kernel_rfl)) rfl ?_
  exact ⟨by first | rfl | (simp [errW_none, errW_some] <;> rfl) | (simp [*, errW_none, errW_some] <;> rfl), bw_⟩
 ·
  rw [if_neg c6] at H
  have c6b0 : ((decide (a0 < 0)) != (decide (a1 < 0))) = false := by simpa using c6
  (try (have c6b1 : decide ((decide (a0 < 0)) = (decide (a1 < 0))) = true := by simpa using c6))
  (try (have c6b2 : ((decide (a0 < 0)) == (decide (a1 < 0))) = true := by simpa using c6))
  clear c6
  simp only [Option.some.injEq, Prod.mk.injEq] at H
  obtain ⟨rfl, rfl⟩ := H
  go_enter Try.func62, Try.ntmps62
  go_wp2_with (first | ((with_reducible refine gate_dst (N := 4) rfl ?_); refine box_event ?hg (N := 4) ?hd (cs := #[.int .i64 0, .int .u64 0]) (t := 66) ?hr ?_; (case hd => rfl); (case hg => rfl); (case hr => first | (go_simp; done) | (go_simp; rfl)); intro gb304 hg w14 hbox hb; have n0_ := A_ (bs_ bw_ hb); have n1_ := A_ (hbox); have n2_ := A_ ((by rw [hg]; exact (bz_ bw_) : w.heap.size ≤ gb304)); have n3_ := A_ ((by rw [hg]; exact (bz_ bw_) : w.heap.size ≤ gb304)); clear HB; have HB := n0_; have BK304 := n1_; have GW304 := n2_; have GE304 := n3_; clear n0_ n1_ n2_ n3_; clear hb hbox hg) | ((with_reducible refine gate_callee (f := 76) rfl ?_); refine goesL_ (some 10) rfl rfl Try.func76 (by kernel_rfl) rfl #[.int .i64 a0] rfl (by (try simp only [List.map_toArray, List.map_cons, List.map_nil]); first | done | rfl | (simp only [List.length_drop, List.length_take]; rfl)) ?_; (with_reducible refine (fixed_size.calls a0 t151 _ A3.out).mono ?_); rintro e w' ⟨rfl, ⟨nd, rfl⟩⟩; refine ⟨_, rfl, ?_⟩; (try (rw [drewN_self w14]; generalize hq_ : World.drewN w14 _ = w14; have n0_ : Aside0 (w14.heap[gb304]? = some (.cells #[.int .i64 0, .int .u64 0] 66 (0, 0))) := ⟨by rw [← hq_]; exact bk_⟩; have n1_ : Aside0 (Below w.heap.size w w14) := ⟨by rw [← hq_]; exact bw_⟩; clear BK304 HB hq_; have BK304 := n0_; have HB := n1_; clear n0_ n1_))) | ((with_reducible refine gate_callee (f := 76) rfl ?_); refine goesL_ (some 12) rfl rfl Try.func76 (by kernel_rfl) rfl #[.int .i64 a1] rfl (by (try simp only [List.map_toArray, List.map_cons, List.map_nil]); first | done | rfl | (simp only [List.length_drop, List.length_take]; rfl)) ?_; (with_reducible refine (fixed_size.calls a1 t152 _ A4.out).mono ?_); rintro e w' ⟨rfl, ⟨nd, rfl⟩⟩; refine ⟨_, rfl, ?_⟩; (try (rw [drewN_self w14]; generalize hq_ : World.drewN w14 _ = w14; have n0_ : Aside0 (w14.heap[gb304]? = some (.cells #[.int .i64 0, .int .u64 0] 66 (0, 0))) := ⟨by rw [← hq_]; exact bk_⟩; have n1_ : Aside0 (Below w.heap.size w w14) := ⟨by rw [← hq_]; exact bw_⟩; clear BK304 HB hq_; have BK304 := n0_; have HB := n1_; clear n0_ n1_))) | ((with_reducible refine gate_callee (f := 81) rfl ?_); refine goesL_ (some 13) rfl rfl Try.func81 (by kernel_rfl) rfl #[.int .u64 t151, .int .u64 t152] rfl (by (try simp only [List.map_toArray, List.map_cons, List.map_nil]); first | done | rfl | (simp only [List.length_drop, List.length_take]; rfl)) ?_; (with_reducible refine (bits_Mul64.calls t151 t152 t153 t154 _ A5.out).mono ?_); rintro e w' ⟨rfl, ⟨nd, rfl⟩⟩; refine ⟨_, rfl, ?_⟩; (try (rw [drewN_self w14]; generalize hq_ : World.drewN w14 _ = w14; have n0_ : Aside0 (w14.heap[gb304]? = some (.cells #[.int .i64 0, .int .u64 0] 66 (0, 0))) := ⟨by rw [← hq_]; exact bk_⟩; have n1_ : Aside0 (Below w.heap.size w w14) := ⟨by rw [← hq_]; exact bw_⟩; clear BK304 HB hq_; have BK304 := n0_; have HB := n1_; clear n0_ n1_))) | ((with_reducible refine gate_dst (N := 7) rfl ?_); refine box_event ?hg (N := 7) ?hd (cs := #[.int .i64 0, .int .u64 0]) (t := 66) ?hr ?_; (case hd => rfl); (case hg => rfl); (case hr => first | (go_simp; done) | (go_simp; rfl)); intro gb307 hg w15 hbox hb; have n0_ := A_ (kb_ BK304 hb); have n1_ := A_ (bs_ bw_ hb); have n2_ := A_ (hbox); have n3_ := A_ ((by rw [hg]; exact (bz_ bw_) : w.heap.size ≤ gb307)); have n4_ := A_ ((by rw [hg]; exact (bz_ bw_) : w.heap.size ≤ gb307)); have n5_ := A_ ((by rw [hg]; exact nl_ (lt_ BK304) : gb304 ≠ gb307)); have n6_ := A_ ((by rw [hg]; exact ng_ (lt_ BK304) : gb307 ≠ gb304)); clear BK304; clear HB; have BK304 := n0_; have HB := n1_; have BK307 := n2_; have GW307 := n3_; have GE307 := n4_; have NB304_307 := n5_; have NB307_304 := n6_; clear n0_ n1_ n2_ n3_ n4_ n5_ n6_; clear hb hbox hg; have hnb16 := NB307_304.out; have hnc16 := NB304_307.out; have hcz17_0 : w15.cell? ⟨gb307, 0, none⟩ = some (.int .i64 0) := (bc_ BK307.out 0).trans rfl; have hcz17_1 : w15.cell? ⟨gb307, 1, none⟩ = some (.int .u64 0) := (bc_ BK307.out 1).trans rfl; have hfz17_0 := bf_ BK307.out 0; have hfz17_1 := bf_ BK307.out 1; have hcz18_0 : w15.cell? ⟨gb304, 0, none⟩ = some (.int .i64 0) := (bc_ BK304.out 0).trans rfl; have hcz18_1 : w15.cell? ⟨gb304, 1, none⟩ = some (.int .u64 0) := (bc_ BK304.out 1).trans rfl; have hfz18_0 := bf_ BK304.out 0; have hfz18_1 := bf_ BK304.out 1))
  refine bodyPost_ret (results_cell_row rfl _ _ gb304 66 #[.int .i64 (wrap64 (t153)), .int .u64 t154] (0, 0) _ rfl (by (with_reducible repeat (first | refine bn_ ?_ _ | refine bd_ ?_ | refine ba_ ?_ _)); refine bp_ (cs := #[.int .i64 (wrap64 (t153)), .int .u64 0]) ?_ 1 _ rfl; (with_reducible repeat (first | refine bn_ ?_ _ | refine bd_ ?_ | refine ba_ ?_ _)); refine bp_ (cs := #[.int .i64 0, .int .u64 0]) ?_ 0 _ rfl; (with_reducible repeat (first | refine bn_ ?_ _ | refine bd_ ?_ | refine ba_ ?_ _)); refine br_ ?_ NB304_307.out _; (with_reducible repeat (first | refine bn_ ?_ _ | refine bd_ ?_ | refine ba_ ?_ _)); refine br_ ?_ NB304_307.out _; (with_reducible repeat (first | refine bn_ ?_ _ | refine bd_ ?_ | refine ba_ ?_ _)); exact BK304.out) Try.underlying66 rfl (by kernel_rfl)) rfl ?_
  exact ⟨by first | rfl | (simp [errW_none, errW_some] <;> rfl) | (simp [*, errW_none, errW_some] <;> rfl), bw_⟩
end Go.Proofs.Ytfbkgfffalppmaa.Wf
end
section
namespace Go.Proofs.Ytfbkgfffalppmaa.Wf
open Go.RowKit Go.Proofs.YtfbkgfffalppmaaW.PrintWords Go.Proofs.YtfbkgfffalppmaaW.PrintLast Go.Proofs.YtfbkgfffalppmaaW.PrintMore
attribute [local go_sem] max2_int min2_int max_two min_two max_three min_three max_four min_four   -- for this text's walks alone
set_option linter.unusedVariables false
set_option linter.unusedSimpArgs false
attribute [local go_sem] run_add64_any
end Go.Proofs.Ytfbkgfffalppmaa.Wf
end
section
namespace Go.Proofs.Ytfbkgfffalppmaa.Wf
open Go.RowKit Go.Proofs.YtfbkgfffalppmaaW.PrintWords Go.Proofs.YtfbkgfffalppmaaW.PrintLast Go.Proofs.YtfbkgfffalppmaaW.PrintMore
attribute [local go_sem] max2_int min2_int max_two min_two max_three min_three max_four min_four   -- for this text's walks alone
set_option linter.unusedVariables false
set_option linter.unusedSimpArgs false
attribute [local go_sem] run_add64_any
end Go.Proofs.Ytfbkgfffalppmaa.Wf
end
section
namespace Go.Proofs.Ytfbkgfffalppmaa.Wf
open Go.RowKit Go.Proofs.YtfbkgfffalppmaaW.PrintWords Go.Proofs.YtfbkgfffalppmaaW.PrintLast Go.Proofs.YtfbkgfffalppmaaW.PrintMore
attribute [local go_sem] max2_int min2_int max_two min_two max_three min_three max_four min_four   -- for this text's walks alone
set_option linter.unusedVariables false
set_option linter.unusedSimpArgs false
attribute [local go_sem] run_add64_any
end Go.Proofs.Ytfbkgfffalppmaa.Wf
end
section
namespace Go.Proofs.Ytfbkgfffalppmaa.Wf
open Go.RowKit Go.Proofs.YtfbkgfffalppmaaW.PrintWords Go.Proofs.YtfbkgfffalppmaaW.PrintLast Go.Proofs.YtfbkgfffalppmaaW.PrintMore
attribute [local go_sem] max2_int min2_int max_two min_two max_three min_three max_four min_four   -- for this text's walks alone
set_option linter.unusedVariables false
set_option linter.unusedSimpArgs false
attribute [local go_sem] run_add64_any
end Go.Proofs.Ytfbkgfffalppmaa.Wf
end
section
namespace Go.Proofs.Ytfbkgfffalppmaa.Wf
open Go.RowKit Go.Proofs.YtfbkgfffalppmaaW.PrintWords Go.Proofs.YtfbkgfffalppmaaW.PrintLast Go.Proofs.YtfbkgfffalppmaaW.PrintMore
attribute [local go_sem] max2_int min2_int max_two min_two max_three min_three max_four min_four   -- for this text's walks alone
set_option linter.unusedVariables false
set_option linter.unusedSimpArgs false
attribute [local go_sem] run_add64_any
end Go.Proofs.Ytfbkgfffalppmaa.Wf
end
section
namespace Go.Proofs.Ytfbkgfffalppmaa.Wf
open Go.RowKit Go.Proofs.YtfbkgfffalppmaaW.PrintWords Go.Proofs.YtfbkgfffalppmaaW.PrintLast Go.Proofs.YtfbkgfffalppmaaW.PrintMore
attribute [local go_sem] max2_int min2_int max_two min_two max_three min_three max_four min_four   -- for this text's walks alone
set_option linter.unusedVariables false
set_option linter.unusedSimpArgs false
attribute [local go_sem] run_add64_any
end Go.Proofs.Ytfbkgfffalppmaa.Wf
end
section
namespace Go.Proofs.Ytfbkgfffalppmaa.Wf
open Go.RowKit Go.Proofs.YtfbkgfffalppmaaW.PrintWords Go.Proofs.YtfbkgfffalppmaaW.PrintLast Go.Proofs.YtfbkgfffalppmaaW.PrintMore
attribute [local go_sem] max2_int min2_int max_two min_two max_three min_three max_four min_four   -- for this text's walks alone
set_option linter.unusedVariables false
set_option linter.unusedSimpArgs false
attribute [local go_sem] run_add64_any
end Go.Proofs.Ytfbkgfffalppmaa.Wf
end
section
namespace Go.Proofs.Ytfbkgfffalppmaa.Wf
open Go.RowKit Go.Proofs.YtfbkgfffalppmaaW.PrintWords Go.Proofs.YtfbkgfffalppmaaW.PrintLast Go.Proofs.YtfbkgfffalppmaaW.PrintMore
attribute [local go_sem] max2_int min2_int max_two min_two max_three min_three max_four min_four   -- for this text's walks alone
set_option linter.unusedVariables false
set_option linter.unusedSimpArgs false
attribute [local go_sem] run_add64_any
def fixed_Int.f (a0_0 : Int) (a0_1 : Int) : Option (Int × Int) := if a0_0 = ((wrap64 (a0_1)) / 9223372036854775808) then (some (wrap64 (a0_1), 0)) else (some (0, 4))
set_option maxHeartbeats 8000000 in
set_option maxRecDepth 100000 in
theorem fixed_Int.calls (a0_0 : Int) (a0_1 : Int) (r1 : Int) (r2 : Int) (w : World) (h : fixed_Int.f a0_0 a0_1 = some (r1, r2)) :
  Calls Try.prog 26 #[.agg #[.int .i64 a0_0, .int .u64 a0_1]] w fun e w' => e = .returned (.tuple #[.int .i64 r1, .int .i64 r2]) ∧ Below w.heap.size w w' := by
 have hu66 := Try.underlying66
 have HB := A_ (Below.refl w.heap.size w)
 have H : (if a0_0 = ((wrap64 (a0_1)) / 9223372036854775808) then (some (wrap64 (a0_1), 0)) else (some (0, 4))) = some (r1, r2) := h
 clear h
 by_cases c2 : a0_0 = ((wrap64 (a0_1)) / 9223372036854775808)
 ·
  rw [if_pos c2] at H
  have c2b0 : (a0_0 == ((wrap64 (a0_1)) / 9223372036854775808)) = true := q1_ c2
  have c2b1 : (a0_0 != ((wrap64 (a0_1)) / 9223372036854775808)) = false := q3_ c2
  clear c2
  simp only [Option.some.injEq, Prod.mk.injEq] at H
  obtain ⟨rfl, rfl⟩ := H
  go_enter Try.func26, Try.ntmps26
  go_wp2_with (first | ((with_reducible refine gate_dst (N := 1) rfl ?_); refine box_event ?hg (N := 1) ?hd (cs := #[.int .i64 a0_0, .int .u64 a0_1]) (t := 66) ?hr ?_; (case hd => rfl); (case hg => rfl); (case hr => first | (go_simp; done) | (go_simp; rfl)); intro gb301 hg w3 hbox hb; have n0_ := A_ (bs_ bw_ hb); have n1_ := A_ (hbox); have n2_ := A_ ((by rw [hg]; exact (bz_ bw_) : w.heap.size ≤ gb301)); have n3_ := A_ ((by rw [hg]; exact (bz_ bw_) : w.heap.size ≤ gb301)); clear HB; have HB := n0_; have BK301 := n1_; have GW301 := n2_; have GE301 := n3_; clear n0_ n1_ n2_ n3_; clear hb hbox hg; have hcz4_0 : w3.cell? ⟨gb301, 0, none⟩ = some (.int .i64 a0_0) := (bc_ BK301.out 0).trans rfl; have hcz4_1 : w3.cell? ⟨gb301, 1, none⟩ = some (.int .u64 a0_1) := (bc_ BK301.out 1).trans rfl; have hfz4_0 := bf_ BK301.out 0; have hfz4_1 := bf_ BK301.out 1))
  go_ret2
  exact ⟨by first | rfl | (simp [errW_none, errW_some] <;> rfl) | (simp [*, errW_none, errW_some] <;> rfl), bw_⟩
 ·
  rw [if_neg c2] at H
  have c2b0 : (a0_0 == ((wrap64 (a0_1)) / 9223372036854775808)) = false := q4_ c2
  have c2b1 : (a0_0 != ((wrap64 (a0_1)) / 9223372036854775808)) = true := q2_ c2
  simp only [Option.some.injEq, Prod.mk.injEq] at H
  obtain ⟨rfl, rfl⟩ := H
  go_enter Try.func26, Try.ntmps26
  go_wp2_with (first | ((with_reducible refine gate_dst (N := 1) rfl ?_); refine box_event ?hg (N := 1) ?hd (cs := #[.int .i64 a0_0, .int .u64 a0_1]) (t := 66) ?hr ?_; (case hd => rfl); (case hg => rfl); (case hr => first | (go_simp; done) | (go_simp; rfl)); intro gb301 hg w5 hbox hb; have n0_ := A_ (bs_ bw_ hb); have n1_ := A_ (hbox); have n2_ := A_ ((by rw [hg]; exact (bz_ bw_) : w.heap.size ≤ gb301)); have n3_ := A_ ((by rw [hg]; exact (bz_ bw_) : w.heap.size ≤ gb301)); clear HB; have HB := n0_; have BK301 := n1_; have GW301 := n2_; have GE301 := n3_; clear n0_ n1_ n2_ n3_; clear hb hbox hg; have hcz6_0 : w5.cell? ⟨gb301, 0, none⟩ = some (.int .i64 a0_0) := (bc_ BK301.out 0).trans rfl; have hcz6_1 : w5.cell? ⟨gb301, 1, none⟩ = some (.int .u64 a0_1) := (bc_ BK301.out 1).trans rfl; have hfz6_0 := bf_ BK301.out 0; have hfz6_1 := bf_ BK301.out 1))
  go_ret2
  exact ⟨by first | rfl | (simp [errW_none, errW_some] <;> rfl) | (simp [*, errW_none, errW_some] <;> rfl), bw_⟩
end Go.Proofs.Ytfbkgfffalppmaa.Wf
end
section
namespace Go.Proofs.Ytfbkgfffalppmaa.Wf
open Go.RowKit Go.Proofs.YtfbkgfffalppmaaW.PrintWords Go.Proofs.YtfbkgfffalppmaaW.PrintLast Go.Proofs.YtfbkgfffalppmaaW.PrintMore
attribute [local go_sem] max2_int min2_int max_two min_two max_three min_three max_four min_four   -- for this text's walks alone
set_option linter.unusedVariables false
set_option linter.unusedSimpArgs false
attribute [local go_sem] run_add64_any
def fixed_narrow.f (a0_0 : Int) (a0_1 : Int) (a1 : Int) : Option (Int × Int) := if a1 = 0 then ((fixed_Int.f a0_0 a0_1).bind fun bt124 => (some (bt124.1, bt124.2))) else (some (0, a1))
set_option maxHeartbeats 8000000 in
set_option maxRecDepth 100000 in
theorem fixed_narrow.calls (a0_0 : Int) (a0_1 : Int) (a1 : Int) (r1 : Int) (r2 : Int) (w : World) (h : fixed_narrow.f a0_0 a0_1 a1 = some (r1, r2)) :
  Calls Try.prog 57 #[.agg #[.int .i64 a0_0, .int .u64 a0_1], .int .i64 a1] w fun e w' => e = .returned (.tuple #[.int .i64 r1, .int .i64 r2]) ∧ Below w.heap.size w w' := by
 have hu66 := Try.underlying66
 have HB := A_ (Below.refl w.heap.size w)
 have H : (if a1 = 0 then ((fixed_Int.f a0_0 a0_1).bind fun bt124 => (some (bt124.1, bt124.2))) else (some (0, a1))) = some (r1, r2) := h
 clear h
 by_cases c3 : a1 = 0
 ·
  rw [if_pos c3] at H
  have c3b0 : (a1 == 0) = true := q1_ c3
  have c3b1 : (a1 != 0) = false := q3_ c3
  clear c3
  replace H := os_ H
  obtain ⟨⟨t124, t125⟩, A40, H⟩ := H
  replace H : (some (t124, t125)) = some (r1, r2) := H
  have A4 := A_ A40
  clear A40
  simp only [Option.some.injEq, Prod.mk.injEq] at H
  obtain ⟨rfl, rfl⟩ := H
  go_enter Try.func57, Try.ntmps57
  go_wp2_with (first | ((with_reducible refine gate_dst (N := 2) rfl ?_); refine box_event ?hg (N := 2) ?hd (cs := #[.int .i64 a0_0, .int .u64 a0_1]) (t := 66) ?hr ?_; (case hd => rfl); (case hg => rfl); (case hr => first | (go_simp; done) | (go_simp; rfl)); intro gb302 hg w5 hbox hb; have n0_ := A_ (bs_ bw_ hb); have n1_ := A_ (hbox); have n2_ := A_ ((by rw [hg]; exact (bz_ bw_) : w.heap.size ≤ gb302)); have n3_ := A_ ((by rw [hg]; exact (bz_ bw_) : w.heap.size ≤ gb302)); clear HB; have HB := n0_; have BK302 := n1_; have GW302 := n2_; have GE302 := n3_; clear n0_ n1_ n2_ n3_; clear hb hbox hg; have hcz6_0 : w5.cell? ⟨gb302, 0, none⟩ = some (.int .i64 a0_0) := (bc_ BK302.out 0).trans rfl; have hcz6_1 : w5.cell? ⟨gb302, 1, none⟩ = some (.int .u64 a0_1) := (bc_ BK302.out 1).trans rfl; have hfz6_0 := bf_ BK302.out 0; have hfz6_1 := bf_ BK302.out 1) | ((with_reducible refine gate_callee (f := 26) rfl ?_); refine goesL_ (some 10) rfl rfl Try.func26 (by kernel_rfl) rfl #[.agg #[.int .i64 a0_0, .int .u64 a0_1]] rfl (by (try simp only [List.map_toArray, List.map_cons, List.map_nil]); first | done | rfl | (simp only [List.length_drop, List.length_take]; rfl)) ?_; (with_reducible refine (fixed_Int.calls a0_0 a0_1 t124 t125 _ A4.out).mono ?_); rintro e w7 ⟨rfl, hb⟩; refine ⟨_, rfl, ?_⟩; have n0_ := A_ (kb_ BK302 hb); have n1_ := A_ (bs_ bw_ hb); clear BK302; clear HB; have BK302 := n0_; have HB := n1_; clear n0_ n1_; (try clear hb); (try clear hb2); (try clear hk); (try clear hi)))
  go_ret2
  exact ⟨by first | rfl | (simp [errW_none, errW_some] <;> rfl) | (simp [*, errW_none, errW_some] <;> rfl), bw_⟩
 ·
  rw [if_neg c3] at H
  have c3b0 : (a1 == 0) = false := q4_ c3
  have c3b1 : (a1 != 0) = true := q2_ c3
  simp only [Option.some.injEq, Prod.mk.injEq] at H
  obtain ⟨rfl, rfl⟩ := H
  go_enter Try.func57, Try.ntmps57
  go_wp2_with (first | ((with_reducible refine gate_dst (N := 2) rfl ?_); refine box_event ?hg (N := 2) ?hd (cs := #[.int .i64 a0_0, .int .u64 a0_1]) (t := 66) ?hr ?_; (case hd => rfl); (case hg => rfl); (case hr => first | (go_simp; done) | (go_simp; rfl)); intro gb302 hg w8 hbox hb; have n0_ := A_ (bs_ bw_ hb); have n1_ := A_ (hbox); have n2_ := A_ ((by rw [hg]; exact (bz_ bw_) : w.heap.size ≤ gb302)); have n3_ := A_ ((by rw [hg]; exact (bz_ bw_) : w.heap.size ≤ gb302)); clear HB; have HB := n0_; have BK302 := n1_; have GW302 := n2_; have GE302 := n3_; clear n0_ n1_ n2_ n3_; clear hb hbox hg))
  go_ret2
  exact ⟨by first | rfl | (simp [errW_none, errW_some] <;> rfl) | (simp [*, errW_none, errW_some] <;> rfl), bw_⟩
end Go.Proofs.Ytfbkgfffalppmaa.Wf
end
section
namespace Go.Proofs.Ytfbkgfffalppmaa.Wf
open Go.RowKit Go.Proofs.YtfbkgfffalppmaaW.PrintWords Go.Proofs.YtfbkgfffalppmaaW.PrintLast Go.Proofs.YtfbkgfffalppmaaW.PrintMore
attribute [local go_sem] max2_int min2_int max_two min_two max_three min_three max_four min_four   -- for this text's walks alone
set_option linter.unusedVariables false
set_option linter.unusedSimpArgs false
attribute [local go_sem] run_add64_any
def fixed_Of.f (a0 : Int) : Option (Int × Int) := some (a0 / 9223372036854775808, IntKind.u64.wrap (a0))
set_option maxHeartbeats 8000000 in
set_option maxRecDepth 100000 in
theorem fixed_Of.calls (a0 : Int) (r1 : Int) (r2 : Int) (w : World) (h : fixed_Of.f a0 = some (r1, r2)) :
  Calls Try.prog 59 #[.int .i64 a0] w fun e w' => e = .returned (.agg #[.int .i64 r1, .int .u64 r2]) ∧ Below w.heap.size w w' := by
 have hu66 := Try.underlying66
 have HB := A_ (Below.refl w.heap.size w)
 have H : (some (a0 / 9223372036854775808, IntKind.u64.wrap (a0))) = some (r1, r2) := h
 clear h
 simp only [Option.some.injEq, Prod.mk.injEq] at H
 obtain ⟨rfl, rfl⟩ := H
 go_enter Try.func59, Try.ntmps59
 go_wp2_with (first | ((with_reducible refine gate_dst (N := 2) rfl ?_); refine box_event ?hg (N := 2) ?hd (cs := #[.int .i64 0, .int .u64 0]) (t := 66) ?hr ?_; (case hd => rfl); (case hg => rfl); (case hr => first | (go_simp; done) | (go_simp; rfl)); intro gb302 hg w2 hbox hb; have n0_ := A_ (bs_ bw_ hb); have n1_ := A_ (hbox); have n2_ := A_ ((by rw [hg]; exact (bz_ bw_) : w.heap.size ≤ gb302)); have n3_ := A_ ((by rw [hg]; exact (bz_ bw_) : w.heap.size ≤ gb302)); clear HB; have HB := n0_; have BK302 := n1_; have GW302 := n2_; have GE302 := n3_; clear n0_ n1_ n2_ n3_; clear hb hbox hg; have hcz3_0 : w2.cell? ⟨gb302, 0, none⟩ = some (.int .i64 0) := (bc_ BK302.out 0).trans rfl; have hcz3_1 : w2.cell? ⟨gb302, 1, none⟩ = some (.int .u64 0) := (bc_ BK302.out 1).trans rfl; have hfz3_0 := bf_ BK302.out 0; have hfz3_1 := bf_ BK302.out 1))
 refine bodyPost_ret (results_cell_row rfl _ _ gb302 66 #[.int .i64 (a0 / 9223372036854775808), .int .u64 (IntKind.u64.wrap (a0))] (0, 0) _ rfl (by (with_reducible repeat (first | refine bn_ ?_ _ | refine bd_ ?_ | refine ba_ ?_ _)); refine bp_ (cs := #[.int .i64 (a0 / 9223372036854775808), .int .u64 0]) ?_ 1 _ rfl; (with_reducible repeat (first | refine bn_ ?_ _ | refine bd_ ?_ | refine ba_ ?_ _)); refine bp_ (cs := #[.int .i64 0, .int .u64 0]) ?_ 0 _ rfl; (with_reducible repeat (first | refine bn_ ?_ _ | refine bd_ ?_ | refine ba_ ?_ _)); exact BK302.out) Try.underlying66 rfl (by kernel_rfl)) rfl ?_
 exact ⟨by first | rfl | (simp [errW_none, errW_some] <;> rfl) | (simp [*, errW_none, errW_some] <;> rfl), bw_⟩
end Go.Proofs.Ytfbkgfffalppmaa.Wf
end
section
namespace Go.Proofs.Ytfbkgfffalppmaa.Wf
open Go.RowKit Go.Proofs.YtfbkgfffalppmaaW.PrintWords Go.Proofs.YtfbkgfffalppmaaW.PrintLast Go.Proofs.YtfbkgfffalppmaaW.PrintMore
attribute [local go_sem] max2_int min2_int max_two min_two max_three min_three max_four min_four   -- for this text's walks alone
set_option linter.unusedVariables false
set_option linter.unusedSimpArgs false
attribute [local go_sem] run_add64_any
end Go.Proofs.Ytfbkgfffalppmaa.Wf
end
section
namespace Go.Proofs.Ytfbkgfffalppmaa.Wf
open Go.RowKit Go.Proofs.YtfbkgfffalppmaaW.PrintWords Go.Proofs.YtfbkgfffalppmaaW.PrintLast Go.Proofs.YtfbkgfffalppmaaW.PrintMore
attribute [local go_sem] max2_int min2_int max_two min_two max_three min_three max_four min_four   -- for this text's walks alone
set_option linter.unusedVariables false
set_option linter.unusedSimpArgs false
attribute [local go_sem] run_add64_any
def longSum : List Int → Int × Int × Int → Option (Int × Int × Int)
 | [], s => some s
 | a :: l, s => (fixed_long_add.f s.1 s.2.1 s.2.2 (a / 9223372036854775808) (IntKind.u64.wrap a)).bind fun t => longSum l t
def fixed_Sum.f (l0 : List Int) : Option (Int × Int) := ((longSum l0 (0, 0, 0)).bind longWide).bind fun x => fixed_narrow.f x.1 x.2.1 x.2.2
theorem longSum_step {l : List Int} {k : Nat} (hk : k < l.length) {s sf : Int × Int × Int} (h : longSum (l.drop k) s = some sf) :
  ∃ r1 r2 r3, fixed_long_add.f s.1 s.2.1 s.2.2 (rd l k / 9223372036854775808) (IntKind.u64.wrap (rd l k)) = some (r1, r2, r3) ∧ longSum (l.drop (k + 1)) (r1, r2, r3) = some sf := by
 rw [List.drop_eq_getElem_cons hk, longSum] at h
 obtain ⟨⟨r1, r2, r3⟩, h1, h2⟩ := os_ h
 have e : rd l k = l[k] := by simp [rd, List.getD_eq_getElem?_getD, List.getElem?_eq_getElem hk]
 exact ⟨r1, r2, r3, by rw [e]; exact h1, h2⟩
set_option maxHeartbeats 2000000 in
theorem fixed_Sum.calls (A0 : Option Addr) (c0 : Nat) (l0 : List Int) (r1 : Int) (r2 : Int) (w : World) (hr0 : Kd.C (Kd.int .i64) w A0 l0.length l0) (hc0 : l0.length ≤ c0) (h : fixed_Sum.f l0 = some (r1, r2)) :
  Calls Try.prog 53 #[.slice A0 l0.length c0] w fun e w' => e = .returned (.tuple #[.int .i64 r1, .int .i64 r2]) ∧ Below w.heap.size w w' := by
 unfold fixed_Sum.f at h
 obtain ⟨⟨y1, y2, y3⟩, h, h9⟩ := os_ h
 obtain ⟨⟨z1, z2, z3⟩, h1, h⟩ := os_ h
 have H1 := A_ h1
 have H := A_ h
 have H9 := A_ h9
 have HR := A_ hr0
 have hmax : l0.length ≤ 9223372036854775807 := Kd.C_max hr0
 clear h h1 h9 hr0
 go_enter Try.func53, Try.ntmps53
 go_wp2
 go_loopw [9] (fun v9 wr => ∃ (k : Nat) (s1 s2 s3 : Int), k ≤ l0.length ∧ v9 = .int .i64 k ∧ Aside0 (longSum (l0.drop k) (s1, s2, s3) = some (z1, z2, z3)) ∧ Aside0 (wr.heap[w.heap.size]? = some (.cells #[.int .i64 s1, .int .u64 s2, .int .u64 s3] 113 (0, 0))) ∧ Aside0 (Below w.heap.size w wr)) (fun v9 _ => l0.length - (intOf v9).toNat)
 case atStart => exact ⟨0, 0, 0, 0, Nat.zero_le _, rfl, H1, ⟨heap_alloc_new w _⟩, ⟨bl_ (Below.refl _ _) _⟩⟩
 case round =>
  obtain ⟨k, s1, s2, s3, hk, rfl, HA, HX, HB⟩ := hrel
  have hx := HX.out
  have hx0 : wr.cell? ⟨w.heap.size, 0, none⟩ = some (.int .i64 s1) := (bc_ hx 0).trans rfl
  have hx1 : wr.cell? ⟨w.heap.size, 1, none⟩ = some (.int .u64 s2) := (bc_ hx 1).trans rfl
  have hx2 : wr.cell? ⟨w.heap.size, 2, none⟩ = some (.int .u64 s3) := (bc_ hx 2).trans rfl
  have hf0 := bf_ hx 0
  have hf1 := bf_ hx 1
  have hf2 := bf_ hx 2
  have hlt : w.heap.size < wr.heap.size := blk_lt hx
  clear hx
  by_cases hkl : k < l0.length
  ·
   obtain ⟨r1', r2', r3', ha, hn⟩ := longSum_step hkl HA.out
   have HAd := A_ ha
   have HAn := A_ hn
   clear ha hn
   obtain ⟨ad, rfl, he0⟩ := Kd.at_int (cb_ HR.out HB.out) (k : Int) (by omega) (by omega)
   simp only [Int.toNat_natCast] at he0
   clear hx0 hx1 hx2 hf0 hf1 hf2
   go_wp2_with fail
   refine (fixed_Of.calls _ _ _ _ rfl).mono ?_
   rintro e w' ⟨rfl, hb⟩
   have hX2 : w'.heap[w.heap.size]? = some (.cells #[.int .i64 s1, .int .u64 s2, .int .u64 s3] 113 (0, 0)) := (hb.block _ hlt).trans HX.out
   have HB2 := A_ (below_weaken HB.out HB.out.size hb)
   have hs := hb.size
   have HX2 := A_ hX2
   clear hb hX2
   go_wp2_with fail
   refine (fixed_long_add.walkf w.heap.size s1 s2 s3 _ _ r1' r2' r3' _ HAd.out ((bc_ HX2.out 0).trans rfl) ((bc_ HX2.out 1).trans rfl) ((bc_ HX2.out 2).trans rfl) (bf_ HX2.out 0) (bf_ HX2.out 1) (bf_ HX2.out 2) (by omega)).mono ?_
   rintro e w' ⟨rfl, rfl⟩
   go_wp2
   go_roundw
   case rel =>
    refine ⟨k + 1, r1', r2', r3', by omega, by go_num, HAn, ⟨?_⟩, ⟨?_⟩⟩
    ·
     refine bd_ (bd_ (bd_ (ba_ ?_ _)))
     exact bp_ (bp_ (bp_ HX2.out 2 _ rfl) 1 _ rfl) 0 _ rfl
    ·
     exact b1_ (b1_ (b1_ (bl_ (bt_ (bt_ (bt_ HB2.out (by omega)) (by omega)) (by omega)) _)))
   case measure => simp [intOf]; omega
  ·
   obtain rfl : k = l0.length := by omega
   have e : longSum (l0.drop l0.length) (s1, s2, s3) = some (s1, s2, s3) := by rw [List.drop_length]; rfl
   have hh := Option.some.inj (e.symm.trans HA.out)
   simp only [Prod.mk.injEq] at hh
   obtain ⟨rfl, rfl, rfl⟩ := hh
   clear e
   go_wp2_with fail
   refine (fixed_long_wide.walk w.heap.size s1 s2 s3 _ hx0 hx1 hx2 hlt).mono ?_
   rintro e w' ⟨rfl, rfl⟩
   go_wp2_with fail
   refine (fixed_fits.calls _ _ _ _ _ _ _ H.out).mono ?_
   rintro e w' ⟨rfl, hb⟩
   have hall : Below wr.heap.size wr w' := below_weaken (by repeat (first | exact Below.refl _ _ | apply b1_ | apply bl_)) (by simp; omega) hb
   have HC := A_ (below_weaken HB.out HB.out.size hall)
   clear hb hall hx0 hx1 hx2 hf0 hf1 hf2
   go_wp2_with fail
   refine (fixed_narrow.calls _ _ _ _ _ _ H9.out).mono ?_
   rintro e w' ⟨rfl, hb⟩
   have HD := A_ (below_weaken HC.out HC.out.size hb)
   clear hb
   go_wp2
   go_ret2
   exact ⟨rfl, HD.out⟩
end Go.Proofs.Ytfbkgfffalppmaa.Wf
end
section
namespace Go.Proofs.Ytfbkgfffalppmaa.Wf
open Go.RowKit Go.Proofs.YtfbkgfffalppmaaW.PrintWords Go.Proofs.YtfbkgfffalppmaaW.PrintLast Go.Proofs.YtfbkgfffalppmaaW.PrintMore
attribute [local go_sem] max2_int min2_int max_two min_two max_three min_three max_four min_four   -- for this text's walks alone
set_option linter.unusedVariables false
set_option linter.unusedSimpArgs false
attribute [local go_sem] run_add64_any
def bits_Len64.j0 : Nat → Int → Int → Option (Int)
 | 0, _, _ => none
 | k + 1, x0, x2 => if x0 ≥ 65536 then (if (x0 / 65536) ≥ 256 then (if 0 ≤ (((x0 / 65536) / 256) % 256) then (if (((x0 / 65536) / 256) % 256) < 256 then (some (wrap64 ((wrap64 ((wrap64 (x2 + 16)) + 8)) + (wrap64 (bt (⟨#[0, 1, 2, 2, 3, 3, 3, 3, 4, 4, 4, 4, 4, 4, 4, 4, 5, 5, 5, 5, 5, 5, 5, 5, 5, 5, 5, 5, 5, 5, 5, 5, 6, 6, 6, 6, 6, 6, 6, 6, 6, 6, 6, 6, 6, 6, 6, 6, 6, 6, 6, 6, 6, 6, 6, 6, 6, 6, 6, 6, 6, 6, 6, 6, 7, 7, 7, 7, 7, 7, 7, 7, 7, 7, 7, 7, 7, 7, 7, 7, 7, 7, 7, 7, 7, 7, 7, 7, 7, 7, 7, 7, 7, 7, 7, 7, 7, 7, 7, 7, 7, 7, 7, 7, 7, 7, 7, 7, 7, 7, 7, 7, 7, 7, 7, 7, 7, 7, 7, 7, 7, 7, 7, 7, 7, 7, 7, 7, 8, 8, 8, 8, 8, 8, 8, 8, 8, 8, 8, 8, 8, 8, 8, 8, 8, 8, 8, 8, 8, 8, 8, 8, 8, 8, 8, 8, 8, 8, 8, 8, 8, 8, 8, 8, 8, 8, 8, 8, 8, 8, 8, 8, 8, 8, 8, 8, 8, 8, 8, 8, 8, 8, 8, 8, 8, 8, 8, 8, 8, 8, 8, 8, 8, 8, 8, 8, 8, 8, 8, 8, 8, 8, 8, 8, 8, 8, 8, 8, 8, 8, 8, 8, 8, 8, 8, 8, 8, 8, 8, 8, 8, 8, 8, 8, 8, 8, 8, 8, 8, 8, 8, 8, 8, 8, 8, 8, 8, 8, 8, 8, 8, 8, 8, 8, 8, 8, 8, 8, 8, 8, 8, 8, 8, 8, 8, 8]⟩ : ByteArray) (((x0 / 65536) / 256) % 256)))))) else (none)) else (none)) else (if 0 ≤ ((x0 / 65536) % 256) then (if ((x0 / 65536) % 256) < 256 then (some (wrap64 ((wrap64 (x2 + 16)) + (wrap64 (bt (⟨#[0, 1, 2, 2, 3, 3, 3, 3, 4, 4, 4, 4, 4, 4, 4, 4, 5, 5, 5, 5, 5, 5, 5, 5, 5, 5, 5, 5, 5, 5, 5, 5, 6, 6, 6, 6, 6, 6, 6, 6, 6, 6, 6, 6, 6, 6, 6, 6, 6, 6, 6, 6, 6, 6, 6, 6, 6, 6, 6, 6, 6, 6, 6, 6, 7, 7, 7, 7, 7, 7, 7, 7, 7, 7, 7, 7, 7, 7, 7, 7, 7, 7, 7, 7, 7, 7, 7, 7, 7, 7, 7, 7, 7, 7, 7, 7, 7, 7, 7, 7, 7, 7, 7, 7, 7, 7, 7, 7, 7, 7, 7, 7, 7, 7, 7, 7, 7, 7, 7, 7, 7, 7, 7, 7, 7, 7, 7, 7, 8, 8, 8, 8, 8, 8, 8, 8, 8, 8, 8, 8, 8, 8, 8, 8, 8, 8, 8, 8, 8, 8, 8, 8, 8, 8, 8, 8, 8, 8, 8, 8, 8, 8, 8, 8, 8, 8, 8, 8, 8, 8, 8, 8, 8, 8, 8, 8, 8, 8, 8, 8, 8, 8, 8, 8, 8, 8, 8, 8, 8, 8, 8, 8, 8, 8, 8, 8, 8, 8, 8, 8, 8, 8, 8, 8, 8, 8, 8, 8, 8, 8, 8, 8, 8, 8, 8, 8, 8, 8, 8, 8, 8, 8, 8, 8, 8, 8, 8, 8, 8, 8, 8, 8, 8, 8, 8, 8, 8, 8, 8, 8, 8, 8, 8, 8, 8, 8, 8, 8, 8, 8, 8, 8, 8, 8, 8, 8]⟩ : ByteArray) ((x0 / 65536) % 256)))))) else (none)) else (none))) else (if x0 ≥ 256 then (if 0 ≤ ((x0 / 256) % 256) then (if ((x0 / 256) % 256) < 256 then (some (wrap64 ((wrap64 (x2 + 8)) + (wrap64 (bt (⟨#[0, 1, 2, 2, 3, 3, 3, 3, 4, 4, 4, 4, 4, 4, 4, 4, 5, 5, 5, 5, 5, 5, 5, 5, 5, 5, 5, 5, 5, 5, 5, 5, 6, 6, 6, 6, 6, 6, 6, 6, 6, 6, 6, 6, 6, 6, 6, 6, 6, 6, 6, 6, 6, 6, 6, 6, 6, 6, 6, 6, 6, 6, 6, 6, 7, 7, 7, 7, 7, 7, 7, 7, 7, 7, 7, 7, 7, 7, 7, 7, 7, 7, 7, 7, 7, 7, 7, 7, 7, 7, 7, 7, 7, 7, 7, 7, 7, 7, 7, 7, 7, 7, 7, 7, 7, 7, 7, 7, 7, 7, 7, 7, 7, 7, 7, 7, 7, 7, 7, 7, 7, 7, 7, 7, 7, 7, 7, 7, 8, 8, 8, 8, 8, 8, 8, 8, 8, 8, 8, 8, 8, 8, 8, 8, 8, 8, 8, 8, 8, 8, 8, 8, 8, 8, 8, 8, 8, 8, 8, 8, 8, 8, 8, 8, 8, 8, 8, 8, 8, 8, 8, 8, 8, 8, 8, 8, 8, 8, 8, 8, 8, 8, 8, 8, 8, 8, 8, 8, 8, 8, 8, 8, 8, 8, 8, 8, 8, 8, 8, 8, 8, 8, 8, 8, 8, 8, 8, 8, 8, 8, 8, 8, 8, 8, 8, 8, 8, 8, 8, 8, 8, 8, 8, 8, 8, 8, 8, 8, 8, 8, 8, 8, 8, 8, 8, 8, 8, 8, 8, 8, 8, 8, 8, 8, 8, 8, 8, 8, 8, 8, 8, 8, 8, 8, 8, 8]⟩ : ByteArray) ((x0 / 256) % 256)))))) else (none)) else (none)) else (if 0 ≤ ((x0) % 256) then (if ((x0) % 256) < 256 then (some (wrap64 (x2 + (wrap64 (bt (⟨#[0, 1, 2, 2, 3, 3, 3, 3, 4, 4, 4, 4, 4, 4, 4, 4, 5, 5, 5, 5, 5, 5, 5, 5, 5, 5, 5, 5, 5, 5, 5, 5, 6, 6, 6, 6, 6, 6, 6, 6, 6, 6, 6, 6, 6, 6, 6, 6, 6, 6, 6, 6, 6, 6, 6, 6, 6, 6, 6, 6, 6, 6, 6, 6, 7, 7, 7, 7, 7, 7, 7, 7, 7, 7, 7, 7, 7, 7, 7, 7, 7, 7, 7, 7, 7, 7, 7, 7, 7, 7, 7, 7, 7, 7, 7, 7, 7, 7, 7, 7, 7, 7, 7, 7, 7, 7, 7, 7, 7, 7, 7, 7, 7, 7, 7, 7, 7, 7, 7, 7, 7, 7, 7, 7, 7, 7, 7, 7, 8, 8, 8, 8, 8, 8, 8, 8, 8, 8, 8, 8, 8, 8, 8, 8, 8, 8, 8, 8, 8, 8, 8, 8, 8, 8, 8, 8, 8, 8, 8, 8, 8, 8, 8, 8, 8, 8, 8, 8, 8, 8, 8, 8, 8, 8, 8, 8, 8, 8, 8, 8, 8, 8, 8, 8, 8, 8, 8, 8, 8, 8, 8, 8, 8, 8, 8, 8, 8, 8, 8, 8, 8, 8, 8, 8, 8, 8, 8, 8, 8, 8, 8, 8, 8, 8, 8, 8, 8, 8, 8, 8, 8, 8, 8, 8, 8, 8, 8, 8, 8, 8, 8, 8, 8, 8, 8, 8, 8, 8, 8, 8, 8, 8, 8, 8, 8, 8, 8, 8, 8, 8, 8, 8, 8, 8, 8, 8]⟩ : ByteArray) ((x0) % 256)))))) else (none)) else (none)))
def bits_Len64.f (k : Nat) (a0 : Int) : Option (Int) := if a0 ≥ 4294967296 then (bits_Len64.j0 k (a0 / 4294967296) 32) else (bits_Len64.j0 k a0 0)
theorem bits_Len64.mono_l : ∀ k, (∀ y0 y1, LeO (bits_Len64.j0 k y0 y1) (bits_Len64.j0 (k + 1) y0 y1))
 | 0 => fun _ _ r h => by simp [bits_Len64.j0] at h
 | k + 1 => by
  have ih0 := bits_Len64.mono_l k
  ·
   intro y0 y1
   unfold bits_Len64.j0
   repeat' first
   | (with_reducible exact ih0 _ _)
   | (with_reducible exact LeO.refl _)
   | (with_reducible exact LeO.none _)
   | (with_reducible refine LeO.ite ?_ ?_)
   | (with_reducible refine LeO.bind ?_ (fun _ => ?_))
   | exact ih0 _ _
   | exact LeO.none _
   | refine LeO.ite ?_ ?_
   | refine LeO.bind ?_ (fun _ => ?_)
theorem bits_Len64.mono : ∀ a0 k, LeO (bits_Len64.f k a0) (bits_Len64.f (k + 1) a0) := by
 intro a0 k
 have ih0 := bits_Len64.mono_l k
 unfold bits_Len64.f
 repeat' first
   | (with_reducible exact ih0 _ _)
   | (with_reducible exact LeO.refl _)
   | (with_reducible exact LeO.none _)
   | (with_reducible refine LeO.ite ?_ ?_)
   | (with_reducible refine LeO.bind ?_ (fun _ => ?_))
   | exact ih0 _ _
   | exact LeO.none _
   | refine LeO.ite ?_ ?_
   | refine LeO.bind ?_ (fun _ => ?_)
set_option maxHeartbeats 8000000 in
set_option maxRecDepth 100000 in
theorem bits_Len64.calls (k : Nat) (a0 : Int) (r : Int) (w : World) (h : bits_Len64.f k a0 = some r) :
  Calls Try.prog 86 #[.int .u64 a0] w fun e w' => e = .returned (.int .i64 r) ∧ Drawn0 w w' := by
 have H : (if a0 ≥ 4294967296 then (bits_Len64.j0 k (a0 / 4294967296) 32) else (bits_Len64.j0 k a0 0)) = some r := h
 clear h
 have HC2 := A_ H
 clear H
 go_enter Try.func86, Try.ntmps86
 go_upto_if 4 with (fail)
 go_cut [0, 2] (fun v0 v2 wc => ∃ (kq : Nat) (x0_1 : Int) (x2_1 : Int), v0 = .int .u64 x0_1 ∧ v2 = .int .i64 x2_1 ∧ Aside0 (bits_Len64.j0 kq x0_1 x2_1 = some r) ∧ Aside0 (kq ≤ k) ∧ Drawn0 w wc)
 case first =>
  have H := HC2.out
  clear HC2
  by_cases c3 : a0 ≥ 4294967296
  ·
   rw [if_pos c3] at H
   have c3b0 : decide (4294967296 ≤ a0) = true := decide_eq_true c3
   clear c3
   (first | rw [c3b0] | (simp only [i64_w, i32_w]; rw [c3b0]) | skip)
   have H' := A_ H
   clear H
   go_wp2
   go_meet
   case rel => exact ⟨_, (a0 / 4294967296), (32), (by first | rfl | (simp; done) | (simp [*]; done)), (by first | rfl | (simp; done) | (simp [*]; done)), H', ⟨by first | omega | exact Nat.le_refl _⟩, by repeat (first | exact Drawn0.refl _ | apply Drawn0.step)⟩
  ·
   rw [if_neg c3] at H
   have c3b0 : decide (4294967296 ≤ a0) = false := decide_eq_false c3
   clear c3
   (first | rw [c3b0] | (simp only [i64_w, i32_w]; rw [c3b0]) | skip)
   have H' := A_ H
   clear H
   go_wp2
   go_meet
   case rel => exact ⟨_, (a0), (0), (by first | rfl | (simp; done) | (simp [*]; done)), (by first | rfl | (simp; done) | (simp [*]; done)), H', ⟨by first | omega | exact Nat.le_refl _⟩, by repeat (first | exact Drawn0.refl _ | apply Drawn0.step)⟩
 case rest =>
  clear HC2
  try clear p2
  try clear c3
  try clear c3b0
  obtain ⟨kq, x0_1, x2_1, rfl, rfl, HA, HJ1, ⟨mc1, rfl⟩⟩ := hcut
  cases kq with
  | zero => exact absurd HA.out (by simp [bits_Len64.j0])
  | succ kj1 =>
   have H := HA.out
   clear HA
   simp only [bits_Len64.j0] at H
   by_cases c4 : x0_1 ≥ 65536
   ·
    rw [if_pos c4] at H
    have c4b0 : decide (65536 ≤ x0_1) = true := decide_eq_true c4
    clear c4
    by_cases c5 : (x0_1 / 65536) ≥ 256
    ·
     rw [if_pos c5] at H
     have c5b0 : decide (256 ≤ (x0_1 / 65536)) = true := decide_eq_true c5
     clear c5
     obtain ⟨ji6, hji6⟩ : ∃ j_ : Int, (((x0_1 / 65536) / 256) % 256) = j_ := ⟨_, rfl⟩
     replace H : (if 0 ≤ (ji6) then (if (ji6) < 256 then (some (wrap64 ((wrap64 ((wrap64 (x2_1 + 16)) + 8)) + (wrap64 (bt (⟨#[0, 1, 2, 2, 3, 3, 3, 3, 4, 4, 4, 4, 4, 4, 4, 4, 5, 5, 5, 5, 5, 5, 5, 5, 5, 5, 5, 5, 5, 5, 5, 5, 6, 6, 6, 6, 6, 6, 6, 6, 6, 6, 6, 6, 6, 6, 6, 6, 6, 6, 6, 6, 6, 6, 6, 6, 6, 6, 6, 6, 6, 6, 6, 6, 7, 7, 7, 7, 7, 7, 7, 7, 7, 7, 7, 7, 7, 7, 7, 7, 7, 7, 7, 7, 7, 7, 7, 7, 7, 7, 7, 7, 7, 7, 7, 7, 7, 7, 7, 7, 7, 7, 7, 7, 7, 7, 7, 7, 7, 7, 7, 7, 7, 7, 7, 7, 7, 7, 7, 7, 7, 7, 7, 7, 7, 7, 7, 7, 8, 8, 8, 8, 8, 8, 8, 8, 8, 8, 8, 8, 8, 8, 8, 8, 8, 8, 8, 8, 8, 8, 8, 8, 8, 8, 8, 8, 8, 8, 8, 8, 8, 8, 8, 8, 8, 8, 8, 8, 8, 8, 8, 8, 8, 8, 8, 8, 8, 8, 8, 8, 8, 8, 8, 8, 8, 8, 8, 8, 8, 8, 8, 8, 8, 8, 8, 8, 8, 8, 8, 8, 8, 8, 8, 8, 8, 8, 8, 8, 8, 8, 8, 8, 8, 8, 8, 8, 8, 8, 8, 8, 8, 8, 8, 8, 8, 8, 8, 8, 8, 8, 8, 8, 8, 8, 8, 8, 8, 8, 8, 8, 8, 8, 8, 8, 8, 8, 8, 8, 8, 8, 8, 8, 8, 8, 8, 8]⟩ : ByteArray) (ji6)))))) else (none)) else (none)) = some r := by first | (rw [hji6] at H; exact H) | (simp only [hji6] at H ⊢; exact H)
     by_cases c7 : 0 ≤ (ji6)
     ·
      rw [if_pos c7] at H
      have c7b0 : decide (0 ≤ (ji6)) = true := decide_eq_true c7
      clear c7
      by_cases c8 : (ji6) < 256
      ·
       rw [if_pos c8] at H
       have c8b0 : decide ((ji6) < 256) = true := decide_eq_true c8
       clear c8
       obtain rfl := Option.some.inj H
       have p9 : 0 ≤ ((ji6) : Int) := od_ (by first | (with_reducible assumption) | assumption)
       have q9 : (ji6) < (256 : Int) := od_ (by first | (with_reducible assumption) | assumption)
       have hx9 := bt_at (⟨#[0, 1, 2, 2, 3, 3, 3, 3, 4, 4, 4, 4, 4, 4, 4, 4, 5, 5, 5, 5, 5, 5, 5, 5, 5, 5, 5, 5, 5, 5, 5, 5, 6, 6, 6, 6, 6, 6, 6, 6, 6, 6, 6, 6, 6, 6, 6, 6, 6, 6, 6, 6, 6, 6, 6, 6, 6, 6, 6, 6, 6, 6, 6, 6, 7, 7, 7, 7, 7, 7, 7, 7, 7, 7, 7, 7, 7, 7, 7, 7, 7, 7, 7, 7, 7, 7, 7, 7, 7, 7, 7, 7, 7, 7, 7, 7, 7, 7, 7, 7, 7, 7, 7, 7, 7, 7, 7, 7, 7, 7, 7, 7, 7, 7, 7, 7, 7, 7, 7, 7, 7, 7, 7, 7, 7, 7, 7, 7, 8, 8, 8, 8, 8, 8, 8, 8, 8, 8, 8, 8, 8, 8, 8, 8, 8, 8, 8, 8, 8, 8, 8, 8, 8, 8, 8, 8, 8, 8, 8, 8, 8, 8, 8, 8, 8, 8, 8, 8, 8, 8, 8, 8, 8, 8, 8, 8, 8, 8, 8, 8, 8, 8, 8, 8, 8, 8, 8, 8, 8, 8, 8, 8, 8, 8, 8, 8, 8, 8, 8, 8, 8, 8, 8, 8, 8, 8, 8, 8, 8, 8, 8, 8, 8, 8, 8, 8, 8, 8, 8, 8, 8, 8, 8, 8, 8, 8, 8, 8, 8, 8, 8, 8, 8, 8, 8, 8, 8, 8, 8, 8, 8, 8, 8, 8, 8, 8, 8, 8, 8, 8, 8, 8, 8, 8, 8, 8]⟩ : ByteArray) (ji6)
       replace p9 := eq_true p9
       replace q9 := eq_true q9
       go_wp2
       go_ret
       exact ⟨by first | rfl | (simp; done) | (simp only [← hji6] <;> (first | rfl | simp)) | (simp [*]; done), by repeat (first | exact Drawn0.refl _ | apply Drawn0.step)⟩
      ·
       rw [if_neg c8] at H
       exact absurd H (by simp)
     ·
      rw [if_neg c7] at H
      exact absurd H (by simp)
    ·
     rw [if_neg c5] at H
     have c5b0 : decide (256 ≤ (x0_1 / 65536)) = false := decide_eq_false c5
     clear c5
     obtain ⟨ji10, hji10⟩ : ∃ j_ : Int, ((x0_1 / 65536) % 256) = j_ := ⟨_, rfl⟩
     replace H : (if 0 ≤ (ji10) then (if (ji10) < 256 then (some (wrap64 ((wrap64 (x2_1 + 16)) + (wrap64 (bt (⟨#[0, 1, 2, 2, 3, 3, 3, 3, 4, 4, 4, 4, 4, 4, 4, 4, 5, 5, 5, 5, 5, 5, 5, 5, 5, 5, 5, 5, 5, 5, 5, 5, 6, 6, 6, 6, 6, 6, 6, 6, 6, 6, 6, 6, 6, 6, 6, 6, 6, 6, 6, 6, 6, 6, 6, 6, 6, 6, 6, 6, 6, 6, 6, 6, 7, 7, 7, 7, 7, 7, 7, 7, 7, 7, 7, 7, 7, 7, 7, 7, 7, 7, 7, 7, 7, 7, 7, 7, 7, 7, 7, 7, 7, 7, 7, 7, 7, 7, 7, 7, 7, 7, 7, 7, 7, 7, 7, 7, 7, 7, 7, 7, 7, 7, 7, 7, 7, 7, 7, 7, 7, 7, 7, 7, 7, 7, 7, 7, 8, 8, 8, 8, 8, 8, 8, 8, 8, 8, 8, 8, 8, 8, 8, 8, 8, 8, 8, 8, 8, 8, 8, 8, 8, 8, 8, 8, 8, 8, 8, 8, 8, 8, 8, 8, 8, 8, 8, 8, 8, 8, 8, 8, 8, 8, 8, 8, 8, 8, 8, 8, 8, 8, 8, 8, 8, 8, 8, 8, 8, 8, 8, 8, 8, 8, 8, 8, 8, 8, 8, 8, 8, 8, 8, 8, 8, 8, 8, 8, 8, 8, 8, 8, 8, 8, 8, 8, 8, 8, 8, 8, 8, 8, 8, 8, 8, 8, 8, 8, 8, 8, 8, 8, 8, 8, 8, 8, 8, 8, 8, 8, 8, 8, 8, 8, 8, 8, 8, 8, 8, 8, 8, 8, 8, 8, 8, 8]⟩ : ByteArray) (ji10)))))) else (none)) else (none)) = some r := by first | (rw [hji10] at H; exact H) | (simp only [hji10] at H ⊢; exact H)
     by_cases c11 : 0 ≤ (ji10)
     ·
      rw [if_pos c11] at H
      have c11b0 : decide (0 ≤ (ji10)) = true := decide_eq_true c11
      clear c11
      by_cases c12 : (ji10) < 256
      ·
       rw [if_pos c12] at H
       have c12b0 : decide ((ji10) < 256) = true := decide_eq_true c12
       clear c12
       obtain rfl := Option.some.inj H
       have p13 : 0 ≤ ((ji10) : Int) := od_ (by first | (with_reducible assumption) | assumption)
       have q13 : (ji10) < (256 : Int) := od_ (by first | (with_reducible assumption) | assumption)
       have hx13 := bt_at (⟨#[0, 1, 2, 2, 3, 3, 3, 3, 4, 4, 4, 4, 4, 4, 4, 4, 5, 5, 5, 5, 5, 5, 5, 5, 5, 5, 5, 5, 5, 5, 5, 5, 6, 6, 6, 6, 6, 6, 6, 6, 6, 6, 6, 6, 6, 6, 6, 6, 6, 6, 6, 6, 6, 6, 6, 6, 6, 6, 6, 6, 6, 6, 6, 6, 7, 7, 7, 7, 7, 7, 7, 7, 7, 7, 7, 7, 7, 7, 7, 7, 7, 7, 7, 7, 7, 7, 7, 7, 7, 7, 7, 7, 7, 7, 7, 7, 7, 7, 7, 7, 7, 7, 7, 7, 7, 7, 7, 7, 7, 7, 7, 7, 7, 7, 7, 7, 7, 7, 7, 7, 7, 7, 7, 7, 7, 7, 7, 7, 8, 8, 8, 8, 8, 8, 8, 8, 8, 8, 8, 8, 8, 8, 8, 8, 8, 8, 8, 8, 8, 8, 8, 8, 8, 8, 8, 8, 8, 8, 8, 8, 8, 8, 8, 8, 8, 8, 8, 8, 8, 8, 8, 8, 8, 8, 8, 8, 8, 8, 8, 8, 8, 8, 8, 8, 8, 8, 8, 8, 8, 8, 8, 8, 8, 8, 8, 8, 8, 8, 8, 8, 8, 8, 8, 8, 8, 8, 8, 8, 8, 8, 8, 8, 8, 8, 8, 8, 8, 8, 8, 8, 8, 8, 8, 8, 8, 8, 8, 8, 8, 8, 8, 8, 8, 8, 8, 8, 8, 8, 8, 8, 8, 8, 8, 8, 8, 8, 8, 8, 8, 8, 8, 8, 8, 8, 8, 8]⟩ : ByteArray) (ji10)
       replace p13 := eq_true p13
       replace q13 := eq_true q13
       go_wp2
       go_ret
       exact ⟨by first | rfl | (simp; done) | (simp only [← hji10] <;> (first | rfl | simp)) | (simp [*]; done), by repeat (first | exact Drawn0.refl _ | apply Drawn0.step)⟩
      ·
       rw [if_neg c12] at H
       exact absurd H (by simp)
     ·
      rw [if_neg c11] at H
      exact absurd H (by simp)
   ·
    rw [if_neg c4] at H
    have c4b0 : decide (65536 ≤ x0_1) = false := decide_eq_false c4
    clear c4
    by_cases c14 : x0_1 ≥ 256
    ·
     rw [if_pos c14] at H
     have c14b0 : decide (256 ≤ x0_1) = true := decide_eq_true c14
     clear c14
     obtain ⟨ji15, hji15⟩ : ∃ j_ : Int, ((x0_1 / 256) % 256) = j_ := ⟨_, rfl⟩
     replace H : (if 0 ≤ (ji15) then (if (ji15) < 256 then (some (wrap64 ((wrap64 (x2_1 + 8)) + (wrap64 (bt (⟨#[0, 1, 2, 2, 3, 3, 3, 3, 4, 4, 4, 4, 4, 4, 4, 4, 5, 5, 5, 5, 5, 5, 5, 5, 5, 5, 5, 5, 5, 5, 5, 5, 6, 6, 6, 6, 6, 6, 6, 6, 6, 6, 6, 6, 6, 6, 6, 6, 6, 6, 6, 6, 6, 6, 6, 6, 6, 6, 6, 6, 6, 6, 6, 6, 7, 7, 7, 7, 7, 7, 7, 7, 7, 7, 7, 7, 7, 7, 7, 7, 7, 7, 7, 7, 7, 7, 7, 7, 7, 7, 7, 7, 7, 7, 7, 7, 7, 7, 7, 7, 7, 7, 7, 7, 7, 7, 7, 7, 7, 7, 7, 7, 7, 7, 7, 7, 7, 7, 7, 7, 7, 7, 7, 7, 7, 7, 7, 7, 8, 8, 8, 8, 8, 8, 8, 8, 8, 8, 8, 8, 8, 8, 8, 8, 8, 8, 8, 8, 8, 8, 8, 8, 8, 8, 8, 8, 8, 8, 8, 8, 8, 8, 8, 8, 8, 8, 8, 8, 8, 8, 8, 8, 8, 8, 8, 8, 8, 8, 8, 8, 8, 8, 8, 8, 8, 8, 8, 8, 8, 8, 8, 8, 8, 8, 8, 8, 8, 8, 8, 8, 8, 8, 8, 8, 8, 8, 8, 8, 8, 8, 8, 8, 8, 8, 8, 8, 8, 8, 8, 8, 8, 8, 8, 8, 8, 8, 8, 8, 8, 8, 8, 8, 8, 8, 8, 8, 8, 8, 8, 8, 8, 8, 8, 8, 8, 8, 8, 8, 8, 8, 8, 8, 8, 8, 8, 8]⟩ : ByteArray) (ji15)))))) else (none)) else (none)) = some r := by first | (rw [hji15] at H; exact H) | (simp only [hji15] at H ⊢; exact H)
     by_cases c16 : 0 ≤ (ji15)
     ·
      rw [if_pos c16] at H
      have c16b0 : decide (0 ≤ (ji15)) = true := decide_eq_true c16
      clear c16
      by_cases c17 : (ji15) < 256
      ·
       rw [if_pos c17] at H
       have c17b0 : decide ((ji15) < 256) = true := decide_eq_true c17
       clear c17
       obtain rfl := Option.some.inj H
       have p18 : 0 ≤ ((ji15) : Int) := od_ (by first | (with_reducible assumption) | assumption)
       have q18 : (ji15) < (256 : Int) := od_ (by first | (with_reducible assumption) | assumption)
       have hx18 := bt_at (⟨#[0, 1, 2, 2, 3, 3, 3, 3, 4, 4, 4, 4, 4, 4, 4, 4, 5, 5, 5, 5, 5, 5, 5, 5, 5, 5, 5, 5, 5, 5, 5, 5, 6, 6, 6, 6, 6, 6, 6, 6, 6, 6, 6, 6, 6, 6, 6, 6, 6, 6, 6, 6, 6, 6, 6, 6, 6, 6, 6, 6, 6, 6, 6, 6, 7, 7, 7, 7, 7, 7, 7, 7, 7, 7, 7, 7, 7, 7, 7, 7, 7, 7, 7, 7, 7, 7, 7, 7, 7, 7, 7, 7, 7, 7, 7, 7, 7, 7, 7, 7, 7, 7, 7, 7, 7, 7, 7, 7, 7, 7, 7, 7, 7, 7, 7, 7, 7, 7, 7, 7, 7, 7, 7, 7, 7, 7, 7, 7, 8, 8, 8, 8, 8, 8, 8, 8, 8, 8, 8, 8, 8, 8, 8, 8, 8, 8, 8, 8, 8, 8, 8, 8, 8, 8, 8, 8, 8, 8, 8, 8, 8, 8, 8, 8, 8, 8, 8, 8, 8, 8, 8, 8, 8, 8, 8, 8, 8, 8, 8, 8, 8, 8, 8, 8, 8, 8, 8, 8, 8, 8, 8, 8, 8, 8, 8, 8, 8, 8, 8, 8, 8, 8, 8, 8, 8, 8, 8, 8, 8, 8, 8, 8, 8, 8, 8, 8, 8, 8, 8, 8, 8, 8, 8, 8, 8, 8, 8, 8, 8, 8, 8, 8, 8, 8, 8, 8, 8, 8, 8, 8, 8, 8, 8, 8, 8, 8, 8, 8, 8, 8, 8, 8, 8, 8, 8, 8]⟩ : ByteArray) (ji15)
       replace p18 := eq_true p18
       replace q18 := eq_true q18
       go_wp2
       go_ret
       exact ⟨by first | rfl | (simp; done) | (simp only [← hji15] <;> (first | rfl | simp)) | (simp [*]; done), by repeat (first | exact Drawn0.refl _ | apply Drawn0.step)⟩
      ·
       rw [if_neg c17] at H
       exact absurd H (by simp)
     ·
      rw [if_neg c16] at H
      exact absurd H (by simp)
    ·
     rw [if_neg c14] at H
     have c14b0 : decide (256 ≤ x0_1) = false := decide_eq_false c14
     clear c14
     obtain ⟨ji19, hji19⟩ : ∃ j_ : Int, ((x0_1) % 256) = j_ := ⟨_, rfl⟩
     replace H : (if 0 ≤ (ji19) then (if (ji19) < 256 then (some (wrap64 (x2_1 + (wrap64 (bt (⟨#[0, 1, 2, 2, 3, 3, 3, 3, 4, 4, 4, 4, 4, 4, 4, 4, 5, 5, 5, 5, 5, 5, 5, 5, 5, 5, 5, 5, 5, 5, 5, 5, 6, 6, 6, 6, 6, 6, 6, 6, 6, 6, 6, 6, 6, 6, 6, 6, 6, 6, 6, 6, 6, 6, 6, 6, 6, 6, 6, 6, 6, 6, 6, 6, 7, 7, 7, 7, 7, 7, 7, 7, 7, 7, 7, 7, 7, 7, 7, 7, 7, 7, 7, 7, 7, 7, 7, 7, 7, 7, 7, 7, 7, 7, 7, 7, 7, 7, 7, 7, 7, 7, 7, 7, 7, 7, 7, 7, 7, 7, 7, 7, 7, 7, 7, 7, 7, 7, 7, 7, 7, 7, 7, 7, 7, 7, 7, 7, 8, 8, 8, 8, 8, 8, 8, 8, 8, 8, 8, 8, 8, 8, 8, 8, 8, 8, 8, 8, 8, 8, 8, 8, 8, 8, 8, 8, 8, 8, 8, 8, 8, 8, 8, 8, 8, 8, 8, 8, 8, 8, 8, 8, 8, 8, 8, 8, 8, 8, 8, 8, 8, 8, 8, 8, 8, 8, 8, 8, 8, 8, 8, 8, 8, 8, 8, 8, 8, 8, 8, 8, 8, 8, 8, 8, 8, 8, 8, 8, 8, 8, 8, 8, 8, 8, 8, 8, 8, 8, 8, 8, 8, 8, 8, 8, 8, 8, 8, 8, 8, 8, 8, 8, 8, 8, 8, 8, 8, 8, 8, 8, 8, 8, 8, 8, 8, 8, 8, 8, 8, 8, 8, 8, 8, 8, 8, 8]⟩ : ByteArray) (ji19)))))) else (none)) else (none)) = some r := by first | (rw [hji19] at H; exact H) | (simp only [hji19] at H ⊢; exact H)
     by_cases c20 : 0 ≤ (ji19)
     ·
      rw [if_pos c20] at H
      have c20b0 : decide (0 ≤ (ji19)) = true := decide_eq_true c20
      clear c20
      by_cases c21 : (ji19) < 256
      ·
       rw [if_pos c21] at H
       have c21b0 : decide ((ji19) < 256) = true := decide_eq_true c21
       clear c21
       obtain rfl := Option.some.inj H
       have p22 : 0 ≤ ((ji19) : Int) := od_ (by first | (with_reducible assumption) | assumption)
       have q22 : (ji19) < (256 : Int) := od_ (by first | (with_reducible assumption) | assumption)
       have hx22 := bt_at (⟨#[0, 1, 2, 2, 3, 3, 3, 3, 4, 4, 4, 4, 4, 4, 4, 4, 5, 5, 5, 5, 5, 5, 5, 5, 5, 5, 5, 5, 5, 5, 5, 5, 6, 6, 6, 6, 6, 6, 6, 6, 6, 6, 6, 6, 6, 6, 6, 6, 6, 6, 6, 6, 6, 6, 6, 6, 6, 6, 6, 6, 6, 6, 6, 6, 7, 7, 7, 7, 7, 7, 7, 7, 7, 7, 7, 7, 7, 7, 7, 7, 7, 7, 7, 7, 7, 7, 7, 7, 7, 7, 7, 7, 7, 7, 7, 7, 7, 7, 7, 7, 7, 7, 7, 7, 7, 7, 7, 7, 7, 7, 7, 7, 7, 7, 7, 7, 7, 7, 7, 7, 7, 7, 7, 7, 7, 7, 7, 7, 8, 8, 8, 8, 8, 8, 8, 8, 8, 8, 8, 8, 8, 8, 8, 8, 8, 8, 8, 8, 8, 8, 8, 8, 8, 8, 8, 8, 8, 8, 8, 8, 8, 8, 8, 8, 8, 8, 8, 8, 8, 8, 8, 8, 8, 8, 8, 8, 8, 8, 8, 8, 8, 8, 8, 8, 8, 8, 8, 8, 8, 8, 8, 8, 8, 8, 8, 8, 8, 8, 8, 8, 8, 8, 8, 8, 8, 8, 8, 8, 8, 8, 8, 8, 8, 8, 8, 8, 8, 8, 8, 8, 8, 8, 8, 8, 8, 8, 8, 8, 8, 8, 8, 8, 8, 8, 8, 8, 8, 8, 8, 8, 8, 8, 8, 8, 8, 8, 8, 8, 8, 8, 8, 8, 8, 8, 8, 8]⟩ : ByteArray) (ji19)
       replace p22 := eq_true p22
       replace q22 := eq_true q22
       go_wp2
       go_ret
       exact ⟨by first | rfl | (simp; done) | (simp only [← hji19] <;> (first | rfl | simp)) | (simp [*]; done), by repeat (first | exact Drawn0.refl _ | apply Drawn0.step)⟩
      ·
       rw [if_neg c21] at H
       exact absurd H (by simp)
     ·
      rw [if_neg c20] at H
      exact absurd H (by simp)
end Go.Proofs.Ytfbkgfffalppmaa.Wf
end
section
namespace Go.Proofs.Ytfbkgfffalppmaa.Wf
open Go.RowKit Go.Proofs.YtfbkgfffalppmaaW.PrintWords Go.Proofs.YtfbkgfffalppmaaW.PrintLast Go.Proofs.YtfbkgfffalppmaaW.PrintMore
attribute [local go_sem] max2_int min2_int max_two min_two max_three min_three max_four min_four   -- for this text's walks alone
set_option linter.unusedVariables false
set_option linter.unusedSimpArgs false
attribute [local go_sem] run_add64_any
def bits_LeadingZeros64.f (k : Nat) (a0 : Int) : Option (Int) := (bits_Len64.f k a0).bind fun t134 => (some (wrap64 (64 - t134)))
theorem bits_LeadingZeros64.mono : ∀ a0 k, LeO (bits_LeadingZeros64.f k a0) (bits_LeadingZeros64.f (k + 1) a0) := by
 intro a0 k
 unfold bits_LeadingZeros64.f
 repeat' first
   | (with_reducible exact bits_Len64.mono _ _)
   | (with_reducible exact LeO.refl _)
   | (with_reducible exact LeO.none _)
   | (with_reducible refine LeO.ite ?_ ?_)
   | (with_reducible refine LeO.bind ?_ (fun _ => ?_))
   | exact bits_Len64.mono _ _
   | exact LeO.none _
   | refine LeO.ite ?_ ?_
   | refine LeO.bind ?_ (fun _ => ?_)
set_option maxHeartbeats 8000000 in
set_option maxRecDepth 100000 in
theorem bits_LeadingZeros64.calls (k : Nat) (a0 : Int) (r : Int) (w : World) (h : bits_LeadingZeros64.f k a0 = some r) :
  Calls Try.prog 85 #[.int .u64 a0] w fun e w' => e = .returned (.int .i64 r) ∧ Drawn0 w w' := by
 have H : ((bits_Len64.f k a0).bind fun t134 => (some (wrap64 (64 - t134)))) = some r := h
 clear h
 replace H := os_ H
 obtain ⟨t134, A20, H⟩ := H
 replace H : (some (wrap64 (64 - t134))) = some r := H
 have A2 := A_ A20
 clear A20
 obtain rfl := Option.some.inj H
 go_enter Try.func85, Try.ntmps85
 go_wp2_with (first | ((with_reducible refine gate_callee (f := 86) rfl ?_); refine goesL_ (some 4) rfl rfl Try.func86 (by kernel_rfl) rfl #[.int .u64 a0] rfl (by (try simp only [List.map_toArray, List.map_cons, List.map_nil]); first | done | rfl | (simp only [List.length_drop, List.length_take]; rfl)) ?_; (with_reducible refine (bits_Len64.calls k a0 t134 _ A2.out).mono ?_); rintro e w' ⟨rfl, ⟨nd, rfl⟩⟩; refine ⟨_, rfl, ?_⟩))
 go_ret
 exact ⟨by first | rfl | (simp; done) | (simp [*]; done), by repeat (first | exact Drawn0.refl _ | apply Drawn0.step)⟩
end Go.Proofs.Ytfbkgfffalppmaa.Wf
end
section
namespace Go.Proofs.Ytfbkgfffalppmaa.Wf
open Go.RowKit Go.Proofs.YtfbkgfffalppmaaW.PrintWords Go.Proofs.YtfbkgfffalppmaaW.PrintLast Go.Proofs.YtfbkgfffalppmaaW.PrintMore
attribute [local go_sem] max2_int min2_int max_two min_two max_three min_three max_four min_four   -- for this text's walks alone
set_option linter.unusedVariables false
set_option linter.unusedSimpArgs false
attribute [local go_sem] run_add64_any
mutual
def bits_Div64.j2 : Nat → Int → Int → Int → Int → Int → Int → Int → Int → Option (Int × Int)
 | 0, _, _, _, _, _, _, _, _ => none
 | k + 1, x2, x8, x9, x10, x11, x13, x14, x15 => if x9 = 0 then (none) else (bits_Div64.l1 k x2 x8 x9 x10 x14 x15 (IntKind.u64.wrap ((IntKind.u64.wrap ((IntKind.u64.wrap ((IntKind.u64.wrap (x11 * 4294967296)) + x13)) - (IntKind.u64.wrap (x15 * x2)))) - (IntKind.u64.wrap ((IntKind.u64.wrap (Int.tdiv (IntKind.u64.wrap ((IntKind.u64.wrap ((IntKind.u64.wrap (x11 * 4294967296)) + x13)) - (IntKind.u64.wrap (x15 * x2)))) x9)) * x9)))) (IntKind.u64.wrap ((IntKind.u64.wrap ((IntKind.u64.wrap (x11 * 4294967296)) + x13)) - (IntKind.u64.wrap (x15 * x2)))) (IntKind.u64.wrap (Int.tdiv (IntKind.u64.wrap ((IntKind.u64.wrap ((IntKind.u64.wrap (x11 * 4294967296)) + x13)) - (IntKind.u64.wrap (x15 * x2)))) x9)))
def bits_Div64.l1 : Nat → Int → Int → Int → Int → Int → Int → Int → Int → Int → Option (Int × Int)
 | 0, _, _, _, _, _, _, _, _, _ => none
 | k + 1, x2, x8, x9, x10, x14, x15, x16, x17, x18 => if x18 ≥ 4294967296 then (bits_Div64.j4 k x2 x8 x9 x10 x14 x15 x16 x17 x18 true) else (bits_Div64.j4 k x2 x8 x9 x10 x14 x15 x16 x17 x18 (decide ((IntKind.u64.wrap (x18 * x10)) > (IntKind.u64.wrap ((IntKind.u64.wrap (4294967296 * x16)) + x14)))))
def bits_Div64.j4 : Nat → Int → Int → Int → Int → Int → Int → Int → Int → Int → Bool → Option (Int × Int)
 | 0, _, _, _, _, _, _, _, _, _, _ => none
 | k + 1, x2, x8, x9, x10, x14, x15, x16, x17, x18, x113 => if x113 = true then (if (IntKind.u64.wrap (x16 + x9)) ≥ 4294967296 then (if 0 ≤ x8 then (some (IntKind.u64.wrap ((IntKind.u64.wrap (x15 * 4294967296)) + (IntKind.u64.wrap (x18 - 1))), shr .u64 (IntKind.u64.wrap ((IntKind.u64.wrap ((IntKind.u64.wrap (x17 * 4294967296)) + x14)) - (IntKind.u64.wrap ((IntKind.u64.wrap (x18 - 1)) * x2)))) x8)) else (none)) else (bits_Div64.l1 k x2 x8 x9 x10 x14 x15 (IntKind.u64.wrap (x16 + x9)) x17 (IntKind.u64.wrap (x18 - 1)))) else (if 0 ≤ x8 then (some (IntKind.u64.wrap ((IntKind.u64.wrap (x15 * 4294967296)) + x18), shr .u64 (IntKind.u64.wrap ((IntKind.u64.wrap ((IntKind.u64.wrap (x17 * 4294967296)) + x14)) - (IntKind.u64.wrap (x18 * x2)))) x8)) else (none))
def bits_Div64.l0 : Nat → Int → Int → Int → Int → Int → Int → Int → Int → Int → Option (Int × Int)
 | 0, _, _, _, _, _, _, _, _, _ => none
 | k + 1, x2, x8, x9, x10, x11, x13, x14, x15, x16 => if x15 ≥ 4294967296 then (bits_Div64.j1 k x2 x8 x9 x10 x11 x13 x14 x15 x16 true) else (bits_Div64.j1 k x2 x8 x9 x10 x11 x13 x14 x15 x16 (decide ((IntKind.u64.wrap (x15 * x10)) > (IntKind.u64.wrap ((IntKind.u64.wrap (4294967296 * x16)) + x13)))))
def bits_Div64.j1 : Nat → Int → Int → Int → Int → Int → Int → Int → Int → Int → Bool → Option (Int × Int)
 | 0, _, _, _, _, _, _, _, _, _, _ => none
 | k + 1, x2, x8, x9, x10, x11, x13, x14, x15, x16, x78 => if x78 = true then (if (IntKind.u64.wrap (x16 + x9)) ≥ 4294967296 then (bits_Div64.j2 k x2 x8 x9 x10 x11 x13 x14 (IntKind.u64.wrap (x15 - 1))) else (bits_Div64.l0 k x2 x8 x9 x10 x11 x13 x14 (IntKind.u64.wrap (x15 - 1)) (IntKind.u64.wrap (x16 + x9)))) else (bits_Div64.j2 k x2 x8 x9 x10 x11 x13 x14 x15)
end
def bits_Div64.f (k : Nat) (a0 : Int) (a1 : Int) (a2 : Int) : Option (Int × Int) := if a2 = 0 then (none) else (if a2 ≤ a0 then (none) else (if a0 = 0 then (some (IntKind.u64.wrap (Int.tdiv a1 a2), Int.tmod a1 a2)) else ((bits_LeadingZeros64.f k a2).bind fun t135 => (if 0 ≤ (IntKind.u64.wrap (t135)) then (if 0 ≤ (IntKind.u64.wrap (64 - (IntKind.u64.wrap (t135)))) then (if ((shl .u64 a2 (IntKind.u64.wrap (t135))) / 4294967296) = 0 then (none) else (bits_Div64.l0 k (shl .u64 a2 (IntKind.u64.wrap (t135))) (IntKind.u64.wrap (t135)) ((shl .u64 a2 (IntKind.u64.wrap (t135))) / 4294967296) (Go.bits .and .u64 (shl .u64 a2 (IntKind.u64.wrap (t135))) 4294967295) (Go.bits .or .u64 (shl .u64 a0 (IntKind.u64.wrap (t135))) (shr .u64 a1 (IntKind.u64.wrap (64 - (IntKind.u64.wrap (t135)))))) ((shl .u64 a1 (IntKind.u64.wrap (t135))) / 4294967296) (Go.bits .and .u64 (shl .u64 a1 (IntKind.u64.wrap (t135))) 4294967295) (IntKind.u64.wrap (Int.tdiv (Go.bits .or .u64 (shl .u64 a0 (IntKind.u64.wrap (t135))) (shr .u64 a1 (IntKind.u64.wrap (64 - (IntKind.u64.wrap (t135)))))) ((shl .u64 a2 (IntKind.u64.wrap (t135))) / 4294967296))) (IntKind.u64.wrap ((Go.bits .or .u64 (shl .u64 a0 (IntKind.u64.wrap (t135))) (shr .u64 a1 (IntKind.u64.wrap (64 - (IntKind.u64.wrap (t135)))))) - (IntKind.u64.wrap ((IntKind.u64.wrap (Int.tdiv (Go.bits .or .u64 (shl .u64 a0 (IntKind.u64.wrap (t135))) (shr .u64 a1 (IntKind.u64.wrap (64 - (IntKind.u64.wrap (t135)))))) ((shl .u64 a2 (IntKind.u64.wrap (t135))) / 4294967296))) * ((shl .u64 a2 (IntKind.u64.wrap (t135))) / 4294967296))))))) else (none)) else (none)))))
theorem bits_Div64.mono_l : ∀ k, (∀ y0 y1 y2 y3 y4 y5 y6 y7, LeO (bits_Div64.j2 k y0 y1 y2 y3 y4 y5 y6 y7) (bits_Div64.j2 (k + 1) y0 y1 y2 y3 y4 y5 y6 y7)) ∧ (∀ y0 y1 y2 y3 y4 y5 y6 y7 y8, LeO (bits_Div64.l1 k y0 y1 y2 y3 y4 y5 y6 y7 y8) (bits_Div64.l1 (k + 1) y0 y1 y2 y3 y4 y5 y6 y7 y8)) ∧ (∀ y0 y1 y2 y3 y4 y5 y6 y7 y8 y9, LeO (bits_Div64.j4 k y0 y1 y2 y3 y4 y5 y6 y7 y8 y9) (bits_Div64.j4 (k + 1) y0 y1 y2 y3 y4 y5 y6 y7 y8 y9)) ∧ (∀ y0 y1 y2 y3 y4 y5 y6 y7 y8, LeO (bits_Div64.l0 k y0 y1 y2 y3 y4 y5 y6 y7 y8) (bits_Div64.l0 (k + 1) y0 y1 y2 y3 y4 y5 y6 y7 y8)) ∧ (∀ y0 y1 y2 y3 y4 y5 y6 y7 y8 y9, LeO (bits_Div64.j1 k y0 y1 y2 y3 y4 y5 y6 y7 y8 y9) (bits_Div64.j1 (k + 1) y0 y1 y2 y3 y4 y5 y6 y7 y8 y9))
 | 0 => ⟨fun _ _ _ _ _ _ _ _ r h => by simp [bits_Div64.j2] at h, fun _ _ _ _ _ _ _ _ _ r h => by simp [bits_Div64.l1] at h, fun _ _ _ _ _ _ _ _ _ _ r h => by simp [bits_Div64.j4] at h, fun _ _ _ _ _ _ _ _ _ r h => by simp [bits_Div64.l0] at h, fun _ _ _ _ _ _ _ _ _ _ r h => by simp [bits_Div64.j1] at h⟩
 | k + 1 => by
  obtain ⟨ih0, ih1, ih2, ih3, ih4⟩ := bits_Div64.mono_l k
  refine ⟨?_, ?_, ?_, ?_, ?_⟩
  ·
   intro y0 y1 y2 y3 y4 y5 y6 y7
   unfold bits_Div64.j2
   repeat' first
   | (with_reducible exact ih0 _ _ _ _ _ _ _ _)
   | (with_reducible exact ih1 _ _ _ _ _ _ _ _ _)
   | (with_reducible exact ih2 _ _ _ _ _ _ _ _ _ _)
   | (with_reducible exact ih3 _ _ _ _ _ _ _ _ _)
   | (with_reducible exact ih4 _ _ _ _ _ _ _ _ _ _)
   | (with_reducible exact bits_LeadingZeros64.mono _ _)
   | (with_reducible exact LeO.refl _)
   | (with_reducible exact LeO.none _)
   | (with_reducible refine LeO.ite ?_ ?_)
   | (with_reducible refine LeO.bind ?_ (fun _ => ?_))
   | exact ih0 _ _ _ _ _ _ _ _
   | exact ih1 _ _ _ _ _ _ _ _ _
   | exact ih2 _ _ _ _ _ _ _ _ _ _
   | exact ih3 _ _ _ _ _ _ _ _ _
   | exact ih4 _ _ _ _ _ _ _ _ _ _
   | exact bits_LeadingZeros64.mono _ _
   | exact LeO.none _
   | refine LeO.ite ?_ ?_
   | refine LeO.bind ?_ (fun _ => ?_)
  ·
   intro y0 y1 y2 y3 y4 y5 y6 y7 y8
   unfold bits_Div64.l1
   repeat' first
   | (with_reducible exact ih0 _ _ _ _ _ _ _ _)
   | (with_reducible exact ih1 _ _ _ _ _ _ _ _ _)
   | (with_reducible exact ih2 _ _ _ _ _ _ _ _ _ _)
   | (with_reducible exact ih3 _ _ _ _ _ _ _ _ _)
   | (with_reducible exact ih4 _ _ _ _ _ _ _ _ _ _)
   | (with_reducible exact bits_LeadingZeros64.mono _ _)
   | (with_reducible exact LeO.refl _)
   | (with_reducible exact LeO.none _)
   | (with_reducible refine LeO.ite ?_ ?_)
   | (with_reducible refine LeO.bind ?_ (fun _ => ?_))
   | exact ih0 _ _ _ _ _ _ _ _
   | exact ih1 _ _ _ _ _ _ _ _ _
   | exact ih2 _ _ _ _ _ _ _ _ _ _
   | exact ih3 _ _ _ _ _ _ _ _ _
   | exact ih4 _ _ _ _ _ _ _ _ _ _
   | exact bits_LeadingZeros64.mono _ _
   | exact LeO.none _
   | refine LeO.ite ?_ ?_
   | refine LeO.bind ?_ (fun _ => ?_)
  ·
   intro y0 y1 y2 y3 y4 y5 y6 y7 y8 y9
   unfold bits_Div64.j4
   repeat' first
   | (with_reducible exact ih0 _ _ _ _ _ _ _ _)
   | (with_reducible exact ih1 _ _ _ _ _ _ _ _ _)
   | (with_reducible exact ih2 _ _ _ _ _ _ _ _ _ _)
   | (with_reducible exact ih3 _ _ _ _ _ _ _ _ _)
   | (with_reducible exact ih4 _ _ _ _ _ _ _ _ _ _)
   | (with_reducible exact bits_LeadingZeros64.mono _ _)
   | (with_reducible exact LeO.refl _)
   | (with_reducible exact LeO.none _)
   | (with_reducible refine LeO.ite ?_ ?_)
   | (with_reducible refine LeO.bind ?_ (fun _ => ?_))
   | exact ih0 _ _ _ _ _ _ _ _
   | exact ih1 _ _ _ _ _ _ _ _ _
   | exact ih2 _ _ _ _ _ _ _ _ _ _
   | exact ih3 _ _ _ _ _ _ _ _ _
   | exact ih4 _ _ _ _ _ _ _ _ _ _
   | exact bits_LeadingZeros64.mono _ _
   | exact LeO.none _
   | refine LeO.ite ?_ ?_
   | refine LeO.bind ?_ (fun _ => ?_)
  ·
   intro y0 y1 y2 y3 y4 y5 y6 y7 y8
   unfold bits_Div64.l0
   repeat' first
   | (with_reducible exact ih0 _ _ _ _ _ _ _ _)
   | (with_reducible exact ih1 _ _ _ _ _ _ _ _ _)
   | (with_reducible exact ih2 _ _ _ _ _ _ _ _ _ _)
   | (with_reducible exact ih3 _ _ _ _ _ _ _ _ _)
   | (with_reducible exact ih4 _ _ _ _ _ _ _ _ _ _)
   | (with_reducible exact bits_LeadingZeros64.mono _ _)
   | (with_reducible exact LeO.refl _)
   | (with_reducible exact LeO.none _)
   | (with_reducible refine LeO.ite ?_ ?_)
   | (with_reducible refine LeO.bind ?_ (fun _ => ?_))
   | exact ih0 _ _ _ _ _ _ _ _
   | exact ih1 _ _ _ _ _ _ _ _ _
   | exact ih2 _ _ _ _ _ _ _ _ _ _
   | exact ih3 _ _ _ _ _ _ _ _ _
   | exact ih4 _ _ _ _ _ _ _ _ _ _
   | exact bits_LeadingZeros64.mono _ _
   | exact LeO.none _
   | refine LeO.ite ?_ ?_
   | refine LeO.bind ?_ (fun _ => ?_)
  ·
   intro y0 y1 y2 y3 y4 y5 y6 y7 y8 y9
   unfold bits_Div64.j1
   repeat' first
   | (with_reducible exact ih0 _ _ _ _ _ _ _ _)
   | (with_reducible exact ih1 _ _ _ _ _ _ _ _ _)
   | (with_reducible exact ih2 _ _ _ _ _ _ _ _ _ _)
   | (with_reducible exact ih3 _ _ _ _ _ _ _ _ _)
   | (with_reducible exact ih4 _ _ _ _ _ _ _ _ _ _)
   | (with_reducible exact bits_LeadingZeros64.mono _ _)
   | (with_reducible exact LeO.refl _)
   | (with_reducible exact LeO.none _)
   | (with_reducible refine LeO.ite ?_ ?_)
   | (with_reducible refine LeO.bind ?_ (fun _ => ?_))
   | exact ih0 _ _ _ _ _ _ _ _
   | exact ih1 _ _ _ _ _ _ _ _ _
   | exact ih2 _ _ _ _ _ _ _ _ _ _
   | exact ih3 _ _ _ _ _ _ _ _ _
   | exact ih4 _ _ _ _ _ _ _ _ _ _
   | exact bits_LeadingZeros64.mono _ _
   | exact LeO.none _
   | refine LeO.ite ?_ ?_
   | refine LeO.bind ?_ (fun _ => ?_)
theorem bits_Div64.mono : ∀ a0 a1 a2 k, LeO (bits_Div64.f k a0 a1 a2) (bits_Div64.f (k + 1) a0 a1 a2) := by
 intro a0 a1 a2 k
 obtain ⟨ih0, ih1, ih2, ih3, ih4⟩ := bits_Div64.mono_l k
 unfold bits_Div64.f
 repeat' first
   | (with_reducible exact ih0 _ _ _ _ _ _ _ _)
   | (with_reducible exact ih1 _ _ _ _ _ _ _ _ _)
   | (with_reducible exact ih2 _ _ _ _ _ _ _ _ _ _)
   | (with_reducible exact ih3 _ _ _ _ _ _ _ _ _)
   | (with_reducible exact ih4 _ _ _ _ _ _ _ _ _ _)
   | (with_reducible exact bits_LeadingZeros64.mono _ _)
   | (with_reducible exact LeO.refl _)
   | (with_reducible exact LeO.none _)
   | (with_reducible refine LeO.ite ?_ ?_)
   | (with_reducible refine LeO.bind ?_ (fun _ => ?_))
   | exact ih0 _ _ _ _ _ _ _ _
   | exact ih1 _ _ _ _ _ _ _ _ _
   | exact ih2 _ _ _ _ _ _ _ _ _ _
   | exact ih3 _ _ _ _ _ _ _ _ _
   | exact ih4 _ _ _ _ _ _ _ _ _ _
   | exact bits_LeadingZeros64.mono _ _
   | exact LeO.none _
   | refine LeO.ite ?_ ?_
   | refine LeO.bind ?_ (fun _ => ?_)
set_option maxHeartbeats 8000000 in
set_option maxRecDepth 100000 in
theorem bits_Div64.calls (k : Nat) (a0 : Int) (a1 : Int) (a2 : Int) (r1 : Int) (r2 : Int) (w : World) (h : bits_Div64.f k a0 a1 a2 = some (r1, r2)) :
  Calls Try.prog 77 #[.int .u64 a0, .int .u64 a1, .int .u64 a2] w fun e w' => e = .returned (.tuple #[.int .u64 r1, .int .u64 r2]) ∧ Drawn0 w w' := by
 have H : (if a2 = 0 then (none) else (if a2 ≤ a0 then (none) else (if a0 = 0 then (some (IntKind.u64.wrap (Int.tdiv a1 a2), Int.tmod a1 a2)) else ((bits_LeadingZeros64.f k a2).bind fun t135 => (if 0 ≤ (IntKind.u64.wrap (t135)) then (if 0 ≤ (IntKind.u64.wrap (64 - (IntKind.u64.wrap (t135)))) then (if ((shl .u64 a2 (IntKind.u64.wrap (t135))) / 4294967296) = 0 then (none) else (bits_Div64.l0 k (shl .u64 a2 (IntKind.u64.wrap (t135))) (IntKind.u64.wrap (t135)) ((shl .u64 a2 (IntKind.u64.wrap (t135))) / 4294967296) (Go.bits .and .u64 (shl .u64 a2 (IntKind.u64.wrap (t135))) 4294967295) (Go.bits .or .u64 (shl .u64 a0 (IntKind.u64.wrap (t135))) (shr .u64 a1 (IntKind.u64.wrap (64 - (IntKind.u64.wrap (t135)))))) ((shl .u64 a1 (IntKind.u64.wrap (t135))) / 4294967296) (Go.bits .and .u64 (shl .u64 a1 (IntKind.u64.wrap (t135))) 4294967295) (IntKind.u64.wrap (Int.tdiv (Go.bits .or .u64 (shl .u64 a0 (IntKind.u64.wrap (t135))) (shr .u64 a1 (IntKind.u64.wrap (64 - (IntKind.u64.wrap (t135)))))) ((shl .u64 a2 (IntKind.u64.wrap (t135))) / 4294967296))) (IntKind.u64.wrap ((Go.bits .or .u64 (shl .u64 a0 (IntKind.u64.wrap (t135))) (shr .u64 a1 (IntKind.u64.wrap (64 - (IntKind.u64.wrap (t135)))))) - (IntKind.u64.wrap ((IntKind.u64.wrap (Int.tdiv (Go.bits .or .u64 (shl .u64 a0 (IntKind.u64.wrap (t135))) (shr .u64 a1 (IntKind.u64.wrap (64 - (IntKind.u64.wrap (t135)))))) ((shl .u64 a2 (IntKind.u64.wrap (t135))) / 4294967296))) * ((shl .u64 a2 (IntKind.u64.wrap (t135))) / 4294967296))))))) else (none)) else (none)))))) = some (r1, r2) := h
 clear h
 by_cases c4 : a2 = 0
 ·
  rw [if_pos c4] at H
  exact absurd H (by simp)
 ·
  rw [if_neg c4] at H
  have c4b0 : (a2 == 0) = false := q4_ c4
  have c4b1 : (a2 != 0) = true := q2_ c4
  by_cases c5 : a2 ≤ a0
  ·
   rw [if_pos c5] at H
   exact absurd H (by simp)
  ·
   rw [if_neg c5] at H
   have c5b0 : decide (a2 ≤ a0) = false := decide_eq_false c5
   clear c5
   by_cases c6 : a0 = 0
   ·
    rw [if_pos c6] at H
    have c6b0 : (a0 == 0) = true := q1_ c6
    have c6b1 : (a0 != 0) = false := q3_ c6
    clear c6
    simp only [Option.some.injEq, Prod.mk.injEq] at H
    obtain ⟨rfl, rfl⟩ := H
    go_enter Try.func77, Try.ntmps77
    go_wp2
    repeat (go_quiet (fail); try go_wp2)
    go_ret2
    exact ⟨by first | rfl | (simp; done) | (simp [*]; done), by repeat (first | exact Drawn0.refl _ | apply Drawn0.step)⟩
   ·
    rw [if_neg c6] at H
    have c6b0 : (a0 == 0) = false := q4_ c6
    have c6b1 : (a0 != 0) = true := q2_ c6
    replace H := os_ H
    obtain ⟨t135, A70, H⟩ := H
    replace H : (if 0 ≤ (IntKind.u64.wrap (t135)) then (if 0 ≤ (IntKind.u64.wrap (64 - (IntKind.u64.wrap (t135)))) then (if ((shl .u64 a2 (IntKind.u64.wrap (t135))) / 4294967296) = 0 then (none) else (bits_Div64.l0 k (shl .u64 a2 (IntKind.u64.wrap (t135))) (IntKind.u64.wrap (t135)) ((shl .u64 a2 (IntKind.u64.wrap (t135))) / 4294967296) (Go.bits .and .u64 (shl .u64 a2 (IntKind.u64.wrap (t135))) 4294967295) (Go.bits .or .u64 (shl .u64 a0 (IntKind.u64.wrap (t135))) (shr .u64 a1 (IntKind.u64.wrap (64 - (IntKind.u64.wrap (t135)))))) ((shl .u64 a1 (IntKind.u64.wrap (t135))) / 4294967296) (Go.bits .and .u64 (shl .u64 a1 (IntKind.u64.wrap (t135))) 4294967295) (IntKind.u64.wrap (Int.tdiv (Go.bits .or .u64 (shl .u64 a0 (IntKind.u64.wrap (t135))) (shr .u64 a1 (IntKind.u64.wrap (64 - (IntKind.u64.wrap (t135)))))) ((shl .u64 a2 (IntKind.u64.wrap (t135))) / 4294967296))) (IntKind.u64.wrap ((Go.bits .or .u64 (shl .u64 a0 (IntKind.u64.wrap (t135))) (shr .u64 a1 (IntKind.u64.wrap (64 - (IntKind.u64.wrap (t135)))))) - (IntKind.u64.wrap ((IntKind.u64.wrap (Int.tdiv (Go.bits .or .u64 (shl .u64 a0 (IntKind.u64.wrap (t135))) (shr .u64 a1 (IntKind.u64.wrap (64 - (IntKind.u64.wrap (t135)))))) ((shl .u64 a2 (IntKind.u64.wrap (t135))) / 4294967296))) * ((shl .u64 a2 (IntKind.u64.wrap (t135))) / 4294967296))))))) else (none)) else (none)) = some (r1, r2) := H
    have A7 := A_ A70
    clear A70
    obtain ⟨ji8, hji8⟩ : ∃ j_ : Int, (IntKind.u64.wrap (t135)) = j_ := ⟨_, rfl⟩
    replace H : (if 0 ≤ (ji8) then (if 0 ≤ (IntKind.u64.wrap (64 - (ji8))) then (if ((shl .u64 a2 (ji8)) / 4294967296) = 0 then (none) else (bits_Div64.l0 k (shl .u64 a2 (ji8)) ji8 ((shl .u64 a2 (ji8)) / 4294967296) (Go.bits .and .u64 (shl .u64 a2 (ji8)) 4294967295) (Go.bits .or .u64 (shl .u64 a0 (ji8)) (shr .u64 a1 (IntKind.u64.wrap (64 - (ji8))))) ((shl .u64 a1 (ji8)) / 4294967296) (Go.bits .and .u64 (shl .u64 a1 (ji8)) 4294967295) (IntKind.u64.wrap (Int.tdiv (Go.bits .or .u64 (shl .u64 a0 (ji8)) (shr .u64 a1 (IntKind.u64.wrap (64 - (ji8))))) ((shl .u64 a2 (ji8)) / 4294967296))) (IntKind.u64.wrap ((Go.bits .or .u64 (shl .u64 a0 (ji8)) (shr .u64 a1 (IntKind.u64.wrap (64 - (ji8))))) - (IntKind.u64.wrap ((IntKind.u64.wrap (Int.tdiv (Go.bits .or .u64 (shl .u64 a0 (ji8)) (shr .u64 a1 (IntKind.u64.wrap (64 - (ji8))))) ((shl .u64 a2 (ji8)) / 4294967296))) * ((shl .u64 a2 (ji8)) / 4294967296))))))) else (none)) else (none)) = some (r1, r2) := by first | (rw [hji8] at H; exact H) | (simp only [hji8] at H ⊢; exact H)
    (try rw [hji8] at A7)
    by_cases c9 : 0 ≤ (ji8)
    ·
     rw [if_pos c9] at H
     have c9b0 := eq_true c9
     have c9b1 : decide (0 ≤ (ji8)) = true := decide_eq_true c9
     clear c9
     obtain ⟨ji10, hji10⟩ : ∃ j_ : Int, (shl .u64 a2 (ji8)) = j_ := ⟨_, rfl⟩
     replace H : (if 0 ≤ (IntKind.u64.wrap (64 - (ji8))) then (if ((ji10) / 4294967296) = 0 then (none) else (bits_Div64.l0 k ji10 ji8 ((ji10) / 4294967296) (Go.bits .and .u64 (ji10) 4294967295) (Go.bits .or .u64 (shl .u64 a0 (ji8)) (shr .u64 a1 (IntKind.u64.wrap (64 - (ji8))))) ((shl .u64 a1 (ji8)) / 4294967296) (Go.bits .and .u64 (shl .u64 a1 (ji8)) 4294967295) (IntKind.u64.wrap (Int.tdiv (Go.bits .or .u64 (shl .u64 a0 (ji8)) (shr .u64 a1 (IntKind.u64.wrap (64 - (ji8))))) ((ji10) / 4294967296))) (IntKind.u64.wrap ((Go.bits .or .u64 (shl .u64 a0 (ji8)) (shr .u64 a1 (IntKind.u64.wrap (64 - (ji8))))) - (IntKind.u64.wrap ((IntKind.u64.wrap (Int.tdiv (Go.bits .or .u64 (shl .u64 a0 (ji8)) (shr .u64 a1 (IntKind.u64.wrap (64 - (ji8))))) ((ji10) / 4294967296))) * ((ji10) / 4294967296))))))) else (none)) = some (r1, r2) := by first | (rw [hji10] at H; exact H) | (simp only [hji10] at H ⊢; exact H)
     (try rw [hji10] at A7)
     have hji10_ : (IntKind.u64.wrap (a2 * 2 ^ min (ji8).toNat 64)) = ji10 := hji10
     have hji10z : (ji8) ≤ 64 → (IntKind.u64.wrap (a2 * 2 ^ (ji8).toNat)) = ji10 := shl_small hji10
     have c11b0 := eq_true (od_ (by first | (with_reducible assumption) | assumption) : 0 ≤ (ji8))
     obtain ⟨ji12, hji12⟩ : ∃ j_ : Int, (shl .u64 a0 (ji8)) = j_ := ⟨_, rfl⟩
     replace H : (if 0 ≤ (IntKind.u64.wrap (64 - (ji8))) then (if ((ji10) / 4294967296) = 0 then (none) else (bits_Div64.l0 k ji10 ji8 ((ji10) / 4294967296) (Go.bits .and .u64 (ji10) 4294967295) (Go.bits .or .u64 (ji12) (shr .u64 a1 (IntKind.u64.wrap (64 - (ji8))))) ((shl .u64 a1 (ji8)) / 4294967296) (Go.bits .and .u64 (shl .u64 a1 (ji8)) 4294967295) (IntKind.u64.wrap (Int.tdiv (Go.bits .or .u64 (ji12) (shr .u64 a1 (IntKind.u64.wrap (64 - (ji8))))) ((ji10) / 4294967296))) (IntKind.u64.wrap ((Go.bits .or .u64 (ji12) (shr .u64 a1 (IntKind.u64.wrap (64 - (ji8))))) - (IntKind.u64.wrap ((IntKind.u64.wrap (Int.tdiv (Go.bits .or .u64 (ji12) (shr .u64 a1 (IntKind.u64.wrap (64 - (ji8))))) ((ji10) / 4294967296))) * ((ji10) / 4294967296))))))) else (none)) = some (r1, r2) := by first | (rw [hji12] at H; exact H) | (simp only [hji12] at H ⊢; exact H)
     (try rw [hji12] at A7)
     have hji12_ : (IntKind.u64.wrap (a0 * 2 ^ min (ji8).toNat 64)) = ji12 := hji12
     have hji12z : (ji8) ≤ 64 → (IntKind.u64.wrap (a0 * 2 ^ (ji8).toNat)) = ji12 := shl_small hji12
     obtain ⟨ji13, hji13⟩ : ∃ j_ : Int, (IntKind.u64.wrap (64 - (ji8))) = j_ := ⟨_, rfl⟩
     replace H : (if 0 ≤ (ji13) then (if ((ji10) / 4294967296) = 0 then (none) else (bits_Div64.l0 k ji10 ji8 ((ji10) / 4294967296) (Go.bits .and .u64 (ji10) 4294967295) (Go.bits .or .u64 (ji12) (shr .u64 a1 (ji13))) ((shl .u64 a1 (ji8)) / 4294967296) (Go.bits .and .u64 (shl .u64 a1 (ji8)) 4294967295) (IntKind.u64.wrap (Int.tdiv (Go.bits .or .u64 (ji12) (shr .u64 a1 (ji13))) ((ji10) / 4294967296))) (IntKind.u64.wrap ((Go.bits .or .u64 (ji12) (shr .u64 a1 (ji13))) - (IntKind.u64.wrap ((IntKind.u64.wrap (Int.tdiv (Go.bits .or .u64 (ji12) (shr .u64 a1 (ji13))) ((ji10) / 4294967296))) * ((ji10) / 4294967296))))))) else (none)) = some (r1, r2) := by first | (rw [hji13] at H; exact H) | (simp only [hji13] at H ⊢; exact H)
     (try rw [hji13] at A7)
     by_cases c14 : 0 ≤ (ji13)
     ·
      rw [if_pos c14] at H
      have c14b0 := eq_true c14
      have c14b1 : decide (0 ≤ (ji13)) = true := decide_eq_true c14
      clear c14
      obtain ⟨ji15, hji15⟩ : ∃ j_ : Int, (shr .u64 a1 (ji13)) = j_ := ⟨_, rfl⟩
      replace H : (if ((ji10) / 4294967296) = 0 then (none) else (bits_Div64.l0 k ji10 ji8 ((ji10) / 4294967296) (Go.bits .and .u64 (ji10) 4294967295) (Go.bits .or .u64 (ji12) (ji15)) ((shl .u64 a1 (ji8)) / 4294967296) (Go.bits .and .u64 (shl .u64 a1 (ji8)) 4294967295) (IntKind.u64.wrap (Int.tdiv (Go.bits .or .u64 (ji12) (ji15)) ((ji10) / 4294967296))) (IntKind.u64.wrap ((Go.bits .or .u64 (ji12) (ji15)) - (IntKind.u64.wrap ((IntKind.u64.wrap (Int.tdiv (Go.bits .or .u64 (ji12) (ji15)) ((ji10) / 4294967296))) * ((ji10) / 4294967296))))))) = some (r1, r2) := by first | (rw [hji15] at H; exact H) | (simp only [hji15] at H ⊢; exact H)
      (try rw [hji15] at A7)
      have hji15_ : (a1 / 2 ^ min (ji13).toNat 64) = ji15 := hji15
      have hji15z : (ji13) ≤ 64 → (a1 / 2 ^ (ji13).toNat) = ji15 := shr_small hji15
      have c16b0 := eq_true (od_ (by first | (with_reducible assumption) | assumption) : 0 ≤ (ji8))
      obtain ⟨ji17, hji17⟩ : ∃ j_ : Int, (shl .u64 a1 (ji8)) = j_ := ⟨_, rfl⟩
      replace H : (if ((ji10) / 4294967296) = 0 then (none) else (bits_Div64.l0 k ji10 ji8 ((ji10) / 4294967296) (Go.bits .and .u64 (ji10) 4294967295) (Go.bits .or .u64 (ji12) (ji15)) ((ji17) / 4294967296) (Go.bits .and .u64 (ji17) 4294967295) (IntKind.u64.wrap (Int.tdiv (Go.bits .or .u64 (ji12) (ji15)) ((ji10) / 4294967296))) (IntKind.u64.wrap ((Go.bits .or .u64 (ji12) (ji15)) - (IntKind.u64.wrap ((IntKind.u64.wrap (Int.tdiv (Go.bits .or .u64 (ji12) (ji15)) ((ji10) / 4294967296))) * ((ji10) / 4294967296))))))) = some (r1, r2) := by first | (rw [hji17] at H; exact H) | (simp only [hji17] at H ⊢; exact H)
      (try rw [hji17] at A7)
      have hji17_ : (IntKind.u64.wrap (a1 * 2 ^ min (ji8).toNat 64)) = ji17 := hji17
      have hji17z : (ji8) ≤ 64 → (IntKind.u64.wrap (a1 * 2 ^ (ji8).toNat)) = ji17 := shl_small hji17
      by_cases c18 : ((ji10) / 4294967296) = 0
      ·
       rw [if_pos c18] at H
       exact absurd H (by simp)
      ·
       rw [if_neg c18] at H
       have c18b0 : (((ji10) / 4294967296) == 0) = false := q4_ c18
       have c18b1 : (((ji10) / 4294967296) != 0) = true := q2_ c18
       have HC19 := A_ H
       clear H
       go_enter Try.func77, Try.ntmps77
       go_upto_block 0 with (first | (go_at_call 85; (with_reducible refine (bits_LeadingZeros64.calls k a2 t135 _ A7.out).mono ?_); rintro e w' ⟨rfl, ⟨nd, rfl⟩⟩; (try first | exact ⟨rfl, _, dd_ _ _ _⟩ | exact ⟨rfl, _, Eq.trans (dd_ _ _ _) (congrArg (World.drewN _) (Nat.add_assoc _ _ _))⟩)))
       repeat (go_quiet (first | (go_at_call 85; (with_reducible refine (bits_LeadingZeros64.calls k a2 t135 _ A7.out).mono ?_); rintro e w' ⟨rfl, ⟨nd, rfl⟩⟩; (try first | exact ⟨rfl, _, dd_ _ _ _⟩ | exact ⟨rfl, _, Eq.trans (dd_ _ _ _) (congrArg (World.drewN _) (Nat.add_assoc _ _ _))⟩))); go_upto_block 0 with (first | (go_at_call 85; (with_reducible refine (bits_LeadingZeros64.calls k a2 t135 _ A7.out).mono ?_); rintro e w' ⟨rfl, ⟨nd, rfl⟩⟩; (try first | exact ⟨rfl, _, dd_ _ _ _⟩ | exact ⟨rfl, _, Eq.trans (dd_ _ _ _) (congrArg (World.drewN _) (Nat.add_assoc _ _ _))⟩))))
       (try simp only [Act.put, sA_, sZ_, sS_])
       go_cut [15] (fun v15 wc => ∃ (kq : Nat) (x15_18 : Int), v15 = .int .u64 x15_18 ∧ Aside0 (bits_Div64.j2 kq ji10 ji8 ((ji10) / 4294967296) (Go.bits .and .u64 (ji10) 4294967295) (Go.bits .or .u64 (ji12) (ji15)) ((ji17) / 4294967296) (Go.bits .and .u64 (ji17) 4294967295) x15_18 = some (r1, r2)) ∧ Aside0 (kq ≤ k) ∧ Drawn0 w wc)
       case first =>
        have H := HC19.out
        clear HC19
        have H' := A_ H
        clear H
        go_wp2
        repeat (go_quiet (fail); try go_wp2)
        (try simp only [Act.put, sA_, sZ_, sS_])
        go_loopg [15, 16] k (fun kq v15 v16 w' => ∃ (x15_1 : Int) (x16_1 : Int), v15 = .int .u64 x15_1 ∧ v16 = .int .u64 x16_1 ∧ Aside0 (bits_Div64.l0 kq ji10 ji8 ((ji10) / 4294967296) (Go.bits .and .u64 (ji10) 4294967295) (Go.bits .or .u64 (ji12) (ji15)) ((ji17) / 4294967296) (Go.bits .and .u64 (ji17) 4294967295) x15_1 x16_1 = some (r1, r2)) ∧ Aside0 (kq ≤ k) ∧ Drawn0 w w')
        case atStart => exact ⟨(IntKind.u64.wrap (Int.tdiv (Go.bits .or .u64 (ji12) (ji15)) ((ji10) / 4294967296))), (IntKind.u64.wrap ((Go.bits .or .u64 (ji12) (ji15)) - (IntKind.u64.wrap ((IntKind.u64.wrap (Int.tdiv (Go.bits .or .u64 (ji12) (ji15)) ((ji10) / 4294967296))) * ((ji10) / 4294967296))))), (by first | rfl | (simp; done) | (simp only [← hji10, ← hji12, ← hji15] <;> (first | rfl | simp)) | (simp [*]; done)), (by first | rfl | (simp; done) | (simp only [← hji10, ← hji12, ← hji15] <;> (first | rfl | simp)) | (simp [*]; done)), H', ⟨Nat.le_refl _⟩, by repeat (first | exact Drawn0.refl _ | apply Drawn0.step)⟩
        case round =>
         clear H'
         try clear c1
         try clear p2
         try clear c4
         try clear c4b0
         try clear c4b1
         try clear c5
         try clear c5b0
         try clear c6
         try clear c6b0
         try clear c6b1
         try clear c7
         try clear c9
         try clear c9b0
         try clear c9b1
         try clear c11
         try clear c11b0
         try clear c14
         try clear c14b0
         try clear c14b1
         try clear c16
         try clear c16b0
         try clear c18
         try clear c18b0
         try clear c18b1
         obtain ⟨x15_1, x16_1, rfl, rfl, HA, HK1, ⟨m1, rfl⟩⟩ := hrel
         cases gk with
         | zero => exact absurd HA.out (by simp [bits_Div64.l0])
         | succ k1 =>
          have H := HA.out
          clear HA
          simp only [bits_Div64.l0] at H
          have HC20 := A_ H
          clear H
          go_upto_region 17 with (fail)
          repeat (go_quiet (fail); go_upto_region 17 with (fail))
          go_cut [78] (fun v78 wc => ∃ (kq : Nat) (x78_19 : Bool), v78 = .bool x78_19 ∧ Aside0 (bits_Div64.j1 kq ji10 ji8 ((ji10) / 4294967296) (Go.bits .and .u64 (ji10) 4294967295) (Go.bits .or .u64 (ji12) (ji15)) ((ji17) / 4294967296) (Go.bits .and .u64 (ji17) 4294967295) x15_1 x16_1 x78_19 = some (r1, r2)) ∧ Aside0 (kq ≤ k1) ∧ Drawn0 w wc)
          case first =>
           have H := HC20.out
           clear HC20
           by_cases c21 : x15_1 ≥ 4294967296
           ·
            rw [if_pos c21] at H
            have c21b0 : decide (4294967296 ≤ x15_1) = true := decide_eq_true c21
            clear c21
            (first | rw [c21b0] | (simp only [i64_w, i32_w]; rw [c21b0]) | skip)
            have H' := A_ H
            clear H
            go_wp2
            repeat (go_quiet (fail); try go_wp2)
            go_meet
            case rel => exact ⟨_, (true), (by first | rfl | (simp; done) | (simp [*]; done)), H', ⟨by have := HK1.out; first | omega | exact Nat.le_refl _⟩, by repeat (first | exact Drawn0.refl _ | apply Drawn0.step)⟩
           ·
            rw [if_neg c21] at H
            have c21b0 : decide (4294967296 ≤ x15_1) = false := decide_eq_false c21
            clear c21
            (first | rw [c21b0] | (simp only [i64_w, i32_w]; rw [c21b0]) | skip)
            have H' := A_ H
            clear H
            go_wp2
            repeat (go_quiet (fail); try go_wp2)
            go_meet
            case rel => exact ⟨_, (decide ((IntKind.u64.wrap (x15_1 * (Go.bits .and .u64 (ji10) 4294967295))) > (IntKind.u64.wrap ((IntKind.u64.wrap (4294967296 * x16_1)) + ((ji17) / 4294967296))))), (by first | rfl | (simp; done) | (simp only [← hji10, ← hji17] <;> (first | rfl | simp)) | (simp [*]; done)), H', ⟨by have := HK1.out; first | omega | exact Nat.le_refl _⟩, by repeat (first | exact Drawn0.refl _ | apply Drawn0.step)⟩
          case rest =>
           clear HC20
           try clear c1
           try clear c2
           try clear p2
           try clear c4
           try clear c4b0
           try clear c4b1
           try clear c5
           try clear c5b0
           try clear c6
           try clear c6b0
           try clear c6b1
           try clear c7
           try clear c9
           try clear c9b0
           try clear c9b1
           try clear c11
           try clear c11b0
           try clear c14
           try clear c14b0
           try clear c14b1
           try clear c16
           try clear c16b0
           try clear c18
           try clear c18b0
           try clear c18b1
           try clear c21
           try clear c21b0
           try clear p2
           obtain ⟨kq, x78_19, rfl, HA, HJ19, ⟨mc19, rfl⟩⟩ := hcut
           cases kq with
           | zero => exact absurd HA.out (by simp [bits_Div64.j1])
           | succ kj19 =>
            have H := HA.out
            clear HA
            simp only [bits_Div64.j1] at H
            by_cases c22 : x78_19 = true
            ·
             subst c22
             have H1 : (if (IntKind.u64.wrap (x16_1 + ((ji10) / 4294967296))) ≥ 4294967296 then (bits_Div64.j2 kj19 ji10 ji8 ((ji10) / 4294967296) (Go.bits .and .u64 (ji10) 4294967295) (Go.bits .or .u64 (ji12) (ji15)) ((ji17) / 4294967296) (Go.bits .and .u64 (ji17) 4294967295) (IntKind.u64.wrap (x15_1 - 1))) else (bits_Div64.l0 kj19 ji10 ji8 ((ji10) / 4294967296) (Go.bits .and .u64 (ji10) 4294967295) (Go.bits .or .u64 (ji12) (ji15)) ((ji17) / 4294967296) (Go.bits .and .u64 (ji17) 4294967295) (IntKind.u64.wrap (x15_1 - 1)) (IntKind.u64.wrap (x16_1 + ((ji10) / 4294967296))))) = some (r1, r2) := by rw [if_pos rfl] at H; exact H
             clear H
             have H := H1
             clear H1
             by_cases c23 : (IntKind.u64.wrap (x16_1 + ((ji10) / 4294967296))) ≥ 4294967296
             ·
              rw [if_pos c23] at H
              have c23b0 : decide (4294967296 ≤ (IntKind.u64.wrap (x16_1 + ((ji10) / 4294967296)))) = true := decide_eq_true c23
              clear c23
              have H' := A_ H
              clear H
              go_wp2
              repeat (go_quiet (fail); try go_wp2)
              go_meet
              case rel => exact ⟨_, (IntKind.u64.wrap (x15_1 - 1)), (by first | rfl | (simp; done) | (simp [*]; done)), H', ⟨by have := HK1.out; have := HJ19.out; first | omega | exact Nat.le_refl _⟩, by repeat (first | exact Drawn0.refl _ | apply Drawn0.step)⟩
             ·
              rw [if_neg c23] at H
              have c23b0 : decide (4294967296 ≤ (IntKind.u64.wrap (x16_1 + ((ji10) / 4294967296)))) = false := decide_eq_false c23
              clear c23
              have H' := A_ H
              clear H
              go_wp2
              repeat (go_quiet (fail); try go_wp2)
              go_roundg kj19
              case measure => have := HK1.out; have := HJ19.out; omega
              case rel => exact ⟨(IntKind.u64.wrap (x15_1 - 1)), (IntKind.u64.wrap (x16_1 + ((ji10) / 4294967296))), (by first | rfl | (simp; done) | (simp [*]; done)), (by first | rfl | (simp; done) | (simp only [← hji10] <;> (first | rfl | simp)) | (simp [*]; done)), H', ⟨by have := HK1.out; have := HJ19.out; omega⟩, by repeat (first | exact Drawn0.refl _ | apply Drawn0.step)⟩
            ·
             replace c22 := Bool.eq_false_iff.mpr c22
             subst c22
             have H1 : (bits_Div64.j2 kj19 ji10 ji8 ((ji10) / 4294967296) (Go.bits .and .u64 (ji10) 4294967295) (Go.bits .or .u64 (ji12) (ji15)) ((ji17) / 4294967296) (Go.bits .and .u64 (ji17) 4294967295) x15_1) = some (r1, r2) := by rw [if_neg (show ¬ (false = true) by decide)] at H; exact H
             clear H
             have H := H1
             clear H1
             have H' := A_ H
             clear H
             go_wp2
             repeat (go_quiet (fail); try go_wp2)
             go_meet
             case rel => exact ⟨_, (x15_1), (by first | rfl | (simp; done) | (simp [*]; done)), H', ⟨by have := HK1.out; have := HJ19.out; first | omega | exact Nat.le_refl _⟩, by repeat (first | exact Drawn0.refl _ | apply Drawn0.step)⟩
       case rest =>
        clear HC19
        try clear c1
        try clear c2
        try clear p2
        try clear c4
        try clear c4b0
        try clear c4b1
        try clear c5
        try clear c5b0
        try clear c6
        try clear c6b0
        try clear c6b1
        try clear c7
        try clear c9
        try clear c9b0
        try clear c9b1
        try clear c11
        try clear c11b0
        try clear c14
        try clear c14b0
        try clear c14b1
        try clear c16
        try clear c16b0
        try clear c18
        try clear c18b0
        try clear c18b1
        try clear c19
        try clear c21
        try clear c21b0
        try clear c22
        try clear c23
        try clear c23b0
        try clear p2
        obtain ⟨kq, x15_18, rfl, HA, HJ18, ⟨mc18, rfl⟩⟩ := hcut
        cases kq with
        | zero => exact absurd HA.out (by simp [bits_Div64.j2])
        | succ kj18 =>
         have H := HA.out
         clear HA
         simp only [bits_Div64.j2] at H
         by_cases c24 : ((ji10) / 4294967296) = 0
         ·
          rw [if_pos c24] at H
          exact absurd H (by simp)
         ·
          rw [if_neg c24] at H
          have c24b0 : (((ji10) / 4294967296) == 0) = false := q4_ c24
          have c24b1 : (((ji10) / 4294967296) != 0) = true := q2_ c24
          have H' := A_ H
          clear H
          go_wp2
          repeat (go_quiet (fail); try go_wp2)
          (try simp only [Act.put, sA_, sZ_, sS_])
          go_loopg [16, 18] kj18 (fun kq v16 v18 w' => ∃ (x16_2 : Int) (x18_2 : Int), v16 = .int .u64 x16_2 ∧ v18 = .int .u64 x18_2 ∧ Aside0 (bits_Div64.l1 kq ji10 ji8 ((ji10) / 4294967296) (Go.bits .and .u64 (ji10) 4294967295) (Go.bits .and .u64 (ji17) 4294967295) x15_18 x16_2 (IntKind.u64.wrap ((IntKind.u64.wrap ((IntKind.u64.wrap ((Go.bits .or .u64 (ji12) (ji15)) * 4294967296)) + ((ji17) / 4294967296))) - (IntKind.u64.wrap (x15_18 * ji10)))) x18_2 = some (r1, r2)) ∧ Aside0 (kq ≤ kj18) ∧ Drawn0 w w')
          case atStart => exact ⟨(IntKind.u64.wrap ((IntKind.u64.wrap ((IntKind.u64.wrap ((IntKind.u64.wrap ((Go.bits .or .u64 (ji12) (ji15)) * 4294967296)) + ((ji17) / 4294967296))) - (IntKind.u64.wrap (x15_18 * ji10)))) - (IntKind.u64.wrap ((IntKind.u64.wrap (Int.tdiv (IntKind.u64.wrap ((IntKind.u64.wrap ((IntKind.u64.wrap ((Go.bits .or .u64 (ji12) (ji15)) * 4294967296)) + ((ji17) / 4294967296))) - (IntKind.u64.wrap (x15_18 * ji10)))) ((ji10) / 4294967296))) * ((ji10) / 4294967296))))), (IntKind.u64.wrap (Int.tdiv (IntKind.u64.wrap ((IntKind.u64.wrap ((IntKind.u64.wrap ((Go.bits .or .u64 (ji12) (ji15)) * 4294967296)) + ((ji17) / 4294967296))) - (IntKind.u64.wrap (x15_18 * ji10)))) ((ji10) / 4294967296))), (by first | rfl | (simp; done) | (simp only [← hji10, ← hji12, ← hji15, ← hji17] <;> (first | rfl | simp)) | (simp [*]; done)), (by first | rfl | (simp; done) | (simp only [← hji10, ← hji12, ← hji15, ← hji17] <;> (first | rfl | simp)) | (simp [*]; done)), H', ⟨Nat.le_refl _⟩, by repeat (first | exact Drawn0.refl _ | apply Drawn0.step)⟩
          case round =>
           clear H'
           try clear c1
           try clear c2
           try clear p2
           try clear c4
           try clear c4b0
           try clear c4b1
           try clear c5
           try clear c5b0
           try clear c6
           try clear c6b0
           try clear c6b1
           try clear c7
           try clear c9
           try clear c9b0
           try clear c9b1
           try clear c11
           try clear c11b0
           try clear c14
           try clear c14b0
           try clear c14b1
           try clear c16
           try clear c16b0
           try clear c18
           try clear c18b0
           try clear c18b1
           try clear c19
           try clear c21
           try clear c21b0
           try clear c22
           try clear c23
           try clear c23b0
           try clear c24
           try clear c24b0
           try clear c24b1
           try clear p2
           obtain ⟨x16_2, x18_2, rfl, rfl, HA, HK2, ⟨m2, rfl⟩⟩ := hrel
           cases gk with
           | zero => exact absurd HA.out (by simp [bits_Div64.l1])
           | succ k2 =>
            have H := HA.out
            clear HA
            simp only [bits_Div64.l1] at H
            have HC25 := A_ H
            clear H
            go_upto_region 24 with (fail)
            repeat (go_quiet (fail); go_upto_region 24 with (fail))
            go_cut [113] (fun v113 wc => ∃ (kq : Nat) (x113_24 : Bool), v113 = .bool x113_24 ∧ Aside0 (bits_Div64.j4 kq ji10 ji8 ((ji10) / 4294967296) (Go.bits .and .u64 (ji10) 4294967295) (Go.bits .and .u64 (ji17) 4294967295) x15_18 x16_2 (IntKind.u64.wrap ((IntKind.u64.wrap ((IntKind.u64.wrap ((Go.bits .or .u64 (ji12) (ji15)) * 4294967296)) + ((ji17) / 4294967296))) - (IntKind.u64.wrap (x15_18 * ji10)))) x18_2 x113_24 = some (r1, r2)) ∧ Aside0 (kq ≤ k2) ∧ Drawn0 w wc)
            case first =>
             have H := HC25.out
             clear HC25
             by_cases c26 : x18_2 ≥ 4294967296
             ·
              rw [if_pos c26] at H
              have c26b0 : decide (4294967296 ≤ x18_2) = true := decide_eq_true c26
              clear c26
              (first | rw [c26b0] | (simp only [i64_w, i32_w]; rw [c26b0]) | skip)
              have H' := A_ H
              clear H
              go_wp2
              repeat (go_quiet (fail); try go_wp2)
              go_meet
              case rel => exact ⟨_, (true), (by first | rfl | (simp; done) | (simp [*]; done)), H', ⟨by have := HJ18.out; have := HK2.out; first | omega | exact Nat.le_refl _⟩, by repeat (first | exact Drawn0.refl _ | apply Drawn0.step)⟩
             ·
              rw [if_neg c26] at H
              have c26b0 : decide (4294967296 ≤ x18_2) = false := decide_eq_false c26
              clear c26
              (first | rw [c26b0] | (simp only [i64_w, i32_w]; rw [c26b0]) | skip)
              have H' := A_ H
              clear H
              go_wp2
              repeat (go_quiet (fail); try go_wp2)
              go_meet
              case rel => exact ⟨_, (decide ((IntKind.u64.wrap (x18_2 * (Go.bits .and .u64 (ji10) 4294967295))) > (IntKind.u64.wrap ((IntKind.u64.wrap (4294967296 * x16_2)) + (Go.bits .and .u64 (ji17) 4294967295))))), (by first | rfl | (simp; done) | (simp only [← hji10, ← hji17] <;> (first | rfl | simp)) | (simp [*]; done)), H', ⟨by have := HJ18.out; have := HK2.out; first | omega | exact Nat.le_refl _⟩, by repeat (first | exact Drawn0.refl _ | apply Drawn0.step)⟩
            case rest =>
             clear HC25
             try clear c1
             try clear c2
             try clear p2
             try clear c4
             try clear c4b0
             try clear c4b1
             try clear c5
             try clear c5b0
             try clear c6
             try clear c6b0
             try clear c6b1
             try clear c7
             try clear c9
             try clear c9b0
             try clear c9b1
             try clear c11
             try clear c11b0
             try clear c14
             try clear c14b0
             try clear c14b1
             try clear c16
             try clear c16b0
             try clear c18
             try clear c18b0
             try clear c18b1
             try clear c19
             try clear c21
             try clear c21b0
             try clear c22
             try clear c23
             try clear c23b0
             try clear c24
             try clear c24b0
             try clear c24b1
             try clear c26
             try clear c26b0
             try clear p2
             obtain ⟨kq, x113_24, rfl, HA, HJ24, ⟨mc24, rfl⟩⟩ := hcut
             cases kq with
             | zero => exact absurd HA.out (by simp [bits_Div64.j4])
             | succ kj24 =>
              have H := HA.out
              clear HA
              simp only [bits_Div64.j4] at H
              by_cases c27 : x113_24 = true
              ·
               subst c27
               have H1 : (if (IntKind.u64.wrap (x16_2 + ((ji10) / 4294967296))) ≥ 4294967296 then (if 0 ≤ ji8 then (some (IntKind.u64.wrap ((IntKind.u64.wrap (x15_18 * 4294967296)) + (IntKind.u64.wrap (x18_2 - 1))), shr .u64 (IntKind.u64.wrap ((IntKind.u64.wrap ((IntKind.u64.wrap ((IntKind.u64.wrap ((IntKind.u64.wrap ((IntKind.u64.wrap ((Go.bits .or .u64 (ji12) (ji15)) * 4294967296)) + ((ji17) / 4294967296))) - (IntKind.u64.wrap (x15_18 * ji10)))) * 4294967296)) + (Go.bits .and .u64 (ji17) 4294967295))) - (IntKind.u64.wrap ((IntKind.u64.wrap (x18_2 - 1)) * ji10)))) ji8)) else (none)) else (bits_Div64.l1 kj24 ji10 ji8 ((ji10) / 4294967296) (Go.bits .and .u64 (ji10) 4294967295) (Go.bits .and .u64 (ji17) 4294967295) x15_18 (IntKind.u64.wrap (x16_2 + ((ji10) / 4294967296))) (IntKind.u64.wrap ((IntKind.u64.wrap ((IntKind.u64.wrap ((Go.bits .or .u64 (ji12) (ji15)) * 4294967296)) + ((ji17) / 4294967296))) - (IntKind.u64.wrap (x15_18 * ji10)))) (IntKind.u64.wrap (x18_2 - 1)))) = some (r1, r2) := by rw [if_pos rfl] at H; exact H
               clear H
               have H := H1
               clear H1
               by_cases c28 : (IntKind.u64.wrap (x16_2 + ((ji10) / 4294967296))) ≥ 4294967296
               ·
                rw [if_pos c28] at H
                have c28b0 : decide (4294967296 ≤ (IntKind.u64.wrap (x16_2 + ((ji10) / 4294967296)))) = true := decide_eq_true c28
                clear c28
                by_cases c29 : 0 ≤ ji8
                ·
                 rw [if_pos c29] at H
                 have c29b0 := eq_true c29
                 have c29b1 : decide (0 ≤ ji8) = true := decide_eq_true c29
                 clear c29
                 obtain ⟨ji30, hji30⟩ : ∃ j_ : Int, (shr .u64 (IntKind.u64.wrap ((IntKind.u64.wrap ((IntKind.u64.wrap ((IntKind.u64.wrap ((IntKind.u64.wrap ((IntKind.u64.wrap ((Go.bits .or .u64 (ji12) (ji15)) * 4294967296)) + ((ji17) / 4294967296))) - (IntKind.u64.wrap (x15_18 * ji10)))) * 4294967296)) + (Go.bits .and .u64 (ji17) 4294967295))) - (IntKind.u64.wrap ((IntKind.u64.wrap (x18_2 - 1)) * ji10)))) ji8) = j_ := ⟨_, rfl⟩
                 replace H : (some (IntKind.u64.wrap ((IntKind.u64.wrap (x15_18 * 4294967296)) + (IntKind.u64.wrap (x18_2 - 1))), ji30)) = some (r1, r2) := by first | (rw [hji30] at H; exact H) | (simp only [hji30] at H ⊢; exact H)
                 have hji30_ : ((IntKind.u64.wrap ((IntKind.u64.wrap ((IntKind.u64.wrap ((IntKind.u64.wrap ((IntKind.u64.wrap ((IntKind.u64.wrap ((Go.bits .or .u64 (ji12) (ji15)) * 4294967296)) + ((ji17) / 4294967296))) - (IntKind.u64.wrap (x15_18 * ji10)))) * 4294967296)) + (Go.bits .and .u64 (ji17) 4294967295))) - (IntKind.u64.wrap ((IntKind.u64.wrap (x18_2 - 1)) * ji10)))) / 2 ^ min ji8.toNat 64) = ji30 := hji30
                 have hji30z : ji8 ≤ 64 → ((IntKind.u64.wrap ((IntKind.u64.wrap ((IntKind.u64.wrap ((IntKind.u64.wrap ((IntKind.u64.wrap ((IntKind.u64.wrap ((Go.bits .or .u64 (ji12) (ji15)) * 4294967296)) + ((ji17) / 4294967296))) - (IntKind.u64.wrap (x15_18 * ji10)))) * 4294967296)) + (Go.bits .and .u64 (ji17) 4294967295))) - (IntKind.u64.wrap ((IntKind.u64.wrap (x18_2 - 1)) * ji10)))) / 2 ^ ji8.toNat) = ji30 := shr_small hji30
                 simp only [Option.some.injEq, Prod.mk.injEq] at H
                 obtain ⟨rfl, rfl⟩ := H
                 go_wp2
                 repeat (go_quiet (fail); try go_wp2)
                 go_ret2
                 exact ⟨by first | rfl | (simp; done) | (simp only [← hji8, ← hji10, ← hji12, ← hji13, ← hji15, ← hji17, ← hji30] <;> (first | rfl | simp)) | (simp [*]; done), by repeat (first | exact Drawn0.refl _ | apply Drawn0.step)⟩
                ·
                 rw [if_neg c29] at H
                 exact absurd H (by simp)
               ·
                rw [if_neg c28] at H
                have c28b0 : decide (4294967296 ≤ (IntKind.u64.wrap (x16_2 + ((ji10) / 4294967296)))) = false := decide_eq_false c28
                clear c28
                have H' := A_ H
                clear H
                go_wp2
                repeat (go_quiet (fail); try go_wp2)
                go_roundg kj24
                case measure => have := HJ18.out; have := HK2.out; have := HJ24.out; omega
                case rel => exact ⟨(IntKind.u64.wrap (x16_2 + ((ji10) / 4294967296))), (IntKind.u64.wrap (x18_2 - 1)), (by first | rfl | (simp; done) | (simp only [← hji10] <;> (first | rfl | simp)) | (simp [*]; done)), (by first | rfl | (simp; done) | (simp [*]; done)), H', ⟨by have := HJ18.out; have := HK2.out; have := HJ24.out; omega⟩, by repeat (first | exact Drawn0.refl _ | apply Drawn0.step)⟩
              ·
               replace c27 := Bool.eq_false_iff.mpr c27
               subst c27
               have H1 : (if 0 ≤ ji8 then (some (IntKind.u64.wrap ((IntKind.u64.wrap (x15_18 * 4294967296)) + x18_2), shr .u64 (IntKind.u64.wrap ((IntKind.u64.wrap ((IntKind.u64.wrap ((IntKind.u64.wrap ((IntKind.u64.wrap ((IntKind.u64.wrap ((Go.bits .or .u64 (ji12) (ji15)) * 4294967296)) + ((ji17) / 4294967296))) - (IntKind.u64.wrap (x15_18 * ji10)))) * 4294967296)) + (Go.bits .and .u64 (ji17) 4294967295))) - (IntKind.u64.wrap (x18_2 * ji10)))) ji8)) else (none)) = some (r1, r2) := by rw [if_neg (show ¬ (false = true) by decide)] at H; exact H
               clear H
               have H := H1
               clear H1
               by_cases c31 : 0 ≤ ji8
               ·
                rw [if_pos c31] at H
                have c31b0 := eq_true c31
                have c31b1 : decide (0 ≤ ji8) = true := decide_eq_true c31
                clear c31
                obtain ⟨ji32, hji32⟩ : ∃ j_ : Int, (shr .u64 (IntKind.u64.wrap ((IntKind.u64.wrap ((IntKind.u64.wrap ((IntKind.u64.wrap ((IntKind.u64.wrap ((IntKind.u64.wrap ((Go.bits .or .u64 (ji12) (ji15)) * 4294967296)) + ((ji17) / 4294967296))) - (IntKind.u64.wrap (x15_18 * ji10)))) * 4294967296)) + (Go.bits .and .u64 (ji17) 4294967295))) - (IntKind.u64.wrap (x18_2 * ji10)))) ji8) = j_ := ⟨_, rfl⟩
                replace H : (some (IntKind.u64.wrap ((IntKind.u64.wrap (x15_18 * 4294967296)) + x18_2), ji32)) = some (r1, r2) := by first | (rw [hji32] at H; exact H) | (simp only [hji32] at H ⊢; exact H)
                have hji32_ : ((IntKind.u64.wrap ((IntKind.u64.wrap ((IntKind.u64.wrap ((IntKind.u64.wrap ((IntKind.u64.wrap ((IntKind.u64.wrap ((Go.bits .or .u64 (ji12) (ji15)) * 4294967296)) + ((ji17) / 4294967296))) - (IntKind.u64.wrap (x15_18 * ji10)))) * 4294967296)) + (Go.bits .and .u64 (ji17) 4294967295))) - (IntKind.u64.wrap (x18_2 * ji10)))) / 2 ^ min ji8.toNat 64) = ji32 := hji32
                have hji32z : ji8 ≤ 64 → ((IntKind.u64.wrap ((IntKind.u64.wrap ((IntKind.u64.wrap ((IntKind.u64.wrap ((IntKind.u64.wrap ((IntKind.u64.wrap ((Go.bits .or .u64 (ji12) (ji15)) * 4294967296)) + ((ji17) / 4294967296))) - (IntKind.u64.wrap (x15_18 * ji10)))) * 4294967296)) + (Go.bits .and .u64 (ji17) 4294967295))) - (IntKind.u64.wrap (x18_2 * ji10)))) / 2 ^ ji8.toNat) = ji32 := shr_small hji32
                simp only [Option.some.injEq, Prod.mk.injEq] at H
                obtain ⟨rfl, rfl⟩ := H
                go_wp2
                repeat (go_quiet (fail); try go_wp2)
                go_ret2
                exact ⟨by first | rfl | (simp; done) | (simp only [← hji8, ← hji10, ← hji12, ← hji13, ← hji15, ← hji17, ← hji32] <;> (first | rfl | simp)) | (simp [*]; done), by repeat (first | exact Drawn0.refl _ | apply Drawn0.step)⟩
               ·
                rw [if_neg c31] at H
                exact absurd H (by simp)
     ·
      rw [if_neg c14] at H
      exact absurd H (by simp)
    ·
     rw [if_neg c9] at H
     exact absurd H (by simp)
end Go.Proofs.Ytfbkgfffalppmaa.Wf
end
section
namespace Go.Proofs.Ytfbkgfffalppmaa.Wf
open Go.RowKit Go.Proofs.YtfbkgfffalppmaaW.PrintWords Go.Proofs.YtfbkgfffalppmaaW.PrintLast Go.Proofs.YtfbkgfffalppmaaW.PrintMore
attribute [local go_sem] max2_int min2_int max_two min_two max_three min_three max_four min_four   -- for this text's walks alone
set_option linter.unusedVariables false
set_option linter.unusedSimpArgs false
attribute [local go_sem] run_add64_any
def fixed_away.f (a0_0 : Int) (a0_1 : Int) : Option (Int × Int × Bool) := if a0_0 < 0 then ((fixed_turned.f a0_0 a0_1).bind fun bt132 => (some (IntKind.u64.wrap (bt132.1), bt132.2, true))) else (some (IntKind.u64.wrap (a0_0), a0_1, false))
set_option maxHeartbeats 8000000 in
set_option maxRecDepth 100000 in
theorem fixed_away.calls (a0_0 : Int) (a0_1 : Int) (r1 : Int) (r2 : Int) (r3 : Bool) (w : World) (h : fixed_away.f a0_0 a0_1 = some (r1, r2, r3)) :
  Calls Try.prog 75 #[.agg #[.int .i64 a0_0, .int .u64 a0_1]] w fun e w' => e = .returned (.tuple #[.int .u64 r1, .int .u64 r2, .bool r3]) ∧ Below w.heap.size w w' := by
 have hu66 := Try.underlying66
 have HB := A_ (Below.refl w.heap.size w)
 have H : (if a0_0 < 0 then ((fixed_turned.f a0_0 a0_1).bind fun bt132 => (some (IntKind.u64.wrap (bt132.1), bt132.2, true))) else (some (IntKind.u64.wrap (a0_0), a0_1, false))) = some (r1, r2, r3) := h
 clear h
 by_cases c2 : a0_0 < 0
 ·
  rw [if_pos c2] at H
  have c2b0 : decide (a0_0 < 0) = true := decide_eq_true c2
  clear c2
  replace H := os_ H
  obtain ⟨⟨t132, t133⟩, A30, H⟩ := H
  replace H : (some (IntKind.u64.wrap (t132), t133, true)) = some (r1, r2, r3) := H
  have A3 := A_ A30
  clear A30
  simp only [Option.some.injEq, Prod.mk.injEq] at H
  obtain ⟨rfl, rfl, rfl⟩ := H
  go_enter Try.func75, Try.ntmps75
  go_wp2_with (first | ((with_reducible refine gate_dst (N := 1) rfl ?_); refine box_event ?hg (N := 1) ?hd (cs := #[.int .i64 a0_0, .int .u64 a0_1]) (t := 66) ?hr ?_; (case hd => rfl); (case hg => rfl); (case hr => first | (go_simp; done) | (go_simp; rfl)); intro gb301 hg w4 hbox hb; have n0_ := A_ (bs_ bw_ hb); have n1_ := A_ (hbox); have n2_ := A_ ((by rw [hg]; exact (bz_ bw_) : w.heap.size ≤ gb301)); have n3_ := A_ ((by rw [hg]; exact (bz_ bw_) : w.heap.size ≤ gb301)); clear HB; have HB := n0_; have BK301 := n1_; have GW301 := n2_; have GE301 := n3_; clear n0_ n1_ n2_ n3_; clear hb hbox hg; have hcz5_0 : w4.cell? ⟨gb301, 0, none⟩ = some (.int .i64 a0_0) := (bc_ BK301.out 0).trans rfl; have hcz5_1 : w4.cell? ⟨gb301, 1, none⟩ = some (.int .u64 a0_1) := (bc_ BK301.out 1).trans rfl; have hfz5_0 := bf_ BK301.out 0; have hfz5_1 := bf_ BK301.out 1) | (go_at_call 82; (with_reducible refine (fixed_turned.calls a0_0 a0_1 t132 t133 _ A3.out).mono ?_); rintro e w6 ⟨rfl, hb⟩; have n0_ := A_ (kb_ BK301 hb); have n1_ := A_ (bs_ bw_ hb); clear BK301; clear HB; have BK301 := n0_; have HB := n1_; clear n0_ n1_; (try clear hb); (try clear hb2); (try clear hk); (try clear hi); have hcz7_0 : w6.cell? ⟨gb301, 0, none⟩ = some (.int .i64 a0_0) := (bc_ BK301.out 0).trans rfl; have hcz7_1 : w6.cell? ⟨gb301, 1, none⟩ = some (.int .u64 a0_1) := (bc_ BK301.out 1).trans rfl; have hfz7_0 := bf_ BK301.out 0; have hfz7_1 := bf_ BK301.out 1))
  repeat (go_quiet (first | ((with_reducible refine gate_dst (N := 1) rfl ?_); refine box_event ?hg (N := 1) ?hd (cs := #[.int .i64 a0_0, .int .u64 a0_1]) (t := 66) ?hr ?_; (case hd => rfl); (case hg => rfl); (case hr => first | (go_simp; done) | (go_simp; rfl)); intro gb301 hg w4 hbox hb; have n0_ := A_ (bs_ bw_ hb); have n1_ := A_ (hbox); have n2_ := A_ ((by rw [hg]; exact (bz_ bw_) : w.heap.size ≤ gb301)); have n3_ := A_ ((by rw [hg]; exact (bz_ bw_) : w.heap.size ≤ gb301)); clear HB; have HB := n0_; have BK301 := n1_; have GW301 := n2_; have GE301 := n3_; clear n0_ n1_ n2_ n3_; clear hb hbox hg; have hcz5_0 : w4.cell? ⟨gb301, 0, none⟩ = some (.int .i64 a0_0) := (bc_ BK301.out 0).trans rfl; have hcz5_1 : w4.cell? ⟨gb301, 1, none⟩ = some (.int .u64 a0_1) := (bc_ BK301.out 1).trans rfl; have hfz5_0 := bf_ BK301.out 0; have hfz5_1 := bf_ BK301.out 1) | (go_at_call 82; (with_reducible refine (fixed_turned.calls a0_0 a0_1 t132 t133 _ A3.out).mono ?_); rintro e w6 ⟨rfl, hb⟩; have n0_ := A_ (kb_ BK301 hb); have n1_ := A_ (bs_ bw_ hb); clear BK301; clear HB; have BK301 := n0_; have HB := n1_; clear n0_ n1_; (try clear hb); (try clear hb2); (try clear hk); (try clear hi); have hcz7_0 : w6.cell? ⟨gb301, 0, none⟩ = some (.int .i64 a0_0) := (bc_ BK301.out 0).trans rfl; have hcz7_1 : w6.cell? ⟨gb301, 1, none⟩ = some (.int .u64 a0_1) := (bc_ BK301.out 1).trans rfl; have hfz7_0 := bf_ BK301.out 0; have hfz7_1 := bf_ BK301.out 1)); try go_wp2_with (first | ((with_reducible refine gate_dst (N := 1) rfl ?_); refine box_event ?hg (N := 1) ?hd (cs := #[.int .i64 a0_0, .int .u64 a0_1]) (t := 66) ?hr ?_; (case hd => rfl); (case hg => rfl); (case hr => first | (go_simp; done) | (go_simp; rfl)); intro gb301 hg w4 hbox hb; have n0_ := A_ (bs_ bw_ hb); have n1_ := A_ (hbox); have n2_ := A_ ((by rw [hg]; exact (bz_ bw_) : w.heap.size ≤ gb301)); have n3_ := A_ ((by rw [hg]; exact (bz_ bw_) : w.heap.size ≤ gb301)); clear HB; have HB := n0_; have BK301 := n1_; have GW301 := n2_; have GE301 := n3_; clear n0_ n1_ n2_ n3_; clear hb hbox hg; have hcz5_0 : w4.cell? ⟨gb301, 0, none⟩ = some (.int .i64 a0_0) := (bc_ BK301.out 0).trans rfl; have hcz5_1 : w4.cell? ⟨gb301, 1, none⟩ = some (.int .u64 a0_1) := (bc_ BK301.out 1).trans rfl; have hfz5_0 := bf_ BK301.out 0; have hfz5_1 := bf_ BK301.out 1) | (go_at_call 82; (with_reducible refine (fixed_turned.calls a0_0 a0_1 t132 t133 _ A3.out).mono ?_); rintro e w6 ⟨rfl, hb⟩; have n0_ := A_ (kb_ BK301 hb); have n1_ := A_ (bs_ bw_ hb); clear BK301; clear HB; have BK301 := n0_; have HB := n1_; clear n0_ n1_; (try clear hb); (try clear hb2); (try clear hk); (try clear hi); have hcz7_0 : w6.cell? ⟨gb301, 0, none⟩ = some (.int .i64 a0_0) := (bc_ BK301.out 0).trans rfl; have hcz7_1 : w6.cell? ⟨gb301, 1, none⟩ = some (.int .u64 a0_1) := (bc_ BK301.out 1).trans rfl; have hfz7_0 := bf_ BK301.out 0; have hfz7_1 := bf_ BK301.out 1)))
  go_ret3
  exact ⟨by first | rfl | (simp [errW_none, errW_some] <;> rfl) | (simp [*, errW_none, errW_some] <;> rfl), bw_⟩
 ·
  rw [if_neg c2] at H
  have c2b0 : decide (a0_0 < 0) = false := decide_eq_false c2
  clear c2
  simp only [Option.some.injEq, Prod.mk.injEq] at H
  obtain ⟨rfl, rfl, rfl⟩ := H
  go_enter Try.func75, Try.ntmps75
  go_wp2_with (first | ((with_reducible refine gate_dst (N := 1) rfl ?_); refine box_event ?hg (N := 1) ?hd (cs := #[.int .i64 a0_0, .int .u64 a0_1]) (t := 66) ?hr ?_; (case hd => rfl); (case hg => rfl); (case hr => first | (go_simp; done) | (go_simp; rfl)); intro gb301 hg w8 hbox hb; have n0_ := A_ (bs_ bw_ hb); have n1_ := A_ (hbox); have n2_ := A_ ((by rw [hg]; exact (bz_ bw_) : w.heap.size ≤ gb301)); have n3_ := A_ ((by rw [hg]; exact (bz_ bw_) : w.heap.size ≤ gb301)); clear HB; have HB := n0_; have BK301 := n1_; have GW301 := n2_; have GE301 := n3_; clear n0_ n1_ n2_ n3_; clear hb hbox hg; have hcz9_0 : w8.cell? ⟨gb301, 0, none⟩ = some (.int .i64 a0_0) := (bc_ BK301.out 0).trans rfl; have hcz9_1 : w8.cell? ⟨gb301, 1, none⟩ = some (.int .u64 a0_1) := (bc_ BK301.out 1).trans rfl; have hfz9_0 := bf_ BK301.out 0; have hfz9_1 := bf_ BK301.out 1))
  repeat (go_quiet (first | ((with_reducible refine gate_dst (N := 1) rfl ?_); refine box_event ?hg (N := 1) ?hd (cs := #[.int .i64 a0_0, .int .u64 a0_1]) (t := 66) ?hr ?_; (case hd => rfl); (case hg => rfl); (case hr => first | (go_simp; done) | (go_simp; rfl)); intro gb301 hg w8 hbox hb; have n0_ := A_ (bs_ bw_ hb); have n1_ := A_ (hbox); have n2_ := A_ ((by rw [hg]; exact (bz_ bw_) : w.heap.size ≤ gb301)); have n3_ := A_ ((by rw [hg]; exact (bz_ bw_) : w.heap.size ≤ gb301)); clear HB; have HB := n0_; have BK301 := n1_; have GW301 := n2_; have GE301 := n3_; clear n0_ n1_ n2_ n3_; clear hb hbox hg; have hcz9_0 : w8.cell? ⟨gb301, 0, none⟩ = some (.int .i64 a0_0) := (bc_ BK301.out 0).trans rfl; have hcz9_1 : w8.cell? ⟨gb301, 1, none⟩ = some (.int .u64 a0_1) := (bc_ BK301.out 1).trans rfl; have hfz9_0 := bf_ BK301.out 0; have hfz9_1 := bf_ BK301.out 1)); try go_wp2_with (first | ((with_reducible refine gate_dst (N := 1) rfl ?_); refine box_event ?hg (N := 1) ?hd (cs := #[.int .i64 a0_0, .int .u64 a0_1]) (t := 66) ?hr ?_; (case hd => rfl); (case hg => rfl); (case hr => first | (go_simp; done) | (go_simp; rfl)); intro gb301 hg w8 hbox hb; have n0_ := A_ (bs_ bw_ hb); have n1_ := A_ (hbox); have n2_ := A_ ((by rw [hg]; exact (bz_ bw_) : w.heap.size ≤ gb301)); have n3_ := A_ ((by rw [hg]; exact (bz_ bw_) : w.heap.size ≤ gb301)); clear HB; have HB := n0_; have BK301 := n1_; have GW301 := n2_; have GE301 := n3_; clear n0_ n1_ n2_ n3_; clear hb hbox hg; have hcz9_0 : w8.cell? ⟨gb301, 0, none⟩ = some (.int .i64 a0_0) := (bc_ BK301.out 0).trans rfl; have hcz9_1 : w8.cell? ⟨gb301, 1, none⟩ = some (.int .u64 a0_1) := (bc_ BK301.out 1).trans rfl; have hfz9_0 := bf_ BK301.out 0; have hfz9_1 := bf_ BK301.out 1)))
  go_ret3
  exact ⟨by first | rfl | (simp [errW_none, errW_some] <;> rfl) | (simp [*, errW_none, errW_some] <;> rfl), bw_⟩
end Go.Proofs.Ytfbkgfffalppmaa.Wf
end
section
namespace Go.Proofs.Ytfbkgfffalppmaa.Wf
open Go.RowKit Go.Proofs.YtfbkgfffalppmaaW.PrintWords Go.Proofs.YtfbkgfffalppmaaW.PrintLast Go.Proofs.YtfbkgfffalppmaaW.PrintMore
attribute [local go_sem] max2_int min2_int max_two min_two max_three min_three max_four min_four   -- for this text's walks alone
set_option linter.unusedVariables false
set_option linter.unusedSimpArgs false
attribute [local go_sem] run_add64_any
def fixed_up.f (a0 : Int) (a1 : Bool) (a2 : Bool) (a3 : Int) (a4 : Int) : Option (Bool) := if a3 = 0 then (some false) else (if a0 = 0 then (some a1) else (if a0 = 1 then (some (!a1)) else (if a0 = 2 then (some false) else (if a3 > (IntKind.u64.wrap (a4 - a3)) then (some true) else (if a3 = (IntKind.u64.wrap (a4 - a3)) then (some a2) else (some false))))))
set_option maxHeartbeats 8000000 in
set_option maxRecDepth 100000 in
theorem fixed_up.calls (a0 : Int) (a1 : Bool) (a2 : Bool) (a3 : Int) (a4 : Int) (r : Bool) (w : World) (h : fixed_up.f a0 a1 a2 a3 a4 = some r) :
  Calls Try.prog 78 #[.int .i64 a0, .bool a1, .bool a2, .int .u64 a3, .int .u64 a4] w fun e w' => e = .returned (.bool r) ∧ Drawn0 w w' := by
 have H : (if a3 = 0 then (some false) else (if a0 = 0 then (some a1) else (if a0 = 1 then (some (!a1)) else (if a0 = 2 then (some false) else (if a3 > (IntKind.u64.wrap (a4 - a3)) then (some true) else (if a3 = (IntKind.u64.wrap (a4 - a3)) then (some a2) else (some false))))))) = some r := h
 clear h
 by_cases c6 : a3 = 0
 ·
  rw [if_pos c6] at H
  have c6b0 : (a3 == 0) = true := q1_ c6
  have c6b1 : (a3 != 0) = false := q3_ c6
  clear c6
  obtain rfl := Option.some.inj H
  go_enter Try.func78, Try.ntmps78
  go_wp2
  go_ret
  exact ⟨by first | rfl | (simp; done) | (simp [*]; done), by repeat (first | exact Drawn0.refl _ | apply Drawn0.step)⟩
 ·
  rw [if_neg c6] at H
  have c6b0 : (a3 == 0) = false := q4_ c6
  have c6b1 : (a3 != 0) = true := q2_ c6
  by_cases c7 : a0 = 0
  ·
   rw [if_pos c7] at H
   have c7b0 : (a0 == 0) = true := q1_ c7
   have c7b1 : (a0 != 0) = false := q3_ c7
   clear c7
   obtain rfl := Option.some.inj H
   go_enter Try.func78, Try.ntmps78
   go_wp2
   go_ret
   exact ⟨by first | rfl | (simp; done) | (simp [*]; done), by repeat (first | exact Drawn0.refl _ | apply Drawn0.step)⟩
  ·
   rw [if_neg c7] at H
   have c7b0 : (a0 == 0) = false := q4_ c7
   have c7b1 : (a0 != 0) = true := q2_ c7
   by_cases c8 : a0 = 1
   ·
    rw [if_pos c8] at H
    have c8b0 : (a0 == 1) = true := q1_ c8
    have c8b1 : (a0 != 1) = false := q3_ c8
    clear c8
    obtain rfl := Option.some.inj H
    go_enter Try.func78, Try.ntmps78
    go_wp2
    go_ret
    exact ⟨by first | rfl | (simp; done) | (simp [*]; done), by repeat (first | exact Drawn0.refl _ | apply Drawn0.step)⟩
   ·
    rw [if_neg c8] at H
    have c8b0 : (a0 == 1) = false := q4_ c8
    have c8b1 : (a0 != 1) = true := q2_ c8
    by_cases c9 : a0 = 2
    ·
     rw [if_pos c9] at H
     have c9b0 : (a0 == 2) = true := q1_ c9
     have c9b1 : (a0 != 2) = false := q3_ c9
     clear c9
     obtain rfl := Option.some.inj H
     go_enter Try.func78, Try.ntmps78
     go_wp2
     go_ret
     exact ⟨by first | rfl | (simp; done) | (simp [*]; done), by repeat (first | exact Drawn0.refl _ | apply Drawn0.step)⟩
    ·
     rw [if_neg c9] at H
     have c9b0 : (a0 == 2) = false := q4_ c9
     have c9b1 : (a0 != 2) = true := q2_ c9
     by_cases c10 : a3 > (IntKind.u64.wrap (a4 - a3))
     ·
      rw [if_pos c10] at H
      have c10b0 : decide ((IntKind.u64.wrap (a4 - a3)) < a3) = true := decide_eq_true c10
      clear c10
      obtain rfl := Option.some.inj H
      go_enter Try.func78, Try.ntmps78
      go_wp2
      go_ret
      exact ⟨by first | rfl | (simp; done) | (simp [*]; done), by repeat (first | exact Drawn0.refl _ | apply Drawn0.step)⟩
     ·
      rw [if_neg c10] at H
      have c10b0 : decide ((IntKind.u64.wrap (a4 - a3)) < a3) = false := decide_eq_false c10
      clear c10
      by_cases c11 : a3 = (IntKind.u64.wrap (a4 - a3))
      ·
       rw [if_pos c11] at H
       have c11b0 : (a3 == (IntKind.u64.wrap (a4 - a3))) = true := q1_ c11
       have c11b1 : (a3 != (IntKind.u64.wrap (a4 - a3))) = false := q3_ c11
       clear c11
       obtain rfl := Option.some.inj H
       go_enter Try.func78, Try.ntmps78
       go_wp2
       go_ret
       exact ⟨by first | rfl | (simp; done) | (simp [*]; done), by repeat (first | exact Drawn0.refl _ | apply Drawn0.step)⟩
      ·
       rw [if_neg c11] at H
       have c11b0 : (a3 == (IntKind.u64.wrap (a4 - a3))) = false := q4_ c11
       have c11b1 : (a3 != (IntKind.u64.wrap (a4 - a3))) = true := q2_ c11
       obtain rfl := Option.some.inj H
       go_enter Try.func78, Try.ntmps78
       go_wp2
       go_ret
       exact ⟨by first | rfl | (simp; done) | (simp [*]; done), by repeat (first | exact Drawn0.refl _ | apply Drawn0.step)⟩
end Go.Proofs.Ytfbkgfffalppmaa.Wf
end
section
namespace Go.Proofs.Ytfbkgfffalppmaa.Wf
open Go.RowKit Go.Proofs.YtfbkgfffalppmaaW.PrintWords Go.Proofs.YtfbkgfffalppmaaW.PrintLast Go.Proofs.YtfbkgfffalppmaaW.PrintMore
attribute [local go_sem] max2_int min2_int max_two min_two max_three min_three max_four min_four   -- for this text's walks alone
set_option linter.unusedVariables false
set_option linter.unusedSimpArgs false
attribute [local go_sem] run_add64_any
def fixed_signed.j0 : Nat → Int → Bool → Bool → Int → Int → Option (Int × Int × Int)
 | 0, _, _, _, _, _ => none
 | k + 1, x0, x2, x13, x309000, x309001 => if x13 = true then (some (x309000, x309001, 0)) else (if x0 ≥ 9223372036854775808 then (some (0, 0, 4)) else (if x2 = true then ((fixed_turned.f x309000 x309001).bind fun bt136 => (some (bt136.1, bt136.2, 0))) else (some (x309000, x309001, 0))))
def fixed_signed.f (k : Nat) (a0 : Int) (a1 : Int) (a2 : Bool) : Option (Int × Int × Int) := if a2 = true then (if a0 = 9223372036854775808 then (fixed_signed.j0 k a0 true (a1 == 0) (wrap64 (a0)) a1) else (fixed_signed.j0 k a0 true false (wrap64 (a0)) a1)) else (fixed_signed.j0 k a0 false false (wrap64 (a0)) a1)
theorem fixed_signed.mono_l : ∀ k, (∀ y0 y1 y2 y3 y4, LeO (fixed_signed.j0 k y0 y1 y2 y3 y4) (fixed_signed.j0 (k + 1) y0 y1 y2 y3 y4))
 | 0 => fun _ _ _ _ _ r h => by simp [fixed_signed.j0] at h
 | k + 1 => by
  have ih0 := fixed_signed.mono_l k
  ·
   intro y0 y1 y2 y3 y4
   unfold fixed_signed.j0
   repeat' first
   | (with_reducible exact ih0 _ _ _ _ _)
   | (with_reducible exact LeO.refl _)
   | (with_reducible exact LeO.none _)
   | (with_reducible refine LeO.ite ?_ ?_)
   | (with_reducible refine LeO.bind ?_ (fun _ => ?_))
   | exact ih0 _ _ _ _ _
   | exact LeO.none _
   | refine LeO.ite ?_ ?_
   | refine LeO.bind ?_ (fun _ => ?_)
theorem fixed_signed.mono : ∀ a0 a1 a2 k, LeO (fixed_signed.f k a0 a1 a2) (fixed_signed.f (k + 1) a0 a1 a2) := by
 intro a0 a1 a2 k
 have ih0 := fixed_signed.mono_l k
 unfold fixed_signed.f
 repeat' first
   | (with_reducible exact ih0 _ _ _ _ _)
   | (with_reducible exact LeO.refl _)
   | (with_reducible exact LeO.none _)
   | (with_reducible refine LeO.ite ?_ ?_)
   | (with_reducible refine LeO.bind ?_ (fun _ => ?_))
   | exact ih0 _ _ _ _ _
   | exact LeO.none _
   | refine LeO.ite ?_ ?_
   | refine LeO.bind ?_ (fun _ => ?_)
set_option maxHeartbeats 8000000 in
set_option maxRecDepth 100000 in
theorem fixed_signed.calls (k : Nat) (a0 : Int) (a1 : Int) (a2 : Bool) (r1 : Int) (r2 : Int) (r3 : Int) (w : World) (h : fixed_signed.f k a0 a1 a2 = some (r1, r2, r3)) :
  Calls Try.prog 80 #[.int .u64 a0, .int .u64 a1, .bool a2] w fun e w' => e = .returned (.tuple #[.agg #[.int .i64 r1, .int .u64 r2], .int .i64 r3]) ∧ Below w.heap.size w w' := by
 have hu66 := Try.underlying66
 have HB := A_ (Below.refl w.heap.size w)
 have H : (if a2 = true then (if a0 = 9223372036854775808 then (fixed_signed.j0 k a0 true (a1 == 0) (wrap64 (a0)) a1) else (fixed_signed.j0 k a0 true false (wrap64 (a0)) a1)) else (fixed_signed.j0 k a0 false false (wrap64 (a0)) a1)) = some (r1, r2, r3) := h
 clear h
 have HC4 := A_ H
 clear H
 go_enter Try.func80, Try.ntmps80
 go_upto_region 2 with (first | ((with_reducible refine gate_dst (N := 6) rfl ?_); refine box_event ?hg (N := 6) ?hd (cs := #[.int .i64 0, .int .u64 0]) (t := 66) ?hr ?_; (case hd => rfl); (case hg => rfl); (case hr => first | (go_simp; done) | (go_simp; rfl)); intro gb306 hg w5 hbox hb; have n0_ := A_ (bs_ bw_ hb); have n1_ := A_ (hbox); have n2_ := A_ ((by rw [hg]; exact (bz_ bw_) : w.heap.size ≤ gb306)); have n3_ := A_ ((by rw [hg]; exact (bz_ bw_) : w.heap.size ≤ gb306)); clear HB; have HB := n0_; have BK306 := n1_; have GW306 := n2_; have GE306 := n3_; clear n0_ n1_ n2_ n3_; clear hb hbox hg) | ((with_reducible refine gate_dst (N := 8) rfl ?_); refine box_event ?hg (N := 8) ?hd (cs := #[.int .i64 0, .int .u64 0]) (t := 66) ?hr ?_; (case hd => rfl); (case hg => rfl); (case hr => first | (go_simp; done) | (go_simp; rfl)); intro gb308 hg w6 hbox hb; have n0_ := A_ (kb_ BK306 hb); have n1_ := A_ (bs_ bw_ hb); have n2_ := A_ (hbox); have n3_ := A_ ((by rw [hg]; exact (bz_ bw_) : w.heap.size ≤ gb308)); have n4_ := A_ ((by rw [hg]; exact (bz_ bw_) : w.heap.size ≤ gb308)); have n5_ := A_ ((by rw [hg]; exact nl_ (lt_ BK306) : gb306 ≠ gb308)); have n6_ := A_ ((by rw [hg]; exact ng_ (lt_ BK306) : gb308 ≠ gb306)); clear BK306; clear HB; have BK306 := n0_; have HB := n1_; have BK308 := n2_; have GW308 := n3_; have GE308 := n4_; have NB306_308 := n5_; have NB308_306 := n6_; clear n0_ n1_ n2_ n3_ n4_ n5_ n6_; clear hb hbox hg; have hnb7 := NB308_306.out; have hnc7 := NB306_308.out; have hcz8_0 : w6.cell? ⟨gb308, 0, none⟩ = some (.int .i64 0) := (bc_ BK308.out 0).trans rfl; have hcz8_1 : w6.cell? ⟨gb308, 1, none⟩ = some (.int .u64 0) := (bc_ BK308.out 1).trans rfl; have hfz8_0 := bf_ BK308.out 0; have hfz8_1 := bf_ BK308.out 1))
 (try simp only [Act.put, sA_, sZ_, sS_])
 go_cut [2, 13] (fun v2 v13 wc => ∃ (kq : Nat) (x2_3 : Bool) (x13_3 : Bool), v2 = .bool x2_3 ∧ v13 = .bool x13_3 ∧ Aside0 (fixed_signed.j0 kq a0 x2_3 x13_3 (wrap64 (a0)) a1 = some (r1, r2, r3)) ∧ Aside0 (kq ≤ k) ∧ Aside0 (wc.heap[gb306]? = some (.cells #[.int .i64 0, .int .u64 0] 66 (0, 0))) ∧ Aside0 (wc.heap[gb308]? = some (.cells #[.int .i64 (wrap64 (a0)), .int .u64 a1] 66 (0, 0))) ∧ Aside0 (Below w.heap.size w wc))
 case first =>
  have H := HC4.out
  clear HC4
  by_cases c9 : a2 = true
  ·
   subst c9
   have H1 : (if a0 = 9223372036854775808 then (fixed_signed.j0 k a0 true (a1 == 0) (wrap64 (a0)) a1) else (fixed_signed.j0 k a0 true false (wrap64 (a0)) a1)) = some (r1, r2, r3) := by rw [if_pos rfl] at H; exact H
   clear H
   have H := H1
   clear H1
   by_cases c10 : a0 = 9223372036854775808
   ·
    rw [if_pos c10] at H
    have c10b0 : (a0 == 9223372036854775808) = true := q1_ c10
    have c10b1 : (a0 != 9223372036854775808) = false := q3_ c10
    clear c10
    (first | rw [c10b0] | (simp only [i64_w, i32_w]; rw [c10b0]) | skip)
    have H' := A_ H
    clear H
    go_wp2
    go_meet
    case rel => exact ⟨_, (true), ((a1 == 0)), (by first | rfl | (simp; done) | (simp [*]; done)), (by first | rfl | (simp; done) | (simp [*]; done)), H', ⟨by first | omega | exact Nat.le_refl _⟩, ⟨bk_⟩, ⟨by (with_reducible repeat (first | refine bn_ ?_ _ | refine bd_ ?_ | refine ba_ ?_ _)); refine bp_ (cs := #[.int .i64 (wrap64 (a0)), .int .u64 0]) ?_ 1 _ rfl; (with_reducible repeat (first | refine bn_ ?_ _ | refine bd_ ?_ | refine ba_ ?_ _)); refine bp_ (cs := #[.int .i64 0, .int .u64 0]) ?_ 0 _ rfl; (with_reducible repeat (first | refine bn_ ?_ _ | refine bd_ ?_ | refine ba_ ?_ _)); exact BK308.out⟩, ⟨bw_⟩⟩
   ·
    rw [if_neg c10] at H
    have c10b0 : (a0 == 9223372036854775808) = false := q4_ c10
    have c10b1 : (a0 != 9223372036854775808) = true := q2_ c10
    (first | rw [c10b0] | (simp only [i64_w, i32_w]; rw [c10b0]) | skip)
    have H' := A_ H
    clear H
    go_wp2
    go_meet
    case rel => exact ⟨_, (true), (false), (by first | rfl | (simp; done) | (simp [*]; done)), (by first | rfl | (simp; done) | (simp [*]; done)), H', ⟨by first | omega | exact Nat.le_refl _⟩, ⟨bk_⟩, ⟨by (with_reducible repeat (first | refine bn_ ?_ _ | refine bd_ ?_ | refine ba_ ?_ _)); refine bp_ (cs := #[.int .i64 (wrap64 (a0)), .int .u64 0]) ?_ 1 _ rfl; (with_reducible repeat (first | refine bn_ ?_ _ | refine bd_ ?_ | refine ba_ ?_ _)); refine bp_ (cs := #[.int .i64 0, .int .u64 0]) ?_ 0 _ rfl; (with_reducible repeat (first | refine bn_ ?_ _ | refine bd_ ?_ | refine ba_ ?_ _)); exact BK308.out⟩, ⟨bw_⟩⟩
  ·
   replace c9 := Bool.eq_false_iff.mpr c9
   subst c9
   have H1 : (fixed_signed.j0 k a0 false false (wrap64 (a0)) a1) = some (r1, r2, r3) := by rw [if_neg (show ¬ (false = true) by decide)] at H; exact H
   clear H
   have H := H1
   clear H1
   have H' := A_ H
   clear H
   go_wp2
   go_meet
   case rel => exact ⟨_, (false), (false), (by first | rfl | (simp; done) | (simp [*]; done)), (by first | rfl | (simp; done) | (simp [*]; done)), H', ⟨by first | omega | exact Nat.le_refl _⟩, ⟨bk_⟩, ⟨by (with_reducible repeat (first | refine bn_ ?_ _ | refine bd_ ?_ | refine ba_ ?_ _)); refine bp_ (cs := #[.int .i64 (wrap64 (a0)), .int .u64 0]) ?_ 1 _ rfl; (with_reducible repeat (first | refine bn_ ?_ _ | refine bd_ ?_ | refine ba_ ?_ _)); refine bp_ (cs := #[.int .i64 0, .int .u64 0]) ?_ 0 _ rfl; (with_reducible repeat (first | refine bn_ ?_ _ | refine bd_ ?_ | refine ba_ ?_ _)); exact BK308.out⟩, ⟨bw_⟩⟩
 case rest =>
  clear HC4
  try clear c1
  try clear p2
  try clear p6
  try clear c7
  try clear c8
  try clear c9
  try clear c10
  try clear c10b0
  try clear c10b1
  try clear hcz8_0
  try clear hcz8_1
  try clear hfz8_0
  try clear hfz8_1
  obtain ⟨kq, x2_3, x13_3, rfl, rfl, HA, HJ3, BK306, BK308, HB⟩ := hcut
  cases kq with
  | zero => exact absurd HA.out (by simp [fixed_signed.j0])
  | succ kj3 =>
   have H := HA.out
   clear HA
   simp only [fixed_signed.j0] at H
   by_cases c11 : x13_3 = true
   ·
    subst c11
    have H1 : (some ((wrap64 (a0)), a1, 0)) = some (r1, r2, r3) := by rw [if_pos rfl] at H; exact H
    clear H
    have H := H1
    clear H1
    simp only [Option.some.injEq, Prod.mk.injEq] at H
    obtain ⟨rfl, rfl, rfl⟩ := H
    have hnb12 := NB308_306.out
    have hnc12 := NB306_308.out
    have hcz13_0 : wc.cell? ⟨gb308, 0, none⟩ = some (.int .i64 (wrap64 (a0))) := (bc_ BK308.out 0).trans rfl
    have hcz13_1 : wc.cell? ⟨gb308, 1, none⟩ = some (.int .u64 a1) := (bc_ BK308.out 1).trans rfl
    have hfz13_0 := bf_ BK308.out 0
    have hfz13_1 := bf_ BK308.out 1
    have hcz14_0 : wc.cell? ⟨gb306, 0, none⟩ = some (.int .i64 0) := (bc_ BK306.out 0).trans rfl
    have hcz14_1 : wc.cell? ⟨gb306, 1, none⟩ = some (.int .u64 0) := (bc_ BK306.out 1).trans rfl
    have hfz14_0 := bf_ BK306.out 0
    have hfz14_1 := bf_ BK306.out 1
    go_wp2
    refine bodyPost_ret (results_ct rfl _ _ gb306 66 #[.int .i64 (wrap64 (a0)), .int .u64 a1] (0, 0) _ rfl (by (with_reducible repeat (first | refine bn_ ?_ _ | refine bd_ ?_ | refine ba_ ?_ _)); refine bp_ (cs := #[.int .i64 (wrap64 (a0)), .int .u64 0]) ?_ 1 _ rfl; (with_reducible repeat (first | refine bn_ ?_ _ | refine bd_ ?_ | refine ba_ ?_ _)); refine bp_ (cs := #[.int .i64 0, .int .u64 0]) ?_ 0 _ rfl; (with_reducible repeat (first | refine bn_ ?_ _ | refine bd_ ?_ | refine ba_ ?_ _)); exact BK306.out) Try.underlying66 rfl (by kernel_rfl)) rfl ?_
    exact ⟨by first | rfl | (simp [errW_none, errW_some] <;> rfl) | (simp [*, errW_none, errW_some] <;> rfl), bw_⟩
   ·
    replace c11 := Bool.eq_false_iff.mpr c11
    subst c11
    have H1 : (if a0 ≥ 9223372036854775808 then (some (0, 0, 4)) else (if x2_3 = true then ((fixed_turned.f (wrap64 (a0)) a1).bind fun bt136 => (some (bt136.1, bt136.2, 0))) else (some ((wrap64 (a0)), a1, 0)))) = some (r1, r2, r3) := by rw [if_neg (show ¬ (false = true) by decide)] at H; exact H
    clear H
    have H := H1
    clear H1
    by_cases c15 : a0 ≥ 9223372036854775808
    ·
     rw [if_pos c15] at H
     have c15b0 : decide (9223372036854775808 ≤ a0) = true := decide_eq_true c15
     clear c15
     simp only [Option.some.injEq, Prod.mk.injEq] at H
     obtain ⟨rfl, rfl, rfl⟩ := H
     have hnb16 := NB306_308.out
     have hnc16 := NB308_306.out
     have hcz17_0 : wc.cell? ⟨gb306, 0, none⟩ = some (.int .i64 0) := (bc_ BK306.out 0).trans rfl
     have hcz17_1 : wc.cell? ⟨gb306, 1, none⟩ = some (.int .u64 0) := (bc_ BK306.out 1).trans rfl
     have hfz17_0 := bf_ BK306.out 0
     have hfz17_1 := bf_ BK306.out 1
     go_wp2
     refine bodyPost_ret (results_ct rfl _ _ gb306 66 #[.int .i64 0, .int .u64 0] (0, 0) _ rfl (by (with_reducible repeat (first | refine bn_ ?_ _ | refine bd_ ?_ | refine ba_ ?_ _)); refine bp_ (cs := #[.int .i64 0, .int .u64 0]) ?_ 1 _ rfl; (with_reducible repeat (first | refine bn_ ?_ _ | refine bd_ ?_ | refine ba_ ?_ _)); refine bp_ (cs := #[.int .i64 0, .int .u64 0]) ?_ 0 _ rfl; (with_reducible repeat (first | refine bn_ ?_ _ | refine bd_ ?_ | refine ba_ ?_ _)); exact BK306.out) Try.underlying66 rfl (by kernel_rfl)) rfl ?_
     exact ⟨by first | rfl | (simp [errW_none, errW_some] <;> rfl) | (simp [*, errW_none, errW_some] <;> rfl), bw_⟩
    ·
     rw [if_neg c15] at H
     have c15b0 : decide (9223372036854775808 ≤ a0) = false := decide_eq_false c15
     clear c15
     by_cases c18 : x2_3 = true
     ·
      subst c18
      have H1 : ((fixed_turned.f (wrap64 (a0)) a1).bind fun bt136 => (some (bt136.1, bt136.2, 0))) = some (r1, r2, r3) := by rw [if_pos rfl] at H; exact H
      clear H
      have H := H1
      clear H1
      replace H := os_ H
      obtain ⟨⟨t136, t137⟩, A190, H⟩ := H
      replace H : (some (t136, t137, 0)) = some (r1, r2, r3) := H
      have A19 := A_ A190
      clear A190
      simp only [Option.some.injEq, Prod.mk.injEq] at H
      obtain ⟨rfl, rfl, rfl⟩ := H
      have hnb20 := NB308_306.out
      have hnc20 := NB306_308.out
      have hcz21_0 : wc.cell? ⟨gb308, 0, none⟩ = some (.int .i64 (wrap64 (a0))) := (bc_ BK308.out 0).trans rfl
      have hcz21_1 : wc.cell? ⟨gb308, 1, none⟩ = some (.int .u64 a1) := (bc_ BK308.out 1).trans rfl
      have hfz21_0 := bf_ BK308.out 0
      have hfz21_1 := bf_ BK308.out 1
      go_wp2_with (first | ((with_reducible refine gate_callee (f := 82) rfl ?_); refine goesL_ (some 31) rfl rfl Try.func82 (by kernel_rfl) rfl #[.agg #[.int .i64 (wrap64 (a0)), .int .u64 a1]] rfl (by (try simp only [List.map_toArray, List.map_cons, List.map_nil]); first | done | rfl | (simp only [List.length_drop, List.length_take]; rfl)) ?_; (with_reducible refine (fixed_turned.calls (wrap64 (a0)) a1 t136 t137 _ A19.out).mono ?_); rintro e w22 ⟨rfl, hb⟩; refine ⟨_, rfl, ?_⟩; have n0_ := A_ (kb_ BK306 hb); have n1_ := A_ (kb_ BK308 hb); have n2_ := A_ (bs_ bw_ hb); clear BK306; clear BK308; clear HB; have BK306 := n0_; have BK308 := n1_; have HB := n2_; clear n0_ n1_ n2_; (try clear hb); (try clear hb2); (try clear hk); (try clear hi); have hcz23_0 : w22.cell? ⟨gb306, 0, none⟩ = some (.int .i64 0) := (bc_ BK306.out 0).trans rfl; have hcz23_1 : w22.cell? ⟨gb306, 1, none⟩ = some (.int .u64 0) := (bc_ BK306.out 1).trans rfl; have hfz23_0 := bf_ BK306.out 0; have hfz23_1 := bf_ BK306.out 1))
      refine bodyPost_ret (results_ct rfl _ _ gb306 66 #[.int .i64 t136, .int .u64 t137] (0, 0) _ rfl (by (with_reducible repeat (first | refine bn_ ?_ _ | refine bd_ ?_ | refine ba_ ?_ _)); refine bp_ (cs := #[.int .i64 t136, .int .u64 0]) ?_ 1 _ rfl; (with_reducible repeat (first | refine bn_ ?_ _ | refine bd_ ?_ | refine ba_ ?_ _)); refine bp_ (cs := #[.int .i64 0, .int .u64 0]) ?_ 0 _ rfl; (with_reducible repeat (first | refine bn_ ?_ _ | refine bd_ ?_ | refine ba_ ?_ _)); exact BK306.out) Try.underlying66 rfl (by kernel_rfl)) rfl ?_
      exact ⟨by first | rfl | (simp [errW_none, errW_some] <;> rfl) | (simp [*, errW_none, errW_some] <;> rfl), bw_⟩
     ·
      replace c18 := Bool.eq_false_iff.mpr c18
      subst c18
      have H1 : (some ((wrap64 (a0)), a1, 0)) = some (r1, r2, r3) := by rw [if_neg (show ¬ (false = true) by decide)] at H; exact H
      clear H
      have H := H1
      clear H1
      simp only [Option.some.injEq, Prod.mk.injEq] at H
      obtain ⟨rfl, rfl, rfl⟩ := H
      have hnb24 := NB308_306.out
      have hnc24 := NB306_308.out
      have hcz25_0 : wc.cell? ⟨gb308, 0, none⟩ = some (.int .i64 (wrap64 (a0))) := (bc_ BK308.out 0).trans rfl
      have hcz25_1 : wc.cell? ⟨gb308, 1, none⟩ = some (.int .u64 a1) := (bc_ BK308.out 1).trans rfl
      have hfz25_0 := bf_ BK308.out 0
      have hfz25_1 := bf_ BK308.out 1
      have hcz26_0 : wc.cell? ⟨gb306, 0, none⟩ = some (.int .i64 0) := (bc_ BK306.out 0).trans rfl
      have hcz26_1 : wc.cell? ⟨gb306, 1, none⟩ = some (.int .u64 0) := (bc_ BK306.out 1).trans rfl
      have hfz26_0 := bf_ BK306.out 0
      have hfz26_1 := bf_ BK306.out 1
      go_wp2
      refine bodyPost_ret (results_ct rfl _ _ gb306 66 #[.int .i64 (wrap64 (a0)), .int .u64 a1] (0, 0) _ rfl (by (with_reducible repeat (first | refine bn_ ?_ _ | refine bd_ ?_ | refine ba_ ?_ _)); refine bp_ (cs := #[.int .i64 (wrap64 (a0)), .int .u64 0]) ?_ 1 _ rfl; (with_reducible repeat (first | refine bn_ ?_ _ | refine bd_ ?_ | refine ba_ ?_ _)); refine bp_ (cs := #[.int .i64 0, .int .u64 0]) ?_ 0 _ rfl; (with_reducible repeat (first | refine bn_ ?_ _ | refine bd_ ?_ | refine ba_ ?_ _)); exact BK306.out) Try.underlying66 rfl (by kernel_rfl)) rfl ?_
      exact ⟨by first | rfl | (simp [errW_none, errW_some] <;> rfl) | (simp [*, errW_none, errW_some] <;> rfl), bw_⟩
end Go.Proofs.Ytfbkgfffalppmaa.Wf
end
section
namespace Go.Proofs.Ytfbkgfffalppmaa.Wf
open Go.RowKit Go.Proofs.YtfbkgfffalppmaaW.PrintWords Go.Proofs.YtfbkgfffalppmaaW.PrintLast Go.Proofs.YtfbkgfffalppmaaW.PrintMore
attribute [local go_sem] max2_int min2_int max_two min_two max_three min_three max_four min_four   -- for this text's walks alone
set_option linter.unusedVariables false
set_option linter.unusedSimpArgs false
attribute [local go_sem] run_add64_any
mutual
def fixed_Divide.j0 : Nat → Int → Int → Bool → Int → Int → Option (Int × Int × Int)
 | 0, _, _, _, _, _ => none
 | k + 1, x1, x2, x25, x304000, x304001 => if x25 = true then (some (0, 0, 1)) else ((fixed_away.f x304000 x304001).bind fun bt138 => (if x1 < 0 then (fixed_Divide.j1 k x1 x2 bt138.1 bt138.2.1 (!bt138.2.2)) else (fixed_Divide.j1 k x1 x2 bt138.1 bt138.2.1 bt138.2.2)))
def fixed_Divide.j1 : Nat → Int → Int → Int → Int → Bool → Option (Int × Int × Int)
 | 0, _, _, _, _, _ => none
 | k + 1, x1, x2, x8, x9, x10 => (fixed_size.f x1).bind fun t141 => (if t141 = 0 then (none) else ((bits_Div64.f k (Int.tmod x8 t141) x9 t141).bind fun bt142 => ((fixed_up.f x2 x10 ((Go.bits .and .u64 bt142.1 1) == 1) bt142.2 t141).bind fun t144 => (if t144 = true then ((fixed_signed.f k (IntKind.u64.wrap ((IntKind.u64.wrap (Int.tdiv x8 t141)) + (addHi bt142.1 1 0))) (addLo bt142.1 1 0) x10).bind fun bt145 => (some (bt145.1, bt145.2.1, bt145.2.2))) else ((fixed_signed.f k (IntKind.u64.wrap (Int.tdiv x8 t141)) bt142.1 x10).bind fun bt148 => (some (bt148.1, bt148.2.1, bt148.2.2)))))))
end
def fixed_Divide.f (k : Nat) (a0_0 : Int) (a0_1 : Int) (a1 : Int) (a2 : Int) : Option (Int × Int × Int) := if a1 = 0 then (fixed_Divide.j0 k a1 a2 true a0_0 a0_1) else (if a2 < 0 then (fixed_Divide.j0 k a1 a2 true a0_0 a0_1) else (fixed_Divide.j0 k a1 a2 (decide (a2 > 3)) a0_0 a0_1))
theorem fixed_Divide.mono_l : ∀ k, (∀ y0 y1 y2 y3 y4, LeO (fixed_Divide.j0 k y0 y1 y2 y3 y4) (fixed_Divide.j0 (k + 1) y0 y1 y2 y3 y4)) ∧ (∀ y0 y1 y2 y3 y4, LeO (fixed_Divide.j1 k y0 y1 y2 y3 y4) (fixed_Divide.j1 (k + 1) y0 y1 y2 y3 y4))
 | 0 => ⟨fun _ _ _ _ _ r h => by simp [fixed_Divide.j0] at h, fun _ _ _ _ _ r h => by simp [fixed_Divide.j1] at h⟩
 | k + 1 => by
  obtain ⟨ih0, ih1⟩ := fixed_Divide.mono_l k
  refine ⟨?_, ?_⟩
  ·
   intro y0 y1 y2 y3 y4
   unfold fixed_Divide.j0
   repeat' first
   | (with_reducible exact ih0 _ _ _ _ _)
   | (with_reducible exact ih1 _ _ _ _ _)
   | (with_reducible exact bits_Div64.mono _ _ _ _)
   | (with_reducible exact fixed_signed.mono _ _ _ _)
   | (with_reducible exact LeO.refl _)
   | (with_reducible exact LeO.none _)
   | (with_reducible refine LeO.ite ?_ ?_)
   | (with_reducible refine LeO.bind ?_ (fun _ => ?_))
   | exact ih0 _ _ _ _ _
   | exact ih1 _ _ _ _ _
   | exact bits_Div64.mono _ _ _ _
   | exact fixed_signed.mono _ _ _ _
   | exact LeO.none _
   | refine LeO.ite ?_ ?_
   | refine LeO.bind ?_ (fun _ => ?_)
  ·
   intro y0 y1 y2 y3 y4
   unfold fixed_Divide.j1
   repeat' first
   | (with_reducible exact ih0 _ _ _ _ _)
   | (with_reducible exact ih1 _ _ _ _ _)
   | (with_reducible exact bits_Div64.mono _ _ _ _)
   | (with_reducible exact fixed_signed.mono _ _ _ _)
   | (with_reducible exact LeO.refl _)
   | (with_reducible exact LeO.none _)
   | (with_reducible refine LeO.ite ?_ ?_)
   | (with_reducible refine LeO.bind ?_ (fun _ => ?_))
   | exact ih0 _ _ _ _ _
   | exact ih1 _ _ _ _ _
   | exact bits_Div64.mono _ _ _ _
   | exact fixed_signed.mono _ _ _ _
   | exact LeO.none _
   | refine LeO.ite ?_ ?_
   | refine LeO.bind ?_ (fun _ => ?_)
theorem fixed_Divide.mono : ∀ a0 a1 a2 a3 k, LeO (fixed_Divide.f k a0 a1 a2 a3) (fixed_Divide.f (k + 1) a0 a1 a2 a3) := by
 intro a0 a1 a2 a3 k
 obtain ⟨ih0, ih1⟩ := fixed_Divide.mono_l k
 unfold fixed_Divide.f
 repeat' first
   | (with_reducible exact ih0 _ _ _ _ _)
   | (with_reducible exact ih1 _ _ _ _ _)
   | (with_reducible exact bits_Div64.mono _ _ _ _)
   | (with_reducible exact fixed_signed.mono _ _ _ _)
   | (with_reducible exact LeO.refl _)
   | (with_reducible exact LeO.none _)
   | (with_reducible refine LeO.ite ?_ ?_)
   | (with_reducible refine LeO.bind ?_ (fun _ => ?_))
   | exact ih0 _ _ _ _ _
   | exact ih1 _ _ _ _ _
   | exact bits_Div64.mono _ _ _ _
   | exact fixed_signed.mono _ _ _ _
   | exact LeO.none _
   | refine LeO.ite ?_ ?_
   | refine LeO.bind ?_ (fun _ => ?_)
set_option maxHeartbeats 8000000 in
set_option maxRecDepth 100000 in
theorem fixed_Divide.calls (k : Nat) (a0_0 : Int) (a0_1 : Int) (a1 : Int) (a2 : Int) (r1 : Int) (r2 : Int) (r3 : Int) (w : World) (h : fixed_Divide.f k a0_0 a0_1 a1 a2 = some (r1, r2, r3)) :
  Calls Try.prog 61 #[.agg #[.int .i64 a0_0, .int .u64 a0_1], .int .i64 a1, .int .i64 a2] w fun e w' => e = .returned (.tuple #[.agg #[.int .i64 r1, .int .u64 r2], .int .i64 r3]) ∧ Below w.heap.size w w' := by
 have hu66 := Try.underlying66
 have HB := A_ (Below.refl w.heap.size w)
 have H : (if a1 = 0 then (fixed_Divide.j0 k a1 a2 true a0_0 a0_1) else (if a2 < 0 then (fixed_Divide.j0 k a1 a2 true a0_0 a0_1) else (fixed_Divide.j0 k a1 a2 (decide (a2 > 3)) a0_0 a0_1))) = some (r1, r2, r3) := h
 clear h
 have HC4 := A_ H
 clear H
 go_enter Try.func61, Try.ntmps61
 go_upto_region 1 with (first | ((with_reducible refine gate_dst (N := 3) rfl ?_); refine box_event ?hg (N := 3) ?hd (cs := #[.int .i64 a0_0, .int .u64 a0_1]) (t := 66) ?hr ?_; (case hd => rfl); (case hg => rfl); (case hr => first | (go_simp; done) | (go_simp; rfl)); intro gb303 hg w5 hbox hb; have n0_ := A_ (bs_ bw_ hb); have n1_ := A_ (hbox); have n2_ := A_ ((by rw [hg]; exact (bz_ bw_) : w.heap.size ≤ gb303)); have n3_ := A_ ((by rw [hg]; exact (bz_ bw_) : w.heap.size ≤ gb303)); clear HB; have HB := n0_; have BK303 := n1_; have GW303 := n2_; have GE303 := n3_; clear n0_ n1_ n2_ n3_; clear hb hbox hg) | ((with_reducible refine gate_dst (N := 6) rfl ?_); refine box_event ?hg (N := 6) ?hd (cs := #[.int .i64 0, .int .u64 0]) (t := 66) ?hr ?_; (case hd => rfl); (case hg => rfl); (case hr => first | (go_simp; done) | (go_simp; rfl)); intro gb306 hg w6 hbox hb; have n0_ := A_ (kb_ BK303 hb); have n1_ := A_ (bs_ bw_ hb); have n2_ := A_ (hbox); have n3_ := A_ ((by rw [hg]; exact (bz_ bw_) : w.heap.size ≤ gb306)); have n4_ := A_ ((by rw [hg]; exact (bz_ bw_) : w.heap.size ≤ gb306)); have n5_ := A_ ((by rw [hg]; exact nl_ (lt_ BK303) : gb303 ≠ gb306)); have n6_ := A_ ((by rw [hg]; exact ng_ (lt_ BK303) : gb306 ≠ gb303)); clear BK303; clear HB; have BK303 := n0_; have HB := n1_; have BK306 := n2_; have GW306 := n3_; have GE306 := n4_; have NB303_306 := n5_; have NB306_303 := n6_; clear n0_ n1_ n2_ n3_ n4_ n5_ n6_; clear hb hbox hg))
 repeat (go_quiet (first | ((with_reducible refine gate_dst (N := 3) rfl ?_); refine box_event ?hg (N := 3) ?hd (cs := #[.int .i64 a0_0, .int .u64 a0_1]) (t := 66) ?hr ?_; (case hd => rfl); (case hg => rfl); (case hr => first | (go_simp; done) | (go_simp; rfl)); intro gb303 hg w5 hbox hb; have n0_ := A_ (bs_ bw_ hb); have n1_ := A_ (hbox); have n2_ := A_ ((by rw [hg]; exact (bz_ bw_) : w.heap.size ≤ gb303)); have n3_ := A_ ((by rw [hg]; exact (bz_ bw_) : w.heap.size ≤ gb303)); clear HB; have HB := n0_; have BK303 := n1_; have GW303 := n2_; have GE303 := n3_; clear n0_ n1_ n2_ n3_; clear hb hbox hg) | ((with_reducible refine gate_dst (N := 6) rfl ?_); refine box_event ?hg (N := 6) ?hd (cs := #[.int .i64 0, .int .u64 0]) (t := 66) ?hr ?_; (case hd => rfl); (case hg => rfl); (case hr => first | (go_simp; done) | (go_simp; rfl)); intro gb306 hg w6 hbox hb; have n0_ := A_ (kb_ BK303 hb); have n1_ := A_ (bs_ bw_ hb); have n2_ := A_ (hbox); have n3_ := A_ ((by rw [hg]; exact (bz_ bw_) : w.heap.size ≤ gb306)); have n4_ := A_ ((by rw [hg]; exact (bz_ bw_) : w.heap.size ≤ gb306)); have n5_ := A_ ((by rw [hg]; exact nl_ (lt_ BK303) : gb303 ≠ gb306)); have n6_ := A_ ((by rw [hg]; exact ng_ (lt_ BK303) : gb306 ≠ gb303)); clear BK303; clear HB; have BK303 := n0_; have HB := n1_; have BK306 := n2_; have GW306 := n3_; have GE306 := n4_; have NB303_306 := n5_; have NB306_303 := n6_; clear n0_ n1_ n2_ n3_ n4_ n5_ n6_; clear hb hbox hg)); go_upto_region 1 with (first | ((with_reducible refine gate_dst (N := 3) rfl ?_); refine box_event ?hg (N := 3) ?hd (cs := #[.int .i64 a0_0, .int .u64 a0_1]) (t := 66) ?hr ?_; (case hd => rfl); (case hg => rfl); (case hr => first | (go_simp; done) | (go_simp; rfl)); intro gb303 hg w5 hbox hb; have n0_ := A_ (bs_ bw_ hb); have n1_ := A_ (hbox); have n2_ := A_ ((by rw [hg]; exact (bz_ bw_) : w.heap.size ≤ gb303)); have n3_ := A_ ((by rw [hg]; exact (bz_ bw_) : w.heap.size ≤ gb303)); clear HB; have HB := n0_; have BK303 := n1_; have GW303 := n2_; have GE303 := n3_; clear n0_ n1_ n2_ n3_; clear hb hbox hg) | ((with_reducible refine gate_dst (N := 6) rfl ?_); refine box_event ?hg (N := 6) ?hd (cs := #[.int .i64 0, .int .u64 0]) (t := 66) ?hr ?_; (case hd => rfl); (case hg => rfl); (case hr => first | (go_simp; done) | (go_simp; rfl)); intro gb306 hg w6 hbox hb; have n0_ := A_ (kb_ BK303 hb); have n1_ := A_ (bs_ bw_ hb); have n2_ := A_ (hbox); have n3_ := A_ ((by rw [hg]; exact (bz_ bw_) : w.heap.size ≤ gb306)); have n4_ := A_ ((by rw [hg]; exact (bz_ bw_) : w.heap.size ≤ gb306)); have n5_ := A_ ((by rw [hg]; exact nl_ (lt_ BK303) : gb303 ≠ gb306)); have n6_ := A_ ((by rw [hg]; exact ng_ (lt_ BK303) : gb306 ≠ gb303)); clear BK303; clear HB; have BK303 := n0_; have HB := n1_; have BK306 := n2_; have GW306 := n3_; have GE306 := n4_; have NB303_306 := n5_; have NB306_303 := n6_; clear n0_ n1_ n2_ n3_ n4_ n5_ n6_; clear hb hbox hg)))
 (try simp only [Act.put, sA_, sZ_, sS_])
 go_cut [25] (fun v25 wc => ∃ (kq : Nat) (x25_3 : Bool), v25 = .bool x25_3 ∧ Aside0 (fixed_Divide.j0 kq a1 a2 x25_3 a0_0 a0_1 = some (r1, r2, r3)) ∧ Aside0 (kq ≤ k) ∧ Aside0 (wc.heap[gb303]? = some (.cells #[.int .i64 a0_0, .int .u64 a0_1] 66 (0, 0))) ∧ Aside0 (wc.heap[gb306]? = some (.cells #[.int .i64 0, .int .u64 0] 66 (0, 0))) ∧ Aside0 (Below w.heap.size w wc))
 case first =>
  have H := HC4.out
  clear HC4
  by_cases c7 : a1 = 0
  ·
   rw [if_pos c7] at H
   have c7b0 : (a1 == 0) = true := q1_ c7
   have c7b1 : (a1 != 0) = false := q3_ c7
   clear c7
   (first | rw [c7b0] | (simp only [i64_w, i32_w]; rw [c7b0]) | skip)
   have H' := A_ H
   clear H
   go_wp2
   repeat (go_quiet (fail); try go_wp2)
   go_meet
   case rel => exact ⟨_, (true), (by first | rfl | (simp; done) | (simp [*]; done)), H', ⟨by first | omega | exact Nat.le_refl _⟩, ⟨bk_⟩, ⟨bk_⟩, ⟨bw_⟩⟩
  ·
   rw [if_neg c7] at H
   have c7b0 : (a1 == 0) = false := q4_ c7
   have c7b1 : (a1 != 0) = true := q2_ c7
   (first | rw [c7b0] | (simp only [i64_w, i32_w]; rw [c7b0]) | skip)
   by_cases c8 : a2 < 0
   ·
    rw [if_pos c8] at H
    have c8b0 : decide (a2 < 0) = true := decide_eq_true c8
    clear c8
    have H' := A_ H
    clear H
    go_wp2
    repeat (go_quiet (fail); try go_wp2)
    go_meet
    case rel => exact ⟨_, (true), (by first | rfl | (simp; done) | (simp [*]; done)), H', ⟨by first | omega | exact Nat.le_refl _⟩, ⟨bk_⟩, ⟨bk_⟩, ⟨bw_⟩⟩
   ·
    rw [if_neg c8] at H
    have c8b0 : decide (a2 < 0) = false := decide_eq_false c8
    clear c8
    have H' := A_ H
    clear H
    go_wp2
    repeat (go_quiet (fail); try go_wp2)
    go_meet
    case rel => exact ⟨_, (decide (a2 > 3)), (by first | rfl | (simp; done) | (simp [*]; done)), H', ⟨by first | omega | exact Nat.le_refl _⟩, ⟨bk_⟩, ⟨bk_⟩, ⟨bw_⟩⟩
 case rest =>
  clear HC4
  try clear p2
  try clear c6
  try clear c7
  try clear c7b0
  try clear c7b1
  try clear c8
  try clear c8b0
  obtain ⟨kq, x25_3, rfl, HA, HJ3, BK303, BK306, HB⟩ := hcut
  cases kq with
  | zero => exact absurd HA.out (by simp [fixed_Divide.j0])
  | succ kj3 =>
   have H := HA.out
   clear HA
   simp only [fixed_Divide.j0] at H
   by_cases c9 : x25_3 = true
   ·
    subst c9
    have H1 : (some (0, 0, 1)) = some (r1, r2, r3) := by rw [if_pos rfl] at H; exact H
    clear H
    have H := H1
    clear H1
    simp only [Option.some.injEq, Prod.mk.injEq] at H
    obtain ⟨rfl, rfl, rfl⟩ := H
    have hnb10 := NB306_303.out
    have hnc10 := NB303_306.out
    have hcz11_0 : wc.cell? ⟨gb306, 0, none⟩ = some (.int .i64 0) := (bc_ BK306.out 0).trans rfl
    have hcz11_1 : wc.cell? ⟨gb306, 1, none⟩ = some (.int .u64 0) := (bc_ BK306.out 1).trans rfl
    have hfz11_0 := bf_ BK306.out 0
    have hfz11_1 := bf_ BK306.out 1
    go_wp2
    repeat (go_quiet (fail); try go_wp2)
    refine bodyPost_ret (results_ct rfl _ _ gb306 66 #[.int .i64 0, .int .u64 0] (0, 0) _ rfl (by (with_reducible repeat (first | refine bn_ ?_ _ | refine bd_ ?_ | refine ba_ ?_ _)); refine bp_ (cs := #[.int .i64 0, .int .u64 0]) ?_ 1 _ rfl; (with_reducible repeat (first | refine bn_ ?_ _ | refine bd_ ?_ | refine ba_ ?_ _)); refine bp_ (cs := #[.int .i64 0, .int .u64 0]) ?_ 0 _ rfl; (with_reducible repeat (first | refine bn_ ?_ _ | refine bd_ ?_ | refine ba_ ?_ _)); exact BK306.out) Try.underlying66 rfl (by kernel_rfl)) rfl ?_
    exact ⟨by first | rfl | (simp [errW_none, errW_some] <;> rfl) | (simp [*, errW_none, errW_some] <;> rfl), bw_⟩
   ·
    replace c9 := Bool.eq_false_iff.mpr c9
    subst c9
    have H1 : ((fixed_away.f a0_0 a0_1).bind fun bt138 => (if a1 < 0 then (fixed_Divide.j1 kj3 a1 a2 bt138.1 bt138.2.1 (!bt138.2.2)) else (fixed_Divide.j1 kj3 a1 a2 bt138.1 bt138.2.1 bt138.2.2))) = some (r1, r2, r3) := by rw [if_neg (show ¬ (false = true) by decide)] at H; exact H
    clear H
    have H := H1
    clear H1
    replace H := os_ H
    obtain ⟨⟨t138, t139, t140⟩, A120, H⟩ := H
    replace H : (if a1 < 0 then (fixed_Divide.j1 kj3 a1 a2 t138 t139 (!t140)) else (fixed_Divide.j1 kj3 a1 a2 t138 t139 t140)) = some (r1, r2, r3) := H
    have A12 := A_ A120
    clear A120
    have HC13 := A_ H
    clear H
    have hnb14 := NB303_306.out
    have hnc14 := NB306_303.out
    have hcz15_0 : wc.cell? ⟨gb303, 0, none⟩ = some (.int .i64 a0_0) := (bc_ BK303.out 0).trans rfl
    have hcz15_1 : wc.cell? ⟨gb303, 1, none⟩ = some (.int .u64 a0_1) := (bc_ BK303.out 1).trans rfl
    have hfz15_0 := bf_ BK303.out 0
    have hfz15_1 := bf_ BK303.out 1
    go_upto_if 34 with (first | (go_at_call 75; (with_reducible refine (fixed_away.calls a0_0 a0_1 t138 t139 t140 _ A12.out).mono ?_); rintro e w16 ⟨rfl, hb⟩; have n0_ := A_ (kb_ BK303 hb); have n1_ := A_ (kb_ BK306 hb); have n2_ := A_ (bs_ bw_ hb); clear BK303; clear BK306; clear HB; have BK303 := n0_; have BK306 := n1_; have HB := n2_; clear n0_ n1_ n2_; (try clear hb); (try clear hb2); (try clear hk); (try clear hi)))
    repeat (go_quiet (first | (go_at_call 75; (with_reducible refine (fixed_away.calls a0_0 a0_1 t138 t139 t140 _ A12.out).mono ?_); rintro e w16 ⟨rfl, hb⟩; have n0_ := A_ (kb_ BK303 hb); have n1_ := A_ (kb_ BK306 hb); have n2_ := A_ (bs_ bw_ hb); clear BK303; clear BK306; clear HB; have BK303 := n0_; have BK306 := n1_; have HB := n2_; clear n0_ n1_ n2_; (try clear hb); (try clear hb2); (try clear hk); (try clear hi))); go_upto_if 34 with (first | (go_at_call 75; (with_reducible refine (fixed_away.calls a0_0 a0_1 t138 t139 t140 _ A12.out).mono ?_); rintro e w16 ⟨rfl, hb⟩; have n0_ := A_ (kb_ BK303 hb); have n1_ := A_ (kb_ BK306 hb); have n2_ := A_ (bs_ bw_ hb); clear BK303; clear BK306; clear HB; have BK303 := n0_; have BK306 := n1_; have HB := n2_; clear n0_ n1_ n2_; (try clear hb); (try clear hb2); (try clear hk); (try clear hi))))
    (try simp only [Act.put, sA_, sZ_, sS_])
    go_cut [10] (fun v10 wc => ∃ (kq : Nat) (x10_12 : Bool), v10 = .bool x10_12 ∧ Aside0 (fixed_Divide.j1 kq a1 a2 t138 t139 x10_12 = some (r1, r2, r3)) ∧ Aside0 (kq ≤ kj3) ∧ Aside0 (wc.heap[gb303]? = some (.cells #[.int .i64 a0_0, .int .u64 a0_1] 66 (0, 0))) ∧ Aside0 (wc.heap[gb306]? = some (.cells #[.int .i64 0, .int .u64 0] 66 (0, 0))) ∧ Aside0 (Below w.heap.size w wc))
    case first =>
     have H := HC13.out
     clear HC13
     by_cases c17 : a1 < 0
     ·
      rw [if_pos c17] at H
      have c17b0 : decide (a1 < 0) = true := decide_eq_true c17
      clear c17
      (first | rw [c17b0] | (simp only [i64_w, i32_w]; rw [c17b0]) | skip)
      have H' := A_ H
      clear H
      go_wp2
      repeat (go_quiet (fail); try go_wp2)
      go_meet
      case rel => exact ⟨_, (!t140), (by first | rfl | (simp; done) | (simp [*]; done)), H', ⟨by have := HJ3.out; first | omega | exact Nat.le_refl _⟩, ⟨bk_⟩, ⟨bk_⟩, ⟨bw_⟩⟩
     ·
      rw [if_neg c17] at H
      have c17b0 : decide (a1 < 0) = false := decide_eq_false c17
      clear c17
      (first | rw [c17b0] | (simp only [i64_w, i32_w]; rw [c17b0]) | skip)
      have H' := A_ H
      clear H
      go_wp2
      repeat (go_quiet (fail); try go_wp2)
      go_meet
      case rel => exact ⟨_, (t140), (by first | rfl | (simp; done) | (simp [*]; done)), H', ⟨by have := HJ3.out; first | omega | exact Nat.le_refl _⟩, ⟨bk_⟩, ⟨bk_⟩, ⟨bw_⟩⟩
    case rest =>
     clear HC13
     try clear c1
     try clear p2
     try clear c6
     try clear c7
     try clear c7b0
     try clear c7b1
     try clear c8
     try clear c8b0
     try clear c9
     try clear c10
     try clear c14
     try clear c17
     try clear c17b0
     try clear hcz11_0
     try clear hcz11_1
     try clear hcz15_0
     try clear hcz15_1
     try clear hfz11_0
     try clear hfz11_1
     try clear hfz15_0
     try clear hfz15_1
     try clear p2
     obtain ⟨kq, x10_12, rfl, HA, HJ12, BK303, BK306, HB⟩ := hcut
     cases kq with
     | zero => exact absurd HA.out (by simp [fixed_Divide.j1])
     | succ kj12 =>
      have H := HA.out
      clear HA
      simp only [fixed_Divide.j1] at H
      replace H := os_ H
      obtain ⟨t141, A180, H⟩ := H
      replace H : (if t141 = 0 then (none) else ((bits_Div64.f kj12 (Int.tmod t138 t141) t139 t141).bind fun bt142 => ((fixed_up.f a2 x10_12 ((Go.bits .and .u64 bt142.1 1) == 1) bt142.2 t141).bind fun t144 => (if t144 = true then ((fixed_signed.f kj12 (IntKind.u64.wrap ((IntKind.u64.wrap (Int.tdiv t138 t141)) + (addHi bt142.1 1 0))) (addLo bt142.1 1 0) x10_12).bind fun bt145 => (some (bt145.1, bt145.2.1, bt145.2.2))) else ((fixed_signed.f kj12 (IntKind.u64.wrap (Int.tdiv t138 t141)) bt142.1 x10_12).bind fun bt148 => (some (bt148.1, bt148.2.1, bt148.2.2))))))) = some (r1, r2, r3) := H
      have A18 := A_ A180
      clear A180
      by_cases c19 : t141 = 0
      ·
       rw [if_pos c19] at H
       exact absurd H (by simp)
      ·
       rw [if_neg c19] at H
       have c19b0 : (t141 == 0) = false := q4_ c19
       have c19b1 : (t141 != 0) = true := q2_ c19
       replace H := os_ H
       obtain ⟨⟨t142, t143⟩, A200, H⟩ := H
       replace H : ((fixed_up.f a2 x10_12 ((Go.bits .and .u64 t142 1) == 1) t143 t141).bind fun t144 => (if t144 = true then ((fixed_signed.f kj12 (IntKind.u64.wrap ((IntKind.u64.wrap (Int.tdiv t138 t141)) + (addHi t142 1 0))) (addLo t142 1 0) x10_12).bind fun bt145 => (some (bt145.1, bt145.2.1, bt145.2.2))) else ((fixed_signed.f kj12 (IntKind.u64.wrap (Int.tdiv t138 t141)) t142 x10_12).bind fun bt148 => (some (bt148.1, bt148.2.1, bt148.2.2))))) = some (r1, r2, r3) := H
       have A20 := A_ A200
       clear A200
       replace H := os_ H
       obtain ⟨t144, A210, H⟩ := H
       replace H : (if t144 = true then ((fixed_signed.f kj12 (IntKind.u64.wrap ((IntKind.u64.wrap (Int.tdiv t138 t141)) + (addHi t142 1 0))) (addLo t142 1 0) x10_12).bind fun bt145 => (some (bt145.1, bt145.2.1, bt145.2.2))) else ((fixed_signed.f kj12 (IntKind.u64.wrap (Int.tdiv t138 t141)) t142 x10_12).bind fun bt148 => (some (bt148.1, bt148.2.1, bt148.2.2)))) = some (r1, r2, r3) := H
       have A21 := A_ A210
       clear A210
       by_cases c22 : t144 = true
       ·
        subst c22
        have H1 : ((fixed_signed.f kj12 (IntKind.u64.wrap ((IntKind.u64.wrap (Int.tdiv t138 t141)) + (addHi t142 1 0))) (addLo t142 1 0) x10_12).bind fun bt145 => (some (bt145.1, bt145.2.1, bt145.2.2))) = some (r1, r2, r3) := by rw [if_pos rfl] at H; exact H
        clear H
        have H := H1
        clear H1
        replace H := os_ H
        obtain ⟨⟨t145, t146, t147⟩, A230, H⟩ := H
        replace H : (some (t145, t146, t147)) = some (r1, r2, r3) := H
        have A23 := A_ A230
        clear A230
        simp only [Option.some.injEq, Prod.mk.injEq] at H
        obtain ⟨rfl, rfl, rfl⟩ := H
        go_wp2_with (first | (go_at_call 76; (with_reducible refine (fixed_size.calls a1 t141 _ A18.out).mono ?_); rintro e w' ⟨rfl, ⟨nd, rfl⟩⟩; (try first | exact ⟨rfl, _, dd_ _ _ _⟩ | exact ⟨rfl, _, Eq.trans (dd_ _ _ _) (congrArg (World.drewN _) (Nat.add_assoc _ _ _))⟩)) | (go_at_call 77; (with_reducible refine (bits_Div64.calls kj12 (Int.tmod t138 t141) t139 t141 t142 t143 _ A20.out).mono ?_); rintro e w' ⟨rfl, ⟨nd, rfl⟩⟩; (try first | exact ⟨rfl, _, dd_ _ _ _⟩ | exact ⟨rfl, _, Eq.trans (dd_ _ _ _) (congrArg (World.drewN _) (Nat.add_assoc _ _ _))⟩)) | (go_at_call 78; (with_reducible refine (fixed_up.calls a2 x10_12 ((Go.bits .and .u64 t142 1) == 1) t143 t141 true _ A21.out).mono ?_); rintro e w' ⟨rfl, ⟨nd, rfl⟩⟩; (try first | exact ⟨rfl, _, dd_ _ _ _⟩ | exact ⟨rfl, _, Eq.trans (dd_ _ _ _) (congrArg (World.drewN _) (Nat.add_assoc _ _ _))⟩)) | (go_at_call 80; (with_reducible refine (fixed_signed.calls kj12 (IntKind.u64.wrap ((IntKind.u64.wrap (Int.tdiv t138 t141)) + (addHi t142 1 0))) (addLo t142 1 0) x10_12 t145 t146 t147 _ A23.out).mono ?_); rintro e w24 ⟨rfl, hb⟩; have n0_ := A_ (kb_ BK303 hb); have n1_ := A_ (kb_ BK306 hb); have n2_ := A_ (bs_ bw_ hb); clear BK303; clear BK306; clear HB; have BK303 := n0_; have BK306 := n1_; have HB := n2_; clear n0_ n1_ n2_; (try clear hb); (try clear hb2); (try clear hk); (try clear hi); have hnb25 := NB306_303.out; have hnc25 := NB303_306.out; have hcz26_0 : w24.cell? ⟨gb306, 0, none⟩ = some (.int .i64 0) := (bc_ BK306.out 0).trans rfl; have hcz26_1 : w24.cell? ⟨gb306, 1, none⟩ = some (.int .u64 0) := (bc_ BK306.out 1).trans rfl; have hfz26_0 := bf_ BK306.out 0; have hfz26_1 := bf_ BK306.out 1))
        repeat (go_quiet (first | (go_at_call 76; (with_reducible refine (fixed_size.calls a1 t141 _ A18.out).mono ?_); rintro e w' ⟨rfl, ⟨nd, rfl⟩⟩; (try first | exact ⟨rfl, _, dd_ _ _ _⟩ | exact ⟨rfl, _, Eq.trans (dd_ _ _ _) (congrArg (World.drewN _) (Nat.add_assoc _ _ _))⟩)) | (go_at_call 77; (with_reducible refine (bits_Div64.calls kj12 (Int.tmod t138 t141) t139 t141 t142 t143 _ A20.out).mono ?_); rintro e w' ⟨rfl, ⟨nd, rfl⟩⟩; (try first | exact ⟨rfl, _, dd_ _ _ _⟩ | exact ⟨rfl, _, Eq.trans (dd_ _ _ _) (congrArg (World.drewN _) (Nat.add_assoc _ _ _))⟩)) | (go_at_call 78; (with_reducible refine (fixed_up.calls a2 x10_12 ((Go.bits .and .u64 t142 1) == 1) t143 t141 true _ A21.out).mono ?_); rintro e w' ⟨rfl, ⟨nd, rfl⟩⟩; (try first | exact ⟨rfl, _, dd_ _ _ _⟩ | exact ⟨rfl, _, Eq.trans (dd_ _ _ _) (congrArg (World.drewN _) (Nat.add_assoc _ _ _))⟩)) | (go_at_call 80; (with_reducible refine (fixed_signed.calls kj12 (IntKind.u64.wrap ((IntKind.u64.wrap (Int.tdiv t138 t141)) + (addHi t142 1 0))) (addLo t142 1 0) x10_12 t145 t146 t147 _ A23.out).mono ?_); rintro e w24 ⟨rfl, hb⟩; have n0_ := A_ (kb_ BK303 hb); have n1_ := A_ (kb_ BK306 hb); have n2_ := A_ (bs_ bw_ hb); clear BK303; clear BK306; clear HB; have BK303 := n0_; have BK306 := n1_; have HB := n2_; clear n0_ n1_ n2_; (try clear hb); (try clear hb2); (try clear hk); (try clear hi); have hnb25 := NB306_303.out; have hnc25 := NB303_306.out; have hcz26_0 : w24.cell? ⟨gb306, 0, none⟩ = some (.int .i64 0) := (bc_ BK306.out 0).trans rfl; have hcz26_1 : w24.cell? ⟨gb306, 1, none⟩ = some (.int .u64 0) := (bc_ BK306.out 1).trans rfl; have hfz26_0 := bf_ BK306.out 0; have hfz26_1 := bf_ BK306.out 1)); try go_wp2_with (first | (go_at_call 76; (with_reducible refine (fixed_size.calls a1 t141 _ A18.out).mono ?_); rintro e w' ⟨rfl, ⟨nd, rfl⟩⟩; (try first | exact ⟨rfl, _, dd_ _ _ _⟩ | exact ⟨rfl, _, Eq.trans (dd_ _ _ _) (congrArg (World.drewN _) (Nat.add_assoc _ _ _))⟩)) | (go_at_call 77; (with_reducible refine (bits_Div64.calls kj12 (Int.tmod t138 t141) t139 t141 t142 t143 _ A20.out).mono ?_); rintro e w' ⟨rfl, ⟨nd, rfl⟩⟩; (try first | exact ⟨rfl, _, dd_ _ _ _⟩ | exact ⟨rfl, _, Eq.trans (dd_ _ _ _) (congrArg (World.drewN _) (Nat.add_assoc _ _ _))⟩)) | (go_at_call 78; (with_reducible refine (fixed_up.calls a2 x10_12 ((Go.bits .and .u64 t142 1) == 1) t143 t141 true _ A21.out).mono ?_); rintro e w' ⟨rfl, ⟨nd, rfl⟩⟩; (try first | exact ⟨rfl, _, dd_ _ _ _⟩ | exact ⟨rfl, _, Eq.trans (dd_ _ _ _) (congrArg (World.drewN _) (Nat.add_assoc _ _ _))⟩)) | (go_at_call 80; (with_reducible refine (fixed_signed.calls kj12 (IntKind.u64.wrap ((IntKind.u64.wrap (Int.tdiv t138 t141)) + (addHi t142 1 0))) (addLo t142 1 0) x10_12 t145 t146 t147 _ A23.out).mono ?_); rintro e w24 ⟨rfl, hb⟩; have n0_ := A_ (kb_ BK303 hb); have n1_ := A_ (kb_ BK306 hb); have n2_ := A_ (bs_ bw_ hb); clear BK303; clear BK306; clear HB; have BK303 := n0_; have BK306 := n1_; have HB := n2_; clear n0_ n1_ n2_; (try clear hb); (try clear hb2); (try clear hk); (try clear hi); have hnb25 := NB306_303.out; have hnc25 := NB303_306.out; have hcz26_0 : w24.cell? ⟨gb306, 0, none⟩ = some (.int .i64 0) := (bc_ BK306.out 0).trans rfl; have hcz26_1 : w24.cell? ⟨gb306, 1, none⟩ = some (.int .u64 0) := (bc_ BK306.out 1).trans rfl; have hfz26_0 := bf_ BK306.out 0; have hfz26_1 := bf_ BK306.out 1)))
        refine bodyPost_ret (results_ct rfl _ _ gb306 66 #[.int .i64 t145, .int .u64 t146] (0, 0) _ rfl (by (with_reducible repeat (first | refine bn_ ?_ _ | refine bd_ ?_ | refine ba_ ?_ _)); refine bp_ (cs := #[.int .i64 t145, .int .u64 0]) ?_ 1 _ rfl; (with_reducible repeat (first | refine bn_ ?_ _ | refine bd_ ?_ | refine ba_ ?_ _)); refine bp_ (cs := #[.int .i64 0, .int .u64 0]) ?_ 0 _ rfl; (with_reducible repeat (first | refine bn_ ?_ _ | refine bd_ ?_ | refine ba_ ?_ _)); exact BK306.out) Try.underlying66 rfl (by kernel_rfl)) rfl ?_
        exact ⟨by first | rfl | (simp [errW_none, errW_some] <;> rfl) | (simp [*, errW_none, errW_some] <;> rfl), bw_⟩
       ·
        replace c22 := Bool.eq_false_iff.mpr c22
        subst c22
        have H1 : ((fixed_signed.f kj12 (IntKind.u64.wrap (Int.tdiv t138 t141)) t142 x10_12).bind fun bt148 => (some (bt148.1, bt148.2.1, bt148.2.2))) = some (r1, r2, r3) := by rw [if_neg (show ¬ (false = true) by decide)] at H; exact H
        clear H
        have H := H1
        clear H1
        replace H := os_ H
        obtain ⟨⟨t148, t149, t150⟩, A270, H⟩ := H
        replace H : (some (t148, t149, t150)) = some (r1, r2, r3) := H
        have A27 := A_ A270
        clear A270
        simp only [Option.some.injEq, Prod.mk.injEq] at H
        obtain ⟨rfl, rfl, rfl⟩ := H
        go_wp2_with (first | (go_at_call 76; (with_reducible refine (fixed_size.calls a1 t141 _ A18.out).mono ?_); rintro e w' ⟨rfl, ⟨nd, rfl⟩⟩; (try first | exact ⟨rfl, _, dd_ _ _ _⟩ | exact ⟨rfl, _, Eq.trans (dd_ _ _ _) (congrArg (World.drewN _) (Nat.add_assoc _ _ _))⟩)) | (go_at_call 77; (with_reducible refine (bits_Div64.calls kj12 (Int.tmod t138 t141) t139 t141 t142 t143 _ A20.out).mono ?_); rintro e w' ⟨rfl, ⟨nd, rfl⟩⟩; (try first | exact ⟨rfl, _, dd_ _ _ _⟩ | exact ⟨rfl, _, Eq.trans (dd_ _ _ _) (congrArg (World.drewN _) (Nat.add_assoc _ _ _))⟩)) | (go_at_call 78; (with_reducible refine (fixed_up.calls a2 x10_12 ((Go.bits .and .u64 t142 1) == 1) t143 t141 false _ A21.out).mono ?_); rintro e w' ⟨rfl, ⟨nd, rfl⟩⟩; (try first | exact ⟨rfl, _, dd_ _ _ _⟩ | exact ⟨rfl, _, Eq.trans (dd_ _ _ _) (congrArg (World.drewN _) (Nat.add_assoc _ _ _))⟩)) | (go_at_call 80; (with_reducible refine (fixed_signed.calls kj12 (IntKind.u64.wrap (Int.tdiv t138 t141)) t142 x10_12 t148 t149 t150 _ A27.out).mono ?_); rintro e w28 ⟨rfl, hb⟩; have n0_ := A_ (kb_ BK303 hb); have n1_ := A_ (kb_ BK306 hb); have n2_ := A_ (bs_ bw_ hb); clear BK303; clear BK306; clear HB; have BK303 := n0_; have BK306 := n1_; have HB := n2_; clear n0_ n1_ n2_; (try clear hb); (try clear hb2); (try clear hk); (try clear hi); have hnb29 := NB306_303.out; have hnc29 := NB303_306.out; have hcz30_0 : w28.cell? ⟨gb306, 0, none⟩ = some (.int .i64 0) := (bc_ BK306.out 0).trans rfl; have hcz30_1 : w28.cell? ⟨gb306, 1, none⟩ = some (.int .u64 0) := (bc_ BK306.out 1).trans rfl; have hfz30_0 := bf_ BK306.out 0; have hfz30_1 := bf_ BK306.out 1))
        repeat (go_quiet (first | (go_at_call 76; (with_reducible refine (fixed_size.calls a1 t141 _ A18.out).mono ?_); rintro e w' ⟨rfl, ⟨nd, rfl⟩⟩; (try first | exact ⟨rfl, _, dd_ _ _ _⟩ | exact ⟨rfl, _, Eq.trans (dd_ _ _ _) (congrArg (World.drewN _) (Nat.add_assoc _ _ _))⟩)) | (go_at_call 77; (with_reducible refine (bits_Div64.calls kj12 (Int.tmod t138 t141) t139 t141 t142 t143 _ A20.out).mono ?_); rintro e w' ⟨rfl, ⟨nd, rfl⟩⟩; (try first | exact ⟨rfl, _, dd_ _ _ _⟩ | exact ⟨rfl, _, Eq.trans (dd_ _ _ _) (congrArg (World.drewN _) (Nat.add_assoc _ _ _))⟩)) | (go_at_call 78; (with_reducible refine (fixed_up.calls a2 x10_12 ((Go.bits .and .u64 t142 1) == 1) t143 t141 false _ A21.out).mono ?_); rintro e w' ⟨rfl, ⟨nd, rfl⟩⟩; (try first | exact ⟨rfl, _, dd_ _ _ _⟩ | exact ⟨rfl, _, Eq.trans (dd_ _ _ _) (congrArg (World.drewN _) (Nat.add_assoc _ _ _))⟩)) | (go_at_call 80; (with_reducible refine (fixed_signed.calls kj12 (IntKind.u64.wrap (Int.tdiv t138 t141)) t142 x10_12 t148 t149 t150 _ A27.out).mono ?_); rintro e w28 ⟨rfl, hb⟩; have n0_ := A_ (kb_ BK303 hb); have n1_ := A_ (kb_ BK306 hb); have n2_ := A_ (bs_ bw_ hb); clear BK303; clear BK306; clear HB; have BK303 := n0_; have BK306 := n1_; have HB := n2_; clear n0_ n1_ n2_; (try clear hb); (try clear hb2); (try clear hk); (try clear hi); have hnb29 := NB306_303.out; have hnc29 := NB303_306.out; have hcz30_0 : w28.cell? ⟨gb306, 0, none⟩ = some (.int .i64 0) := (bc_ BK306.out 0).trans rfl; have hcz30_1 : w28.cell? ⟨gb306, 1, none⟩ = some (.int .u64 0) := (bc_ BK306.out 1).trans rfl; have hfz30_0 := bf_ BK306.out 0; have hfz30_1 := bf_ BK306.out 1)); try go_wp2_with (first | (go_at_call 76; (with_reducible refine (fixed_size.calls a1 t141 _ A18.out).mono ?_); rintro e w' ⟨rfl, ⟨nd, rfl⟩⟩; (try first | exact ⟨rfl, _, dd_ _ _ _⟩ | exact ⟨rfl, _, Eq.trans (dd_ _ _ _) (congrArg (World.drewN _) (Nat.add_assoc _ _ _))⟩)) | (go_at_call 77; (with_reducible refine (bits_Div64.calls kj12 (Int.tmod t138 t141) t139 t141 t142 t143 _ A20.out).mono ?_); rintro e w' ⟨rfl, ⟨nd, rfl⟩⟩; (try first | exact ⟨rfl, _, dd_ _ _ _⟩ | exact ⟨rfl, _, Eq.trans (dd_ _ _ _) (congrArg (World.drewN _) (Nat.add_assoc _ _ _))⟩)) | (go_at_call 78; (with_reducible refine (fixed_up.calls a2 x10_12 ((Go.bits .and .u64 t142 1) == 1) t143 t141 false _ A21.out).mono ?_); rintro e w' ⟨rfl, ⟨nd, rfl⟩⟩; (try first | exact ⟨rfl, _, dd_ _ _ _⟩ | exact ⟨rfl, _, Eq.trans (dd_ _ _ _) (congrArg (World.drewN _) (Nat.add_assoc _ _ _))⟩)) | (go_at_call 80; (with_reducible refine (fixed_signed.calls kj12 (IntKind.u64.wrap (Int.tdiv t138 t141)) t142 x10_12 t148 t149 t150 _ A27.out).mono ?_); rintro e w28 ⟨rfl, hb⟩; have n0_ := A_ (kb_ BK303 hb); have n1_ := A_ (kb_ BK306 hb); have n2_ := A_ (bs_ bw_ hb); clear BK303; clear BK306; clear HB; have BK303 := n0_; have BK306 := n1_; have HB := n2_; clear n0_ n1_ n2_; (try clear hb); (try clear hb2); (try clear hk); (try clear hi); have hnb29 := NB306_303.out; have hnc29 := NB303_306.out; have hcz30_0 : w28.cell? ⟨gb306, 0, none⟩ = some (.int .i64 0) := (bc_ BK306.out 0).trans rfl; have hcz30_1 : w28.cell? ⟨gb306, 1, none⟩ = some (.int .u64 0) := (bc_ BK306.out 1).trans rfl; have hfz30_0 := bf_ BK306.out 0; have hfz30_1 := bf_ BK306.out 1)))
        refine bodyPost_ret (results_ct rfl _ _ gb306 66 #[.int .i64 t148, .int .u64 t149] (0, 0) _ rfl (by (with_reducible repeat (first | refine bn_ ?_ _ | refine bd_ ?_ | refine ba_ ?_ _)); refine bp_ (cs := #[.int .i64 t148, .int .u64 0]) ?_ 1 _ rfl; (with_reducible repeat (first | refine bn_ ?_ _ | refine bd_ ?_ | refine ba_ ?_ _)); refine bp_ (cs := #[.int .i64 0, .int .u64 0]) ?_ 0 _ rfl; (with_reducible repeat (first | refine bn_ ?_ _ | refine bd_ ?_ | refine ba_ ?_ _)); exact BK306.out) Try.underlying66 rfl (by kernel_rfl)) rfl ?_
        exact ⟨by first | rfl | (simp [errW_none, errW_some] <;> rfl) | (simp [*, errW_none, errW_some] <;> rfl), bw_⟩
end Go.Proofs.Ytfbkgfffalppmaa.Wf
end
section
namespace Go.Proofs.Ytfbkgfffalppmaa.Wf
open Go.RowKit Go.Proofs.YtfbkgfffalppmaaW.PrintWords Go.Proofs.YtfbkgfffalppmaaW.PrintLast Go.Proofs.YtfbkgfffalppmaaW.PrintMore
attribute [local go_sem] max2_int min2_int max_two min_two max_three min_three max_four min_four   -- for this text's walks alone
set_option linter.unusedVariables false
set_option linter.unusedSimpArgs false
attribute [local go_sem] run_add64_any
theorem eqA52 (d : Nat) (w : World) (x0 y0 : ByteArray) (x1 y1 : ByteArray) (x2 y2 : Int) :
  (Op.equalIn (d + 2) 52 (.agg #[.string x0, .string x1, .int .i64 x2]) (.agg #[.string y0, .string y1, .int .i64 y2])).run Try.prog w = .ok (x0.toList == y0.toList && (x1.toList == y1.toList && (x2 == y2))) w := by
 refine eqA_of Try.underlying52 (by kernel_rfl) ?_
 refine eqf_cons (by rfl) (by go_simp; rfl) (by go_simp; rfl) (by go_simp) ?_
 refine eqf_cons (by rfl) (by go_simp; rfl) (by go_simp; rfl) (by go_simp) ?_
 exact eqf_last (by rfl) (by go_simp; rfl) (by go_simp; rfl) (by go_simp)
end Go.Proofs.Ytfbkgfffalppmaa.Wf
end
section
namespace Go.Proofs.Ytfbkgfffalppmaa.Wf
open Go.RowKit Go.Proofs.YtfbkgfffalppmaaW.PrintWords Go.Proofs.YtfbkgfffalppmaaW.PrintLast Go.Proofs.YtfbkgfffalppmaaW.PrintMore
attribute [local go_sem] max2_int min2_int max_two min_two max_three min_three max_four min_four   -- for this text's walks alone
set_option linter.unusedVariables false
set_option linter.unusedSimpArgs false
attribute [local go_sem] run_add64_any
def waterfall_below.f (a0_0 : ByteArray) (a0_1 : Int) : Option (Bool) := some (decide (a0_1 < 0))
theorem waterfall_below.calls (a0_0 : ByteArray) (a0_1 : Int) (r : Bool) (w : World) (h : waterfall_below.f a0_0 a0_1 = some r) : Calls Try.prog 32 #[.agg #[.string a0_0, .int .i64 a0_1]] w fun e w' => e = .returned (.bool r) ∧ Below w.heap.size w w' := by
 obtain rfl := Option.some.inj h
 clear h
 go_enter Try.func32, Try.ntmps32
 go_wp2
 go_ret
 exact ⟨rfl, bl_ (Below.refl _ _) _⟩
def waterfall_below.ix {α : Type} (p : α → Bool) (l : List α) : Int := match l.findIdx? p with
 | some i => (i : Int)
 | none => -1
theorem waterfall_below.ix_at {α : Type} {p : α → Bool} {l : List α} {z : α} {k : Nat} (hk : k < l.length) (h : ∀ j, j < k → p (l.getD j z) = false) (hp : p (l.getD k z) = true) : waterfall_below.ix p l = (k : Int) := by
 have e : l.findIdx? p = some k := by
  rw [List.findIdx?_eq_some_iff_getElem]
  refine ⟨hk, ?_, fun j hj => ?_⟩
  ·
   rw [List.getD_eq_getElem?_getD, List.getElem?_eq_getElem hk] at hp
   exact hp
  ·
   have h1 := h j hj
   rw [List.getD_eq_getElem?_getD, List.getElem?_eq_getElem (by omega)] at h1
   simpa using h1
 unfold waterfall_below.ix
 rw [e]
theorem waterfall_below.ix_no {α : Type} {p : α → Bool} {l : List α} {z : α} (h : ∀ j, j < l.length → p (l.getD j z) = false) : waterfall_below.ix p l = -1 := by
 have e : l.findIdx? p = none := by
  rw [List.findIdx?_eq_none_iff]
  intro x hx
  obtain ⟨j, hj, rfl⟩ := List.mem_iff_getElem.1 hx
  have h1 := h j hj
  rw [List.getD_eq_getElem?_getD, List.getElem?_eq_getElem hj] at h1
  exact h1
 unfold waterfall_below.ix
 rw [e]
theorem waterfall_below.ix_any {α : Type} (p : α → Bool) (l : List α) : decide (waterfall_below.ix p l ≥ 0) = l.any p := by
 unfold waterfall_below.ix
 cases h : l.findIdx? p with
 | none =>
  rw [List.findIdx?_eq_none_iff] at h
  have : l.any p = false := by rw [List.any_eq_false]; intro x hx; rw [h x hx]; simp
  rw [this]
  simp
 | some i =>
  rw [List.findIdx?_eq_some_iff_getElem] at h
  obtain ⟨hi, hp, _⟩ := h
  have : l.any p = true := List.any_eq_true.2 ⟨_, List.getElem_mem hi, hp⟩
  rw [this]
  simp
set_option maxRecDepth 20000 in
set_option maxHeartbeats 2000000 in
theorem waterfall_below.below_ix (A : Option Addr) (c : Nat) (l : List S74) (w : World) (hC : Kd.C k74 w A l.length l) (hc : l.length ≤ c) : Calls Try.prog 60 #[.slice A l.length c, .func (.func 32) #[] #[]] w fun e w' => e = .returned (.int .i64 (waterfall_below.ix (fun x : S74 => decide (x.f1 < 0)) l)) ∧ Below w.heap.size w w' := by
 have HR := A_ hC
 have hmax : l.length ≤ 9223372036854775807 := Kd.C_max hC
 clear hC
 go_enter Try.func60, Try.ntmps60
 go_wp2
 go_loopw [8] (fun v8 wr => ∃ k : Nat, k ≤ l.length ∧ v8 = .int .i64 k ∧ Aside0 (∀ j, j < k → (fun x : S74 => decide (x.f1 < 0)) (l.getD j z74) = false) ∧ Aside0 (Below w.heap.size w wr)) (fun v8 _ => l.length - (intOf v8).toNat)
 case atStart => exact ⟨0, Nat.zero_le _, rfl, ⟨fun j hj => absurd hj (Nat.not_lt_zero j)⟩, ⟨Below.refl _ _⟩⟩
 case round =>
  obtain ⟨k, hk, rfl, HN, HB⟩ := hrel
  by_cases hkl : k < l.length
  ·
   obtain ⟨ad, rfl, he0, he1⟩ := at_T74 (cb_ HR.out HB.out) (k : Int) (by omega) (by omega)
   simp only [Int.toNat_natCast] at he0 he1
   obtain ⟨b, hb⟩ : ∃ b, (fun x : S74 => decide (x.f1 < 0)) (l.getD k z74) = b := ⟨_, rfl⟩
   have HP := A_ hb
   clear hb
   have hx : rd_T74 l (k : Int) = l.getD k z74 := by unfold rd_T74; rw [Int.toNat_natCast]
   rw [hx] at he0 he1
   clear hx
   generalize hxe : l.getD k z74 = x at *
   have HX := A_ hxe
   clear hxe
   go_wp2_with fail
   refine (waterfall_below.calls x.f0 x.f1 _ wr rfl).mono ?_
   rintro e w1 ⟨rfl, hb⟩
   rw [HP.out]
   have HB1 := A_ (bs_ HB.out hb)
   clear hb HB
   cases b
   ·
    go_wp2
    go_roundw
    case rel =>
     refine ⟨k + 1, by omega, by go_num, ⟨fun j hj => ?_⟩, HB1⟩
     rcases Nat.lt_succ_iff_lt_or_eq.1 hj with h | rfl
     ·
      exact HN.out j h
     ·
      rw [HX.out]; exact HP.out
    case measure => simp [intOf]; omega
   ·
    have HE := A_ (waterfall_below.ix_at (p := (fun x : S74 => decide (x.f1 < 0))) hkl HN.out (by rw [HX.out]; exact HP.out))
    go_wp2
    go_ret
    exact ⟨by rw [HE.out]; rfl, HB1.out⟩
  ·
   obtain rfl : k = l.length := by omega
   have HE := A_ (waterfall_below.ix_no (p := (fun x : S74 => decide (x.f1 < 0))) (l := l) (z := z74) HN.out)
   go_wp2
   go_ret
   exact ⟨by rw [HE.out]; rfl, HB.out⟩
set_option maxRecDepth 20000 in
theorem waterfall_below.below_any (A : Option Addr) (c : Nat) (l : List S74) (w : World) (hC : Kd.C k74 w A l.length l) (hc : l.length ≤ c) : Calls Try.prog 31 #[.slice A l.length c, .func (.func 32) #[] #[]] w fun e w' => e = .returned (.bool (l.any (fun x : S74 => decide (x.f1 < 0)))) ∧ Below w.heap.size w w' := by
 have HR := A_ hC
 clear hC
 have HE := A_ (waterfall_below.ix_any (fun x : S74 => decide (x.f1 < 0)) l)
 go_enter Try.func31, Try.ntmps31
 go_wp2_with fail
 refine (waterfall_below.below_ix A c l  w HR.out hc).mono ?_
 rintro e w1 ⟨rfl, hb⟩
 go_wp2
 go_ret
 exact ⟨by rw [← HE.out]; rfl, hb⟩
theorem waterfall_below.cellk {W w1 : World} {q : Addr} {v : Value} (h : W.cell? q = some v) (hb : Below W.heap.size W w1) : w1.cell? q = some v := by
 have hl : q.block < W.heap.size := by
  rcases Nat.lt_or_ge q.block W.heap.size with h2 | h2
  ·
   exact h2
  ·
   simp [World.cell?, Array.getElem?_eq_none h2] at h
 exact (hb.cell hl).trans h
set_option maxRecDepth 20000 in
theorem waterfall_below.layerName_c (s : ByteArray) (v : Value) (w : World) : Calls Try.prog 47 #[.agg #[.string s, v]] w fun e w' => e = .returned (.string s) ∧ Below w.heap.size w w' := by
 go_enter Try.func47, Try.ntmps47
 go_wp2
 go_ret
 exact ⟨rfl, bl_ (Below.refl _ _) _⟩
set_option maxRecDepth 20000 in
theorem waterfall_below.partName_c (s : ByteArray) (v : Value) (w : World) : Calls Try.prog 51 #[.agg #[.string s, v]] w fun e w' => e = .returned (.string s) ∧ Below w.heap.size w w' := by
 go_enter Try.func51, Try.ntmps51
 go_wp2
 go_ret
 exact ⟨rfl, bl_ (Below.refl _ _) _⟩
set_option maxRecDepth 20000 in
set_option maxHeartbeats 2000000 in
theorem waterfall_below.same_part (s s2 : ByteArray) (v v2 : Value) (b1 b2 : Nat) (w : World) (h1 : w.heap[b1]? = some (.cells #[.func (.func 51) #[] #[]] 96 (0, 0))) (h2 : w.heap[b2]? = some (.cells #[.string s2, v2] 74 (0, 0))) :
  Calls Try.prog 65 #[.agg #[.string s, v], .pointer (some ⟨b1, 0, none⟩), .pointer (some ⟨b2, 0, none⟩)] w fun e w' => e = .returned (.bool (s2.toList == s.toList)) ∧ Below w.heap.size w w' := by
 go_enter Try.func65, Try.ntmps65
 go_wp2
 have a1 : (w.alloc (.cells #[.string s, v] 74)).cell? ⟨b1, 0, none⟩ = some (.func (.func 51) #[] #[]) := (bc_ (ba_ h1 _) 0).trans rfl
 have a2 : (w.alloc (.cells #[.string s, v] 74)).cell? ⟨b2, 0, none⟩ = some (.string s2) := (bc_ (ba_ h2 _) 0).trans rfl
 have a3 : (w.alloc (.cells #[.string s, v] 74)).cell? ⟨b2, 1, none⟩ = some v2 := (bc_ (ba_ h2 _) 1).trans rfl
 have a4 : (w.alloc (.cells #[.string s, v] 74)).cell? ⟨w.heap.size, 0, none⟩ = some (.string s) := by go_simp
 have a5 : (w.alloc (.cells #[.string s, v] 74)).cell? ⟨w.heap.size, 1, none⟩ = some v := by go_simp
 have a6 : Below w.heap.size w (w.alloc (.cells #[.string s, v] 74)) := bl_ (Below.refl _ _) _
 go_region_held3 (fun w' => w'.cell? ⟨b1, 0, none⟩ = some (.func (.func 51) #[] #[]) ∧ w'.cell? ⟨b2, 0, none⟩ = some (.string s2) ∧ w'.cell? ⟨b2, 1, none⟩ = some v2 ∧ w'.cell? ⟨w.heap.size, 0, none⟩ = some (.string s) ∧ w'.cell? ⟨w.heap.size, 1, none⟩ = some v ∧ Below w.heap.size w w') (((try obtain ⟨k1, k2, k3, k4, k5, k6⟩ := ‹_ ∧ _›); refine ⟨?_, ?_, ?_, ?_, ?_, ?_⟩ <;> (first | (refine waterfall_below.cellk ?_ hb; assumption) | (refine bs_ ?_ hb; first | assumption | (refine b1_ ?_; assumption)) | (refine b1_ ?_; assumption) | assumption))) (first | (go_at_call 51; refine (waterfall_below.partName_c _ _ _).mono ?_; rintro e w' ⟨rfl, hb⟩))
 all_goals
  obtain ⟨k1, k2, k3, k4, k5, k6⟩ := ‹_ ∧ _›
  go_wp2
  go_ret
  exact ⟨rfl, k6⟩
set_option maxRecDepth 20000 in
set_option maxHeartbeats 2000000 in
theorem waterfall_below.spart_ix (A : Option Addr) (c : Nat) (l : List S74) (s2 : ByteArray) (v2 : Value) (b1 b2 : Nat) (w : World) (hC : Kd.C k74 w A l.length l) (hc : l.length ≤ c) (h1 : w.heap[b1]? = some (.cells #[.func (.func 51) #[] #[]] 96 (0, 0))) (h2 : w.heap[b2]? = some (.cells #[.string s2, v2] 74 (0, 0))) : Calls Try.prog 60 #[.slice A l.length c, .func (.func 65) #[] #[.pointer (some ⟨b1, 0, none⟩), .pointer (some ⟨b2, 0, none⟩)]] w fun e w' => e = .returned (.int .i64 (waterfall_below.ix (fun x : S74 => s2.toList == x.f0.toList) l)) ∧ Below w.heap.size w w' := by
 have HR := A_ hC
 have hmax : l.length ≤ 9223372036854775807 := Kd.C_max hC
 clear hC
 have H1 := A_ h1
 have H2 := A_ h2
 clear h1 h2
 go_enter Try.func60, Try.ntmps60
 go_wp2
 go_loopw [8] (fun v8 wr => ∃ k : Nat, k ≤ l.length ∧ v8 = .int .i64 k ∧ Aside0 (∀ j, j < k → (fun x : S74 => s2.toList == x.f0.toList) (l.getD j z74) = false) ∧ Aside0 (Below w.heap.size w wr)) (fun v8 _ => l.length - (intOf v8).toNat)
 case atStart => exact ⟨0, Nat.zero_le _, rfl, ⟨fun j hj => absurd hj (Nat.not_lt_zero j)⟩, ⟨Below.refl _ _⟩⟩
 case round =>
  obtain ⟨k, hk, rfl, HN, HB⟩ := hrel
  by_cases hkl : k < l.length
  ·
   obtain ⟨ad, rfl, he0, he1⟩ := at_T74 (cb_ HR.out HB.out) (k : Int) (by omega) (by omega)
   simp only [Int.toNat_natCast] at he0 he1
   obtain ⟨b, hb⟩ : ∃ b, (fun x : S74 => s2.toList == x.f0.toList) (l.getD k z74) = b := ⟨_, rfl⟩
   have HP := A_ hb
   clear hb
   have hx : rd_T74 l (k : Int) = l.getD k z74 := by unfold rd_T74; rw [Int.toNat_natCast]
   rw [hx] at he0 he1
   clear hx
   generalize hxe : l.getD k z74 = x at *
   have HX := A_ hxe
   clear hxe
   go_wp2_with fail
   refine (waterfall_below.same_part x.f0 s2 (.int .i64 x.f1) v2 b1 b2 wr (blk_below H1.out HB.out) (blk_below H2.out HB.out)).mono ?_
   rintro e w1 ⟨rfl, hb⟩
   rw [HP.out]
   have HB1 := A_ (bs_ HB.out hb)
   clear hb HB
   cases b
   ·
    go_wp2
    go_roundw
    case rel =>
     refine ⟨k + 1, by omega, by go_num, ⟨fun j hj => ?_⟩, HB1⟩
     rcases Nat.lt_succ_iff_lt_or_eq.1 hj with h | rfl
     ·
      exact HN.out j h
     ·
      rw [HX.out]; exact HP.out
    case measure => simp [intOf]; omega
   ·
    have HE := A_ (waterfall_below.ix_at (p := (fun x : S74 => s2.toList == x.f0.toList)) hkl HN.out (by rw [HX.out]; exact HP.out))
    go_wp2
    go_ret
    exact ⟨by rw [HE.out]; rfl, HB1.out⟩
  ·
   obtain rfl : k = l.length := by omega
   have HE := A_ (waterfall_below.ix_no (p := (fun x : S74 => s2.toList == x.f0.toList)) (l := l) (z := z74) HN.out)
   go_wp2
   go_ret
   exact ⟨by rw [HE.out]; rfl, HB.out⟩
set_option maxRecDepth 20000 in
theorem waterfall_below.spart_any (A : Option Addr) (c : Nat) (l : List S74) (s2 : ByteArray) (v2 : Value) (b1 b2 : Nat) (w : World) (hC : Kd.C k74 w A l.length l) (hc : l.length ≤ c) (h1 : w.heap[b1]? = some (.cells #[.func (.func 51) #[] #[]] 96 (0, 0))) (h2 : w.heap[b2]? = some (.cells #[.string s2, v2] 74 (0, 0))) : Calls Try.prog 31 #[.slice A l.length c, .func (.func 65) #[] #[.pointer (some ⟨b1, 0, none⟩), .pointer (some ⟨b2, 0, none⟩)]] w fun e w' => e = .returned (.bool (l.any (fun x : S74 => s2.toList == x.f0.toList))) ∧ Below w.heap.size w w' := by
 have HR := A_ hC
 clear hC
 have HE := A_ (waterfall_below.ix_any (fun x : S74 => s2.toList == x.f0.toList) l)
 have H1 := A_ h1
 have H2 := A_ h2
 clear h1 h2
 go_enter Try.func31, Try.ntmps31
 go_wp2_with fail
 refine (waterfall_below.spart_ix A c l s2 v2 b1 b2 w HR.out hc H1.out H2.out).mono ?_
 rintro e w1 ⟨rfl, hb⟩
 go_wp2
 go_ret
 exact ⟨by rw [← HE.out]; rfl, hb⟩
theorem waterfall_below.cut_part (A : Option Addr) (c : Nat) (l : List S74) (k : Nat) (hk : k ≤ l.length) (hc : l.length ≤ c) (W : World) : (Instr.slice 33 (.slice A l.length c) none (some (.int .i64 (k : Int))) none).run Try.prog W = .ok (.slice A k c) W := by
 have hinfo : (Try.prog.info? 74).map (fun i => (i.zero, i.size, i.bytes)) = some (some (.agg #[.string ⟨#[]⟩, .int .i64 0]), 2, 24) := by kernel_rfl
 obtain ⟨i0, hi, hz0, hz1, hz2⟩ := info_parts hinfo
 have h := cut_to (P := Try.prog) 33 74 .i64 Try.underlying33 hi A l.length c (k : Int) (by omega) (by omega) hc
 rw [Int.toNat_natCast] at h
 exact h W
def waterfall_below.tw_part (l : List S74) : Bool := (List.range l.length).any (fun i => (l.take i).any (fun x => (l.getD i z74).f0.toList == x.f0.toList))
theorem waterfall_below.tw_part_at {l : List S74} {k : Nat} (hk : k < l.length) (h : (l.take k).any (fun x => (l.getD k z74).f0.toList == x.f0.toList) = true) : waterfall_below.tw_part l = true := by
 unfold waterfall_below.tw_part
 exact List.any_eq_true.2 ⟨k, List.mem_range.2 hk, h⟩
theorem waterfall_below.tw_part_no {l : List S74} (h : ∀ j, j < l.length → (l.take j).any (fun x => (l.getD j z74).f0.toList == x.f0.toList) = false) : waterfall_below.tw_part l = false := by
 unfold waterfall_below.tw_part
 rw [List.any_eq_false]
 intro j hj
 rw [h j (List.mem_range.1 hj)]
 simp
set_option maxRecDepth 20000 in
set_option maxHeartbeats 2000000 in
theorem waterfall_below.twice_part (A : Option Addr) (c : Nat) (l : List S74) (w : World) (hC : Kd.C k74 w A l.length l) (hc : l.length ≤ c) : Calls Try.prog 50 #[.slice A l.length c, .func (.func 51) #[] #[]] w fun e w' => e = .returned (.bool (waterfall_below.tw_part l)) ∧ Below w.heap.size w w' := by
 have HR := A_ hC
 have hmax : l.length ≤ 9223372036854775807 := Kd.C_max hC
 clear hC
 go_enter Try.func50, Try.ntmps50
 go_wp2
 go_loopw [9] (fun v9 wr => ∃ k : Nat, k ≤ l.length ∧ v9 = .int .i64 k ∧ Aside0 (∀ j, j < k → (l.take j).any (fun x => (l.getD j z74).f0.toList == x.f0.toList) = false) ∧ Aside0 (wr.heap[w.heap.size]? = some (.cells #[.func (.func 51) #[] #[]] 96 (0, 0))) ∧ Aside0 (Below w.heap.size w wr)) (fun v9 _ => l.length - (intOf v9).toNat)
 case atStart => exact ⟨0, Nat.zero_le _, rfl, ⟨fun j hj => absurd hj (Nat.not_lt_zero j)⟩, ⟨heap_alloc_new w _⟩, ⟨bl_ (Below.refl _ _) _⟩⟩
 case round =>
  obtain ⟨k, hk, rfl, HN, HF, HB⟩ := hrel
  by_cases hkl : k < l.length
  ·
   obtain ⟨ad, rfl, he0, he1⟩ := at_T74 (cb_ HR.out HB.out) (k : Int) (by omega) (by omega)
   simp only [Int.toNat_natCast] at he0 he1
   have hx : rd_T74 l (k : Int) = l.getD k z74 := by unfold rd_T74; rw [Int.toNat_natCast]
   rw [hx] at he0 he1
   clear hx
   obtain ⟨b, hb⟩ : ∃ b, (l.take k).any (fun x => (l.getD k z74).f0.toList == x.f0.toList) = b := ⟨_, rfl⟩
   have HP := A_ hb
   clear hb
   have HT := A_ (Kd.C_take (cb_ HR.out HB.out) (Nat.le_of_lt hkl))
   have hcut : ∀ W : World, (Instr.slice 33 (.slice (some ad) l.length c) none (some (.int .i64 (k : Int))) none).run Try.prog W = .ok (.slice (some ad) k c) W := fun W => waterfall_below.cut_part (some ad) c l k (Nat.le_of_lt hkl) hc W
   generalize hxe : l.getD k z74 = x at *
   have HX := A_ hxe
   clear hxe
   have hl : (l.take k).length = k := by rw [List.length_take]; omega
   go_wp2_with fail
   have HK := waterfall_below.spart_any (some ad) c (l.take k) x.f0 (.int .i64 x.f1) w.heap.size wr.heap.size (wr.alloc (.cells #[.string x.f0, (.int .i64 x.f1)] 74)) (ca_ HT.out _) (by omega) (ba_ HF.out _) (heap_alloc_new wr _)
   rw [hl] at HK
   refine HK.mono ?_
   rintro e w1 ⟨rfl, hb⟩
   rw [HP.out]
   have HB1 := A_ (bs_ (bl_ HB.out _) hb)
   have HF1 := A_ (blk_below (ba_ HF.out _) hb)
   clear hb HB HF HT hcut
   cases b
   ·
    go_wp2
    go_roundw
    case rel =>
     refine ⟨k + 1, by omega, by go_num, ⟨fun j hj => ?_⟩, HF1, HB1⟩
     rcases Nat.lt_succ_iff_lt_or_eq.1 hj with h | rfl
     ·
      exact HN.out j h
     ·
      rw [HX.out]; exact HP.out
    case measure => simp [intOf]; omega
   ·
    have HE := A_ (waterfall_below.tw_part_at (l := l) hkl (by rw [HX.out]; exact HP.out))
    go_wp2
    go_ret
    exact ⟨by rw [HE.out]; rfl, HB1.out⟩
  ·
   obtain rfl : k = l.length := by omega
   have HE := A_ (waterfall_below.tw_part_no (l := l) HN.out)
   go_wp2
   go_ret
   exact ⟨by rw [HE.out]; rfl, HB.out⟩
set_option maxRecDepth 20000 in
set_option maxHeartbeats 2000000 in
theorem waterfall_below.same_layer (s s2 : ByteArray) (v v2 : Value) (b1 b2 : Nat) (w : World) (h1 : w.heap[b1]? = some (.cells #[.func (.func 47) #[] #[]] 93 (0, 0))) (h2 : w.heap[b2]? = some (.cells #[.string s2, v2] 35 (0, 0))) :
  Calls Try.prog 63 #[.agg #[.string s, v], .pointer (some ⟨b1, 0, none⟩), .pointer (some ⟨b2, 0, none⟩)] w fun e w' => e = .returned (.bool (s2.toList == s.toList)) ∧ Below w.heap.size w w' := by
 go_enter Try.func63, Try.ntmps63
 go_wp2
 have a1 : (w.alloc (.cells #[.string s, v] 35)).cell? ⟨b1, 0, none⟩ = some (.func (.func 47) #[] #[]) := (bc_ (ba_ h1 _) 0).trans rfl
 have a2 : (w.alloc (.cells #[.string s, v] 35)).cell? ⟨b2, 0, none⟩ = some (.string s2) := (bc_ (ba_ h2 _) 0).trans rfl
 have a3 : (w.alloc (.cells #[.string s, v] 35)).cell? ⟨b2, 1, none⟩ = some v2 := (bc_ (ba_ h2 _) 1).trans rfl
 have a4 : (w.alloc (.cells #[.string s, v] 35)).cell? ⟨w.heap.size, 0, none⟩ = some (.string s) := by go_simp
 have a5 : (w.alloc (.cells #[.string s, v] 35)).cell? ⟨w.heap.size, 1, none⟩ = some v := by go_simp
 have a6 : Below w.heap.size w (w.alloc (.cells #[.string s, v] 35)) := bl_ (Below.refl _ _) _
 go_region_held3 (fun w' => w'.cell? ⟨b1, 0, none⟩ = some (.func (.func 47) #[] #[]) ∧ w'.cell? ⟨b2, 0, none⟩ = some (.string s2) ∧ w'.cell? ⟨b2, 1, none⟩ = some v2 ∧ w'.cell? ⟨w.heap.size, 0, none⟩ = some (.string s) ∧ w'.cell? ⟨w.heap.size, 1, none⟩ = some v ∧ Below w.heap.size w w') (((try obtain ⟨k1, k2, k3, k4, k5, k6⟩ := ‹_ ∧ _›); refine ⟨?_, ?_, ?_, ?_, ?_, ?_⟩ <;> (first | (refine waterfall_below.cellk ?_ hb; assumption) | (refine bs_ ?_ hb; first | assumption | (refine b1_ ?_; assumption)) | (refine b1_ ?_; assumption) | assumption))) (first | (go_at_call 47; refine (waterfall_below.layerName_c _ _ _).mono ?_; rintro e w' ⟨rfl, hb⟩))
 all_goals
  obtain ⟨k1, k2, k3, k4, k5, k6⟩ := ‹_ ∧ _›
  go_wp2
  go_ret
  exact ⟨rfl, k6⟩
set_option maxRecDepth 20000 in
set_option maxHeartbeats 2000000 in
theorem waterfall_below.slayer_ix (A : Option Addr) (c : Nat) (l : List S35) (s2 : ByteArray) (v2 : Value) (b1 b2 : Nat) (w : World) (hC : Kd.C k35 w A l.length l) (hc : l.length ≤ c) (h1 : w.heap[b1]? = some (.cells #[.func (.func 47) #[] #[]] 93 (0, 0))) (h2 : w.heap[b2]? = some (.cells #[.string s2, v2] 35 (0, 0))) : Calls Try.prog 64 #[.slice A l.length c, .func (.func 63) #[] #[.pointer (some ⟨b1, 0, none⟩), .pointer (some ⟨b2, 0, none⟩)]] w fun e w' => e = .returned (.int .i64 (waterfall_below.ix (fun x : S35 => s2.toList == x.f0.toList) l)) ∧ Below w.heap.size w w' := by
 have HR := A_ hC
 have hmax : l.length ≤ 9223372036854775807 := Kd.C_max hC
 clear hC
 have H1 := A_ h1
 have H2 := A_ h2
 clear h1 h2
 go_enter Try.func64, Try.ntmps64
 go_wp2
 go_loopw [8] (fun v8 wr => ∃ k : Nat, k ≤ l.length ∧ v8 = .int .i64 k ∧ Aside0 (∀ j, j < k → (fun x : S35 => s2.toList == x.f0.toList) (l.getD j z35) = false) ∧ Aside0 (Below w.heap.size w wr)) (fun v8 _ => l.length - (intOf v8).toNat)
 case atStart => exact ⟨0, Nat.zero_le _, rfl, ⟨fun j hj => absurd hj (Nat.not_lt_zero j)⟩, ⟨Below.refl _ _⟩⟩
 case round =>
  obtain ⟨k, hk, rfl, HN, HB⟩ := hrel
  by_cases hkl : k < l.length
  ·
   obtain ⟨ad, A1, c1, rfl, he0, he1, hl1, hC1⟩ := at_T35 (cb_ HR.out HB.out) (k : Int) (by omega) (by omega)
   simp only [Int.toNat_natCast] at he0 he1
   obtain ⟨b, hb⟩ : ∃ b, (fun x : S35 => s2.toList == x.f0.toList) (l.getD k z35) = b := ⟨_, rfl⟩
   have HP := A_ hb
   clear hb
   have hx : rd_T35 l (k : Int) = l.getD k z35 := by unfold rd_T35; rw [Int.toNat_natCast]
   rw [hx] at he0 he1 hl1 hC1
   clear hx
   generalize hxe : l.getD k z35 = x at *
   have HX := A_ hxe
   clear hxe
   go_wp2_with fail
   refine (waterfall_below.same_layer x.f0 s2 (.slice A1 x.f1.length c1) v2 b1 b2 wr (blk_below H1.out HB.out) (blk_below H2.out HB.out)).mono ?_
   rintro e w1 ⟨rfl, hb⟩
   rw [HP.out]
   have HB1 := A_ (bs_ HB.out hb)
   clear hb HB
   cases b
   ·
    go_wp2
    go_roundw
    case rel =>
     refine ⟨k + 1, by omega, by go_num, ⟨fun j hj => ?_⟩, HB1⟩
     rcases Nat.lt_succ_iff_lt_or_eq.1 hj with h | rfl
     ·
      exact HN.out j h
     ·
      rw [HX.out]; exact HP.out
    case measure => simp [intOf]; omega
   ·
    have HE := A_ (waterfall_below.ix_at (p := (fun x : S35 => s2.toList == x.f0.toList)) hkl HN.out (by rw [HX.out]; exact HP.out))
    go_wp2
    go_ret
    exact ⟨by rw [HE.out]; rfl, HB1.out⟩
  ·
   obtain rfl : k = l.length := by omega
   have HE := A_ (waterfall_below.ix_no (p := (fun x : S35 => s2.toList == x.f0.toList)) (l := l) (z := z35) HN.out)
   go_wp2
   go_ret
   exact ⟨by rw [HE.out]; rfl, HB.out⟩
set_option maxRecDepth 20000 in
theorem waterfall_below.slayer_any (A : Option Addr) (c : Nat) (l : List S35) (s2 : ByteArray) (v2 : Value) (b1 b2 : Nat) (w : World) (hC : Kd.C k35 w A l.length l) (hc : l.length ≤ c) (h1 : w.heap[b1]? = some (.cells #[.func (.func 47) #[] #[]] 93 (0, 0))) (h2 : w.heap[b2]? = some (.cells #[.string s2, v2] 35 (0, 0))) : Calls Try.prog 48 #[.slice A l.length c, .func (.func 63) #[] #[.pointer (some ⟨b1, 0, none⟩), .pointer (some ⟨b2, 0, none⟩)]] w fun e w' => e = .returned (.bool (l.any (fun x : S35 => s2.toList == x.f0.toList))) ∧ Below w.heap.size w w' := by
 have HR := A_ hC
 clear hC
 have HE := A_ (waterfall_below.ix_any (fun x : S35 => s2.toList == x.f0.toList) l)
 have H1 := A_ h1
 have H2 := A_ h2
 clear h1 h2
 go_enter Try.func48, Try.ntmps48
 go_wp2_with fail
 refine (waterfall_below.slayer_ix A c l s2 v2 b1 b2 w HR.out hc H1.out H2.out).mono ?_
 rintro e w1 ⟨rfl, hb⟩
 go_wp2
 go_ret
 exact ⟨by rw [← HE.out]; rfl, hb⟩
theorem waterfall_below.cut_layer (A : Option Addr) (c : Nat) (l : List S35) (k : Nat) (hk : k ≤ l.length) (hc : l.length ≤ c) (W : World) : (Instr.slice 23 (.slice A l.length c) none (some (.int .i64 (k : Int))) none).run Try.prog W = .ok (.slice A k c) W := by
 have hinfo : (Try.prog.info? 35).map (fun i => (i.zero, i.size, i.bytes)) = some (some (.agg #[.string ⟨#[]⟩, .slice none 0 0]), 2, 40) := by kernel_rfl
 obtain ⟨i0, hi, hz0, hz1, hz2⟩ := info_parts hinfo
 have h := cut_to (P := Try.prog) 23 35 .i64 Try.underlying23 hi A l.length c (k : Int) (by omega) (by omega) hc
 rw [Int.toNat_natCast] at h
 exact h W
def waterfall_below.tw_layer (l : List S35) : Bool := (List.range l.length).any (fun i => (l.take i).any (fun x => (l.getD i z35).f0.toList == x.f0.toList))
theorem waterfall_below.tw_layer_at {l : List S35} {k : Nat} (hk : k < l.length) (h : (l.take k).any (fun x => (l.getD k z35).f0.toList == x.f0.toList) = true) : waterfall_below.tw_layer l = true := by
 unfold waterfall_below.tw_layer
 exact List.any_eq_true.2 ⟨k, List.mem_range.2 hk, h⟩
theorem waterfall_below.tw_layer_no {l : List S35} (h : ∀ j, j < l.length → (l.take j).any (fun x => (l.getD j z35).f0.toList == x.f0.toList) = false) : waterfall_below.tw_layer l = false := by
 unfold waterfall_below.tw_layer
 rw [List.any_eq_false]
 intro j hj
 rw [h j (List.mem_range.1 hj)]
 simp
set_option maxRecDepth 20000 in
set_option maxHeartbeats 2000000 in
theorem waterfall_below.twice_layer (A : Option Addr) (c : Nat) (l : List S35) (w : World) (hC : Kd.C k35 w A l.length l) (hc : l.length ≤ c) : Calls Try.prog 46 #[.slice A l.length c, .func (.func 47) #[] #[]] w fun e w' => e = .returned (.bool (waterfall_below.tw_layer l)) ∧ Below w.heap.size w w' := by
 have HR := A_ hC
 have hmax : l.length ≤ 9223372036854775807 := Kd.C_max hC
 clear hC
 go_enter Try.func46, Try.ntmps46
 go_wp2
 go_loopw [9] (fun v9 wr => ∃ k : Nat, k ≤ l.length ∧ v9 = .int .i64 k ∧ Aside0 (∀ j, j < k → (l.take j).any (fun x => (l.getD j z35).f0.toList == x.f0.toList) = false) ∧ Aside0 (wr.heap[w.heap.size]? = some (.cells #[.func (.func 47) #[] #[]] 93 (0, 0))) ∧ Aside0 (Below w.heap.size w wr)) (fun v9 _ => l.length - (intOf v9).toNat)
 case atStart => exact ⟨0, Nat.zero_le _, rfl, ⟨fun j hj => absurd hj (Nat.not_lt_zero j)⟩, ⟨heap_alloc_new w _⟩, ⟨bl_ (Below.refl _ _) _⟩⟩
 case round =>
  obtain ⟨k, hk, rfl, HN, HF, HB⟩ := hrel
  by_cases hkl : k < l.length
  ·
   obtain ⟨ad, A1, c1, rfl, he0, he1, hl1, hC1⟩ := at_T35 (cb_ HR.out HB.out) (k : Int) (by omega) (by omega)
   simp only [Int.toNat_natCast] at he0 he1
   have hx : rd_T35 l (k : Int) = l.getD k z35 := by unfold rd_T35; rw [Int.toNat_natCast]
   rw [hx] at he0 he1 hl1 hC1
   clear hx
   obtain ⟨b, hb⟩ : ∃ b, (l.take k).any (fun x => (l.getD k z35).f0.toList == x.f0.toList) = b := ⟨_, rfl⟩
   have HP := A_ hb
   clear hb
   have HT := A_ (Kd.C_take (cb_ HR.out HB.out) (Nat.le_of_lt hkl))
   have hcut : ∀ W : World, (Instr.slice 23 (.slice (some ad) l.length c) none (some (.int .i64 (k : Int))) none).run Try.prog W = .ok (.slice (some ad) k c) W := fun W => waterfall_below.cut_layer (some ad) c l k (Nat.le_of_lt hkl) hc W
   generalize hxe : l.getD k z35 = x at *
   have HX := A_ hxe
   clear hxe
   have hl : (l.take k).length = k := by rw [List.length_take]; omega
   go_wp2_with fail
   have HK := waterfall_below.slayer_any (some ad) c (l.take k) x.f0 (.slice A1 x.f1.length c1) w.heap.size wr.heap.size (wr.alloc (.cells #[.string x.f0, (.slice A1 x.f1.length c1)] 35)) (ca_ HT.out _) (by omega) (ba_ HF.out _) (heap_alloc_new wr _)
   rw [hl] at HK
   refine HK.mono ?_
   rintro e w1 ⟨rfl, hb⟩
   rw [HP.out]
   have HB1 := A_ (bs_ (bl_ HB.out _) hb)
   have HF1 := A_ (blk_below (ba_ HF.out _) hb)
   clear hb HB HF HT hcut
   cases b
   ·
    go_wp2
    go_roundw
    case rel =>
     refine ⟨k + 1, by omega, by go_num, ⟨fun j hj => ?_⟩, HF1, HB1⟩
     rcases Nat.lt_succ_iff_lt_or_eq.1 hj with h | rfl
     ·
      exact HN.out j h
     ·
      rw [HX.out]; exact HP.out
    case measure => simp [intOf]; omega
   ·
    have HE := A_ (waterfall_below.tw_layer_at (l := l) hkl (by rw [HX.out]; exact HP.out))
    go_wp2
    go_ret
    exact ⟨by rw [HE.out]; rfl, HB1.out⟩
  ·
   obtain rfl : k = l.length := by omega
   have HE := A_ (waterfall_below.tw_layer_no (l := l) HN.out)
   go_wp2
   go_ret
   exact ⟨by rw [HE.out]; rfl, HB.out⟩
set_option maxRecDepth 20000 in
theorem waterfall_below.check1_c (s : ByteArray) (A : Option Addr) (c : Nat) (l : List S74) (w : World) (hC : Kd.C k74 w A l.length l) (hc : l.length ≤ c) : Calls Try.prog 49 #[.agg #[.string s, .slice A l.length c]] w fun e w' => e = .returned (.bool (waterfall_below.tw_part l)) ∧ Below w.heap.size w w' := by
 have HR := A_ hC
 clear hC
 go_enter Try.func49, Try.ntmps49
 go_wp2_with fail
 refine (waterfall_below.twice_part A c l _ (ca_ HR.out _) hc).mono ?_
 rintro e w1 ⟨rfl, hb⟩
 have HB := A_ (bs_ (bl_ (Below.refl _ _) _) hb)
 clear hb
 go_wp2
 go_ret
 exact ⟨rfl, HB.out⟩
set_option maxRecDepth 20000 in
theorem waterfall_below.check2_c (s : ByteArray) (A : Option Addr) (c n : Nat) (w : World) : Calls Try.prog 52 #[.agg #[.string s, .slice A n c]] w fun e w' => e = .returned (.bool (decide (64 < (n : Int)))) ∧ Below w.heap.size w w' := by
 go_enter Try.func52, Try.ntmps52
 go_wp2
 go_ret
 exact ⟨rfl, bl_ (Below.refl _ _) _⟩
set_option maxRecDepth 20000 in
set_option maxHeartbeats 2000000 in
theorem waterfall_below.names_ix (A : Option Addr) (c : Nat) (l : List S35) (w : World) (hC : Kd.C k35 w A l.length l) (hc : l.length ≤ c) : Calls Try.prog 64 #[.slice A l.length c, .func (.func 49) #[] #[]] w fun e w' => e = .returned (.int .i64 (waterfall_below.ix (fun x : S35 => waterfall_below.tw_part x.f1) l)) ∧ Below w.heap.size w w' := by
 have HR := A_ hC
 have hmax : l.length ≤ 9223372036854775807 := Kd.C_max hC
 clear hC
 go_enter Try.func64, Try.ntmps64
 go_wp2
 go_loopw [8] (fun v8 wr => ∃ k : Nat, k ≤ l.length ∧ v8 = .int .i64 k ∧ Aside0 (∀ j, j < k → (fun x : S35 => waterfall_below.tw_part x.f1) (l.getD j z35) = false) ∧ Aside0 (Below w.heap.size w wr)) (fun v8 _ => l.length - (intOf v8).toNat)
 case atStart => exact ⟨0, Nat.zero_le _, rfl, ⟨fun j hj => absurd hj (Nat.not_lt_zero j)⟩, ⟨Below.refl _ _⟩⟩
 case round =>
  obtain ⟨k, hk, rfl, HN, HB⟩ := hrel
  by_cases hkl : k < l.length
  ·
   obtain ⟨ad, A1, c1, rfl, he0, he1, hl1, hC1⟩ := at_T35 (cb_ HR.out HB.out) (k : Int) (by omega) (by omega)
   simp only [Int.toNat_natCast] at he0 he1
   obtain ⟨b, hb⟩ : ∃ b, (fun x : S35 => waterfall_below.tw_part x.f1) (l.getD k z35) = b := ⟨_, rfl⟩
   have HP := A_ hb
   clear hb
   have hx : rd_T35 l (k : Int) = l.getD k z35 := by unfold rd_T35; rw [Int.toNat_natCast]
   rw [hx] at he0 he1 hl1 hC1
   clear hx
   generalize hxe : l.getD k z35 = x at *
   have HX := A_ hxe
   clear hxe
   go_wp2_with fail
   refine (waterfall_below.check1_c x.f0 A1 c1 x.f1 wr hC1 hl1).mono ?_
   rintro e w1 ⟨rfl, hb⟩
   rw [HP.out]
   have HB1 := A_ (bs_ HB.out hb)
   clear hb HB
   cases b
   ·
    go_wp2
    go_roundw
    case rel =>
     refine ⟨k + 1, by omega, by go_num, ⟨fun j hj => ?_⟩, HB1⟩
     rcases Nat.lt_succ_iff_lt_or_eq.1 hj with h | rfl
     ·
      exact HN.out j h
     ·
      rw [HX.out]; exact HP.out
    case measure => simp [intOf]; omega
   ·
    have HE := A_ (waterfall_below.ix_at (p := (fun x : S35 => waterfall_below.tw_part x.f1)) hkl HN.out (by rw [HX.out]; exact HP.out))
    go_wp2
    go_ret
    exact ⟨by rw [HE.out]; rfl, HB1.out⟩
  ·
   obtain rfl : k = l.length := by omega
   have HE := A_ (waterfall_below.ix_no (p := (fun x : S35 => waterfall_below.tw_part x.f1)) (l := l) (z := z35) HN.out)
   go_wp2
   go_ret
   exact ⟨by rw [HE.out]; rfl, HB.out⟩
set_option maxRecDepth 20000 in
theorem waterfall_below.names_any (A : Option Addr) (c : Nat) (l : List S35) (w : World) (hC : Kd.C k35 w A l.length l) (hc : l.length ≤ c) : Calls Try.prog 48 #[.slice A l.length c, .func (.func 49) #[] #[]] w fun e w' => e = .returned (.bool (l.any (fun x : S35 => waterfall_below.tw_part x.f1))) ∧ Below w.heap.size w w' := by
 have HR := A_ hC
 clear hC
 have HE := A_ (waterfall_below.ix_any (fun x : S35 => waterfall_below.tw_part x.f1) l)
 go_enter Try.func48, Try.ntmps48
 go_wp2_with fail
 refine (waterfall_below.names_ix A c l  w HR.out hc).mono ?_
 rintro e w1 ⟨rfl, hb⟩
 go_wp2
 go_ret
 exact ⟨by rw [← HE.out]; rfl, hb⟩
set_option maxRecDepth 20000 in
set_option maxHeartbeats 2000000 in
theorem waterfall_below.longs_ix (A : Option Addr) (c : Nat) (l : List S35) (w : World) (hC : Kd.C k35 w A l.length l) (hc : l.length ≤ c) : Calls Try.prog 64 #[.slice A l.length c, .func (.func 52) #[] #[]] w fun e w' => e = .returned (.int .i64 (waterfall_below.ix (fun x : S35 => decide (64 < (x.f1.length : Int))) l)) ∧ Below w.heap.size w w' := by
 have HR := A_ hC
 have hmax : l.length ≤ 9223372036854775807 := Kd.C_max hC
 clear hC
 go_enter Try.func64, Try.ntmps64
 go_wp2
 go_loopw [8] (fun v8 wr => ∃ k : Nat, k ≤ l.length ∧ v8 = .int .i64 k ∧ Aside0 (∀ j, j < k → (fun x : S35 => decide (64 < (x.f1.length : Int))) (l.getD j z35) = false) ∧ Aside0 (Below w.heap.size w wr)) (fun v8 _ => l.length - (intOf v8).toNat)
 case atStart => exact ⟨0, Nat.zero_le _, rfl, ⟨fun j hj => absurd hj (Nat.not_lt_zero j)⟩, ⟨Below.refl _ _⟩⟩
 case round =>
  obtain ⟨k, hk, rfl, HN, HB⟩ := hrel
  by_cases hkl : k < l.length
  ·
   obtain ⟨ad, A1, c1, rfl, he0, he1, hl1, hC1⟩ := at_T35 (cb_ HR.out HB.out) (k : Int) (by omega) (by omega)
   simp only [Int.toNat_natCast] at he0 he1
   obtain ⟨b, hb⟩ : ∃ b, (fun x : S35 => decide (64 < (x.f1.length : Int))) (l.getD k z35) = b := ⟨_, rfl⟩
   have HP := A_ hb
   clear hb
   have hx : rd_T35 l (k : Int) = l.getD k z35 := by unfold rd_T35; rw [Int.toNat_natCast]
   rw [hx] at he0 he1 hl1 hC1
   clear hx
   generalize hxe : l.getD k z35 = x at *
   have HX := A_ hxe
   clear hxe
   go_wp2_with fail
   refine (waterfall_below.check2_c x.f0 A1 c1 x.f1.length wr).mono ?_
   rintro e w1 ⟨rfl, hb⟩
   rw [HP.out]
   have HB1 := A_ (bs_ HB.out hb)
   clear hb HB
   cases b
   ·
    go_wp2
    go_roundw
    case rel =>
     refine ⟨k + 1, by omega, by go_num, ⟨fun j hj => ?_⟩, HB1⟩
     rcases Nat.lt_succ_iff_lt_or_eq.1 hj with h | rfl
     ·
      exact HN.out j h
     ·
      rw [HX.out]; exact HP.out
    case measure => simp [intOf]; omega
   ·
    have HE := A_ (waterfall_below.ix_at (p := (fun x : S35 => decide (64 < (x.f1.length : Int)))) hkl HN.out (by rw [HX.out]; exact HP.out))
    go_wp2
    go_ret
    exact ⟨by rw [HE.out]; rfl, HB1.out⟩
  ·
   obtain rfl : k = l.length := by omega
   have HE := A_ (waterfall_below.ix_no (p := (fun x : S35 => decide (64 < (x.f1.length : Int)))) (l := l) (z := z35) HN.out)
   go_wp2
   go_ret
   exact ⟨by rw [HE.out]; rfl, HB.out⟩
set_option maxRecDepth 20000 in
theorem waterfall_below.longs_any (A : Option Addr) (c : Nat) (l : List S35) (w : World) (hC : Kd.C k35 w A l.length l) (hc : l.length ≤ c) : Calls Try.prog 48 #[.slice A l.length c, .func (.func 52) #[] #[]] w fun e w' => e = .returned (.bool (l.any (fun x : S35 => decide (64 < (x.f1.length : Int))))) ∧ Below w.heap.size w w' := by
 have HR := A_ hC
 clear hC
 have HE := A_ (waterfall_below.ix_any (fun x : S35 => decide (64 < (x.f1.length : Int))) l)
 go_enter Try.func48, Try.ntmps48
 go_wp2_with fail
 refine (waterfall_below.longs_ix A c l  w HR.out hc).mono ?_
 rintro e w1 ⟨rfl, hb⟩
 go_wp2
 go_ret
 exact ⟨by rw [← HE.out]; rfl, hb⟩
end Go.Proofs.Ytfbkgfffalppmaa.Wf
end
section
namespace Go.Proofs.Ytfbkgfffalppmaa.Wf
open Go.RowKit Go.Proofs.YtfbkgfffalppmaaW.PrintWords Go.Proofs.YtfbkgfffalppmaaW.PrintLast Go.Proofs.YtfbkgfffalppmaaW.PrintMore
attribute [local go_sem] max2_int min2_int max_two min_two max_three min_three max_four min_four   -- for this text's walks alone
set_option linter.unusedVariables false
set_option linter.unusedSimpArgs false
attribute [local go_sem] run_add64_any
def waterfall_room.l0 : Nat → List Int → List (S74) → Int → Int → Option (Int × Int)
 | 0, _, _, _, _ => none
 | k + 1, x4, x7, x8, x9 => if x9 < x8 then (if 0 ≤ x9 then (if x9 < (x7.length : Int) then (if x4.length < 17592186044416 then (waterfall_room.l0 k (x4 ++ [(rd_T74 x7 x9).f1]) x7 x8 (wrap64 (x9 + 1))) else (none)) else (none)) else (none)) else ((fixed_Sum.f x4).bind fun bt130 => (some (bt130.1, bt130.2)))
def waterfall_room.f (k : Nat) (l0 : List (S74)) : Option (Int × Int) := waterfall_room.l0 k ([] : List Int) l0 (l0.length : Int) 0
theorem waterfall_room.mono_l : ∀ k, (∀ y0 y1 y2 y3, LeO (waterfall_room.l0 k y0 y1 y2 y3) (waterfall_room.l0 (k + 1) y0 y1 y2 y3))
 | 0 => fun _ _ _ _ r h => by simp [waterfall_room.l0] at h
 | k + 1 => by
  have ih0 := waterfall_room.mono_l k
  ·
   intro y0 y1 y2 y3
   unfold waterfall_room.l0
   repeat' first
   | (with_reducible exact ih0 _ _ _ _)
   | (with_reducible exact LeO.refl _)
   | (with_reducible exact LeO.none _)
   | (with_reducible refine LeO.ite ?_ ?_)
   | (with_reducible refine LeO.bind ?_ (fun _ => ?_))
   | exact ih0 _ _ _ _
   | exact LeO.none _
   | refine LeO.ite ?_ ?_
   | refine LeO.bind ?_ (fun _ => ?_)
theorem waterfall_room.mono : ∀ a0 k, LeO (waterfall_room.f k a0) (waterfall_room.f (k + 1) a0) := by
 intro a0 k
 have ih0 := waterfall_room.mono_l k
 unfold waterfall_room.f
 repeat' first
   | (with_reducible exact ih0 _ _ _ _)
   | (with_reducible exact LeO.refl _)
   | (with_reducible exact LeO.none _)
   | (with_reducible refine LeO.ite ?_ ?_)
   | (with_reducible refine LeO.bind ?_ (fun _ => ?_))
   | exact ih0 _ _ _ _
   | exact LeO.none _
   | refine LeO.ite ?_ ?_
   | refine LeO.bind ?_ (fun _ => ?_)
set_option maxHeartbeats 8000000 in
set_option maxRecDepth 100000 in
theorem waterfall_room.calls (k : Nat) (A0 : Option Addr) (c0 : Nat) (l0 : List (S74)) (r1 : Int) (r2 : Int) (w : World) (hr0 : Kd.C k74 w A0 l0.length l0) (hc0 : l0.length ≤ c0) (h : waterfall_room.f k l0 = some (r1, r2)) :
  Calls Try.prog 33 #[.slice A0 l0.length c0] w fun e w' => e = .returned (.tuple #[.int .i64 r1, .int .i64 r2]) ∧ Below w.heap.size w w' := by
 have hu74 := Try.underlying74
 have HR0 := A_ hr0
 have HC0 := A_ hc0
 clear hr0 hc0
 have HB := A_ (Below.refl w.heap.size w)
 have H : (waterfall_room.l0 k ([] : List Int) l0 (l0.length : Int) 0) = some (r1, r2) := h
 clear h
 have H' := A_ H
 clear H
 go_enter Try.func33, Try.ntmps33
 go_wp2
 (try simp only [Act.put, sA_, sZ_, sS_])
 go_loopg [4, 9] k (fun kq v4 v9 w' => ∃ (x4_1 : List Int) (x9_1 : Int), v9 = .int .i64 x9_1 ∧ Aside0 (waterfall_room.l0 kq x4_1 l0 (l0.length : Int) x9_1 = some (r1, r2)) ∧ Aside0 (kq ≤ k) ∧ Aside0 (Kd.R (Kd.int .i64) 2 w' w.heap.size (fun _ => True) v4 x4_1) ∧ Aside0 (Below w.heap.size w w'))
 case atStart => exact ⟨(([] : List Int)), (0), (by first | rfl | (simp; done) | (simp [*]; done)), H', ⟨Nat.le_refl _⟩, ⟨by first | exact Kd.R_nil _ _ _ _ _ | exact Kd.N_nil _ _ _ _ _ | exact Kd.V_nil _ _ _ _ _ | exact Kd.Q_nil _ _ _ _ _ | exact Kd.S_nil _ _ _ _ _⟩, ⟨bw_⟩⟩
 case round =>
  clear H'
  obtain ⟨x4_1, x9_1, rfl, HA, HK1, HO_4, HB⟩ := hrel
  cases gk with
  | zero => exact absurd HA.out (by simp [waterfall_room.l0])
  | succ k1 =>
   have H := HA.out
   clear HA
   simp only [waterfall_room.l0] at H
   by_cases c2 : x9_1 < (l0.length : Int)
   ·
    rw [if_pos c2] at H
    have c2b0 : decide (x9_1 < (l0.length : Int)) = true := decide_eq_true c2
    clear c2
    by_cases c3 : 0 ≤ x9_1
    ·
     rw [if_pos c3] at H
     have c3b0 : decide (0 ≤ x9_1) = true := decide_eq_true c3
     clear c3
     by_cases c4 : x9_1 < (l0.length : Int)
     ·
      rw [if_pos c4] at H
      have c4b0 : decide (x9_1 < (l0.length : Int)) = true := decide_eq_true c4
      clear c4
      by_cases c5 : x4_1.length < 17592186044416
      ·
       rw [if_pos c5] at H
       have LMc5 := A_ c5
       clear c5
       obtain ⟨y127, hy127⟩ : ∃ y_ : List Int, y_ = (x4_1 ++ [(rd_T74 l0 x9_1).f1]) := ⟨_, rfl⟩
       replace H : (waterfall_room.l0 k1 y127 l0 (l0.length : Int) (wrap64 (x9_1 + 1))) = some (r1, r2) := by first | (rw [hy127]; with_reducible exact H) | (have H2_ := (Option.bind_some _ _).symm.trans H; rw [hy127]; with_reducible exact H2_) | (have H2_ := (Option.bind_some _ _).symm.trans H; with_reducible exact H2_) | with_reducible exact H | (rw [hy127]; exact H) | exact H
       have Ny127 := A_ hy127
       clear hy127
       have H' := A_ H
       clear H
       have p126 : 0 ≤ (x9_1 : Int) := od_ (by first | (with_reducible assumption) | assumption)
       have q126 : x9_1 < (l0.length : Int) := od_ (by first | (with_reducible assumption) | assumption)
       obtain ⟨ad126, e126, hx126_0, hx126_1⟩ := at_T74 HR0.out x9_1 p126 q126
       cases e126
       replace hx126_0 := (HB.out.cell (World.block_lt_of_cell? w _ hx126_0)).trans hx126_0
       replace hx126_1 := (HB.out.cell (World.block_lt_of_cell? w _ hx126_1)).trans hx126_1
       replace p126 := eq_true p126
       replace q126 := eq_true q126
       go_wp2_with (first | ((with_reducible refine gate_dst (N := 6) rfl ?_); refine box_event ?hg (N := 6) ?hd (cs := #[.string (⟨#[]⟩ : ByteArray), .int .i64 0]) (t := 74) ?hr ?_; (case hd => rfl); (case hg => rfl); (case hr => first | (go_simp; done) | (go_simp; rfl)); intro gb306 hg w6 hbox hb; have n0_ := A_ (Kd.R_below (by (with_reducible repeat (first | apply Kd.R_alloc | apply Kd.R_drewN | apply Kd.R_drew)); exact HO_4.out) hb); have n1_ := A_ (bs_ bw_ hb); have n2_ := A_ (hbox); have n3_ := A_ ((by rw [hg]; exact (bz_ bw_) : w.heap.size ≤ gb306)); have n4_ := A_ ((by rw [hg]; exact (bz_ bw_) : w.heap.size ≤ gb306)); clear HO_4; clear HB; have HO_4 := n0_; have HB := n1_; have BK306 := n2_; have GW306 := n3_; have GE306 := n4_; clear n0_ n1_ n2_ n3_ n4_; clear hb hbox hg; have hcz7_0 : w6.cell? ⟨gb306, 0, none⟩ = some (.string (⟨#[]⟩ : ByteArray)) := (bc_ BK306.out 0).trans rfl; have hcz7_1 : w6.cell? ⟨gb306, 1, none⟩ = some (.int .i64 0) := (bc_ BK306.out 1).trans rfl; have hfz7_0 := bf_ BK306.out 0; have hfz7_1 := bf_ BK306.out 1) | ((with_reducible refine gate_builtin (b := .append) (xs := #[.tmp 13, .tmp 16]) rfl ?_); at_builtin; refine Kd.R_append (Kd.int .i64) (w0 := w) w.heap.size rfl (.tmp 13) (.tmp 16) 29 2 (.int .i64 0) 8 rfl Try.underlying29 info2 rfl (by decide) (by omega) u4 x4_1 ((rd_T74 l0 x9_1).f1) [.int .i64 ((rd_T74 l0 x9_1).f1)] (fun _ => True) (fun _ => False) rfl (by first | (go_simp; done) | (go_simp; rfl)) ?aP (fun _ hk => hk.elim) ?aF ?aO ?aB ?aS ?aL ?_; (case aP => exact rfl); (case aB => exact bw_); (case aF => exact (fun _ _ => trivial)); (case aO => exact (by (with_reducible repeat (first | apply Kd.R_alloc | apply Kd.R_drewN | apply Kd.R_drew)); exact Kd.R_mono (Kd.R_far (p := ⟨gb306, 1, none⟩) (Kd.R_far (p := ⟨gb306, 0, none⟩) (Kd.R_types HO_4.out BK306.out (by decide)) (fun _ hk => hk.2) (.string ((rd_T74 l0 x9_1).f0))) (fun _ hk => hk.2) (.int .i64 ((rd_T74 l0 x9_1).f1))) (fun _ hk => trivial))); (case aS => exact (bz_ bw_)); (case aL => have := LMc5.out; omega); intro v128 w8 ho hb hg hat; rw [← Ny127.out] at ho; have n0_ := A_ (blk_grown (g := gb306) (o := .cells #[.string ((rd_T74 l0 x9_1).f0), .int .i64 ((rd_T74 l0 x9_1).f1)] 74 (0, 0)) (by (with_reducible repeat (first | refine bn_ ?_ _ | refine bd_ ?_ | refine ba_ ?_ _)); refine bp_ (cs := #[.string ((rd_T74 l0 x9_1).f0), .int .i64 0]) ?_ 1 _ rfl; (with_reducible repeat (first | refine bn_ ?_ _ | refine bd_ ?_ | refine ba_ ?_ _)); refine bp_ (cs := #[.string (⟨#[]⟩ : ByteArray), .int .i64 0]) ?_ 0 _ rfl; (with_reducible repeat (first | refine bn_ ?_ _ | refine bd_ ?_ | refine ba_ ?_ _)); exact BK306.out) hg (Kd.R_ne HO_4.out BK306.out (by decide))); have n1_ := A_ (hb); have n2_ := A_ (ho); clear BK306; clear HB; clear HO_4; have BK306 := n0_; have HB := n1_; have HO129 := n2_; clear n0_ n1_ n2_; clear ho hb hg hat))
       go_roundg k1
       case measure => have := HK1.out; omega
       case rel => exact ⟨(y127), (wrap64 (x9_1 + 1)), (by first | rfl | (simp; done) | (simp [*]; done)), H', ⟨by have := HK1.out; omega⟩, ⟨by (with_reducible repeat (first | apply Kd.R_alloc | apply Kd.R_drewN | apply Kd.R_drew)); exact HO129.out⟩, ⟨bw_⟩⟩
      ·
       rw [if_neg c5] at H
       exact absurd H (by simp)
     ·
      rw [if_neg c4] at H
      exact absurd H (by simp)
    ·
     rw [if_neg c3] at H
     exact absurd H (by simp)
   ·
    rw [if_neg c2] at H
    have c2b0 : decide (x9_1 < (l0.length : Int)) = false := decide_eq_false c2
    clear c2
    replace H := os_ H
    obtain ⟨⟨t130, t131⟩, A90, H⟩ := H
    replace H : (some (t130, t131)) = some (r1, r2) := H
    have A9 := A_ A90
    clear A90
    simp only [Option.some.injEq, Prod.mk.injEq] at H
    obtain ⟨rfl, rfl⟩ := H
    obtain ⟨Ao10, co10, eo10⟩ := Kd.R_slice HO_4.out
    subst eo10
    go_wp2_with (first | ((with_reducible refine gate_callee (f := 53) rfl ?_); refine goesL_ (some 20) rfl rfl Try.func53 (by kernel_rfl) rfl #[.slice Ao10 x4_1.length co10] rfl (by (try simp only [List.map_toArray, List.map_cons, List.map_nil]); first | done | rfl | (simp only [List.length_drop, List.length_take]; rfl)) ?_; (with_reducible refine (fixed_Sum.calls _ _ x4_1 t130 t131 _ ?side1 ?side2 A9.out).mono ?_); (case side1 => repeat (first | exact (Kd.R_reads' HO_4.out).2.2 | (with_reducible refine ca_ ?_ _) | (with_reducible refine cn_ ?_ _) | (with_reducible refine cd_ ?_))); (case side2 => exact (Kd.R_reads' HO_4.out).2.1); rintro e w11 ⟨rfl, hb⟩; refine ⟨_, rfl, ?_⟩; have n0_ := A_ (Kd.R_below (by (with_reducible repeat (first | apply Kd.R_alloc | apply Kd.R_drewN | apply Kd.R_drew)); exact HO_4.out) hb); have n1_ := A_ (bs_ bw_ hb); clear HO_4; clear HB; have HO_4 := n0_; have HB := n1_; clear n0_ n1_; (try clear hb); (try clear hb2); (try clear hk); (try clear hi)))
    go_ret2
    exact ⟨by first | rfl | (simp [errW_none, errW_some] <;> rfl) | (simp [*, errW_none, errW_some] <;> rfl), bw_⟩
end Go.Proofs.Ytfbkgfffalppmaa.Wf
end
section
namespace Go.Proofs.Ytfbkgfffalppmaa.Wf
open Go.RowKit Go.Proofs.YtfbkgfffalppmaaW.PrintWords Go.Proofs.YtfbkgfffalppmaaW.PrintLast Go.Proofs.YtfbkgfffalppmaaW.PrintMore
attribute [local go_sem] max2_int min2_int max_two min_two max_three min_three max_four min_four   -- for this text's walks alone
set_option linter.unusedVariables false
set_option linter.unusedSimpArgs false
attribute [local go_sem] run_add64_any
def waterfall_portion.f (k : Nat) (a0 : Int) (a1 : Int) (a2 : Int) : Option (Int) := (fixed_Times.f a0 a1).bind fun bt157 => ((fixed_Divide.f k bt157.1 bt157.2 a2 0).bind fun bt159 => ((fixed_Int.f bt159.1 bt159.2.1).bind fun bt162 => (some bt162.1)))
theorem waterfall_portion.mono : ∀ a0 a1 a2 k, LeO (waterfall_portion.f k a0 a1 a2) (waterfall_portion.f (k + 1) a0 a1 a2) := by
 intro a0 a1 a2 k
 unfold waterfall_portion.f
 repeat' first
   | (with_reducible exact fixed_Divide.mono _ _ _ _ _)
   | (with_reducible exact LeO.refl _)
   | (with_reducible exact LeO.none _)
   | (with_reducible refine LeO.ite ?_ ?_)
   | (with_reducible refine LeO.bind ?_ (fun _ => ?_))
   | exact fixed_Divide.mono _ _ _ _ _
   | exact LeO.none _
   | refine LeO.ite ?_ ?_
   | refine LeO.bind ?_ (fun _ => ?_)
set_option maxHeartbeats 8000000 in
set_option maxRecDepth 100000 in
theorem waterfall_portion.calls (k : Nat) (a0 : Int) (a1 : Int) (a2 : Int) (r : Int) (w : World) (h : waterfall_portion.f k a0 a1 a2 = some r) :
  Calls Try.prog 35 #[.int .i64 a0, .int .i64 a1, .int .i64 a2] w fun e w' => e = .returned (.int .i64 r) ∧ Below w.heap.size w w' := by
 have hu66 := Try.underlying66
 have HB := A_ (Below.refl w.heap.size w)
 have H : ((fixed_Times.f a0 a1).bind fun bt157 => ((fixed_Divide.f k bt157.1 bt157.2 a2 0).bind fun bt159 => ((fixed_Int.f bt159.1 bt159.2.1).bind fun bt162 => (some bt162.1)))) = some r := h
 clear h
 replace H := os_ H
 obtain ⟨⟨t157, t158⟩, A40, H⟩ := H
 replace H : ((fixed_Divide.f k t157 t158 a2 0).bind fun bt159 => ((fixed_Int.f bt159.1 bt159.2.1).bind fun bt162 => (some bt162.1))) = some r := H
 have A4 := A_ A40
 clear A40
 replace H := os_ H
 obtain ⟨⟨t159, t160, t161⟩, A50, H⟩ := H
 replace H : ((fixed_Int.f t159 t160).bind fun bt162 => (some bt162.1)) = some r := H
 have A5 := A_ A50
 clear A50
 replace H := os_ H
 obtain ⟨⟨t162, t163⟩, A60, H⟩ := H
 replace H : (some t162) = some r := H
 have A6 := A_ A60
 clear A60
 obtain rfl := Option.some.inj H
 go_enter Try.func35, Try.ntmps35
 go_wp2_with (first | ((with_reducible refine gate_callee (f := 62) rfl ?_); refine goesL_ (some 14) rfl rfl Try.func62 (by kernel_rfl) rfl #[.int .i64 a0, .int .i64 a1] rfl (by (try simp only [List.map_toArray, List.map_cons, List.map_nil]); first | done | rfl | (simp only [List.length_drop, List.length_take]; rfl)) ?_; (with_reducible refine (fixed_Times.calls a0 a1 t157 t158 _ A4.out).mono ?_); rintro e w7 ⟨rfl, hb⟩; refine ⟨_, rfl, ?_⟩; have n0_ := A_ (bs_ bw_ hb); clear HB; have HB := n0_; clear n0_; (try clear hb); (try clear hb2); (try clear hk); (try clear hi)) | ((with_reducible refine gate_callee (f := 61) rfl ?_); refine goesL_ (some 16) rfl rfl Try.func61 (by kernel_rfl) rfl #[.agg #[.int .i64 t157, .int .u64 t158], .int .i64 a2, .int .i64 0] rfl (by (try simp only [List.map_toArray, List.map_cons, List.map_nil]); first | done | rfl | (simp only [List.length_drop, List.length_take]; rfl)) ?_; (with_reducible refine (fixed_Divide.calls k t157 t158 a2 0 t159 t160 t161 _ A5.out).mono ?_); rintro e w8 ⟨rfl, hb⟩; refine ⟨_, rfl, ?_⟩; have n0_ := A_ (bs_ bw_ hb); clear HB; have HB := n0_; clear n0_; (try clear hb); (try clear hb2); (try clear hk); (try clear hi)) | ((with_reducible refine gate_dst (N := 7) rfl ?_); refine box_event ?hg (N := 7) ?hd (cs := #[.int .i64 0, .int .u64 0]) (t := 66) ?hr ?_; (case hd => rfl); (case hg => rfl); (case hr => first | (go_simp; done) | (go_simp; rfl)); intro gb307 hg w9 hbox hb; have n0_ := A_ (bs_ bw_ hb); have n1_ := A_ (hbox); have n2_ := A_ ((by rw [hg]; exact (bz_ bw_) : w.heap.size ≤ gb307)); have n3_ := A_ ((by rw [hg]; exact (bz_ bw_) : w.heap.size ≤ gb307)); clear HB; have HB := n0_; have BK307 := n1_; have GW307 := n2_; have GE307 := n3_; clear n0_ n1_ n2_ n3_; clear hb hbox hg; have hcz10_0 : w9.cell? ⟨gb307, 0, none⟩ = some (.int .i64 0) := (bc_ BK307.out 0).trans rfl; have hcz10_1 : w9.cell? ⟨gb307, 1, none⟩ = some (.int .u64 0) := (bc_ BK307.out 1).trans rfl; have hfz10_0 := bf_ BK307.out 0; have hfz10_1 := bf_ BK307.out 1) | ((with_reducible refine gate_callee (f := 26) rfl ?_); refine goesL_ (some 21) rfl rfl Try.func26 (by kernel_rfl) rfl #[.agg #[.int .i64 t159, .int .u64 t160]] rfl (by (try simp only [List.map_toArray, List.map_cons, List.map_nil]); first | done | rfl | (simp only [List.length_drop, List.length_take]; rfl)) ?_; (with_reducible refine (fixed_Int.calls t159 t160 t162 t163 _ A6.out).mono ?_); rintro e w11 ⟨rfl, hb⟩; refine ⟨_, rfl, ?_⟩; have n0_ := A_ (blk_below (g := gb307) (o := .cells #[.int .i64 t159, .int .u64 t160] 66 (0, 0)) (by (with_reducible repeat (first | refine bn_ ?_ _ | refine bd_ ?_ | refine ba_ ?_ _)); refine bp_ (cs := #[.int .i64 t159, .int .u64 0]) ?_ 1 _ rfl; (with_reducible repeat (first | refine bn_ ?_ _ | refine bd_ ?_ | refine ba_ ?_ _)); refine bp_ (cs := #[.int .i64 0, .int .u64 0]) ?_ 0 _ rfl; (with_reducible repeat (first | refine bn_ ?_ _ | refine bd_ ?_ | refine ba_ ?_ _)); exact BK307.out) hb); have n1_ := A_ (bs_ bw_ hb); clear BK307; clear HB; have BK307 := n0_; have HB := n1_; clear n0_ n1_; (try clear hb); (try clear hb2); (try clear hk); (try clear hi)))
 go_ret
 exact ⟨by first | rfl | (simp [errW_none, errW_some] <;> rfl) | (simp [*, errW_none, errW_some] <;> rfl), bw_⟩
end Go.Proofs.Ytfbkgfffalppmaa.Wf
end
section
namespace Go.Proofs.Ytfbkgfffalppmaa.Wf
open Go.RowKit Go.Proofs.YtfbkgfffalppmaaW.PrintWords Go.Proofs.YtfbkgfffalppmaaW.PrintLast Go.Proofs.YtfbkgfffalppmaaW.PrintMore
attribute [local go_sem] max2_int min2_int max_two min_two max_three min_three max_four min_four   -- for this text's walks alone
set_option linter.unusedVariables false
set_option linter.unusedSimpArgs false
attribute [local go_sem] run_add64_any
def waterfall_Split.lp1 (k : Nat) (loss all : Int) : List S74 → Int → Option (List Int × Int)
  | [], left => some ([], left)
  | p :: ps, left => if all > 0 then ((waterfall_portion.f k p.f1 loss all).bind fun n => (waterfall_Split.lp1 k loss all ps (wrap64 (left - n))).bind fun x => some (wrap64 (0 + n) :: x.1, x.2)) else ((waterfall_Split.lp1 k loss all ps left).bind fun x => some (0 :: x.1, x.2))
def waterfall_Split.lp2 : List S74 → List Int → Int → List Int × Int
  | p :: ps, o :: os, left => if left > 0 ∧ o < p.f1 then (wrap64 (o + 1) :: (waterfall_Split.lp2 ps os (wrap64 (left - 1))).1, (waterfall_Split.lp2 ps os (wrap64 (left - 1))).2) else (o :: (waterfall_Split.lp2 ps os left).1, (waterfall_Split.lp2 ps os left).2)
  | _, os, left => (os, left)
def waterfall_Split.f (k : Nat) (a0 : Int) (l1 : List S74) : Option (List Int × Int) :=
  if l1.length ≤ 17592186044416 then (if a0 < 0 then some ([], 1) else if l1.any (fun x => decide (x.f1 < 0)) = true then some ([], 1) else (waterfall_room.f k l1).bind fun x => if x.2 = 0 then (if a0 > x.1 then some ([], 7) else (waterfall_Split.lp1 k a0 x.1 l1 a0).bind fun y => some ((waterfall_Split.lp2 l1 y.1 y.2).1, 0)) else some ([], x.2)) else none
theorem waterfall_Split.lp1_mono (loss all : Int) : ∀ l left k, LeO (waterfall_Split.lp1 k loss all l left) (waterfall_Split.lp1 (k + 1) loss all l left)
  | [], left, k => LeO.refl _
  | p :: ps, left, k => by
    unfold waterfall_Split.lp1
    repeat' first
    | (with_reducible exact waterfall_portion.mono _ _ _ _)
    | (with_reducible exact waterfall_Split.lp1_mono loss all _ _ _)
    | (with_reducible exact LeO.refl _)
    | (with_reducible refine LeO.bind ?_ (fun _ => ?_))
    | (with_reducible refine LeO.ite ?_ ?_)
theorem waterfall_Split.mono : ∀ a0 l1 k, LeO (waterfall_Split.f k a0 l1) (waterfall_Split.f (k + 1) a0 l1) := by
  intro a0 l1 k
  unfold waterfall_Split.f
  repeat' first
  | (with_reducible exact waterfall_room.mono _ _)
  | (with_reducible exact waterfall_Split.lp1_mono _ _ _ _ _)
  | (with_reducible exact LeO.refl _)
  | (with_reducible refine LeO.bind ?_ (fun _ => ?_))
  | (with_reducible refine LeO.ite ?_ ?_)
theorem waterfall_Split.lp1_len (k : Nat) (loss all : Int) : ∀ l left o L, waterfall_Split.lp1 k loss all l left = some (o, L) → o.length = l.length
  | [], left, o, L, h => by
    unfold waterfall_Split.lp1 at h
    cases h
    rfl
  | p :: ps, left, o, L, h => by
    unfold waterfall_Split.lp1 at h
    split at h
    · obtain ⟨n, _, h⟩ := os_ h
      obtain ⟨⟨x, y⟩, h1, h⟩ := os_ h
      have := waterfall_Split.lp1_len k loss all ps _ x y h1
      cases h
      simp [this]
    · obtain ⟨⟨x, y⟩, h1, h⟩ := os_ h
      have := waterfall_Split.lp1_len k loss all ps _ x y h1
      cases h
      simp [this]
theorem waterfall_Split.drop_at {l : List S74} {k : Nat} (hk : k < l.length) : l.drop k = rd_T74 l (k : Int) :: l.drop (k + 1) := by
  rw [List.drop_eq_getElem_cons hk]
  congr 1
  unfold rd_T74
  rw [Int.toNat_natCast, List.getD_eq_getElem?_getD, List.getElem?_eq_getElem hk]
  rfl
def waterfall_Split.arr (o : List Int) : Array Value := (encs (Value.int .i64) o).toArray
theorem waterfall_Split.arr_at {o : List Int} {i : Nat} (h : i < o.length) : (waterfall_Split.arr o)[i]? = some (.int .i64 (o.getD i 0)) := by
  simp [waterfall_Split.arr, encs, h]
theorem waterfall_Split.arr_set {o : List Int} (i : Nat) (v : Int) : (waterfall_Split.arr o).setIfInBounds i (.int .i64 v) = waterfall_Split.arr (o.set i v) := by
  simp [waterfall_Split.arr, encs, List.map_set]
theorem waterfall_Split.made0 (n : Nat) : madeCells (Value.cells (.int .i64 0)) n = waterfall_Split.arr (List.replicate n 0) := by
  apply Array.ext
  · simp [madeCells, waterfall_Split.arr, encs]
  · intro i h1 h2
    simp [madeCells, waterfall_Split.arr, encs, Value.cells, Nat.mod_one]
theorem waterfall_Split.made (n : Nat) (hn : n ≤ 35184372088832) (W : World) : (Instr.makeSlice 29 (.int .i64 n) (.int .i64 n)).run Try.prog W = .ok (.slice (some ⟨W.heap.size, 0, none⟩) n n) (W.alloc (.cells (waterfall_Split.arr (List.replicate n 0)) 2)) := by
  have hinfo : (Try.prog.info? 2).map (fun i => (i.zero, i.size, i.bytes)) = some (some (.int .i64 0), 1, 8) := by kernel_rfl
  obtain ⟨i0, hi, hz0, hz1, hz2⟩ := info_parts hinfo
  have hr := run_make (P := Try.prog) W 29 2 i0 (.int .i64 0) Try.underlying29 hi hz0 .i64 .i64 (n : Int) (n : Int) (by omega) (by omega) (by rw [hz2]; omega) (by omega)
  rw [Int.toNat_natCast, hz1, Nat.mul_one, waterfall_Split.made0] at hr
  exact hr
theorem waterfall_Split.bear (w : World) (B : Nat) (out : List Int) (m c i : Nat) (hm : m = out.length) (hi : i < out.length) (n left : Int) (hn : out.length ≤ 9223372036854775807) (ho : w.heap[B + 1]? = some (.cells #[.slice (some ⟨B, 0, none⟩) m c] 29 (0, 0))) (hr : w.heap[B]? = some (.cells (waterfall_Split.arr out) 2 (0, 0))) (hl : w.heap[B + 1 + 1]? = some (.cells #[.int .i64 left] 2 (0, 0))) :
    Calls Try.prog 34 #[.int .i64 i, .int .i64 n, .pointer (some ⟨B + 1, 0, none⟩), .pointer (some ⟨B + 1 + 1, 0, none⟩)] w fun e w' => e = .returned (.tuple #[]) ∧ w' = (w.setCell ⟨B, i, none⟩ (.int .i64 (wrap64 (out.getD i 0 + n)))).setCell ⟨B + 1 + 1, 0, none⟩ (.int .i64 (wrap64 (left - n))) := by
  have a1 : w.cell? ⟨B + 1, 0, none⟩ = some (.slice (some ⟨B, 0, none⟩) m c) := (bc_ ho 0).trans rfl
  have a2 : w.cell? ⟨B + 1 + 1, 0, none⟩ = some (.int .i64 left) := (bc_ hl 0).trans rfl
  have a3 : w.cell? ⟨B, i, none⟩ = some (.int .i64 (out.getD i 0)) := (bc_ hr i).trans (waterfall_Split.arr_at hi)
  have f1 := bf_ hr i
  have f2 := bf_ hl 0
  have hlt : B + 1 + 1 < w.heap.size := blk_lt hl
  have i0 : (0 : Int) ≤ (i : Int) := by omega
  have i1 : (i : Int) < (m : Int) := by omega
  generalize out.getD i 0 = o at *
  clear ho hr hl
  go_enter Try.func34, Try.ntmps34
  go_wp2
  go_end0
  exact ⟨rfl, rfl⟩
theorem waterfall_Split.heap_bear {w : World} {B : Nat} {out : List Int} {i : Nat} {x y left : Int} {cs : Array Value} {tt : Nat} (hr : w.heap[B]? = some (.cells (waterfall_Split.arr out) 2 (0, 0))) (ho : w.heap[B + 1]? = some (.cells cs tt (0, 0))) (hl : w.heap[B + 1 + 1]? = some (.cells #[.int .i64 left] 2 (0, 0))) :
    ((w.setCell ⟨B, i, none⟩ (.int .i64 x)).setCell ⟨B + 1 + 1, 0, none⟩ (.int .i64 y)).heap[B]? = some (.cells (waterfall_Split.arr (out.set i x)) 2 (0, 0)) ∧ ((w.setCell ⟨B, i, none⟩ (.int .i64 x)).setCell ⟨B + 1 + 1, 0, none⟩ (.int .i64 y)).heap[B + 1]? = some (.cells cs tt (0, 0)) ∧ ((w.setCell ⟨B, i, none⟩ (.int .i64 x)).setCell ⟨B + 1 + 1, 0, none⟩ (.int .i64 y)).heap[B + 1 + 1]? = some (.cells #[.int .i64 y] 2 (0, 0)) := by
  refine ⟨?_, ?_, ?_⟩
  · have n1 : B ≠ (⟨B + 1 + 1, 0, none⟩ : Addr).block := by show B ≠ B + 1 + 1; omega
    refine br_ ?_ n1 _
    exact bp_ hr i _ (by rw [waterfall_Split.arr_set])
  · have n1 : B + 1 ≠ (⟨B + 1 + 1, 0, none⟩ : Addr).block := by show B + 1 ≠ B + 1 + 1; omega
    have n2 : B + 1 ≠ (⟨B, i, none⟩ : Addr).block := by show B + 1 ≠ B; omega
    exact br_ (br_ ho n2 _) n1 _
  · refine bp_ (cs := #[.int .i64 left]) ?_ 0 _ rfl
    have n1 : B + 1 + 1 ≠ (⟨B, i, none⟩ : Addr).block := by show B + 1 + 1 ≠ B; omega
    exact br_ hl n1 _
theorem waterfall_Split.bear2 (w : World) (B : Nat) (out : List Int) (m c i : Nat) (hm : m = out.length) (hi : i < out.length) (n left : Int) (hn : out.length ≤ 9223372036854775807) (ho : w.heap[B + 1]? = some (.cells #[.slice (some ⟨B, 0, none⟩) m c] 29 (0, 0))) (hr : w.heap[B]? = some (.cells (waterfall_Split.arr out) 2 (0, 0))) (hl : w.heap[B + 1 + 1]? = some (.cells #[.int .i64 left] 2 (0, 0))) :
    Calls Try.prog 34 #[.int .i64 i, .int .i64 n, .pointer (some ⟨B + 1, 0, none⟩), .pointer (some ⟨B + 1 + 1, 0, none⟩)] w fun e w' => e = .returned (.tuple #[]) ∧ w'.heap[B]? = some (.cells (waterfall_Split.arr (out.set i (wrap64 (out.getD i 0 + n)))) 2 (0, 0)) ∧ w'.heap[B + 1]? = some (.cells #[.slice (some ⟨B, 0, none⟩) m c] 29 (0, 0)) ∧ w'.heap[B + 1 + 1]? = some (.cells #[.int .i64 (wrap64 (left - n))] 2 (0, 0)) ∧ Below B w w' := by
  refine (waterfall_Split.bear w B out m c i hm hi n left hn ho hr hl).mono ?_
  rintro e w' ⟨rfl, rfl⟩
  obtain ⟨k1, k2, k3⟩ := waterfall_Split.heap_bear (i := i) (x := wrap64 (out.getD i 0 + n)) (y := wrap64 (left - n)) hr ho hl
  exact ⟨rfl, k1, k2, k3, ((Below.refl B w).setCell (p := ⟨B, i, none⟩) (Nat.le_refl _) _).setCell (p := ⟨B + 1 + 1, 0, none⟩) (by show B ≤ B + 1 + 1; omega) _⟩
theorem waterfall_Split.set_mid {pre : List Int} {k n : Nat} (hp : pre.length = k) (hk : k < n) (v : Int) : (pre ++ List.replicate (n - k) 0).set k v = pre ++ [v] ++ List.replicate (n - (k + 1)) 0 := by
  subst hp
  rw [show n - pre.length = (n - (pre.length + 1)) + 1 by omega, List.replicate_succ]
  simp
theorem waterfall_Split.get_mid {pre post : List Int} {k : Nat} (hp : pre.length = k) (v : Int) : (pre ++ v :: post).getD k 0 = v := by
  subst hp
  simp
theorem waterfall_Split.set_at {pr post : List Int} {k : Nat} {o v : Int} (hp : pr.length = k) : (pr ++ o :: post).set k v = pr ++ [v] ++ post := by
  subst hp
  simp
theorem waterfall_Split.row {w : World} {base B : Nat} {o : List Int} (hm : o.length ≤ 17592186044416) (hb : base ≤ B) (h : w.heap[B]? = some (.cells (waterfall_Split.arr o) 2 (0, 0))) : Kd.R (Kd.int .i64) 2 w base (fun _ => True) (.slice (some ⟨B, 0, none⟩) o.length o.length) o := by
  refine Kd.R_of_own ?_ (fun _ _ => trivial)
  refine ⟨by simp [encs], Or.inr ⟨B, o.length, waterfall_Split.arr o, rfl, hb, h, Nat.le_refl _, ?_, ?_, ?_⟩⟩
  · unfold maxLen; omega
  · simp [waterfall_Split.arr, encs]
  · rw [List.take_of_length_le (by simp [waterfall_Split.arr, encs])]
    rfl
set_option maxRecDepth 20000 in
set_option maxHeartbeats 8000000 in
theorem waterfall_Split.calls (k : Nat) (a0 : Int) (A1 : Option Addr) (c1 : Nat) (l1 : List S74) (r1 : List Int) (r2 : Int) (w : World) (hr1 : Kd.C k74 w A1 l1.length l1) (hc1 : l1.length ≤ c1) (h : waterfall_Split.f k a0 l1 = some (r1, r2)) :
    Calls Try.prog 10 #[.int .i64 a0, .slice A1 l1.length c1] w fun e w' => ∃ v0_ : Value, e = .returned (.tuple #[v0_, .int .i64 r2]) ∧ Kd.R (Kd.int .i64) 2 w' w.heap.size (fun _ => True) v0_ r1 ∧ Below w.heap.size w w' := by
  unfold waterfall_Split.f at h
  by_cases hmx : l1.length ≤ 17592186044416
  rotate_left
  · rw [if_neg hmx] at h
    cases h
  rw [if_pos hmx] at h
  have HR := A_ hr1
  clear hr1
  have nil0 : ∀ W : World, Kd.R (Kd.int .i64) 2 W w.heap.size (fun _ => True) (.slice none 0 0) [] := fun W => Kd.R_nil _ _ _ _ _
  have NIL := A_ nil0
  clear nil0
  by_cases c0 : a0 < 0
  · rw [if_pos c0] at h
    cases h
    have e0 : decide (a0 < 0) = true := decide_eq_true c0
    clear c0
    go_enter Try.func10, Try.ntmps10
    go_wp2
    go_ret2
    exact ⟨_, rfl, NIL.out _, Below.refl _ _⟩
  rw [if_neg c0] at h
  have e0 : decide (a0 < 0) = false := decide_eq_false c0
  clear c0
  obtain ⟨b5, h5⟩ : ∃ b, l1.any (fun x => decide (x.f1 < 0)) = b := ⟨_, rfl⟩
  rw [h5] at h
  replace h5 := A_ h5
  cases b5
  rotate_left
  · rw [if_pos rfl] at h
    cases h
    go_enter Try.func10, Try.ntmps10
    go_wp2_with fail
    refine (waterfall_below.below_any A1 c1 l1 w HR.out hc1).mono ?_
    rintro e w1 ⟨rfl, hb⟩
    rw [h5.out]
    have HB := A_ hb
    clear hb
    go_wp2
    go_ret2
    exact ⟨_, rfl, NIL.out _, HB.out⟩
  rw [if_neg (by simp)] at h
  replace h := os_ h
  obtain ⟨⟨all, er⟩, hrm, h⟩ := h
  dsimp only at h
  have HM := A_ hrm
  clear hrm
  by_cases ce : er = 0
  rotate_left
  · rw [if_neg ce] at h
    obtain ⟨rfl, rfl⟩ : [] = r1 ∧ er = r2 := by simpa using h
    clear h
    have e1 : (er != 0) = true := by simpa using ce
    have e2 : (er == 0) = false := by simpa using ce
    clear ce
    go_enter Try.func10, Try.ntmps10
    go_wp2_with fail
    refine (waterfall_below.below_any A1 c1 l1 w HR.out hc1).mono ?_
    rintro e w1 ⟨rfl, hb⟩
    rw [h5.out]
    have HB := A_ hb
    clear hb
    go_wp2_with fail
    refine (waterfall_room.calls _ A1 c1 l1 all er _ (cb_ HR.out HB.out) hc1 HM.out).mono ?_
    rintro e w2 ⟨rfl, hb⟩
    have HB2 := A_ (bs_ HB.out hb)
    clear hb HB
    go_wp2
    go_ret2
    exact ⟨_, rfl, NIL.out _, HB2.out⟩
  subst ce
  rw [if_pos rfl] at h
  by_cases cf : a0 > all
  · rw [if_pos cf] at h
    cases h
    have e1 : decide (all < a0) = true := decide_eq_true cf
    clear cf
    go_enter Try.func10, Try.ntmps10
    go_wp2_with fail
    refine (waterfall_below.below_any A1 c1 l1 w HR.out hc1).mono ?_
    rintro e w1 ⟨rfl, hb⟩
    rw [h5.out]
    have HB := A_ hb
    clear hb
    go_wp2_with fail
    refine (waterfall_room.calls _ A1 c1 l1 all 0 _ (cb_ HR.out HB.out) hc1 HM.out).mono ?_
    rintro e w2 ⟨rfl, hb⟩
    have HB2 := A_ (bs_ HB.out hb)
    clear hb HB
    go_wp2
    go_ret2
    exact ⟨_, rfl, NIL.out _, HB2.out⟩
  rw [if_neg cf] at h
  have e1 : decide (all < a0) = false := decide_eq_false cf
  clear cf
  replace h := os_ h
  obtain ⟨⟨o1, L1⟩, hl1, h⟩ := h
  dsimp only at h
  have H1 := A_ hl1
  clear hl1
  have H := A_ h
  clear h
  go_enter Try.func10, Try.ntmps10
  go_wp2_with fail
  refine (waterfall_below.below_any A1 c1 l1 w HR.out hc1).mono ?_
  rintro e w1 ⟨rfl, hb⟩
  rw [h5.out]
  have HB := A_ hb
  clear hb
  go_wp2_with fail
  refine (waterfall_room.calls _ A1 c1 l1 all 0 _ (cb_ HR.out HB.out) hc1 HM.out).mono ?_
  rintro e w2 ⟨rfl, hb⟩
  have HB2 := A_ (bs_ HB.out hb)
  clear hb HB
  have hmk := waterfall_Split.made l1.length (by omega)
  go_wp2
  have hlen1 := waterfall_Split.lp1_len _ _ _ _ _ _ _ H1.out
  have HL1 := A_ hlen1
  clear hlen1
  by_cases hpos : 0 < all
  all_goals
    first | (have ep : decide ((0 : Int) < all) = true := decide_eq_true hpos) | (have ep : decide ((0 : Int) < all) = false := decide_eq_false hpos)
    have HPOS := A_ hpos
    clear hpos
    go_loopw [41] (fun v41 wr => ∃ (j : Nat) (pre rest : List Int) (left : Int), j ≤ l1.length ∧ v41 = .int .i64 j ∧ pre.length = j ∧ Aside0 (waterfall_Split.lp1 k a0 all (l1.drop j) left = some (rest, L1)) ∧ Aside0 (pre ++ rest = o1) ∧ Aside0 (wr.heap[w2.heap.size]? = some (.cells (waterfall_Split.arr (pre ++ List.replicate (l1.length - j) 0)) 2 (0, 0))) ∧ Aside0 (wr.heap[w2.heap.size + 1]? = some (.cells #[.slice (some ⟨w2.heap.size, 0, none⟩) l1.length l1.length] 29 (0, 0))) ∧ Aside0 (wr.heap[w2.heap.size + 1 + 1]? = some (.cells #[.int .i64 left] 2 (0, 0))) ∧ Aside0 (Below w2.heap.size w2 wr)) (fun v41 _ => l1.length - (intOf v41).toNat)
    case atStart => exact ⟨0, [], o1, a0, Nat.zero_le _, rfl, rfl, ⟨H1.out⟩, ⟨rfl⟩, ⟨ba_ (ba_ (heap_alloc_new w2 _) _) _⟩, ⟨ba_ (by simpa using heap_alloc_new (w2.alloc _) _) _⟩, ⟨by simpa using heap_alloc_new ((w2.alloc _).alloc _) _⟩, ⟨bl_ (bl_ (bl_ (Below.refl _ _) _) _) _⟩⟩
    case round =>
      obtain ⟨j, pre, rest, left, hj, rfl, hpre, HA, HE, HX, HO, HW, HB⟩ := hrel
      by_cases hjl : j < l1.length
      · obtain ⟨ad, rfl, he0, he1⟩ := at_T74 (cb_ HR.out (HB2.out.trans (HB.out.mono HB2.out.size))) (j : Int) (by omega) (by omega)
        simp only [Int.toNat_natCast] at he0 he1
        have ha := HA.out
        rw [waterfall_Split.drop_at hjl, waterfall_Split.lp1] at ha
        generalize rd_T74 l1 (j : Int) = x at *
        have hlt := blk_lt HW.out
        first
        | rw [if_pos (show all > 0 from HPOS.out)] at ha
          replace ha := os_ ha
          obtain ⟨nn, hpn, ha⟩ := ha
          replace ha := os_ ha
          obtain ⟨⟨rs, LL⟩, hrs, ha⟩ := ha
          dsimp only at ha
          obtain ⟨hre, rfl⟩ : wrap64 (0 + nn) :: rs = rest ∧ LL = L1 := by simpa using ha
          have HPN := A_ hpn
          have HRS := A_ hrs
          have HRE := A_ hre
          clear ha hpn hrs hre
          go_wp2_with fail
          refine (waterfall_portion.calls k _ _ _ nn _ HPN.out).mono ?_
          rintro e w4 ⟨rfl, hb⟩
          have X4 := A_ (blk_below (ba_ HX.out _) hb)
          have O4 := A_ (blk_below (ba_ HO.out _) hb)
          have W4 := A_ (blk_below (ba_ HW.out _) hb)
          have B4 := A_ (bs_ (bl_ HB.out _) hb)
          clear hb HX HO HW HB
          go_wp2_with fail
          refine (waterfall_Split.bear w4 w2.heap.size (pre ++ List.replicate (l1.length - j) 0) l1.length l1.length j (by simp; omega) (by simp; omega) nn left (by simp; omega) O4.out X4.out W4.out).mono ?_
          rintro e w' ⟨rfl, rfl⟩
          have hg : (pre ++ List.replicate (l1.length - j) 0).getD j 0 = 0 := by
            rw [show l1.length - j = (l1.length - (j + 1)) + 1 by omega, List.replicate_succ]
            exact waterfall_Split.get_mid hpre 0
          rw [hg]
          obtain ⟨k1, k2, k3⟩ := waterfall_Split.heap_bear (i := j) (x := wrap64 (0 + nn)) (y := wrap64 (left - nn)) X4.out O4.out W4.out
          rw [waterfall_Split.set_mid hpre hjl] at k1
          have K1 := A_ k1
          have K2 := A_ k2
          have K3 := A_ k3
          have K4 := A_ (bt_ (j := 0) (v := .int .i64 (wrap64 (left - nn))) (bt_ (j := j) (v := .int .i64 (wrap64 (0 + nn))) B4.out (Nat.le_refl _)) (show w2.heap.size ≤ w2.heap.size + 1 + 1 by omega))
          clear k1 k2 k3 X4 O4 W4 B4 hg
          generalize (w4.setCell ⟨w2.heap.size, j, none⟩ (.int .i64 (wrap64 (0 + nn)))).setCell ⟨w2.heap.size + 1 + 1, 0, none⟩ (.int .i64 (wrap64 (left - nn))) = w5 at K1 K2 K3 K4 ⊢
          go_wp2
          go_roundw
          case rel => exact ⟨j + 1, pre ++ [wrap64 (0 + nn)], rs, wrap64 (left - nn), by omega, by go_num, by simp; omega, HRS, ⟨by rw [← HE.out, ← HRE.out]; simp⟩, K1, K2, K3, K4⟩
          case measure => simp [intOf]; omega
        | rw [if_neg (show ¬ all > 0 from HPOS.out)] at ha
          replace ha := os_ ha
          obtain ⟨⟨rs, LL⟩, hrs, ha⟩ := ha
          dsimp only at ha
          obtain ⟨hre, rfl⟩ : 0 :: rs = rest ∧ LL = L1 := by simpa using ha
          have HRS := A_ hrs
          have HRE := A_ hre
          clear ha hrs hre
          go_wp2
          go_roundw
          case rel =>
            refine ⟨j + 1, pre ++ [0], rs, left, by omega, by go_num, by simp; omega, HRS, ⟨by rw [← HE.out, ← HRE.out]; simp⟩, ⟨?_⟩, ⟨ba_ HO.out _⟩, ⟨ba_ HW.out _⟩, ⟨bl_ HB.out _⟩⟩
            rw [show pre ++ [0] ++ List.replicate (l1.length - (j + 1)) 0 = pre ++ List.replicate (l1.length - j) 0 by rw [show l1.length - j = (l1.length - (j + 1)) + 1 by omega, List.replicate_succ]; simp]
            exact ba_ HX.out _
          case measure => simp [intOf]; omega
      · obtain rfl : j = l1.length := by omega
        have ha := HA.out
        rw [List.drop_length, waterfall_Split.lp1] at ha
        obtain ⟨rfl, rfl⟩ : [] = rest ∧ left = L1 := by simpa using ha
        have hx := HX.out
        have he := HE.out
        rw [List.append_nil] at he
        subst he
        rw [Nat.sub_self, List.replicate_zero, List.append_nil] at hx
        replace HX := A_ hx
        clear hx HA HE ha
        go_wp2
        have hh := H.out
        obtain ⟨hr1, rfl⟩ : (waterfall_Split.lp2 l1 pre left).1 = r1 ∧ 0 = r2 := by simpa using hh
        have HR1 := A_ hr1
        clear hh hr1 H
        have HPL := A_ hpre
        clear hpre
        go_loopw [59] (fun v59 wr => ∃ (j : Nat) (pr rest : List Int) (lf : Int), j ≤ l1.length ∧ v59 = .int .i64 j ∧ Aside0 (pr.length = j) ∧ Aside0 ((waterfall_Split.lp2 (l1.drop j) (pre.drop j) lf).1 = rest) ∧ Aside0 (pr ++ rest = r1) ∧ Aside0 (wr.heap[w2.heap.size]? = some (.cells (waterfall_Split.arr (pr ++ pre.drop j)) 2 (0, 0))) ∧ Aside0 (wr.heap[w2.heap.size + 1]? = some (.cells #[.slice (some ⟨w2.heap.size, 0, none⟩) l1.length l1.length] 29 (0, 0))) ∧ Aside0 (wr.heap[w2.heap.size + 1 + 1]? = some (.cells #[.int .i64 lf] 2 (0, 0))) ∧ Aside0 (Below w2.heap.size w2 wr)) (fun v59 _ => l1.length - (intOf v59).toNat)
        case atStart => exact ⟨0, [], r1, left, Nat.zero_le _, rfl, ⟨rfl⟩, ⟨HR1.out⟩, ⟨rfl⟩, HX, HO, HW, HB⟩
        case round =>
          obtain ⟨j, pr, rest, lf, hj, rfl, HP, HA, HE, HX, HO, HW, HB⟩ := hrel
          by_cases hjl : j < l1.length
          · obtain ⟨ad, rfl, he0, he1⟩ := at_T74 (cb_ HR.out (HB2.out.trans (HB.out.mono HB2.out.size))) (j : Int) (by omega) (by omega)
            simp only [Int.toNat_natCast] at he0 he1
            have ha := HA.out
            have hpj : j < pre.length := by rw [HPL.out]; exact hjl
            have hdr : pre.drop j = pre[j] :: pre.drop (j + 1) := List.drop_eq_getElem_cons hpj
            rw [waterfall_Split.drop_at hjl, hdr, waterfall_Split.lp2] at ha
            have hx := HX.out
            rw [hdr] at hx
            generalize rd_T74 l1 (j : Int) = x at *
            generalize pre[j] = o at *
            have hpr := HP.out
            have hgo : (pr ++ o :: pre.drop (j + 1)).getD j 0 = o := waterfall_Split.get_mid hpr o
            have hln : (pr ++ o :: pre.drop (j + 1)).length = l1.length := by rw [List.length_append, List.length_cons, List.length_drop, hpr, HPL.out]; omega
            have c1 : wr.cell? ⟨w2.heap.size + 1, 0, none⟩ = some (.slice (some ⟨w2.heap.size, 0, none⟩) l1.length l1.length) := (bc_ HO.out 0).trans rfl
            have c2 : wr.cell? ⟨w2.heap.size + 1 + 1, 0, none⟩ = some (.int .i64 lf) := (bc_ HW.out 0).trans rfl
            have c3 : wr.cell? ⟨w2.heap.size, j, none⟩ = some (.int .i64 o) := ((bc_ hx j).trans (waterfall_Split.arr_at (by rw [hln]; exact hjl))).trans (by rw [hgo])
            have hlt := blk_lt HW.out
            have hlt1 := blk_lt HO.out
            have hlt0 := blk_lt hx
            have HX2 := A_ hx
            have HG := A_ hgo
            have HLN := A_ hln
            have HHA := A_ ha
            have j0 : (0 : Int) ≤ (j : Int) := by omega
            have j1 : (j : Int) < (l1.length : Int) := by omega
            clear hx hgo hln ha hdr hpr hpj HX
            by_cases q1 : 0 < lf
            · have e5 : decide ((0 : Int) < lf) = true := decide_eq_true q1
              by_cases q2 : o < x.f1
              · have e6 : decide (o < x.f1) = true := decide_eq_true q2
                have ha := HHA.out
                rw [if_pos ⟨q1, q2⟩] at ha
                have HHB := A_ ha
                clear ha HHA q1 q2
                go_wp2
                go_quiet (fail)
                go_wp2_with fail
                refine (waterfall_Split.bear2 _ w2.heap.size (pr ++ o :: pre.drop (j + 1)) l1.length l1.length j HLN.out.symm (by rw [HLN.out]; exact hjl) 1 lf (by rw [HLN.out]; omega) (bn_ (ba_ HO.out _) _) (bn_ (ba_ HX2.out _) _) (bn_ (ba_ HW.out _) _)).mono ?_
                rintro e w5 ⟨rfl, k1, k2, k3, k4⟩
                rw [HG.out, waterfall_Split.set_at HP.out] at k1
                have K1 := A_ k1
                have K2 := A_ k2
                have K3 := A_ k3
                have K4 := A_ ((pn_ (bl_ HB.out _) _).trans k4)
                clear k1 k2 k3 k4
                go_wp2
                go_roundw
                case rel => exact ⟨j + 1, pr ++ [wrap64 (o + 1)], _, wrap64 (lf - 1), by omega, by go_num, ⟨by simp; exact HP.out⟩, ⟨rfl⟩, ⟨by rw [← HE.out, ← HHB.out]; simp⟩, K1, K2, K3, K4⟩
                case measure => simp [intOf]; omega
              · have e6 : decide (o < x.f1) = false := decide_eq_false q2
                have ha := HHA.out
                rw [if_neg (fun h => q2 h.2)] at ha
                have HHB := A_ ha
                clear ha HHA q1 q2
                go_wp2
                go_quiet (fail)
                go_wp2
                go_roundw
                case rel => exact ⟨j + 1, pr ++ [o], _, lf, by omega, by go_num, ⟨by simp; exact HP.out⟩, ⟨rfl⟩, ⟨by rw [← HE.out, ← HHB.out]; simp⟩, ⟨bn_ (ba_ (by rw [List.append_assoc]; exact HX2.out) _) _⟩, ⟨bn_ (ba_ HO.out _) _⟩, ⟨bn_ (ba_ HW.out _) _⟩, ⟨pn_ (bl_ HB.out _) _⟩⟩
                case measure => simp [intOf]; omega
            · have e5 : decide ((0 : Int) < lf) = false := decide_eq_false q1
              have ha := HHA.out
              rw [if_neg (fun h => q1 h.1)] at ha
              have HHB := A_ ha
              clear ha HHA q1
              go_wp2
              go_quiet (fail)
              go_wp2
              go_roundw
              case rel => exact ⟨j + 1, pr ++ [o], _, lf, by omega, by go_num, ⟨by simp; exact HP.out⟩, ⟨rfl⟩, ⟨by rw [← HE.out, ← HHB.out]; simp⟩, ⟨bn_ (ba_ (by rw [List.append_assoc]; exact HX2.out) _) _⟩, ⟨bn_ (ba_ HO.out _) _⟩, ⟨bn_ (ba_ HW.out _) _⟩, ⟨pn_ (bl_ HB.out _) _⟩⟩
              case measure => simp [intOf]; omega
          · obtain rfl : j = l1.length := by omega
            have ha := HA.out
            rw [List.drop_length] at ha
            have hpd : pre.drop l1.length = [] := by rw [← HPL.out, List.drop_length]
            rw [hpd] at ha
            have hrest : rest = [] := by rw [← ha]; unfold waterfall_Split.lp2; rfl
            have he := HE.out
            rw [hrest, List.append_nil] at he
            have hx := HX.out
            rw [hpd, List.append_nil, he] at hx
            have c1 : wr.cell? ⟨w2.heap.size + 1, 0, none⟩ = some (.slice (some ⟨w2.heap.size, 0, none⟩) l1.length l1.length) := (bc_ HO.out 0).trans rfl
            have hr1l : r1.length = l1.length := by rw [← he]; exact HP.out
            have HXX := A_ hx
            have HRL := A_ hr1l
            clear hx hr1l he hrest hpd ha HX HA HE
            have hres : Kd.R (Kd.int .i64) 2 wr w.heap.size (fun _ => True) (.slice (some ⟨w2.heap.size, 0, none⟩) l1.length l1.length) r1 := by
              rw [← HRL.out]
              exact waterfall_Split.row (by rw [HRL.out]; exact hmx) HB2.out.size HXX.out
            have HRES := A_ hres
            clear hres
            go_wp2
            go_ret2
            exact ⟨_, rfl, HRES.out, HB2.out.trans (HB.out.mono HB2.out.size)⟩
end Go.Proofs.Ytfbkgfffalppmaa.Wf
end
section
namespace Go.Proofs.Ytfbkgfffalppmaa.Wf
open Go.RowKit Go.Proofs.YtfbkgfffalppmaaW.PrintWords Go.Proofs.YtfbkgfffalppmaaW.PrintLast Go.Proofs.YtfbkgfffalppmaaW.PrintMore
attribute [local go_sem] max2_int min2_int max_two min_two max_three min_three max_four min_four   -- for this text's walks alone
set_option linter.unusedVariables false
set_option linter.unusedSimpArgs false
attribute [local go_sem] run_add64_any
end Go.Proofs.Ytfbkgfffalppmaa.Wf
end
section
namespace Go.Proofs.Ytfbkgfffalppmaa.Wf
open Go.RowKit Go.Proofs.YtfbkgfffalppmaaW.PrintWords Go.Proofs.YtfbkgfffalppmaaW.PrintLast Go.Proofs.YtfbkgfffalppmaaW.PrintMore
attribute [local go_sem] max2_int min2_int max_two min_two max_three min_three max_four min_four   -- for this text's walks alone
set_option linter.unusedVariables false
set_option linter.unusedSimpArgs false
attribute [local go_sem] run_add64_any
end Go.Proofs.Ytfbkgfffalppmaa.Wf
end
