/- Texts of this seat, put together (Ze16). -/
import Derived.Test.YtcbpmmcpidfllaaProg
import Derived.Below
import Derived.Deep.Draws
import Derived.Deep.AppendLies
import Derived.Maps.AppendAt
import Derived.OwnWalk
import Derived.Laws.BytesArg
import Derived.Laws.MakeOwn
import Derived.Laws.OwnMore
import Derived.Deep.OwnRows
import Derived.Tactics
import Derived.Lib.ConvBytes
import Derived.Laws.Slices
import Derived.WalkKit
import Derived.KernelRfl
import Derived.RowKit3
import Derived.Deep.LoopGhost
import Derived.Deep.QuietTactic
import Derived.BigQuiet
import Derived.WideLaws
import Derived.Deep.DeepCutAuto
import Derived.Deep.CutBlock
import Derived.Deep.RegionHeld3
import Derived.Laws.Rows
import Derived.Lib.AppendStr
import Derived.ArgAppend
import Derived.Laws.IdiomCopy
import Derived.OrdersHeld
import Derived.Laws.BitsLemmas
import Derived.RowKit
import Derived.Laws.Externs
import Derived.WalkSpells
import Derived.WalkLawsBesides
import Derived.RegionTactic
import Derived.ChangeAlike
import Derived.BigRegion
import Derived.Test.YtcbpmmcpidfllaaZe0
import Derived.Test.YtcbpmmcpidfllaaZe1
import Derived.Test.YtcbpmmcpidfllaaZe2
import Derived.Test.YtcbpmmcpidfllaaZe10
section
namespace Go.Proofs.Ytcbpmmcpidfllaa.So
open Go.RowKit Go.Proofs.YtcbpmmcpidfllaaW.PrintWords Go.Proofs.YtcbpmmcpidfllaaW.PrintLast Go.Proofs.YtcbpmmcpidfllaaW.PrintMore
attribute [local go_sem] max2_int min2_int max_two min_two max_three min_three max_four min_four   -- for this text's walks alone
set_option linter.unusedVariables false
set_option linter.unusedSimpArgs false
def errW : Option Int → Value
 | none => .nilIface
 | some c => .iface 0 (.int .i64 c)
theorem errW_none : errW none = .nilIface := rfl
theorem errW_some (c : Int) : errW (some c) = .iface 0 (.int .i64 c) := rfl
theorem conv_V (W : World) (e : TypeId) (s : ByteArray) (hs : s.size ≤ 9223372036854775807) : Kd.V (Kd.int .u8) e (Lib.bytesWorld W e s) W.heap.size (fun k => W.heap.size ≤ k) (.slice (some ⟨W.heap.size, 0, none⟩) s.size (grownCap W s.size 0 e)) (bytesOf s) := by
 refine ⟨some ⟨W.heap.size, 0, none⟩, grownCap W s.size 0 e, by rw [bytesOf_length], by rw [bytesOf_length]; exact grownCap_ge _ _ _ _, ?_⟩
 intro W' hW
 have hb : W'.heap[W.heap.size]? = (Lib.bytesWorld W e s).heap[W.heap.size]? := hW _ (Nat.le_refl _) (by rw [Lib.bytesWorld_size]; omega)
 have hr := bytes_reads W e s hs
 rw [bytesOf_length]
 refine Kd.C_of_reads (enc := Value.int .u8) (d := (0 : Int)) (readsInt_of.1 ⟨hr.1, hr.2.1, fun hn => ?_⟩)
 obtain ⟨ad, ea, hc⟩ := hr.2.2 hn
 injection ea with ea
 subst ea
 refine ⟨_, rfl, fun j hj => ?_⟩
 have := hc j hj
 rw [add_plain] at this ⊢
 simpa only [World.cell?, hb] using this
section
variable {P : Program} {ops : Array Oper} {Q : Exit → Act → World → Prop} {rest : List Oper} {o : Oper} {a : Act}
theorem conv_event {w0 W : World} (base : Nat) (e : TypeId) (hgd : o.guard = none) {N : Tmp} (_hN : o.dst = some N) (s : ByteArray) (hm : s.size ≤ 9223372036854775807)
  (hrun : (execOp a.eval o).run P W = .ok (.value (.slice (some ⟨W.heap.size, 0, none⟩) s.size (grownCap W s.size 0 e))) (Lib.bytesWorld W e s)) (HB : Below base w0 W) (hbase : base ≤ W.heap.size)
  (h : ∀ v1 w1, Kd.V (Kd.int .u8) e w1 W.heap.size (fun k => W.heap.size ≤ k) v1 (bytesOf s) → Below base w0 w1 → W.grownBy w1 none → True → wpList P ops Q rest (a.put o.dst v1) w1) : wpList P ops Q (o :: rest) a W :=
 Kd.event_run hgd hrun (h _ _ (conv_V W e s hm) (bytes_below HB hbase e s) (grown_of_below (bytes_below (Below.refl _ _) (Nat.le_refl _) e s) none) trivial)
end
theorem info9 : (Try.prog.info? 9).map (fun i => (i.zero, i.size, i.bytes)) = some (some (.string ⟨#[]⟩), 1, 16) := by kernel_rfl
structure S63 where
 f0 : ByteArray
 f1 : Int
def z63 : S63 := ⟨(⟨#[]⟩ : ByteArray), (0 : Int)⟩
def k63 : Kd S63 := Kd.iso (Kd.pair Kd.string (Kd.int .i64)) (fun x : S63 => (x.f0, x.f1))
theorem k63_open {w : World} {x : S63} {cs : List Value} (h : k63.K w x cs) : cs = [.string x.f0, .int .i64 x.f1] := by
 obtain ⟨_, _, rfl, rfl, rfl⟩ := h
 exact rfl
theorem k63_mk (w : World) (x : S63)  : k63.K w x [.string x.f0, .int .i64 x.f1] := ⟨[.string x.f0], [.int .i64 x.f1], rfl, rfl, rfl⟩
def rd_T63 (xs : List S63) (i : Int) : S63 := xs.getD i.toNat z63
theorem at_T63 {w : World} {A : Option Addr} {n : Nat} {xs : List S63} (h : Kd.C k63 w A n xs) (i : Int) (h0 : 0 ≤ i) (h1 : i < n) : ∃ ad , A = some ad ∧ w.cell? (ad.add (i.toNat * 2)) = some (.string (rd_T63 xs i).f0) ∧ w.cell? ⟨(ad.add (i.toNat * 2)).block, (ad.add (i.toNat * 2)).off + 1, none⟩ = some (.int .i64 (rd_T63 xs i).f1) := by
 obtain ⟨ad, c, e, _, hK, hc0⟩ := Kd.C_get h z63 i h0 h1
 have hc : ∀ j u, c[j]? = some u → w.cell? (ad.add (i.toNat * 2 + j)) = some u := hc0
 obtain rfl := k63_open hK
 exact ⟨ad, e, hc 0 _ rfl, by rw [← add_field _ _ 1 (by omega)]; exact hc 1 _ rfl⟩
end Go.Proofs.Ytcbpmmcpidfllaa.So
end
section
namespace Go.Proofs.Ytcbpmmcpidfllaa.So
open Go.RowKit Go.Proofs.YtcbpmmcpidfllaaW.PrintWords Go.Proofs.YtcbpmmcpidfllaaW.PrintLast Go.Proofs.YtcbpmmcpidfllaaW.PrintMore
attribute [local go_sem] max2_int min2_int max_two min_two max_three min_three max_four min_four   -- for this text's walks alone
set_option linter.unusedVariables false
set_option linter.unusedSimpArgs false
mutual
def clevisref08_Sorted.l0 : Nat → List ByteArray → List ByteArray → Int → Option (List ByteArray)
 | 0, _, _, _ => none
 | k + 1, x0, x3, x4 => if x4 < (x0.length : Int) then (clevisref08_Sorted.l1 k x0 x3 x4 0) else (some x3)
def clevisref08_Sorted.l1 : Nat → List ByteArray → List ByteArray → Int → Int → Option (List ByteArray)
 | 0, _, _, _, _ => none
 | k + 1, x0, x3, x4, x5 => if x5 < (x3.length : Int) then (if 0 ≤ x5 then (if 0 ≤ x4 then (if x4 < (x0.length : Int) then (if (Op.bytesLess ((rdOf ByteArray.empty x3 x5).toList) ((rdOf ByteArray.empty x0 x4).toList)) = true then (clevisref08_Sorted.l1 k x0 x3 x4 (wrap64 (x5 + 1))) else ((some (([] : List ByteArray) : List ByteArray)).bind fun y103 => (if x5 ≤ (x3.length : Int) then ((some (x3.take (x5 : Int).toNat : List ByteArray)).bind fun y106 => (if y103.length + y106.length < 8796093022208 then ((some (y103 ++ y106 : List ByteArray)).bind fun y110 => (if y110.length < 8796093022208 then ((some (y110 ++ [rdOf ByteArray.empty x0 x4] : List ByteArray)).bind fun y114 => ((some (x3.drop (x5 : Int).toNat : List ByteArray)).bind fun y117 => (if y114.length + y117.length < 8796093022208 then (clevisref08_Sorted.l0 k x0 (y114 ++ y117) (wrap64 (x4 + 1))) else (none)))) else (none))) else (none))) else (none)))) else (none)) else (none)) else (none)) else ((some (([] : List ByteArray) : List ByteArray)).bind fun y124 => (if 0 ≤ x5 then (if x5 ≤ (x3.length : Int) then ((some (x3.take (x5 : Int).toNat : List ByteArray)).bind fun y127 => (if y124.length + y127.length < 8796093022208 then ((some (y124 ++ y127 : List ByteArray)).bind fun y131 => (if 0 ≤ x4 then (if x4 < (x0.length : Int) then (if y131.length < 8796093022208 then ((some (y131 ++ [rdOf ByteArray.empty x0 x4] : List ByteArray)).bind fun y135 => ((some (x3.drop (x5 : Int).toNat : List ByteArray)).bind fun y138 => (if y135.length + y138.length < 8796093022208 then (clevisref08_Sorted.l0 k x0 (y135 ++ y138) (wrap64 (x4 + 1))) else (none)))) else (none)) else (none)) else (none))) else (none))) else (none)) else (none)))
end
def clevisref08_Sorted.f (k : Nat) (l0 : List ByteArray) : Option (List ByteArray) := clevisref08_Sorted.l0 k l0 ([] : List ByteArray) 0
set_option maxHeartbeats 8000000 in
set_option maxRecDepth 100000 in
theorem clevisref08_Sorted.calls (k : Nat) (A0 : Option Addr) (c0 : Nat) (l0 : List ByteArray) (r : List ByteArray) (w : World) (hr0 : Kd.C Kd.string w A0 l0.length l0) (hc0 : l0.length ≤ c0) (h : clevisref08_Sorted.f k l0 = some r) :
  Calls Try.prog 19 #[.slice A0 l0.length c0] w fun e w' => ∃ v0_ : Value, e = .returned (v0_) ∧ Kd.R Kd.string 9 w' w.heap.size (fun _ => True) v0_ r ∧ Below w.heap.size w w' := by
 have HR0 := A_ hr0
 have HC0 := A_ hc0
 clear hr0 hc0
 have HB := A_ (Below.refl w.heap.size w)
 have H : (clevisref08_Sorted.l0 k l0 ([] : List ByteArray) 0) = some r := h
 clear h
 have H' := A_ H
 clear H
 go_enter Try.func19, Try.ntmps19
 go_wp2
 repeat (go_quiet (fail); try go_wp2)
 (try simp only [Act.put, sA_, sZ_, sS_])
 go_loopg [3, 4] k (fun kq v3 v4 w' => ∃ (x3_1 : List ByteArray) (x4_1 : Int), v4 = .int .i64 x4_1 ∧ Aside0 (clevisref08_Sorted.l0 kq l0 x3_1 x4_1 = some r) ∧ Aside0 (kq ≤ k) ∧ Aside0 (Kd.R Kd.string 9 w' w.heap.size (fun _ => True) v3 x3_1) ∧ Aside0 (Below w.heap.size w w'))
 case atStart => exact ⟨(([] : List ByteArray)), (0), (by first | rfl | (simp; done) | (simp [*]; done)), H', ⟨Nat.le_refl _⟩, ⟨by first | exact Kd.R_nil _ _ _ _ _ | exact Kd.N_nil _ _ _ _ _ | exact Kd.V_nil _ _ _ _ _ | exact Kd.Q_nil _ _ _ _ _ | exact Kd.S_nil _ _ _ _ _⟩, ⟨bw_⟩⟩
 case round =>
  clear H'
  try clear c1
  obtain ⟨x3_1, x4_1, rfl, HA, HK1, HO_3, HB⟩ := hrel
  cases gk with
  | zero => exact absurd HA.out (by simp [clevisref08_Sorted.l0])
  | succ k1 =>
   have H := HA.out
   clear HA
   simp only [clevisref08_Sorted.l0] at H
   by_cases c2 : x4_1 < (l0.length : Int)
   ·
    rw [if_pos c2] at H
    have c2b0 : decide (x4_1 < (l0.length : Int)) = true := decide_eq_true c2
    clear c2
    have H' := A_ H
    clear H
    go_wp2
    repeat (go_quiet (fail); try go_wp2)
    (try simp only [Act.put, sA_, sZ_, sS_])
    go_loopg [5] k1 (fun kq v5 w' => ∃ (x5_2 : Int), v5 = .int .i64 x5_2 ∧ Aside0 (clevisref08_Sorted.l1 kq l0 x3_1 x4_1 x5_2 = some r) ∧ Aside0 (kq ≤ k1) ∧ Aside0 (Kd.R Kd.string 9 w' w.heap.size (fun _ => True) u3 x3_1) ∧ Aside0 (Below w.heap.size w w'))
    case atStart => exact ⟨(0), (by first | rfl | (simp; done) | (simp [*]; done)), H', ⟨Nat.le_refl _⟩, ⟨by (with_reducible repeat (first | apply Kd.R_alloc | apply Kd.R_drewN | apply Kd.R_drew)); exact HO_3.out⟩, ⟨bw_⟩⟩
    case round =>
     clear H'
     try clear c1
     try clear c2
     try clear c2b0
     try clear p2
     obtain ⟨x5_2, rfl, HA, HK2, HO_3, HB⟩ := hrel
     cases gk with
     | zero => exact absurd HA.out (by simp [clevisref08_Sorted.l1])
     | succ k2 =>
      have H := HA.out
      clear HA
      simp only [clevisref08_Sorted.l1] at H
      by_cases c3 : x5_2 < (x3_1.length : Int)
      ·
       rw [if_pos c3] at H
       have c3b0 : decide (x5_2 < (x3_1.length : Int)) = true := decide_eq_true c3
       clear c3
       by_cases c4 : 0 ≤ x5_2
       ·
        rw [if_pos c4] at H
        have c4b0 : decide (0 ≤ x5_2) = true := decide_eq_true c4
        clear c4
        by_cases c5 : 0 ≤ x4_1
        ·
         rw [if_pos c5] at H
         have c5b0 : decide (0 ≤ x4_1) = true := decide_eq_true c5
         clear c5
         by_cases c6 : x4_1 < (l0.length : Int)
         ·
          rw [if_pos c6] at H
          have c6b0 : decide (x4_1 < (l0.length : Int)) = true := decide_eq_true c6
          clear c6
          by_cases c7 : (Op.bytesLess ((rdOf ByteArray.empty x3_1 x5_2).toList) ((rdOf ByteArray.empty l0 x4_1).toList)) = true
          ·
           rw [if_pos c7] at H
           have c7b0 : (Op.bytesLess ((rdOf ByteArray.empty x3_1 x5_2).toList) ((rdOf ByteArray.empty l0 x4_1).toList)) = true := c7
           clear c7
           have H' := A_ H
           clear H
           obtain ⟨Ao8, co8, eo8⟩ := Kd.R_slice HO_3.out
           subst eo8
           have p101 : 0 ≤ (x5_2 : Int) := od_ (by first | (with_reducible assumption) | assumption)
           have q101 : x5_2 < (x3_1.length : Int) := od_ (by first | (with_reducible assumption) | assumption)
           obtain ⟨ad101, e101, hx101_0⟩ := Kd.at_string (Kd.R_reads' HO_3.out).2.2 x5_2 p101 q101
           cases e101
           replace p101 := eq_true p101
           replace q101 := eq_true q101
           have p102 : 0 ≤ (x4_1 : Int) := od_ (by first | (with_reducible assumption) | assumption)
           have q102 : x4_1 < (l0.length : Int) := od_ (by first | (with_reducible assumption) | assumption)
           obtain ⟨ad102, e102, hx102_0⟩ := Kd.at_string HR0.out x4_1 p102 q102
           cases e102
           replace hx102_0 := (HB.out.cell (World.block_lt_of_cell? w _ hx102_0)).trans hx102_0
           replace p102 := eq_true p102
           replace q102 := eq_true q102
           go_wp2
           repeat (go_quiet (fail); try go_wp2)
           go_roundg k2
           case measure => have := HK1.out; have := HK2.out; omega
           case rel => exact ⟨(wrap64 (x5_2 + 1)), (by first | rfl | (simp; done) | (simp [*]; done)), H', ⟨by have := HK1.out; have := HK2.out; omega⟩, ⟨by (with_reducible repeat (first | apply Kd.R_alloc | apply Kd.R_drewN | apply Kd.R_drew)); exact HO_3.out⟩, ⟨bw_⟩⟩
          ·
           rw [if_neg c7] at H
           have c7b0 : (Op.bytesLess ((rdOf ByteArray.empty x3_1 x5_2).toList) ((rdOf ByteArray.empty l0 x4_1).toList)) = false := by simpa using c7
           clear c7
           obtain ⟨y103, hy103⟩ : ∃ y_ : List ByteArray, y_ = (([] : List ByteArray)) := ⟨_, rfl⟩
           replace H : (if x5_2 ≤ (x3_1.length : Int) then ((some (x3_1.take (x5_2 : Int).toNat : List ByteArray)).bind fun y106 => (if y103.length + y106.length < 8796093022208 then ((some (y103 ++ y106 : List ByteArray)).bind fun y110 => (if y110.length < 8796093022208 then ((some (y110 ++ [rdOf ByteArray.empty l0 x4_1] : List ByteArray)).bind fun y114 => ((some (x3_1.drop (x5_2 : Int).toNat : List ByteArray)).bind fun y117 => (if y114.length + y117.length < 8796093022208 then (clevisref08_Sorted.l0 k2 l0 (y114 ++ y117) (wrap64 (x4_1 + 1))) else (none)))) else (none))) else (none))) else (none)) = some r := by first | (rw [hy103]; with_reducible exact H) | (have H2_ := (Option.bind_some _ _).symm.trans H; rw [hy103]; with_reducible exact H2_) | (have H2_ := (Option.bind_some _ _).symm.trans H; with_reducible exact H2_) | with_reducible exact H | (rw [hy103]; exact H) | exact H
           have Ny103 := A_ hy103
           clear hy103
           have c9b0 := eq_true (od_ (by first | (with_reducible assumption) | assumption) : 0 ≤ x5_2)
           by_cases c10 : x5_2 ≤ (x3_1.length : Int)
           ·
            rw [if_pos c10] at H
            have c10b0 := eq_true c10
            have c10b1 : decide (x5_2 ≤ (x3_1.length : Int)) = true := decide_eq_true c10
            clear c10
            obtain ⟨y106, hy106⟩ : ∃ y_ : List ByteArray, y_ = (x3_1.take (x5_2 : Int).toNat) := ⟨_, rfl⟩
            replace H : (if y103.length + y106.length < 8796093022208 then ((some (y103 ++ y106 : List ByteArray)).bind fun y110 => (if y110.length < 8796093022208 then ((some (y110 ++ [rdOf ByteArray.empty l0 x4_1] : List ByteArray)).bind fun y114 => ((some (x3_1.drop (x5_2 : Int).toNat : List ByteArray)).bind fun y117 => (if y114.length + y117.length < 8796093022208 then (clevisref08_Sorted.l0 k2 l0 (y114 ++ y117) (wrap64 (x4_1 + 1))) else (none)))) else (none))) else (none)) = some r := by first | (rw [hy106]; with_reducible exact H) | (have H2_ := (Option.bind_some _ _).symm.trans H; rw [hy106]; with_reducible exact H2_) | (have H2_ := (Option.bind_some _ _).symm.trans H; with_reducible exact H2_) | with_reducible exact H | (rw [hy106]; exact H) | exact H
            have Ny106 := A_ hy106
            clear hy106
            by_cases c11 : y103.length + y106.length < 8796093022208
            ·
             rw [if_pos c11] at H
             have LMc11 := A_ c11
             clear c11
             obtain ⟨y110, hy110⟩ : ∃ y_ : List ByteArray, y_ = (y103 ++ y106) := ⟨_, rfl⟩
             replace H : (if y110.length < 8796093022208 then ((some (y110 ++ [rdOf ByteArray.empty l0 x4_1] : List ByteArray)).bind fun y114 => ((some (x3_1.drop (x5_2 : Int).toNat : List ByteArray)).bind fun y117 => (if y114.length + y117.length < 8796093022208 then (clevisref08_Sorted.l0 k2 l0 (y114 ++ y117) (wrap64 (x4_1 + 1))) else (none)))) else (none)) = some r := by first | (rw [hy110]; with_reducible exact H) | (have H2_ := (Option.bind_some _ _).symm.trans H; rw [hy110]; with_reducible exact H2_) | (have H2_ := (Option.bind_some _ _).symm.trans H; with_reducible exact H2_) | with_reducible exact H | (rw [hy110]; exact H) | exact H
             have Ny110 := A_ hy110
             clear hy110
             by_cases c12 : y110.length < 8796093022208
             ·
              rw [if_pos c12] at H
              have LMc12 := A_ c12
              clear c12
              obtain ⟨y114, hy114⟩ : ∃ y_ : List ByteArray, y_ = (y110 ++ [rdOf ByteArray.empty l0 x4_1]) := ⟨_, rfl⟩
              replace H : ((some (x3_1.drop (x5_2 : Int).toNat : List ByteArray)).bind fun y117 => (if y114.length + y117.length < 8796093022208 then (clevisref08_Sorted.l0 k2 l0 (y114 ++ y117) (wrap64 (x4_1 + 1))) else (none))) = some r := by first | (rw [hy114]; with_reducible exact H) | (have H2_ := (Option.bind_some _ _).symm.trans H; rw [hy114]; with_reducible exact H2_) | (have H2_ := (Option.bind_some _ _).symm.trans H; with_reducible exact H2_) | with_reducible exact H | (rw [hy114]; exact H) | exact H
              have Ny114 := A_ hy114
              clear hy114
              have c13b0 := eq_true (od_ (by first | (with_reducible assumption) | assumption) : 0 ≤ x5_2)
              have c14b0 := eq_true (od_ (by first | (with_reducible assumption) | assumption) : x5_2 ≤ (x3_1.length : Int))
              obtain ⟨y117, hy117⟩ : ∃ y_ : List ByteArray, y_ = (x3_1.drop (x5_2 : Int).toNat) := ⟨_, rfl⟩
              replace H : (if y114.length + y117.length < 8796093022208 then (clevisref08_Sorted.l0 k2 l0 (y114 ++ y117) (wrap64 (x4_1 + 1))) else (none)) = some r := by first | (rw [hy117]; with_reducible exact H) | (have H2_ := (Option.bind_some _ _).symm.trans H; rw [hy117]; with_reducible exact H2_) | (have H2_ := (Option.bind_some _ _).symm.trans H; with_reducible exact H2_) | with_reducible exact H | (rw [hy117]; exact H) | exact H
              have Ny117 := A_ hy117
              clear hy117
              by_cases c15 : y114.length + y117.length < 8796093022208
              ·
               rw [if_pos c15] at H
               have LMc15 := A_ c15
               clear c15
               obtain ⟨y121, hy121⟩ : ∃ y_ : List ByteArray, y_ = (y114 ++ y117) := ⟨_, rfl⟩
               replace H : (clevisref08_Sorted.l0 k2 l0 y121 (wrap64 (x4_1 + 1))) = some r := by first | (rw [hy121]; with_reducible exact H) | (have H2_ := (Option.bind_some _ _).symm.trans H; rw [hy121]; with_reducible exact H2_) | (have H2_ := (Option.bind_some _ _).symm.trans H; with_reducible exact H2_) | with_reducible exact H | (rw [hy121]; exact H) | exact H
               have Ny121 := A_ hy121
               clear hy121
               have H' := A_ H
               clear H
               obtain ⟨Ao16, co16, eo16⟩ := Kd.R_slice HO_3.out
               subst eo16
               have p101 : 0 ≤ (x5_2 : Int) := od_ (by first | (with_reducible assumption) | assumption)
               have q101 : x5_2 < (x3_1.length : Int) := od_ (by first | (with_reducible assumption) | assumption)
               obtain ⟨ad101, e101, hx101_0⟩ := Kd.at_string (Kd.R_reads' HO_3.out).2.2 x5_2 p101 q101
               cases e101
               replace p101 := eq_true p101
               replace q101 := eq_true q101
               have p102 : 0 ≤ (x4_1 : Int) := od_ (by first | (with_reducible assumption) | assumption)
               have q102 : x4_1 < (l0.length : Int) := od_ (by first | (with_reducible assumption) | assumption)
               obtain ⟨ad102, e102, hx102_0⟩ := Kd.at_string HR0.out x4_1 p102 q102
               cases e102
               replace hx102_0 := (HB.out.cell (World.block_lt_of_cell? w _ hx102_0)).trans hx102_0
               replace p102 := eq_true p102
               replace q102 := eq_true q102
               go_wp2_with (first | ((with_reducible refine gate_dst (N := 30) rfl ?_); refine Kd.R_lit Kd.string _ 9 ?hg (N := 30) ?hd (xs := ([] : List ByteArray)) (inner := []) (ok := fun _ => True) (okp := fun _ => True) ?hr ?hp (fun _ hk => hk) trivial (Below.refl _ _) (Nat.le_refl _) (by simp) ?_; (case hd => rfl); (case hg => rfl); (case hr => first | (go_simp; done) | (go_simp; rfl)); (case hp => exact (Reps.none _ _)); intro v104 w17 ho18 hb hg_ hnew_; clear hg_ hnew_; (first | rw [← Ny103.out] at ho18 | (simp only [Int.reduceToNat] at ho18; rw [← Ny103.out] at ho18)); have n0_ := A_ (Kd.R_elder' (by (with_reducible repeat (first | apply Kd.R_alloc | apply Kd.R_drewN | apply Kd.R_drew)); exact HO_3.out) (Kd.R_base ho18) hb); have n1_ := A_ (Kd.R_lower (Kd.R_new' ho18 (Kd.R_lt (by (with_reducible repeat (first | apply Kd.R_alloc | apply Kd.R_drewN | apply Kd.R_drew)); exact HO_3.out))) (bz_ bw_)); have n2_ := A_ (bs_ bw_ hb); clear HO_3; clear HB; have HO_3 := n0_; have HO105 := n1_; have HB := n2_; clear n0_ n1_ n2_; clear hb ho18; have q19 : (x5_2 : Int) ≤ ((x3_1.length : Int) : Int) := od_ (by first | (with_reducible assumption) | assumption); obtain ⟨i019, hi019, _, hsz19, _⟩ := info_parts info9; have hroom19 : x3_1.length ≤ co16 := (Kd.R_reads' HO_3.out).2.1; have hC19 : Kd.C Kd.string _ (some ad101) x3_1.length x3_1 := (Kd.R_reads' HO_3.out).2.2; have hcut19 := cut_to (P := Try.prog) 22 9 .i64 Try.underlying22 hi019 (some ad101) x3_1.length co16 x5_2 (od_ (by first | (with_reducible assumption) | assumption)) q19 hroom19; have hr19 := Kd.C_take (m := (x5_2 : Int).toNat) hC19 (by omega); have hy19 : y106.length = (x5_2 : Int).toNat := (by rw [Ny106.out, List.length_take]; omega); rw [← Ny106.out] at hr19; rw [← hy19] at hcut19; have HR109 := A_ hr19; have HC109 := A_ (show y106.length ≤ co16 from by omega); clear hr19 hC19 hroom19 hi019 hsz19; have KY19 := A_ hy19; clear hy19; have KL19 := A_ (show (x5_2 : Int).toNat ≤ x3_1.length from by omega); replace q19 := eq_true q19) | ((with_reducible refine gate_builtin (b := .append) (xs := #[.tmp 30, .tmp 33]) rfl ?_); at_builtin; refine Kd.R_append_rows Kd.string (w0 := w) w.heap.size rfl (.tmp 30) (.tmp 33) 22 9 (.string ⟨#[]⟩) 16 rfl Try.underlying22 info9 rfl (by decide) (by omega) v104 y103 y106 _ _ _ (fun k_ => some k_ ≠ (.slice (some ad101) x3_1.length co16 : Value).ownBlock) (fun _ => False) rfl rfl ?aO ?aR (fun _ _ h => h) (fun _ h => h.elim) ?aF ?aB ?aS ?aL ?_; (case aR => repeat (first | exact (by repeat (first | (with_reducible exact HR109.out) | (with_reducible refine ca_ ?_ _) | (with_reducible refine cn_ ?_ _) | (with_reducible refine cd_ ?_) | exact HR109.out)) | (with_reducible refine ca_ ?_ _) | (with_reducible refine cn_ ?_ _) | (with_reducible refine cd_ ?_))); (case aB => exact bw_); (case aF => exact (fun k_ hk => Kd.fresh' (Kd.R_lt (by (with_reducible repeat (first | apply Kd.R_alloc | apply Kd.R_drewN | apply Kd.R_drew)); exact HO_3.out)) k_ hk)); (case aO => exact (by (with_reducible repeat (first | apply Kd.R_alloc | apply Kd.R_drewN | apply Kd.R_drew)); exact Kd.R_mono HO105.out (fun _ hk => hk.2))); (case aS => exact (bz_ bw_)); (case aL => have := LMc11.out; omega); intro v111 w20 ho hb hg hat; rw [← Ny110.out] at ho; have n0_ := A_ (Kd.R_after (ok := (fun _ => True)) (by (with_reducible repeat (first | apply Kd.R_alloc | apply Kd.R_drewN | apply Kd.R_drew)); exact HO_3.out) hg hat); have n1_ := A_ (hb); have n2_ := A_ ((show Kd.C Kd.string w20 (some ad101) y106.length y106 from by rw [Ny106.out]; exact Kd.C_take (m := (x5_2 : Int).toNat) ((Kd.R_reads' (Kd.R_after (ok := (fun _ => True)) (by (with_reducible repeat (first | apply Kd.R_alloc | apply Kd.R_drewN | apply Kd.R_drew)); exact HO_3.out) hg hat)).2.2) KL19.out)); have n3_ := A_ (ho); clear HO_3; clear HB; clear HR109; clear HO105; have HO_3 := n0_; have HB := n1_; have HR109 := n2_; have HO112 := n3_; clear n0_ n1_ n2_ n3_; clear ho hb hg hat; have p113 : 0 ≤ (x4_1 : Int) := od_ (by first | (with_reducible assumption) | assumption); have q113 : x4_1 < (l0.length : Int) := od_ (by first | (with_reducible assumption) | assumption); obtain ⟨ad113, e113, hx113_0⟩ := Kd.at_string HR0.out x4_1 p113 q113; obtain rfl : ad102 = ad113 := (by injection e113); replace hx113_0 := (HB.out.cell (World.block_lt_of_cell? w _ hx113_0)).trans hx113_0; replace p113 := eq_true p113; replace q113 := eq_true q113) | ((with_reducible refine gate_builtin (b := .append) (xs := #[.tmp 35, .tmp 40]) rfl ?_); at_builtin; refine Kd.R_append Kd.string (w0 := w) w.heap.size rfl (.tmp 35) (.tmp 40) 22 9 (.string ⟨#[]⟩) 16 rfl Try.underlying22 info9 rfl (by decide) (by omega) v111 y110 (rdOf ByteArray.empty l0 x4_1) [.string (rdOf ByteArray.empty l0 x4_1)] (fun k_ => some k_ ≠ (.slice (some ad101) x3_1.length co16 : Value).ownBlock) (fun _ => False) rfl rfl ?aP (fun _ hk => hk.elim) ?aF ?aO ?aB ?aS ?aL ?_; (case aP => exact rfl); (case aB => exact bw_); (case aF => exact (fun k_ hk => Kd.fresh' (Kd.R_lt (by (with_reducible repeat (first | apply Kd.R_alloc | apply Kd.R_drewN | apply Kd.R_drew)); exact HO_3.out)) k_ hk)); (case aO => exact (by (with_reducible repeat (first | apply Kd.R_alloc | apply Kd.R_drewN | apply Kd.R_drew)); exact HO112.out)); (case aS => exact (bz_ bw_)); (case aL => have := LMc12.out; omega); intro v115 w21 ho hb hg hat; rw [← Ny114.out] at ho; have n0_ := A_ (Kd.R_after (ok := (fun _ => True)) (by (with_reducible repeat (first | apply Kd.R_alloc | apply Kd.R_drewN | apply Kd.R_drew)); exact HO_3.out) hg hat); have n1_ := A_ (hb); have n2_ := A_ ((show Kd.C Kd.string w21 (some ad101) y106.length y106 from by rw [Ny106.out]; exact Kd.C_take (m := (x5_2 : Int).toNat) ((Kd.R_reads' (Kd.R_after (ok := (fun _ => True)) (by (with_reducible repeat (first | apply Kd.R_alloc | apply Kd.R_drewN | apply Kd.R_drew)); exact HO_3.out) hg hat)).2.2) KL19.out)); have n3_ := A_ (ho); clear HO_3; clear HB; clear HR109; clear HO112; have HO_3 := n0_; have HB := n1_; have HR109 := n2_; have HO116 := n3_; clear n0_ n1_ n2_ n3_; clear ho hb hg hat; have q22 : (x5_2 : Int) ≤ ((x3_1.length : Int) : Int) := od_ (by first | (with_reducible assumption) | assumption); obtain ⟨i022, hi022, _, hsz22, _⟩ := info_parts info9; have hroom22 : x3_1.length ≤ co16 := (Kd.R_reads' HO_3.out).2.1; have hC22 : Kd.C Kd.string _ (some ad101) x3_1.length x3_1 := (Kd.R_reads' HO_3.out).2.2; have q022 : (0 : Int) ≤ (x5_2 : Int) := od_ (by first | (with_reducible assumption) | assumption); have hcut22 := cut_from (P := Try.prog) 22 9 .i64 Try.underlying22 hi022 1 hsz22 (some ad101) x3_1.length co16 x5_2 q022 q22; have hr22 := Kd.C_drop (m := (x5_2 : Int).toNat) (c := co16) hC22 (by omega) hroom22; obtain ⟨A22, hA22⟩ : ∃ A1, A1 = (if co16 = (x5_2 : Int).toNat then (some ad101) else ((some ad101) : Option Addr).map (·.add ((x5_2 : Int).toNat * 1))) := ⟨_, rfl⟩; obtain ⟨c22, hc22⟩ : ∃ c1, c1 = co16 - (x5_2 : Int).toNat := ⟨_, rfl⟩; have hy22 : y117.length = x3_1.length - (x5_2 : Int).toNat := (by rw [Ny117.out, List.length_drop] <;> omega); rw [show (x3_1).drop (x5_2 : Int).toNat = y117 from Ny117.out.symm] at hr22; replace hr22 : Kd.C Kd.string _ A22 y117.length y117 := (by rw [hA22]; exact hr22); rw [← hy22, ← hA22, ← hc22] at hcut22; have HR120 := A_ hr22; have HC120 := A_ (show y117.length ≤ c22 from by rw [hy22, hc22]; exact Nat.sub_le_sub_right hroom22 _); clear hr22 hC22 hroom22 hi022 hsz22 hc22; have KY22 := A_ hy22; have KA22 := A_ hA22; clear hy22 hA22; have KL22 := A_ (show (x5_2 : Int).toNat ≤ x3_1.length from by omega); replace q22 := eq_true q22) | ((with_reducible refine gate_builtin (b := .append) (xs := #[.tmp 42, .tmp 45]) rfl ?_); at_builtin; refine Kd.R_append_rows Kd.string (w0 := w) w.heap.size rfl (.tmp 42) (.tmp 45) 22 9 (.string ⟨#[]⟩) 16 rfl Try.underlying22 info9 rfl (by decide) (by omega) v115 y114 y117 _ _ _ (fun k_ => some k_ ≠ (.slice (some ad101) x3_1.length co16 : Value).ownBlock) (fun _ => False) rfl rfl ?aO ?aR (fun _ _ h => h) (fun _ h => h.elim) ?aF ?aB ?aS ?aL ?_; (case aR => repeat (first | exact (by repeat (first | (with_reducible exact HR120.out) | (with_reducible refine ca_ ?_ _) | (with_reducible refine cn_ ?_ _) | (with_reducible refine cd_ ?_) | exact HR120.out)) | (with_reducible refine ca_ ?_ _) | (with_reducible refine cn_ ?_ _) | (with_reducible refine cd_ ?_))); (case aB => exact bw_); (case aF => exact (fun k_ hk => Kd.fresh' (Kd.R_lt (by (with_reducible repeat (first | apply Kd.R_alloc | apply Kd.R_drewN | apply Kd.R_drew)); exact HO_3.out)) k_ hk)); (case aO => exact (by (with_reducible repeat (first | apply Kd.R_alloc | apply Kd.R_drewN | apply Kd.R_drew)); exact HO116.out)); (case aS => exact (bz_ bw_)); (case aL => have := LMc15.out; omega); intro v122 w23 ho hb hg hat; rw [← Ny121.out] at ho; have n0_ := A_ (Kd.R_after (ok := (fun _ => True)) (by (with_reducible repeat (first | apply Kd.R_alloc | apply Kd.R_drewN | apply Kd.R_drew)); exact HO_3.out) hg hat); have n1_ := A_ (hb); have n2_ := A_ ((show Kd.C Kd.string w23 (some ad101) y106.length y106 from by rw [Ny106.out]; exact Kd.C_take (m := (x5_2 : Int).toNat) ((Kd.R_reads' (Kd.R_after (ok := (fun _ => True)) (by (with_reducible repeat (first | apply Kd.R_alloc | apply Kd.R_drewN | apply Kd.R_drew)); exact HO_3.out) hg hat)).2.2) KL19.out)); have n3_ := A_ ((show Kd.C Kd.string w23 A22 y117.length y117 from by rw [Ny117.out, KA22.out]; exact Kd.C_drop (m := (x5_2 : Int).toNat) (c := co16) ((Kd.R_reads' (Kd.R_after (ok := (fun _ => True)) (by (with_reducible repeat (first | apply Kd.R_alloc | apply Kd.R_drewN | apply Kd.R_drew)); exact HO_3.out) hg hat)).2.2) KL22.out ((Kd.R_reads' (Kd.R_after (ok := (fun _ => True)) (by (with_reducible repeat (first | apply Kd.R_alloc | apply Kd.R_drewN | apply Kd.R_drew)); exact HO_3.out) hg hat)).2.1))); have n4_ := A_ (ho); clear HO_3; clear HB; clear HR109; clear HR120; clear HO116; have HO_3 := n0_; have HB := n1_; have HR109 := n2_; have HR120 := n3_; have HO123 := n4_; clear n0_ n1_ n2_ n3_ n4_; clear ho hb hg hat))
               repeat (go_quiet (first | ((with_reducible refine gate_dst (N := 30) rfl ?_); refine Kd.R_lit Kd.string _ 9 ?hg (N := 30) ?hd (xs := ([] : List ByteArray)) (inner := []) (ok := fun _ => True) (okp := fun _ => True) ?hr ?hp (fun _ hk => hk) trivial (Below.refl _ _) (Nat.le_refl _) (by simp) ?_; (case hd => rfl); (case hg => rfl); (case hr => first | (go_simp; done) | (go_simp; rfl)); (case hp => exact (Reps.none _ _)); intro v104 w17 ho18 hb hg_ hnew_; clear hg_ hnew_; (first | rw [← Ny103.out] at ho18 | (simp only [Int.reduceToNat] at ho18; rw [← Ny103.out] at ho18)); have n0_ := A_ (Kd.R_elder' (by (with_reducible repeat (first | apply Kd.R_alloc | apply Kd.R_drewN | apply Kd.R_drew)); exact HO_3.out) (Kd.R_base ho18) hb); have n1_ := A_ (Kd.R_lower (Kd.R_new' ho18 (Kd.R_lt (by (with_reducible repeat (first | apply Kd.R_alloc | apply Kd.R_drewN | apply Kd.R_drew)); exact HO_3.out))) (bz_ bw_)); have n2_ := A_ (bs_ bw_ hb); clear HO_3; clear HB; have HO_3 := n0_; have HO105 := n1_; have HB := n2_; clear n0_ n1_ n2_; clear hb ho18; have q19 : (x5_2 : Int) ≤ ((x3_1.length : Int) : Int) := od_ (by first | (with_reducible assumption) | assumption); obtain ⟨i019, hi019, _, hsz19, _⟩ := info_parts info9; have hroom19 : x3_1.length ≤ co16 := (Kd.R_reads' HO_3.out).2.1; have hC19 : Kd.C Kd.string _ (some ad101) x3_1.length x3_1 := (Kd.R_reads' HO_3.out).2.2; have hcut19 := cut_to (P := Try.prog) 22 9 .i64 Try.underlying22 hi019 (some ad101) x3_1.length co16 x5_2 (od_ (by first | (with_reducible assumption) | assumption)) q19 hroom19; have hr19 := Kd.C_take (m := (x5_2 : Int).toNat) hC19 (by omega); have hy19 : y106.length = (x5_2 : Int).toNat := (by rw [Ny106.out, List.length_take]; omega); rw [← Ny106.out] at hr19; rw [← hy19] at hcut19; have HR109 := A_ hr19; have HC109 := A_ (show y106.length ≤ co16 from by omega); clear hr19 hC19 hroom19 hi019 hsz19; have KY19 := A_ hy19; clear hy19; have KL19 := A_ (show (x5_2 : Int).toNat ≤ x3_1.length from by omega); replace q19 := eq_true q19) | ((with_reducible refine gate_builtin (b := .append) (xs := #[.tmp 30, .tmp 33]) rfl ?_); at_builtin; refine Kd.R_append_rows Kd.string (w0 := w) w.heap.size rfl (.tmp 30) (.tmp 33) 22 9 (.string ⟨#[]⟩) 16 rfl Try.underlying22 info9 rfl (by decide) (by omega) v104 y103 y106 _ _ _ (fun k_ => some k_ ≠ (.slice (some ad101) x3_1.length co16 : Value).ownBlock) (fun _ => False) rfl rfl ?aO ?aR (fun _ _ h => h) (fun _ h => h.elim) ?aF ?aB ?aS ?aL ?_; (case aR => repeat (first | exact (by repeat (first | (with_reducible exact HR109.out) | (with_reducible refine ca_ ?_ _) | (with_reducible refine cn_ ?_ _) | (with_reducible refine cd_ ?_) | exact HR109.out)) | (with_reducible refine ca_ ?_ _) | (with_reducible refine cn_ ?_ _) | (with_reducible refine cd_ ?_))); (case aB => exact bw_); (case aF => exact (fun k_ hk => Kd.fresh' (Kd.R_lt (by (with_reducible repeat (first | apply Kd.R_alloc | apply Kd.R_drewN | apply Kd.R_drew)); exact HO_3.out)) k_ hk)); (case aO => exact (by (with_reducible repeat (first | apply Kd.R_alloc | apply Kd.R_drewN | apply Kd.R_drew)); exact Kd.R_mono HO105.out (fun _ hk => hk.2))); (case aS => exact (bz_ bw_)); (case aL => have := LMc11.out; omega); intro v111 w20 ho hb hg hat; rw [← Ny110.out] at ho; have n0_ := A_ (Kd.R_after (ok := (fun _ => True)) (by (with_reducible repeat (first | apply Kd.R_alloc | apply Kd.R_drewN | apply Kd.R_drew)); exact HO_3.out) hg hat); have n1_ := A_ (hb); have n2_ := A_ ((show Kd.C Kd.string w20 (some ad101) y106.length y106 from by rw [Ny106.out]; exact Kd.C_take (m := (x5_2 : Int).toNat) ((Kd.R_reads' (Kd.R_after (ok := (fun _ => True)) (by (with_reducible repeat (first | apply Kd.R_alloc | apply Kd.R_drewN | apply Kd.R_drew)); exact HO_3.out) hg hat)).2.2) KL19.out)); have n3_ := A_ (ho); clear HO_3; clear HB; clear HR109; clear HO105; have HO_3 := n0_; have HB := n1_; have HR109 := n2_; have HO112 := n3_; clear n0_ n1_ n2_ n3_; clear ho hb hg hat; have p113 : 0 ≤ (x4_1 : Int) := od_ (by first | (with_reducible assumption) | assumption); have q113 : x4_1 < (l0.length : Int) := od_ (by first | (with_reducible assumption) | assumption); obtain ⟨ad113, e113, hx113_0⟩ := Kd.at_string HR0.out x4_1 p113 q113; obtain rfl : ad102 = ad113 := (by injection e113); replace hx113_0 := (HB.out.cell (World.block_lt_of_cell? w _ hx113_0)).trans hx113_0; replace p113 := eq_true p113; replace q113 := eq_true q113) | ((with_reducible refine gate_builtin (b := .append) (xs := #[.tmp 35, .tmp 40]) rfl ?_); at_builtin; refine Kd.R_append Kd.string (w0 := w) w.heap.size rfl (.tmp 35) (.tmp 40) 22 9 (.string ⟨#[]⟩) 16 rfl Try.underlying22 info9 rfl (by decide) (by omega) v111 y110 (rdOf ByteArray.empty l0 x4_1) [.string (rdOf ByteArray.empty l0 x4_1)] (fun k_ => some k_ ≠ (.slice (some ad101) x3_1.length co16 : Value).ownBlock) (fun _ => False) rfl rfl ?aP (fun _ hk => hk.elim) ?aF ?aO ?aB ?aS ?aL ?_; (case aP => exact rfl); (case aB => exact bw_); (case aF => exact (fun k_ hk => Kd.fresh' (Kd.R_lt (by (with_reducible repeat (first | apply Kd.R_alloc | apply Kd.R_drewN | apply Kd.R_drew)); exact HO_3.out)) k_ hk)); (case aO => exact (by (with_reducible repeat (first | apply Kd.R_alloc | apply Kd.R_drewN | apply Kd.R_drew)); exact HO112.out)); (case aS => exact (bz_ bw_)); (case aL => have := LMc12.out; omega); intro v115 w21 ho hb hg hat; rw [← Ny114.out] at ho; have n0_ := A_ (Kd.R_after (ok := (fun _ => True)) (by (with_reducible repeat (first | apply Kd.R_alloc | apply Kd.R_drewN | apply Kd.R_drew)); exact HO_3.out) hg hat); have n1_ := A_ (hb); have n2_ := A_ ((show Kd.C Kd.string w21 (some ad101) y106.length y106 from by rw [Ny106.out]; exact Kd.C_take (m := (x5_2 : Int).toNat) ((Kd.R_reads' (Kd.R_after (ok := (fun _ => True)) (by (with_reducible repeat (first | apply Kd.R_alloc | apply Kd.R_drewN | apply Kd.R_drew)); exact HO_3.out) hg hat)).2.2) KL19.out)); have n3_ := A_ (ho); clear HO_3; clear HB; clear HR109; clear HO112; have HO_3 := n0_; have HB := n1_; have HR109 := n2_; have HO116 := n3_; clear n0_ n1_ n2_ n3_; clear ho hb hg hat; have q22 : (x5_2 : Int) ≤ ((x3_1.length : Int) : Int) := od_ (by first | (with_reducible assumption) | assumption); obtain ⟨i022, hi022, _, hsz22, _⟩ := info_parts info9; have hroom22 : x3_1.length ≤ co16 := (Kd.R_reads' HO_3.out).2.1; have hC22 : Kd.C Kd.string _ (some ad101) x3_1.length x3_1 := (Kd.R_reads' HO_3.out).2.2; have q022 : (0 : Int) ≤ (x5_2 : Int) := od_ (by first | (with_reducible assumption) | assumption); have hcut22 := cut_from (P := Try.prog) 22 9 .i64 Try.underlying22 hi022 1 hsz22 (some ad101) x3_1.length co16 x5_2 q022 q22; have hr22 := Kd.C_drop (m := (x5_2 : Int).toNat) (c := co16) hC22 (by omega) hroom22; obtain ⟨A22, hA22⟩ : ∃ A1, A1 = (if co16 = (x5_2 : Int).toNat then (some ad101) else ((some ad101) : Option Addr).map (·.add ((x5_2 : Int).toNat * 1))) := ⟨_, rfl⟩; obtain ⟨c22, hc22⟩ : ∃ c1, c1 = co16 - (x5_2 : Int).toNat := ⟨_, rfl⟩; have hy22 : y117.length = x3_1.length - (x5_2 : Int).toNat := (by rw [Ny117.out, List.length_drop] <;> omega); rw [show (x3_1).drop (x5_2 : Int).toNat = y117 from Ny117.out.symm] at hr22; replace hr22 : Kd.C Kd.string _ A22 y117.length y117 := (by rw [hA22]; exact hr22); rw [← hy22, ← hA22, ← hc22] at hcut22; have HR120 := A_ hr22; have HC120 := A_ (show y117.length ≤ c22 from by rw [hy22, hc22]; exact Nat.sub_le_sub_right hroom22 _); clear hr22 hC22 hroom22 hi022 hsz22 hc22; have KY22 := A_ hy22; have KA22 := A_ hA22; clear hy22 hA22; have KL22 := A_ (show (x5_2 : Int).toNat ≤ x3_1.length from by omega); replace q22 := eq_true q22) | ((with_reducible refine gate_builtin (b := .append) (xs := #[.tmp 42, .tmp 45]) rfl ?_); at_builtin; refine Kd.R_append_rows Kd.string (w0 := w) w.heap.size rfl (.tmp 42) (.tmp 45) 22 9 (.string ⟨#[]⟩) 16 rfl Try.underlying22 info9 rfl (by decide) (by omega) v115 y114 y117 _ _ _ (fun k_ => some k_ ≠ (.slice (some ad101) x3_1.length co16 : Value).ownBlock) (fun _ => False) rfl rfl ?aO ?aR (fun _ _ h => h) (fun _ h => h.elim) ?aF ?aB ?aS ?aL ?_; (case aR => repeat (first | exact (by repeat (first | (with_reducible exact HR120.out) | (with_reducible refine ca_ ?_ _) | (with_reducible refine cn_ ?_ _) | (with_reducible refine cd_ ?_) | exact HR120.out)) | (with_reducible refine ca_ ?_ _) | (with_reducible refine cn_ ?_ _) | (with_reducible refine cd_ ?_))); (case aB => exact bw_); (case aF => exact (fun k_ hk => Kd.fresh' (Kd.R_lt (by (with_reducible repeat (first | apply Kd.R_alloc | apply Kd.R_drewN | apply Kd.R_drew)); exact HO_3.out)) k_ hk)); (case aO => exact (by (with_reducible repeat (first | apply Kd.R_alloc | apply Kd.R_drewN | apply Kd.R_drew)); exact HO116.out)); (case aS => exact (bz_ bw_)); (case aL => have := LMc15.out; omega); intro v122 w23 ho hb hg hat; rw [← Ny121.out] at ho; have n0_ := A_ (Kd.R_after (ok := (fun _ => True)) (by (with_reducible repeat (first | apply Kd.R_alloc | apply Kd.R_drewN | apply Kd.R_drew)); exact HO_3.out) hg hat); have n1_ := A_ (hb); have n2_ := A_ ((show Kd.C Kd.string w23 (some ad101) y106.length y106 from by rw [Ny106.out]; exact Kd.C_take (m := (x5_2 : Int).toNat) ((Kd.R_reads' (Kd.R_after (ok := (fun _ => True)) (by (with_reducible repeat (first | apply Kd.R_alloc | apply Kd.R_drewN | apply Kd.R_drew)); exact HO_3.out) hg hat)).2.2) KL19.out)); have n3_ := A_ ((show Kd.C Kd.string w23 A22 y117.length y117 from by rw [Ny117.out, KA22.out]; exact Kd.C_drop (m := (x5_2 : Int).toNat) (c := co16) ((Kd.R_reads' (Kd.R_after (ok := (fun _ => True)) (by (with_reducible repeat (first | apply Kd.R_alloc | apply Kd.R_drewN | apply Kd.R_drew)); exact HO_3.out) hg hat)).2.2) KL22.out ((Kd.R_reads' (Kd.R_after (ok := (fun _ => True)) (by (with_reducible repeat (first | apply Kd.R_alloc | apply Kd.R_drewN | apply Kd.R_drew)); exact HO_3.out) hg hat)).2.1))); have n4_ := A_ (ho); clear HO_3; clear HB; clear HR109; clear HR120; clear HO116; have HO_3 := n0_; have HB := n1_; have HR109 := n2_; have HR120 := n3_; have HO123 := n4_; clear n0_ n1_ n2_ n3_ n4_; clear ho hb hg hat)); try go_wp2_with (first | ((with_reducible refine gate_dst (N := 30) rfl ?_); refine Kd.R_lit Kd.string _ 9 ?hg (N := 30) ?hd (xs := ([] : List ByteArray)) (inner := []) (ok := fun _ => True) (okp := fun _ => True) ?hr ?hp (fun _ hk => hk) trivial (Below.refl _ _) (Nat.le_refl _) (by simp) ?_; (case hd => rfl); (case hg => rfl); (case hr => first | (go_simp; done) | (go_simp; rfl)); (case hp => exact (Reps.none _ _)); intro v104 w17 ho18 hb hg_ hnew_; clear hg_ hnew_; (first | rw [← Ny103.out] at ho18 | (simp only [Int.reduceToNat] at ho18; rw [← Ny103.out] at ho18)); have n0_ := A_ (Kd.R_elder' (by (with_reducible repeat (first | apply Kd.R_alloc | apply Kd.R_drewN | apply Kd.R_drew)); exact HO_3.out) (Kd.R_base ho18) hb); have n1_ := A_ (Kd.R_lower (Kd.R_new' ho18 (Kd.R_lt (by (with_reducible repeat (first | apply Kd.R_alloc | apply Kd.R_drewN | apply Kd.R_drew)); exact HO_3.out))) (bz_ bw_)); have n2_ := A_ (bs_ bw_ hb); clear HO_3; clear HB; have HO_3 := n0_; have HO105 := n1_; have HB := n2_; clear n0_ n1_ n2_; clear hb ho18; have q19 : (x5_2 : Int) ≤ ((x3_1.length : Int) : Int) := od_ (by first | (with_reducible assumption) | assumption); obtain ⟨i019, hi019, _, hsz19, _⟩ := info_parts info9; have hroom19 : x3_1.length ≤ co16 := (Kd.R_reads' HO_3.out).2.1; have hC19 : Kd.C Kd.string _ (some ad101) x3_1.length x3_1 := (Kd.R_reads' HO_3.out).2.2; have hcut19 := cut_to (P := Try.prog) 22 9 .i64 Try.underlying22 hi019 (some ad101) x3_1.length co16 x5_2 (od_ (by first | (with_reducible assumption) | assumption)) q19 hroom19; have hr19 := Kd.C_take (m := (x5_2 : Int).toNat) hC19 (by omega); have hy19 : y106.length = (x5_2 : Int).toNat := (by rw [Ny106.out, List.length_take]; omega); rw [← Ny106.out] at hr19; rw [← hy19] at hcut19; have HR109 := A_ hr19; have HC109 := A_ (show y106.length ≤ co16 from by omega); clear hr19 hC19 hroom19 hi019 hsz19; have KY19 := A_ hy19; clear hy19; have KL19 := A_ (show (x5_2 : Int).toNat ≤ x3_1.length from by omega); replace q19 := eq_true q19) | ((with_reducible refine gate_builtin (b := .append) (xs := #[.tmp 30, .tmp 33]) rfl ?_); at_builtin; refine Kd.R_append_rows Kd.string (w0 := w) w.heap.size rfl (.tmp 30) (.tmp 33) 22 9 (.string ⟨#[]⟩) 16 rfl Try.underlying22 info9 rfl (by decide) (by omega) v104 y103 y106 _ _ _ (fun k_ => some k_ ≠ (.slice (some ad101) x3_1.length co16 : Value).ownBlock) (fun _ => False) rfl rfl ?aO ?aR (fun _ _ h => h) (fun _ h => h.elim) ?aF ?aB ?aS ?aL ?_; (case aR => repeat (first | exact (by repeat (first | (with_reducible exact HR109.out) | (with_reducible refine ca_ ?_ _) | (with_reducible refine cn_ ?_ _) | (with_reducible refine cd_ ?_) | exact HR109.out)) | (with_reducible refine ca_ ?_ _) | (with_reducible refine cn_ ?_ _) | (with_reducible refine cd_ ?_))); (case aB => exact bw_); (case aF => exact (fun k_ hk => Kd.fresh' (Kd.R_lt (by (with_reducible repeat (first | apply Kd.R_alloc | apply Kd.R_drewN | apply Kd.R_drew)); exact HO_3.out)) k_ hk)); (case aO => exact (by (with_reducible repeat (first | apply Kd.R_alloc | apply Kd.R_drewN | apply Kd.R_drew)); exact Kd.R_mono HO105.out (fun _ hk => hk.2))); (case aS => exact (bz_ bw_)); (case aL => have := LMc11.out; omega); intro v111 w20 ho hb hg hat; rw [← Ny110.out] at ho; have n0_ := A_ (Kd.R_after (ok := (fun _ => True)) (by (with_reducible repeat (first | apply Kd.R_alloc | apply Kd.R_drewN | apply Kd.R_drew)); exact HO_3.out) hg hat); have n1_ := A_ (hb); have n2_ := A_ ((show Kd.C Kd.string w20 (some ad101) y106.length y106 from by rw [Ny106.out]; exact Kd.C_take (m := (x5_2 : Int).toNat) ((Kd.R_reads' (Kd.R_after (ok := (fun _ => True)) (by (with_reducible repeat (first | apply Kd.R_alloc | apply Kd.R_drewN | apply Kd.R_drew)); exact HO_3.out) hg hat)).2.2) KL19.out)); have n3_ := A_ (ho); clear HO_3; clear HB; clear HR109; clear HO105; have HO_3 := n0_; have HB := n1_; have HR109 := n2_; have HO112 := n3_; clear n0_ n1_ n2_ n3_; clear ho hb hg hat; have p113 : 0 ≤ (x4_1 : Int) := od_ (by first | (with_reducible assumption) | assumption); have q113 : x4_1 < (l0.length : Int) := od_ (by first | (with_reducible assumption) | assumption); obtain ⟨ad113, e113, hx113_0⟩ := Kd.at_string HR0.out x4_1 p113 q113; obtain rfl : ad102 = ad113 := (by injection e113); replace hx113_0 := (HB.out.cell (World.block_lt_of_cell? w _ hx113_0)).trans hx113_0; replace p113 := eq_true p113; replace q113 := eq_true q113) | ((with_reducible refine gate_builtin (b := .append) (xs := #[.tmp 35, .tmp 40]) rfl ?_); at_builtin; refine Kd.R_append Kd.string (w0 := w) w.heap.size rfl (.tmp 35) (.tmp 40) 22 9 (.string ⟨#[]⟩) 16 rfl Try.underlying22 info9 rfl (by decide) (by omega) v111 y110 (rdOf ByteArray.empty l0 x4_1) [.string (rdOf ByteArray.empty l0 x4_1)] (fun k_ => some k_ ≠ (.slice (some ad101) x3_1.length co16 : Value).ownBlock) (fun _ => False) rfl rfl ?aP (fun _ hk => hk.elim) ?aF ?aO ?aB ?aS ?aL ?_; (case aP => exact rfl); (case aB => exact bw_); (case aF => exact (fun k_ hk => Kd.fresh' (Kd.R_lt (by (with_reducible repeat (first | apply Kd.R_alloc | apply Kd.R_drewN | apply Kd.R_drew)); exact HO_3.out)) k_ hk)); (case aO => exact (by (with_reducible repeat (first | apply Kd.R_alloc | apply Kd.R_drewN | apply Kd.R_drew)); exact HO112.out)); (case aS => exact (bz_ bw_)); (case aL => have := LMc12.out; omega); intro v115 w21 ho hb hg hat; rw [← Ny114.out] at ho; have n0_ := A_ (Kd.R_after (ok := (fun _ => True)) (by (with_reducible repeat (first | apply Kd.R_alloc | apply Kd.R_drewN | apply Kd.R_drew)); exact HO_3.out) hg hat); have n1_ := A_ (hb); have n2_ := A_ ((show Kd.C Kd.string w21 (some ad101) y106.length y106 from by rw [Ny106.out]; exact Kd.C_take (m := (x5_2 : Int).toNat) ((Kd.R_reads' (Kd.R_after (ok := (fun _ => True)) (by (with_reducible repeat (first | apply Kd.R_alloc | apply Kd.R_drewN | apply Kd.R_drew)); exact HO_3.out) hg hat)).2.2) KL19.out)); have n3_ := A_ (ho); clear HO_3; clear HB; clear HR109; clear HO112; have HO_3 := n0_; have HB := n1_; have HR109 := n2_; have HO116 := n3_; clear n0_ n1_ n2_ n3_; clear ho hb hg hat; have q22 : (x5_2 : Int) ≤ ((x3_1.length : Int) : Int) := od_ (by first | (with_reducible assumption) | assumption); obtain ⟨i022, hi022, _, hsz22, _⟩ := info_parts info9; have hroom22 : x3_1.length ≤ co16 := (Kd.R_reads' HO_3.out).2.1; have hC22 : Kd.C Kd.string _ (some ad101) x3_1.length x3_1 := (Kd.R_reads' HO_3.out).2.2; have q022 : (0 : Int) ≤ (x5_2 : Int) := od_ (by first | (with_reducible assumption) | assumption); have hcut22 := cut_from (P := Try.prog) 22 9 .i64 Try.underlying22 hi022 1 hsz22 (some ad101) x3_1.length co16 x5_2 q022 q22; have hr22 := Kd.C_drop (m := (x5_2 : Int).toNat) (c := co16) hC22 (by omega) hroom22; obtain ⟨A22, hA22⟩ : ∃ A1, A1 = (if co16 = (x5_2 : Int).toNat then (some ad101) else ((some ad101) : Option Addr).map (·.add ((x5_2 : Int).toNat * 1))) := ⟨_, rfl⟩; obtain ⟨c22, hc22⟩ : ∃ c1, c1 = co16 - (x5_2 : Int).toNat := ⟨_, rfl⟩; have hy22 : y117.length = x3_1.length - (x5_2 : Int).toNat := (by rw [Ny117.out, List.length_drop] <;> omega); rw [show (x3_1).drop (x5_2 : Int).toNat = y117 from Ny117.out.symm] at hr22; replace hr22 : Kd.C Kd.string _ A22 y117.length y117 := (by rw [hA22]; exact hr22); rw [← hy22, ← hA22, ← hc22] at hcut22; have HR120 := A_ hr22; have HC120 := A_ (show y117.length ≤ c22 from by rw [hy22, hc22]; exact Nat.sub_le_sub_right hroom22 _); clear hr22 hC22 hroom22 hi022 hsz22 hc22; have KY22 := A_ hy22; have KA22 := A_ hA22; clear hy22 hA22; have KL22 := A_ (show (x5_2 : Int).toNat ≤ x3_1.length from by omega); replace q22 := eq_true q22) | ((with_reducible refine gate_builtin (b := .append) (xs := #[.tmp 42, .tmp 45]) rfl ?_); at_builtin; refine Kd.R_append_rows Kd.string (w0 := w) w.heap.size rfl (.tmp 42) (.tmp 45) 22 9 (.string ⟨#[]⟩) 16 rfl Try.underlying22 info9 rfl (by decide) (by omega) v115 y114 y117 _ _ _ (fun k_ => some k_ ≠ (.slice (some ad101) x3_1.length co16 : Value).ownBlock) (fun _ => False) rfl rfl ?aO ?aR (fun _ _ h => h) (fun _ h => h.elim) ?aF ?aB ?aS ?aL ?_; (case aR => repeat (first | exact (by repeat (first | (with_reducible exact HR120.out) | (with_reducible refine ca_ ?_ _) | (with_reducible refine cn_ ?_ _) | (with_reducible refine cd_ ?_) | exact HR120.out)) | (with_reducible refine ca_ ?_ _) | (with_reducible refine cn_ ?_ _) | (with_reducible refine cd_ ?_))); (case aB => exact bw_); (case aF => exact (fun k_ hk => Kd.fresh' (Kd.R_lt (by (with_reducible repeat (first | apply Kd.R_alloc | apply Kd.R_drewN | apply Kd.R_drew)); exact HO_3.out)) k_ hk)); (case aO => exact (by (with_reducible repeat (first | apply Kd.R_alloc | apply Kd.R_drewN | apply Kd.R_drew)); exact HO116.out)); (case aS => exact (bz_ bw_)); (case aL => have := LMc15.out; omega); intro v122 w23 ho hb hg hat; rw [← Ny121.out] at ho; have n0_ := A_ (Kd.R_after (ok := (fun _ => True)) (by (with_reducible repeat (first | apply Kd.R_alloc | apply Kd.R_drewN | apply Kd.R_drew)); exact HO_3.out) hg hat); have n1_ := A_ (hb); have n2_ := A_ ((show Kd.C Kd.string w23 (some ad101) y106.length y106 from by rw [Ny106.out]; exact Kd.C_take (m := (x5_2 : Int).toNat) ((Kd.R_reads' (Kd.R_after (ok := (fun _ => True)) (by (with_reducible repeat (first | apply Kd.R_alloc | apply Kd.R_drewN | apply Kd.R_drew)); exact HO_3.out) hg hat)).2.2) KL19.out)); have n3_ := A_ ((show Kd.C Kd.string w23 A22 y117.length y117 from by rw [Ny117.out, KA22.out]; exact Kd.C_drop (m := (x5_2 : Int).toNat) (c := co16) ((Kd.R_reads' (Kd.R_after (ok := (fun _ => True)) (by (with_reducible repeat (first | apply Kd.R_alloc | apply Kd.R_drewN | apply Kd.R_drew)); exact HO_3.out) hg hat)).2.2) KL22.out ((Kd.R_reads' (Kd.R_after (ok := (fun _ => True)) (by (with_reducible repeat (first | apply Kd.R_alloc | apply Kd.R_drewN | apply Kd.R_drew)); exact HO_3.out) hg hat)).2.1))); have n4_ := A_ (ho); clear HO_3; clear HB; clear HR109; clear HR120; clear HO116; have HO_3 := n0_; have HB := n1_; have HR109 := n2_; have HR120 := n3_; have HO123 := n4_; clear n0_ n1_ n2_ n3_ n4_; clear ho hb hg hat)))
               go_roundg k2
               case measure => have := HK1.out; have := HK2.out; omega
               case rel => exact ⟨(y121), (wrap64 (x4_1 + 1)), (by first | rfl | (simp; done) | (simp [*]; done)), H', ⟨by have := HK1.out; have := HK2.out; omega⟩, ⟨by (with_reducible repeat (first | apply Kd.R_alloc | apply Kd.R_drewN | apply Kd.R_drew)); exact Kd.R_mono HO123.out (fun _ hk => trivial)⟩, ⟨bw_⟩⟩
              ·
               rw [if_neg c15] at H
               exact absurd H (by simp)
             ·
              rw [if_neg c12] at H
              exact absurd H (by simp)
            ·
             rw [if_neg c11] at H
             exact absurd H (by simp)
           ·
            rw [if_neg c10] at H
            exact absurd H (by simp)
         ·
          rw [if_neg c6] at H
          exact absurd H (by simp)
        ·
         rw [if_neg c5] at H
         exact absurd H (by simp)
       ·
        rw [if_neg c4] at H
        exact absurd H (by simp)
      ·
       rw [if_neg c3] at H
       have c3b0 : decide (x5_2 < (x3_1.length : Int)) = false := decide_eq_false c3
       clear c3
       obtain ⟨y124, hy124⟩ : ∃ y_ : List ByteArray, y_ = (([] : List ByteArray)) := ⟨_, rfl⟩
       replace H : (if 0 ≤ x5_2 then (if x5_2 ≤ (x3_1.length : Int) then ((some (x3_1.take (x5_2 : Int).toNat : List ByteArray)).bind fun y127 => (if y124.length + y127.length < 8796093022208 then ((some (y124 ++ y127 : List ByteArray)).bind fun y131 => (if 0 ≤ x4_1 then (if x4_1 < (l0.length : Int) then (if y131.length < 8796093022208 then ((some (y131 ++ [rdOf ByteArray.empty l0 x4_1] : List ByteArray)).bind fun y135 => ((some (x3_1.drop (x5_2 : Int).toNat : List ByteArray)).bind fun y138 => (if y135.length + y138.length < 8796093022208 then (clevisref08_Sorted.l0 k2 l0 (y135 ++ y138) (wrap64 (x4_1 + 1))) else (none)))) else (none)) else (none)) else (none))) else (none))) else (none)) else (none)) = some r := by first | (rw [hy124]; with_reducible exact H) | (have H2_ := (Option.bind_some _ _).symm.trans H; rw [hy124]; with_reducible exact H2_) | (have H2_ := (Option.bind_some _ _).symm.trans H; with_reducible exact H2_) | with_reducible exact H | (rw [hy124]; exact H) | exact H
       have Ny124 := A_ hy124
       clear hy124
       by_cases c24 : 0 ≤ x5_2
       ·
        rw [if_pos c24] at H
        have c24b0 := eq_true c24
        have c24b1 : decide (0 ≤ x5_2) = true := decide_eq_true c24
        clear c24
        by_cases c25 : x5_2 ≤ (x3_1.length : Int)
        ·
         rw [if_pos c25] at H
         have c25b0 := eq_true c25
         have c25b1 : decide (x5_2 ≤ (x3_1.length : Int)) = true := decide_eq_true c25
         clear c25
         obtain ⟨y127, hy127⟩ : ∃ y_ : List ByteArray, y_ = (x3_1.take (x5_2 : Int).toNat) := ⟨_, rfl⟩
         replace H : (if y124.length + y127.length < 8796093022208 then ((some (y124 ++ y127 : List ByteArray)).bind fun y131 => (if 0 ≤ x4_1 then (if x4_1 < (l0.length : Int) then (if y131.length < 8796093022208 then ((some (y131 ++ [rdOf ByteArray.empty l0 x4_1] : List ByteArray)).bind fun y135 => ((some (x3_1.drop (x5_2 : Int).toNat : List ByteArray)).bind fun y138 => (if y135.length + y138.length < 8796093022208 then (clevisref08_Sorted.l0 k2 l0 (y135 ++ y138) (wrap64 (x4_1 + 1))) else (none)))) else (none)) else (none)) else (none))) else (none)) = some r := by first | (rw [hy127]; with_reducible exact H) | (have H2_ := (Option.bind_some _ _).symm.trans H; rw [hy127]; with_reducible exact H2_) | (have H2_ := (Option.bind_some _ _).symm.trans H; with_reducible exact H2_) | with_reducible exact H | (rw [hy127]; exact H) | exact H
         have Ny127 := A_ hy127
         clear hy127
         by_cases c26 : y124.length + y127.length < 8796093022208
         ·
          rw [if_pos c26] at H
          have LMc26 := A_ c26
          clear c26
          obtain ⟨y131, hy131⟩ : ∃ y_ : List ByteArray, y_ = (y124 ++ y127) := ⟨_, rfl⟩
          replace H : (if 0 ≤ x4_1 then (if x4_1 < (l0.length : Int) then (if y131.length < 8796093022208 then ((some (y131 ++ [rdOf ByteArray.empty l0 x4_1] : List ByteArray)).bind fun y135 => ((some (x3_1.drop (x5_2 : Int).toNat : List ByteArray)).bind fun y138 => (if y135.length + y138.length < 8796093022208 then (clevisref08_Sorted.l0 k2 l0 (y135 ++ y138) (wrap64 (x4_1 + 1))) else (none)))) else (none)) else (none)) else (none)) = some r := by first | (rw [hy131]; with_reducible exact H) | (have H2_ := (Option.bind_some _ _).symm.trans H; rw [hy131]; with_reducible exact H2_) | (have H2_ := (Option.bind_some _ _).symm.trans H; with_reducible exact H2_) | with_reducible exact H | (rw [hy131]; exact H) | exact H
          have Ny131 := A_ hy131
          clear hy131
          by_cases c27 : 0 ≤ x4_1
          ·
           rw [if_pos c27] at H
           have c27b0 : decide (0 ≤ x4_1) = true := decide_eq_true c27
           clear c27
           by_cases c28 : x4_1 < (l0.length : Int)
           ·
            rw [if_pos c28] at H
            have c28b0 : decide (x4_1 < (l0.length : Int)) = true := decide_eq_true c28
            clear c28
            by_cases c29 : y131.length < 8796093022208
            ·
             rw [if_pos c29] at H
             have LMc29 := A_ c29
             clear c29
             obtain ⟨y135, hy135⟩ : ∃ y_ : List ByteArray, y_ = (y131 ++ [rdOf ByteArray.empty l0 x4_1]) := ⟨_, rfl⟩
             replace H : ((some (x3_1.drop (x5_2 : Int).toNat : List ByteArray)).bind fun y138 => (if y135.length + y138.length < 8796093022208 then (clevisref08_Sorted.l0 k2 l0 (y135 ++ y138) (wrap64 (x4_1 + 1))) else (none))) = some r := by first | (rw [hy135]; with_reducible exact H) | (have H2_ := (Option.bind_some _ _).symm.trans H; rw [hy135]; with_reducible exact H2_) | (have H2_ := (Option.bind_some _ _).symm.trans H; with_reducible exact H2_) | with_reducible exact H | (rw [hy135]; exact H) | exact H
             have Ny135 := A_ hy135
             clear hy135
             have c30b0 := eq_true (od_ (by first | (with_reducible assumption) | assumption) : 0 ≤ x5_2)
             have c31b0 := eq_true (od_ (by first | (with_reducible assumption) | assumption) : x5_2 ≤ (x3_1.length : Int))
             obtain ⟨y138, hy138⟩ : ∃ y_ : List ByteArray, y_ = (x3_1.drop (x5_2 : Int).toNat) := ⟨_, rfl⟩
             replace H : (if y135.length + y138.length < 8796093022208 then (clevisref08_Sorted.l0 k2 l0 (y135 ++ y138) (wrap64 (x4_1 + 1))) else (none)) = some r := by first | (rw [hy138]; with_reducible exact H) | (have H2_ := (Option.bind_some _ _).symm.trans H; rw [hy138]; with_reducible exact H2_) | (have H2_ := (Option.bind_some _ _).symm.trans H; with_reducible exact H2_) | with_reducible exact H | (rw [hy138]; exact H) | exact H
             have Ny138 := A_ hy138
             clear hy138
             by_cases c32 : y135.length + y138.length < 8796093022208
             ·
              rw [if_pos c32] at H
              have LMc32 := A_ c32
              clear c32
              obtain ⟨y142, hy142⟩ : ∃ y_ : List ByteArray, y_ = (y135 ++ y138) := ⟨_, rfl⟩
              replace H : (clevisref08_Sorted.l0 k2 l0 y142 (wrap64 (x4_1 + 1))) = some r := by first | (rw [hy142]; with_reducible exact H) | (have H2_ := (Option.bind_some _ _).symm.trans H; rw [hy142]; with_reducible exact H2_) | (have H2_ := (Option.bind_some _ _).symm.trans H; with_reducible exact H2_) | with_reducible exact H | (rw [hy142]; exact H) | exact H
              have Ny142 := A_ hy142
              clear hy142
              have H' := A_ H
              clear H
              obtain ⟨Ao33, co33, eo33⟩ := Kd.R_slice HO_3.out
              subst eo33
              go_wp2_with (first | ((with_reducible refine gate_dst (N := 30) rfl ?_); refine Kd.R_lit Kd.string _ 9 ?hg (N := 30) ?hd (xs := ([] : List ByteArray)) (inner := []) (ok := fun _ => True) (okp := fun _ => True) ?hr ?hp (fun _ hk => hk) trivial (Below.refl _ _) (Nat.le_refl _) (by simp) ?_; (case hd => rfl); (case hg => rfl); (case hr => first | (go_simp; done) | (go_simp; rfl)); (case hp => exact (Reps.none _ _)); intro v125 w34 ho35 hb hg_ hnew_; clear hg_ hnew_; (first | rw [← Ny124.out] at ho35 | (simp only [Int.reduceToNat] at ho35; rw [← Ny124.out] at ho35)); have n0_ := A_ (Kd.R_elder' (by (with_reducible repeat (first | apply Kd.R_alloc | apply Kd.R_drewN | apply Kd.R_drew)); exact HO_3.out) (Kd.R_base ho35) hb); have n1_ := A_ (Kd.R_lower (Kd.R_new' ho35 (Kd.R_lt (by (with_reducible repeat (first | apply Kd.R_alloc | apply Kd.R_drewN | apply Kd.R_drew)); exact HO_3.out))) (bz_ bw_)); have n2_ := A_ (bs_ bw_ hb); clear HO_3; clear HB; have HO_3 := n0_; have HO126 := n1_; have HB := n2_; clear n0_ n1_ n2_; clear hb ho35; have q36 : (x5_2 : Int) ≤ ((x3_1.length : Int) : Int) := od_ (by first | (with_reducible assumption) | assumption); obtain ⟨i036, hi036, _, hsz36, _⟩ := info_parts info9; have hroom36 : x3_1.length ≤ co33 := (Kd.R_reads' HO_3.out).2.1; have hC36 : Kd.C Kd.string _ Ao33 x3_1.length x3_1 := (Kd.R_reads' HO_3.out).2.2; have hcut36 := cut_to (P := Try.prog) 22 9 .i64 Try.underlying22 hi036 Ao33 x3_1.length co33 x5_2 (od_ (by first | (with_reducible assumption) | assumption)) q36 hroom36; have hr36 := Kd.C_take (m := (x5_2 : Int).toNat) hC36 (by omega); have hy36 : y127.length = (x5_2 : Int).toNat := (by rw [Ny127.out, List.length_take]; omega); rw [← Ny127.out] at hr36; rw [← hy36] at hcut36; have HR130 := A_ hr36; have HC130 := A_ (show y127.length ≤ co33 from by omega); clear hr36 hC36 hroom36 hi036 hsz36; have KY36 := A_ hy36; clear hy36; have KL36 := A_ (show (x5_2 : Int).toNat ≤ x3_1.length from by omega); replace q36 := eq_true q36) | ((with_reducible refine gate_builtin (b := .append) (xs := #[.tmp 30, .tmp 33]) rfl ?_); at_builtin; refine Kd.R_append_rows Kd.string (w0 := w) w.heap.size rfl (.tmp 30) (.tmp 33) 22 9 (.string ⟨#[]⟩) 16 rfl Try.underlying22 info9 rfl (by decide) (by omega) v125 y124 y127 _ _ _ (fun k_ => some k_ ≠ (.slice Ao33 x3_1.length co33 : Value).ownBlock) (fun _ => False) rfl rfl ?aO ?aR (fun _ _ h => h) (fun _ h => h.elim) ?aF ?aB ?aS ?aL ?_; (case aR => repeat (first | exact (by repeat (first | (with_reducible exact HR130.out) | (with_reducible refine ca_ ?_ _) | (with_reducible refine cn_ ?_ _) | (with_reducible refine cd_ ?_) | exact HR130.out)) | (with_reducible refine ca_ ?_ _) | (with_reducible refine cn_ ?_ _) | (with_reducible refine cd_ ?_))); (case aB => exact bw_); (case aF => exact (fun k_ hk => Kd.fresh' (Kd.R_lt (by (with_reducible repeat (first | apply Kd.R_alloc | apply Kd.R_drewN | apply Kd.R_drew)); exact HO_3.out)) k_ hk)); (case aO => exact (by (with_reducible repeat (first | apply Kd.R_alloc | apply Kd.R_drewN | apply Kd.R_drew)); exact Kd.R_mono HO126.out (fun _ hk => hk.2))); (case aS => exact (bz_ bw_)); (case aL => have := LMc26.out; omega); intro v132 w37 ho hb hg hat; rw [← Ny131.out] at ho; have n0_ := A_ (Kd.R_after (ok := (fun _ => True)) (by (with_reducible repeat (first | apply Kd.R_alloc | apply Kd.R_drewN | apply Kd.R_drew)); exact HO_3.out) hg hat); have n1_ := A_ (hb); have n2_ := A_ ((show Kd.C Kd.string w37 Ao33 y127.length y127 from by rw [Ny127.out]; exact Kd.C_take (m := (x5_2 : Int).toNat) ((Kd.R_reads' (Kd.R_after (ok := (fun _ => True)) (by (with_reducible repeat (first | apply Kd.R_alloc | apply Kd.R_drewN | apply Kd.R_drew)); exact HO_3.out) hg hat)).2.2) KL36.out)); have n3_ := A_ (ho); clear HO_3; clear HB; clear HR130; clear HO126; have HO_3 := n0_; have HB := n1_; have HR130 := n2_; have HO133 := n3_; clear n0_ n1_ n2_ n3_; clear ho hb hg hat; have p134 : 0 ≤ (x4_1 : Int) := od_ (by first | (with_reducible assumption) | assumption); have q134 : x4_1 < (l0.length : Int) := od_ (by first | (with_reducible assumption) | assumption); obtain ⟨ad134, e134, hx134_0⟩ := Kd.at_string HR0.out x4_1 p134 q134; cases e134; replace hx134_0 := (HB.out.cell (World.block_lt_of_cell? w _ hx134_0)).trans hx134_0; replace p134 := eq_true p134; replace q134 := eq_true q134) | ((with_reducible refine gate_builtin (b := .append) (xs := #[.tmp 35, .tmp 40]) rfl ?_); at_builtin; refine Kd.R_append Kd.string (w0 := w) w.heap.size rfl (.tmp 35) (.tmp 40) 22 9 (.string ⟨#[]⟩) 16 rfl Try.underlying22 info9 rfl (by decide) (by omega) v132 y131 (rdOf ByteArray.empty l0 x4_1) [.string (rdOf ByteArray.empty l0 x4_1)] (fun k_ => some k_ ≠ (.slice Ao33 x3_1.length co33 : Value).ownBlock) (fun _ => False) rfl rfl ?aP (fun _ hk => hk.elim) ?aF ?aO ?aB ?aS ?aL ?_; (case aP => exact rfl); (case aB => exact bw_); (case aF => exact (fun k_ hk => Kd.fresh' (Kd.R_lt (by (with_reducible repeat (first | apply Kd.R_alloc | apply Kd.R_drewN | apply Kd.R_drew)); exact HO_3.out)) k_ hk)); (case aO => exact (by (with_reducible repeat (first | apply Kd.R_alloc | apply Kd.R_drewN | apply Kd.R_drew)); exact HO133.out)); (case aS => exact (bz_ bw_)); (case aL => have := LMc29.out; omega); intro v136 w38 ho hb hg hat; rw [← Ny135.out] at ho; have n0_ := A_ (Kd.R_after (ok := (fun _ => True)) (by (with_reducible repeat (first | apply Kd.R_alloc | apply Kd.R_drewN | apply Kd.R_drew)); exact HO_3.out) hg hat); have n1_ := A_ (hb); have n2_ := A_ ((show Kd.C Kd.string w38 Ao33 y127.length y127 from by rw [Ny127.out]; exact Kd.C_take (m := (x5_2 : Int).toNat) ((Kd.R_reads' (Kd.R_after (ok := (fun _ => True)) (by (with_reducible repeat (first | apply Kd.R_alloc | apply Kd.R_drewN | apply Kd.R_drew)); exact HO_3.out) hg hat)).2.2) KL36.out)); have n3_ := A_ (ho); clear HO_3; clear HB; clear HR130; clear HO133; have HO_3 := n0_; have HB := n1_; have HR130 := n2_; have HO137 := n3_; clear n0_ n1_ n2_ n3_; clear ho hb hg hat; have q39 : (x5_2 : Int) ≤ ((x3_1.length : Int) : Int) := od_ (by first | (with_reducible assumption) | assumption); obtain ⟨i039, hi039, _, hsz39, _⟩ := info_parts info9; have hroom39 : x3_1.length ≤ co33 := (Kd.R_reads' HO_3.out).2.1; have hC39 : Kd.C Kd.string _ Ao33 x3_1.length x3_1 := (Kd.R_reads' HO_3.out).2.2; have q039 : (0 : Int) ≤ (x5_2 : Int) := od_ (by first | (with_reducible assumption) | assumption); have hcut39 := cut_from (P := Try.prog) 22 9 .i64 Try.underlying22 hi039 1 hsz39 Ao33 x3_1.length co33 x5_2 q039 q39; have hr39 := Kd.C_drop (m := (x5_2 : Int).toNat) (c := co33) hC39 (by omega) hroom39; obtain ⟨A39, hA39⟩ : ∃ A1, A1 = (if co33 = (x5_2 : Int).toNat then Ao33 else (Ao33 : Option Addr).map (·.add ((x5_2 : Int).toNat * 1))) := ⟨_, rfl⟩; obtain ⟨c39, hc39⟩ : ∃ c1, c1 = co33 - (x5_2 : Int).toNat := ⟨_, rfl⟩; have hy39 : y138.length = x3_1.length - (x5_2 : Int).toNat := (by rw [Ny138.out, List.length_drop] <;> omega); rw [show (x3_1).drop (x5_2 : Int).toNat = y138 from Ny138.out.symm] at hr39; replace hr39 : Kd.C Kd.string _ A39 y138.length y138 := (by rw [hA39]; exact hr39); rw [← hy39, ← hA39, ← hc39] at hcut39; have HR141 := A_ hr39; have HC141 := A_ (show y138.length ≤ c39 from by rw [hy39, hc39]; exact Nat.sub_le_sub_right hroom39 _); clear hr39 hC39 hroom39 hi039 hsz39 hc39; have KY39 := A_ hy39; have KA39 := A_ hA39; clear hy39 hA39; have KL39 := A_ (show (x5_2 : Int).toNat ≤ x3_1.length from by omega); replace q39 := eq_true q39) | ((with_reducible refine gate_builtin (b := .append) (xs := #[.tmp 42, .tmp 45]) rfl ?_); at_builtin; refine Kd.R_append_rows Kd.string (w0 := w) w.heap.size rfl (.tmp 42) (.tmp 45) 22 9 (.string ⟨#[]⟩) 16 rfl Try.underlying22 info9 rfl (by decide) (by omega) v136 y135 y138 _ _ _ (fun k_ => some k_ ≠ (.slice Ao33 x3_1.length co33 : Value).ownBlock) (fun _ => False) rfl rfl ?aO ?aR (fun _ _ h => h) (fun _ h => h.elim) ?aF ?aB ?aS ?aL ?_; (case aR => repeat (first | exact (by repeat (first | (with_reducible exact HR141.out) | (with_reducible refine ca_ ?_ _) | (with_reducible refine cn_ ?_ _) | (with_reducible refine cd_ ?_) | exact HR141.out)) | (with_reducible refine ca_ ?_ _) | (with_reducible refine cn_ ?_ _) | (with_reducible refine cd_ ?_))); (case aB => exact bw_); (case aF => exact (fun k_ hk => Kd.fresh' (Kd.R_lt (by (with_reducible repeat (first | apply Kd.R_alloc | apply Kd.R_drewN | apply Kd.R_drew)); exact HO_3.out)) k_ hk)); (case aO => exact (by (with_reducible repeat (first | apply Kd.R_alloc | apply Kd.R_drewN | apply Kd.R_drew)); exact HO137.out)); (case aS => exact (bz_ bw_)); (case aL => have := LMc32.out; omega); intro v143 w40 ho hb hg hat; rw [← Ny142.out] at ho; have n0_ := A_ (Kd.R_after (ok := (fun _ => True)) (by (with_reducible repeat (first | apply Kd.R_alloc | apply Kd.R_drewN | apply Kd.R_drew)); exact HO_3.out) hg hat); have n1_ := A_ (hb); have n2_ := A_ ((show Kd.C Kd.string w40 Ao33 y127.length y127 from by rw [Ny127.out]; exact Kd.C_take (m := (x5_2 : Int).toNat) ((Kd.R_reads' (Kd.R_after (ok := (fun _ => True)) (by (with_reducible repeat (first | apply Kd.R_alloc | apply Kd.R_drewN | apply Kd.R_drew)); exact HO_3.out) hg hat)).2.2) KL36.out)); have n3_ := A_ ((show Kd.C Kd.string w40 A39 y138.length y138 from by rw [Ny138.out, KA39.out]; exact Kd.C_drop (m := (x5_2 : Int).toNat) (c := co33) ((Kd.R_reads' (Kd.R_after (ok := (fun _ => True)) (by (with_reducible repeat (first | apply Kd.R_alloc | apply Kd.R_drewN | apply Kd.R_drew)); exact HO_3.out) hg hat)).2.2) KL39.out ((Kd.R_reads' (Kd.R_after (ok := (fun _ => True)) (by (with_reducible repeat (first | apply Kd.R_alloc | apply Kd.R_drewN | apply Kd.R_drew)); exact HO_3.out) hg hat)).2.1))); have n4_ := A_ (ho); clear HO_3; clear HB; clear HR130; clear HR141; clear HO137; have HO_3 := n0_; have HB := n1_; have HR130 := n2_; have HR141 := n3_; have HO144 := n4_; clear n0_ n1_ n2_ n3_ n4_; clear ho hb hg hat))
              repeat (go_quiet (first | ((with_reducible refine gate_dst (N := 30) rfl ?_); refine Kd.R_lit Kd.string _ 9 ?hg (N := 30) ?hd (xs := ([] : List ByteArray)) (inner := []) (ok := fun _ => True) (okp := fun _ => True) ?hr ?hp (fun _ hk => hk) trivial (Below.refl _ _) (Nat.le_refl _) (by simp) ?_; (case hd => rfl); (case hg => rfl); (case hr => first | (go_simp; done) | (go_simp; rfl)); (case hp => exact (Reps.none _ _)); intro v125 w34 ho35 hb hg_ hnew_; clear hg_ hnew_; (first | rw [← Ny124.out] at ho35 | (simp only [Int.reduceToNat] at ho35; rw [← Ny124.out] at ho35)); have n0_ := A_ (Kd.R_elder' (by (with_reducible repeat (first | apply Kd.R_alloc | apply Kd.R_drewN | apply Kd.R_drew)); exact HO_3.out) (Kd.R_base ho35) hb); have n1_ := A_ (Kd.R_lower (Kd.R_new' ho35 (Kd.R_lt (by (with_reducible repeat (first | apply Kd.R_alloc | apply Kd.R_drewN | apply Kd.R_drew)); exact HO_3.out))) (bz_ bw_)); have n2_ := A_ (bs_ bw_ hb); clear HO_3; clear HB; have HO_3 := n0_; have HO126 := n1_; have HB := n2_; clear n0_ n1_ n2_; clear hb ho35; have q36 : (x5_2 : Int) ≤ ((x3_1.length : Int) : Int) := od_ (by first | (with_reducible assumption) | assumption); obtain ⟨i036, hi036, _, hsz36, _⟩ := info_parts info9; have hroom36 : x3_1.length ≤ co33 := (Kd.R_reads' HO_3.out).2.1; have hC36 : Kd.C Kd.string _ Ao33 x3_1.length x3_1 := (Kd.R_reads' HO_3.out).2.2; have hcut36 := cut_to (P := Try.prog) 22 9 .i64 Try.underlying22 hi036 Ao33 x3_1.length co33 x5_2 (od_ (by first | (with_reducible assumption) | assumption)) q36 hroom36; have hr36 := Kd.C_take (m := (x5_2 : Int).toNat) hC36 (by omega); have hy36 : y127.length = (x5_2 : Int).toNat := (by rw [Ny127.out, List.length_take]; omega); rw [← Ny127.out] at hr36; rw [← hy36] at hcut36; have HR130 := A_ hr36; have HC130 := A_ (show y127.length ≤ co33 from by omega); clear hr36 hC36 hroom36 hi036 hsz36; have KY36 := A_ hy36; clear hy36; have KL36 := A_ (show (x5_2 : Int).toNat ≤ x3_1.length from by omega); replace q36 := eq_true q36) | ((with_reducible refine gate_builtin (b := .append) (xs := #[.tmp 30, .tmp 33]) rfl ?_); at_builtin; refine Kd.R_append_rows Kd.string (w0 := w) w.heap.size rfl (.tmp 30) (.tmp 33) 22 9 (.string ⟨#[]⟩) 16 rfl Try.underlying22 info9 rfl (by decide) (by omega) v125 y124 y127 _ _ _ (fun k_ => some k_ ≠ (.slice Ao33 x3_1.length co33 : Value).ownBlock) (fun _ => False) rfl rfl ?aO ?aR (fun _ _ h => h) (fun _ h => h.elim) ?aF ?aB ?aS ?aL ?_; (case aR => repeat (first | exact (by repeat (first | (with_reducible exact HR130.out) | (with_reducible refine ca_ ?_ _) | (with_reducible refine cn_ ?_ _) | (with_reducible refine cd_ ?_) | exact HR130.out)) | (with_reducible refine ca_ ?_ _) | (with_reducible refine cn_ ?_ _) | (with_reducible refine cd_ ?_))); (case aB => exact bw_); (case aF => exact (fun k_ hk => Kd.fresh' (Kd.R_lt (by (with_reducible repeat (first | apply Kd.R_alloc | apply Kd.R_drewN | apply Kd.R_drew)); exact HO_3.out)) k_ hk)); (case aO => exact (by (with_reducible repeat (first | apply Kd.R_alloc | apply Kd.R_drewN | apply Kd.R_drew)); exact Kd.R_mono HO126.out (fun _ hk => hk.2))); (case aS => exact (bz_ bw_)); (case aL => have := LMc26.out; omega); intro v132 w37 ho hb hg hat; rw [← Ny131.out] at ho; have n0_ := A_ (Kd.R_after (ok := (fun _ => True)) (by (with_reducible repeat (first | apply Kd.R_alloc | apply Kd.R_drewN | apply Kd.R_drew)); exact HO_3.out) hg hat); have n1_ := A_ (hb); have n2_ := A_ ((show Kd.C Kd.string w37 Ao33 y127.length y127 from by rw [Ny127.out]; exact Kd.C_take (m := (x5_2 : Int).toNat) ((Kd.R_reads' (Kd.R_after (ok := (fun _ => True)) (by (with_reducible repeat (first | apply Kd.R_alloc | apply Kd.R_drewN | apply Kd.R_drew)); exact HO_3.out) hg hat)).2.2) KL36.out)); have n3_ := A_ (ho); clear HO_3; clear HB; clear HR130; clear HO126; have HO_3 := n0_; have HB := n1_; have HR130 := n2_; have HO133 := n3_; clear n0_ n1_ n2_ n3_; clear ho hb hg hat; have p134 : 0 ≤ (x4_1 : Int) := od_ (by first | (with_reducible assumption) | assumption); have q134 : x4_1 < (l0.length : Int) := od_ (by first | (with_reducible assumption) | assumption); obtain ⟨ad134, e134, hx134_0⟩ := Kd.at_string HR0.out x4_1 p134 q134; cases e134; replace hx134_0 := (HB.out.cell (World.block_lt_of_cell? w _ hx134_0)).trans hx134_0; replace p134 := eq_true p134; replace q134 := eq_true q134) | ((with_reducible refine gate_builtin (b := .append) (xs := #[.tmp 35, .tmp 40]) rfl ?_); at_builtin; refine Kd.R_append Kd.string (w0 := w) w.heap.size rfl (.tmp 35) (.tmp 40) 22 9 (.string ⟨#[]⟩) 16 rfl Try.underlying22 info9 rfl (by decide) (by omega) v132 y131 (rdOf ByteArray.empty l0 x4_1) [.string (rdOf ByteArray.empty l0 x4_1)] (fun k_ => some k_ ≠ (.slice Ao33 x3_1.length co33 : Value).ownBlock) (fun _ => False) rfl rfl ?aP (fun _ hk => hk.elim) ?aF ?aO ?aB ?aS ?aL ?_; (case aP => exact rfl); (case aB => exact bw_); (case aF => exact (fun k_ hk => Kd.fresh' (Kd.R_lt (by (with_reducible repeat (first | apply Kd.R_alloc | apply Kd.R_drewN | apply Kd.R_drew)); exact HO_3.out)) k_ hk)); (case aO => exact (by (with_reducible repeat (first | apply Kd.R_alloc | apply Kd.R_drewN | apply Kd.R_drew)); exact HO133.out)); (case aS => exact (bz_ bw_)); (case aL => have := LMc29.out; omega); intro v136 w38 ho hb hg hat; rw [← Ny135.out] at ho; have n0_ := A_ (Kd.R_after (ok := (fun _ => True)) (by (with_reducible repeat (first | apply Kd.R_alloc | apply Kd.R_drewN | apply Kd.R_drew)); exact HO_3.out) hg hat); have n1_ := A_ (hb); have n2_ := A_ ((show Kd.C Kd.string w38 Ao33 y127.length y127 from by rw [Ny127.out]; exact Kd.C_take (m := (x5_2 : Int).toNat) ((Kd.R_reads' (Kd.R_after (ok := (fun _ => True)) (by (with_reducible repeat (first | apply Kd.R_alloc | apply Kd.R_drewN | apply Kd.R_drew)); exact HO_3.out) hg hat)).2.2) KL36.out)); have n3_ := A_ (ho); clear HO_3; clear HB; clear HR130; clear HO133; have HO_3 := n0_; have HB := n1_; have HR130 := n2_; have HO137 := n3_; clear n0_ n1_ n2_ n3_; clear ho hb hg hat; have q39 : (x5_2 : Int) ≤ ((x3_1.length : Int) : Int) := od_ (by first | (with_reducible assumption) | assumption); obtain ⟨i039, hi039, _, hsz39, _⟩ := info_parts info9; have hroom39 : x3_1.length ≤ co33 := (Kd.R_reads' HO_3.out).2.1; have hC39 : Kd.C Kd.string _ Ao33 x3_1.length x3_1 := (Kd.R_reads' HO_3.out).2.2; have q039 : (0 : Int) ≤ (x5_2 : Int) := od_ (by first | (with_reducible assumption) | assumption); have hcut39 := cut_from (P := Try.prog) 22 9 .i64 Try.underlying22 hi039 1 hsz39 Ao33 x3_1.length co33 x5_2 q039 q39; have hr39 := Kd.C_drop (m := (x5_2 : Int).toNat) (c := co33) hC39 (by omega) hroom39; obtain ⟨A39, hA39⟩ : ∃ A1, A1 = (if co33 = (x5_2 : Int).toNat then Ao33 else (Ao33 : Option Addr).map (·.add ((x5_2 : Int).toNat * 1))) := ⟨_, rfl⟩; obtain ⟨c39, hc39⟩ : ∃ c1, c1 = co33 - (x5_2 : Int).toNat := ⟨_, rfl⟩; have hy39 : y138.length = x3_1.length - (x5_2 : Int).toNat := (by rw [Ny138.out, List.length_drop] <;> omega); rw [show (x3_1).drop (x5_2 : Int).toNat = y138 from Ny138.out.symm] at hr39; replace hr39 : Kd.C Kd.string _ A39 y138.length y138 := (by rw [hA39]; exact hr39); rw [← hy39, ← hA39, ← hc39] at hcut39; have HR141 := A_ hr39; have HC141 := A_ (show y138.length ≤ c39 from by rw [hy39, hc39]; exact Nat.sub_le_sub_right hroom39 _); clear hr39 hC39 hroom39 hi039 hsz39 hc39; have KY39 := A_ hy39; have KA39 := A_ hA39; clear hy39 hA39; have KL39 := A_ (show (x5_2 : Int).toNat ≤ x3_1.length from by omega); replace q39 := eq_true q39) | ((with_reducible refine gate_builtin (b := .append) (xs := #[.tmp 42, .tmp 45]) rfl ?_); at_builtin; refine Kd.R_append_rows Kd.string (w0 := w) w.heap.size rfl (.tmp 42) (.tmp 45) 22 9 (.string ⟨#[]⟩) 16 rfl Try.underlying22 info9 rfl (by decide) (by omega) v136 y135 y138 _ _ _ (fun k_ => some k_ ≠ (.slice Ao33 x3_1.length co33 : Value).ownBlock) (fun _ => False) rfl rfl ?aO ?aR (fun _ _ h => h) (fun _ h => h.elim) ?aF ?aB ?aS ?aL ?_; (case aR => repeat (first | exact (by repeat (first | (with_reducible exact HR141.out) | (with_reducible refine ca_ ?_ _) | (with_reducible refine cn_ ?_ _) | (with_reducible refine cd_ ?_) | exact HR141.out)) | (with_reducible refine ca_ ?_ _) | (with_reducible refine cn_ ?_ _) | (with_reducible refine cd_ ?_))); (case aB => exact bw_); (case aF => exact (fun k_ hk => Kd.fresh' (Kd.R_lt (by (with_reducible repeat (first | apply Kd.R_alloc | apply Kd.R_drewN | apply Kd.R_drew)); exact HO_3.out)) k_ hk)); (case aO => exact (by (with_reducible repeat (first | apply Kd.R_alloc | apply Kd.R_drewN | apply Kd.R_drew)); exact HO137.out)); (case aS => exact (bz_ bw_)); (case aL => have := LMc32.out; omega); intro v143 w40 ho hb hg hat; rw [← Ny142.out] at ho; have n0_ := A_ (Kd.R_after (ok := (fun _ => True)) (by (with_reducible repeat (first | apply Kd.R_alloc | apply Kd.R_drewN | apply Kd.R_drew)); exact HO_3.out) hg hat); have n1_ := A_ (hb); have n2_ := A_ ((show Kd.C Kd.string w40 Ao33 y127.length y127 from by rw [Ny127.out]; exact Kd.C_take (m := (x5_2 : Int).toNat) ((Kd.R_reads' (Kd.R_after (ok := (fun _ => True)) (by (with_reducible repeat (first | apply Kd.R_alloc | apply Kd.R_drewN | apply Kd.R_drew)); exact HO_3.out) hg hat)).2.2) KL36.out)); have n3_ := A_ ((show Kd.C Kd.string w40 A39 y138.length y138 from by rw [Ny138.out, KA39.out]; exact Kd.C_drop (m := (x5_2 : Int).toNat) (c := co33) ((Kd.R_reads' (Kd.R_after (ok := (fun _ => True)) (by (with_reducible repeat (first | apply Kd.R_alloc | apply Kd.R_drewN | apply Kd.R_drew)); exact HO_3.out) hg hat)).2.2) KL39.out ((Kd.R_reads' (Kd.R_after (ok := (fun _ => True)) (by (with_reducible repeat (first | apply Kd.R_alloc | apply Kd.R_drewN | apply Kd.R_drew)); exact HO_3.out) hg hat)).2.1))); have n4_ := A_ (ho); clear HO_3; clear HB; clear HR130; clear HR141; clear HO137; have HO_3 := n0_; have HB := n1_; have HR130 := n2_; have HR141 := n3_; have HO144 := n4_; clear n0_ n1_ n2_ n3_ n4_; clear ho hb hg hat)); try go_wp2_with (first | ((with_reducible refine gate_dst (N := 30) rfl ?_); refine Kd.R_lit Kd.string _ 9 ?hg (N := 30) ?hd (xs := ([] : List ByteArray)) (inner := []) (ok := fun _ => True) (okp := fun _ => True) ?hr ?hp (fun _ hk => hk) trivial (Below.refl _ _) (Nat.le_refl _) (by simp) ?_; (case hd => rfl); (case hg => rfl); (case hr => first | (go_simp; done) | (go_simp; rfl)); (case hp => exact (Reps.none _ _)); intro v125 w34 ho35 hb hg_ hnew_; clear hg_ hnew_; (first | rw [← Ny124.out] at ho35 | (simp only [Int.reduceToNat] at ho35; rw [← Ny124.out] at ho35)); have n0_ := A_ (Kd.R_elder' (by (with_reducible repeat (first | apply Kd.R_alloc | apply Kd.R_drewN | apply Kd.R_drew)); exact HO_3.out) (Kd.R_base ho35) hb); have n1_ := A_ (Kd.R_lower (Kd.R_new' ho35 (Kd.R_lt (by (with_reducible repeat (first | apply Kd.R_alloc | apply Kd.R_drewN | apply Kd.R_drew)); exact HO_3.out))) (bz_ bw_)); have n2_ := A_ (bs_ bw_ hb); clear HO_3; clear HB; have HO_3 := n0_; have HO126 := n1_; have HB := n2_; clear n0_ n1_ n2_; clear hb ho35; have q36 : (x5_2 : Int) ≤ ((x3_1.length : Int) : Int) := od_ (by first | (with_reducible assumption) | assumption); obtain ⟨i036, hi036, _, hsz36, _⟩ := info_parts info9; have hroom36 : x3_1.length ≤ co33 := (Kd.R_reads' HO_3.out).2.1; have hC36 : Kd.C Kd.string _ Ao33 x3_1.length x3_1 := (Kd.R_reads' HO_3.out).2.2; have hcut36 := cut_to (P := Try.prog) 22 9 .i64 Try.underlying22 hi036 Ao33 x3_1.length co33 x5_2 (od_ (by first | (with_reducible assumption) | assumption)) q36 hroom36; have hr36 := Kd.C_take (m := (x5_2 : Int).toNat) hC36 (by omega); have hy36 : y127.length = (x5_2 : Int).toNat := (by rw [Ny127.out, List.length_take]; omega); rw [← Ny127.out] at hr36; rw [← hy36] at hcut36; have HR130 := A_ hr36; have HC130 := A_ (show y127.length ≤ co33 from by omega); clear hr36 hC36 hroom36 hi036 hsz36; have KY36 := A_ hy36; clear hy36; have KL36 := A_ (show (x5_2 : Int).toNat ≤ x3_1.length from by omega); replace q36 := eq_true q36) | ((with_reducible refine gate_builtin (b := .append) (xs := #[.tmp 30, .tmp 33]) rfl ?_); at_builtin; refine Kd.R_append_rows Kd.string (w0 := w) w.heap.size rfl (.tmp 30) (.tmp 33) 22 9 (.string ⟨#[]⟩) 16 rfl Try.underlying22 info9 rfl (by decide) (by omega) v125 y124 y127 _ _ _ (fun k_ => some k_ ≠ (.slice Ao33 x3_1.length co33 : Value).ownBlock) (fun _ => False) rfl rfl ?aO ?aR (fun _ _ h => h) (fun _ h => h.elim) ?aF ?aB ?aS ?aL ?_; (case aR => repeat (first | exact (by repeat (first | (with_reducible exact HR130.out) | (with_reducible refine ca_ ?_ _) | (with_reducible refine cn_ ?_ _) | (with_reducible refine cd_ ?_) | exact HR130.out)) | (with_reducible refine ca_ ?_ _) | (with_reducible refine cn_ ?_ _) | (with_reducible refine cd_ ?_))); (case aB => exact bw_); (case aF => exact (fun k_ hk => Kd.fresh' (Kd.R_lt (by (with_reducible repeat (first | apply Kd.R_alloc | apply Kd.R_drewN | apply Kd.R_drew)); exact HO_3.out)) k_ hk)); (case aO => exact (by (with_reducible repeat (first | apply Kd.R_alloc | apply Kd.R_drewN | apply Kd.R_drew)); exact Kd.R_mono HO126.out (fun _ hk => hk.2))); (case aS => exact (bz_ bw_)); (case aL => have := LMc26.out; omega); intro v132 w37 ho hb hg hat; rw [← Ny131.out] at ho; have n0_ := A_ (Kd.R_after (ok := (fun _ => True)) (by (with_reducible repeat (first | apply Kd.R_alloc | apply Kd.R_drewN | apply Kd.R_drew)); exact HO_3.out) hg hat); have n1_ := A_ (hb); have n2_ := A_ ((show Kd.C Kd.string w37 Ao33 y127.length y127 from by rw [Ny127.out]; exact Kd.C_take (m := (x5_2 : Int).toNat) ((Kd.R_reads' (Kd.R_after (ok := (fun _ => True)) (by (with_reducible repeat (first | apply Kd.R_alloc | apply Kd.R_drewN | apply Kd.R_drew)); exact HO_3.out) hg hat)).2.2) KL36.out)); have n3_ := A_ (ho); clear HO_3; clear HB; clear HR130; clear HO126; have HO_3 := n0_; have HB := n1_; have HR130 := n2_; have HO133 := n3_; clear n0_ n1_ n2_ n3_; clear ho hb hg hat; have p134 : 0 ≤ (x4_1 : Int) := od_ (by first | (with_reducible assumption) | assumption); have q134 : x4_1 < (l0.length : Int) := od_ (by first | (with_reducible assumption) | assumption); obtain ⟨ad134, e134, hx134_0⟩ := Kd.at_string HR0.out x4_1 p134 q134; cases e134; replace hx134_0 := (HB.out.cell (World.block_lt_of_cell? w _ hx134_0)).trans hx134_0; replace p134 := eq_true p134; replace q134 := eq_true q134) | ((with_reducible refine gate_builtin (b := .append) (xs := #[.tmp 35, .tmp 40]) rfl ?_); at_builtin; refine Kd.R_append Kd.string (w0 := w) w.heap.size rfl (.tmp 35) (.tmp 40) 22 9 (.string ⟨#[]⟩) 16 rfl Try.underlying22 info9 rfl (by decide) (by omega) v132 y131 (rdOf ByteArray.empty l0 x4_1) [.string (rdOf ByteArray.empty l0 x4_1)] (fun k_ => some k_ ≠ (.slice Ao33 x3_1.length co33 : Value).ownBlock) (fun _ => False) rfl rfl ?aP (fun _ hk => hk.elim) ?aF ?aO ?aB ?aS ?aL ?_; (case aP => exact rfl); (case aB => exact bw_); (case aF => exact (fun k_ hk => Kd.fresh' (Kd.R_lt (by (with_reducible repeat (first | apply Kd.R_alloc | apply Kd.R_drewN | apply Kd.R_drew)); exact HO_3.out)) k_ hk)); (case aO => exact (by (with_reducible repeat (first | apply Kd.R_alloc | apply Kd.R_drewN | apply Kd.R_drew)); exact HO133.out)); (case aS => exact (bz_ bw_)); (case aL => have := LMc29.out; omega); intro v136 w38 ho hb hg hat; rw [← Ny135.out] at ho; have n0_ := A_ (Kd.R_after (ok := (fun _ => True)) (by (with_reducible repeat (first | apply Kd.R_alloc | apply Kd.R_drewN | apply Kd.R_drew)); exact HO_3.out) hg hat); have n1_ := A_ (hb); have n2_ := A_ ((show Kd.C Kd.string w38 Ao33 y127.length y127 from by rw [Ny127.out]; exact Kd.C_take (m := (x5_2 : Int).toNat) ((Kd.R_reads' (Kd.R_after (ok := (fun _ => True)) (by (with_reducible repeat (first | apply Kd.R_alloc | apply Kd.R_drewN | apply Kd.R_drew)); exact HO_3.out) hg hat)).2.2) KL36.out)); have n3_ := A_ (ho); clear HO_3; clear HB; clear HR130; clear HO133; have HO_3 := n0_; have HB := n1_; have HR130 := n2_; have HO137 := n3_; clear n0_ n1_ n2_ n3_; clear ho hb hg hat; have q39 : (x5_2 : Int) ≤ ((x3_1.length : Int) : Int) := od_ (by first | (with_reducible assumption) | assumption); obtain ⟨i039, hi039, _, hsz39, _⟩ := info_parts info9; have hroom39 : x3_1.length ≤ co33 := (Kd.R_reads' HO_3.out).2.1; have hC39 : Kd.C Kd.string _ Ao33 x3_1.length x3_1 := (Kd.R_reads' HO_3.out).2.2; have q039 : (0 : Int) ≤ (x5_2 : Int) := od_ (by first | (with_reducible assumption) | assumption); have hcut39 := cut_from (P := Try.prog) 22 9 .i64 Try.underlying22 hi039 1 hsz39 Ao33 x3_1.length co33 x5_2 q039 q39; have hr39 := Kd.C_drop (m := (x5_2 : Int).toNat) (c := co33) hC39 (by omega) hroom39; obtain ⟨A39, hA39⟩ : ∃ A1, A1 = (if co33 = (x5_2 : Int).toNat then Ao33 else (Ao33 : Option Addr).map (·.add ((x5_2 : Int).toNat * 1))) := ⟨_, rfl⟩; obtain ⟨c39, hc39⟩ : ∃ c1, c1 = co33 - (x5_2 : Int).toNat := ⟨_, rfl⟩; have hy39 : y138.length = x3_1.length - (x5_2 : Int).toNat := (by rw [Ny138.out, List.length_drop] <;> omega); rw [show (x3_1).drop (x5_2 : Int).toNat = y138 from Ny138.out.symm] at hr39; replace hr39 : Kd.C Kd.string _ A39 y138.length y138 := (by rw [hA39]; exact hr39); rw [← hy39, ← hA39, ← hc39] at hcut39; have HR141 := A_ hr39; have HC141 := A_ (show y138.length ≤ c39 from by rw [hy39, hc39]; exact Nat.sub_le_sub_right hroom39 _); clear hr39 hC39 hroom39 hi039 hsz39 hc39; have KY39 := A_ hy39; have KA39 := A_ hA39; clear hy39 hA39; have KL39 := A_ (show (x5_2 : Int).toNat ≤ x3_1.length from by omega); replace q39 := eq_true q39) | ((with_reducible refine gate_builtin (b := .append) (xs := #[.tmp 42, .tmp 45]) rfl ?_); at_builtin; refine Kd.R_append_rows Kd.string (w0 := w) w.heap.size rfl (.tmp 42) (.tmp 45) 22 9 (.string ⟨#[]⟩) 16 rfl Try.underlying22 info9 rfl (by decide) (by omega) v136 y135 y138 _ _ _ (fun k_ => some k_ ≠ (.slice Ao33 x3_1.length co33 : Value).ownBlock) (fun _ => False) rfl rfl ?aO ?aR (fun _ _ h => h) (fun _ h => h.elim) ?aF ?aB ?aS ?aL ?_; (case aR => repeat (first | exact (by repeat (first | (with_reducible exact HR141.out) | (with_reducible refine ca_ ?_ _) | (with_reducible refine cn_ ?_ _) | (with_reducible refine cd_ ?_) | exact HR141.out)) | (with_reducible refine ca_ ?_ _) | (with_reducible refine cn_ ?_ _) | (with_reducible refine cd_ ?_))); (case aB => exact bw_); (case aF => exact (fun k_ hk => Kd.fresh' (Kd.R_lt (by (with_reducible repeat (first | apply Kd.R_alloc | apply Kd.R_drewN | apply Kd.R_drew)); exact HO_3.out)) k_ hk)); (case aO => exact (by (with_reducible repeat (first | apply Kd.R_alloc | apply Kd.R_drewN | apply Kd.R_drew)); exact HO137.out)); (case aS => exact (bz_ bw_)); (case aL => have := LMc32.out; omega); intro v143 w40 ho hb hg hat; rw [← Ny142.out] at ho; have n0_ := A_ (Kd.R_after (ok := (fun _ => True)) (by (with_reducible repeat (first | apply Kd.R_alloc | apply Kd.R_drewN | apply Kd.R_drew)); exact HO_3.out) hg hat); have n1_ := A_ (hb); have n2_ := A_ ((show Kd.C Kd.string w40 Ao33 y127.length y127 from by rw [Ny127.out]; exact Kd.C_take (m := (x5_2 : Int).toNat) ((Kd.R_reads' (Kd.R_after (ok := (fun _ => True)) (by (with_reducible repeat (first | apply Kd.R_alloc | apply Kd.R_drewN | apply Kd.R_drew)); exact HO_3.out) hg hat)).2.2) KL36.out)); have n3_ := A_ ((show Kd.C Kd.string w40 A39 y138.length y138 from by rw [Ny138.out, KA39.out]; exact Kd.C_drop (m := (x5_2 : Int).toNat) (c := co33) ((Kd.R_reads' (Kd.R_after (ok := (fun _ => True)) (by (with_reducible repeat (first | apply Kd.R_alloc | apply Kd.R_drewN | apply Kd.R_drew)); exact HO_3.out) hg hat)).2.2) KL39.out ((Kd.R_reads' (Kd.R_after (ok := (fun _ => True)) (by (with_reducible repeat (first | apply Kd.R_alloc | apply Kd.R_drewN | apply Kd.R_drew)); exact HO_3.out) hg hat)).2.1))); have n4_ := A_ (ho); clear HO_3; clear HB; clear HR130; clear HR141; clear HO137; have HO_3 := n0_; have HB := n1_; have HR130 := n2_; have HR141 := n3_; have HO144 := n4_; clear n0_ n1_ n2_ n3_ n4_; clear ho hb hg hat)))
              go_roundg k2
              case measure => have := HK1.out; have := HK2.out; omega
              case rel => exact ⟨(y142), (wrap64 (x4_1 + 1)), (by first | rfl | (simp; done) | (simp [*]; done)), H', ⟨by have := HK1.out; have := HK2.out; omega⟩, ⟨by (with_reducible repeat (first | apply Kd.R_alloc | apply Kd.R_drewN | apply Kd.R_drew)); exact Kd.R_mono HO144.out (fun _ hk => trivial)⟩, ⟨bw_⟩⟩
             ·
              rw [if_neg c32] at H
              exact absurd H (by simp)
            ·
             rw [if_neg c29] at H
             exact absurd H (by simp)
           ·
            rw [if_neg c28] at H
            exact absurd H (by simp)
          ·
           rw [if_neg c27] at H
           exact absurd H (by simp)
         ·
          rw [if_neg c26] at H
          exact absurd H (by simp)
        ·
         rw [if_neg c25] at H
         exact absurd H (by simp)
       ·
        rw [if_neg c24] at H
        exact absurd H (by simp)
   ·
    rw [if_neg c2] at H
    have c2b0 : decide (x4_1 < (l0.length : Int)) = false := decide_eq_false c2
    clear c2
    obtain rfl := Option.some.inj H
    go_wp2
    repeat (go_quiet (fail); try go_wp2)
    go_ret
    exact ⟨_, by first | rfl | (simp [errW_none, errW_some] <;> rfl) | (simp [*, errW_none, errW_some] <;> rfl), by (with_reducible repeat (first | apply Kd.R_alloc | apply Kd.R_drewN | apply Kd.R_drew)); exact HO_3.out, bw_⟩
end Go.Proofs.Ytcbpmmcpidfllaa.So
end
section
namespace Go.Proofs.Ytcbpmmcpidfllaa.So
open Go.RowKit Go.Proofs.YtcbpmmcpidfllaaW.PrintWords Go.Proofs.YtcbpmmcpidfllaaW.PrintLast Go.Proofs.YtcbpmmcpidfllaaW.PrintMore
attribute [local go_sem] max2_int min2_int max_two min_two max_three min_three max_four min_four   -- for this text's walks alone
set_option linter.unusedVariables false
set_option linter.unusedSimpArgs false
def clevisref08_Of.l0 : Nat → Int → List ByteArray → Int → Int → List ByteArray → List (S63) → Option (List ByteArray)
 | 0, _, _, _, _, _, _ => none
 | k + 1, x1, x5, x6, x303000, x303001, x303002 => if x6 < (x303002.length : Int) then (if 0 ≤ x6 then (if ((rd_T63 x303002 x6).f1) = x1 then (if x5.length < 8796093022208 then (clevisref08_Of.l0 k x1 (x5 ++ [(rd_T63 x303002 x6).f0]) (wrap64 (x6 + 1)) x303000 x303001 x303002) else (none)) else (clevisref08_Of.l0 k x1 x5 (wrap64 (x6 + 1)) x303000 x303001 x303002)) else (none)) else ((clevisref08_Sorted.f k x5).bind fun t150 => (some t150))
def clevisref08_Of.f (k : Nat) (a0_0 : Int) (l0_1 : List ByteArray) (l0_2 : List (S63)) (a1 : Int) : Option (List ByteArray) := clevisref08_Of.l0 k a1 ([] : List ByteArray) 0 a0_0 l0_1 l0_2
set_option maxHeartbeats 8000000 in
set_option maxRecDepth 100000 in
theorem clevisref08_Of.calls (k : Nat) (a0_0 : Int) (A0_1 : Option Addr) (c0_1 : Nat) (l0_1 : List ByteArray) (A0_2 : Option Addr) (c0_2 : Nat) (l0_2 : List (S63)) (a1 : Int) (r : List ByteArray) (w : World) (hr0_1 : Kd.C Kd.string w A0_1 l0_1.length l0_1) (hc0_1 : l0_1.length ≤ c0_1) (hr0_2 : Kd.C k63 w A0_2 l0_2.length l0_2) (hc0_2 : l0_2.length ≤ c0_2) (h : clevisref08_Of.f k a0_0 l0_1 l0_2 a1 = some r) :
  Calls Try.prog 18 #[.agg #[.int .i64 a0_0, .slice A0_1 l0_1.length c0_1, .slice A0_2 l0_2.length c0_2], .int .i64 a1] w fun e w' => ∃ v0_ : Value, e = .returned (v0_) ∧ Kd.R Kd.string 9 w' w.heap.size (fun _ => True) v0_ r ∧ Below w.heap.size w w' := by
 have hu25 := Try.underlying25
 have HR0_1 := A_ hr0_1
 have HC0_1 := A_ hc0_1
 clear hr0_1 hc0_1
 have HR0_2 := A_ hr0_2
 have HC0_2 := A_ hc0_2
 clear hr0_2 hc0_2
 have HB := A_ (Below.refl w.heap.size w)
 have H : (clevisref08_Of.l0 k a1 ([] : List ByteArray) 0 a0_0 l0_1 l0_2) = some r := h
 clear h
 have H' := A_ H
 clear H
 go_enter Try.func18, Try.ntmps18
 go_wp2_with (first | ((with_reducible refine gate_dst (N := 2) rfl ?_); refine box_event ?hg (N := 2) ?hd (cs := #[.int .i64 a0_0, .slice A0_1 l0_1.length c0_1, .slice A0_2 l0_2.length c0_2]) (t := 25) ?hr ?_; (case hd => rfl); (case hg => rfl); (case hr => first | (go_simp; done) | (go_simp; rfl)); intro gb302 hg w3 hbox hb; have n0_ := A_ (bs_ bw_ hb); have n1_ := A_ (hbox); have n2_ := A_ ((by rw [hg]; exact (bz_ bw_) : w.heap.size ≤ gb302)); have n3_ := A_ ((by rw [hg]; exact (bz_ bw_) : w.heap.size ≤ gb302)); clear HB; have HB := n0_; have BK302 := n1_; have GW302 := n2_; have GE302 := n3_; clear n0_ n1_ n2_ n3_; clear hb hbox hg))
 (try simp only [Act.put, sA_, sZ_, sS_])
 go_loopg [5, 6] k (fun kq v5 v6 w' => ∃ (x5_1 : List ByteArray) (x6_1 : Int), v6 = .int .i64 x6_1 ∧ Aside0 (clevisref08_Of.l0 kq a1 x5_1 x6_1 a0_0 l0_1 l0_2 = some r) ∧ Aside0 (kq ≤ k) ∧ Aside0 (Kd.R Kd.string 9 w' w.heap.size (fun _ => True) v5 x5_1) ∧ Aside0 (w'.heap[gb302]? = some (.cells #[.int .i64 a0_0, (.slice A0_1 l0_1.length c0_1), (.slice A0_2 l0_2.length c0_2)] 25 (0, 0))) ∧ Aside0 (Below w.heap.size w w'))
 case atStart => exact ⟨(([] : List ByteArray)), (0), (by first | rfl | (simp; done) | (simp [*]; done)), H', ⟨Nat.le_refl _⟩, ⟨by first | exact Kd.R_nil _ _ _ _ _ | exact Kd.N_nil _ _ _ _ _ | exact Kd.V_nil _ _ _ _ _ | exact Kd.Q_nil _ _ _ _ _ | exact Kd.S_nil _ _ _ _ _⟩, ⟨bk_⟩, ⟨bw_⟩⟩
 case round =>
  clear H'
  try clear c1
  try clear p2
  obtain ⟨x5_1, x6_1, rfl, HA, HK1, HO_5, BK302, HB⟩ := hrel
  cases gk with
  | zero => exact absurd HA.out (by simp [clevisref08_Of.l0])
  | succ k1 =>
   have H := HA.out
   clear HA
   simp only [clevisref08_Of.l0] at H
   by_cases c4 : x6_1 < (l0_2.length : Int)
   ·
    rw [if_pos c4] at H
    have c4b0 : decide (x6_1 < (l0_2.length : Int)) = true := decide_eq_true c4
    clear c4
    by_cases c5 : 0 ≤ x6_1
    ·
     rw [if_pos c5] at H
     have c5b0 : decide (0 ≤ x6_1) = true := decide_eq_true c5
     clear c5
     by_cases c6 : ((rd_T63 l0_2 x6_1).f1) = a1
     ·
      rw [if_pos c6] at H
      have c6b0 : (((rd_T63 l0_2 x6_1).f1) == a1) = true := q1_ c6
      have c6b1 : (((rd_T63 l0_2 x6_1).f1) != a1) = false := q3_ c6
      clear c6
      by_cases c7 : x5_1.length < 8796093022208
      ·
       rw [if_pos c7] at H
       have LMc7 := A_ c7
       clear c7
       obtain ⟨y147, hy147⟩ : ∃ y_ : List ByteArray, y_ = (x5_1 ++ [(rd_T63 l0_2 x6_1).f0]) := ⟨_, rfl⟩
       replace H : (clevisref08_Of.l0 k1 a1 y147 (wrap64 (x6_1 + 1)) a0_0 l0_1 l0_2) = some r := by first | (rw [hy147]; with_reducible exact H) | (have H2_ := (Option.bind_some _ _).symm.trans H; rw [hy147]; with_reducible exact H2_) | (have H2_ := (Option.bind_some _ _).symm.trans H; with_reducible exact H2_) | with_reducible exact H | (rw [hy147]; exact H) | exact H
       have Ny147 := A_ hy147
       clear hy147
       have H' := A_ H
       clear H
       have hcz8_0 : wr.cell? ⟨gb302, 0, none⟩ = some (.int .i64 a0_0) := (bc_ BK302.out 0).trans rfl
       have hcz8_1 : wr.cell? ⟨gb302, 1, none⟩ = some (.slice A0_1 l0_1.length c0_1) := (bc_ BK302.out 1).trans rfl
       have hcz8_2 : wr.cell? ⟨gb302, 2, none⟩ = some (.slice A0_2 l0_2.length c0_2) := (bc_ BK302.out 2).trans rfl
       have hfz8_0 := bf_ BK302.out 0
       have hfz8_1 := bf_ BK302.out 1
       have hfz8_2 := bf_ BK302.out 2
       have p145 : 0 ≤ (x6_1 : Int) := od_ (by first | (with_reducible assumption) | assumption)
       have q145 : x6_1 < (l0_2.length : Int) := od_ (by first | (with_reducible assumption) | assumption)
       obtain ⟨ad145, e145, hx145_0, hx145_1⟩ := at_T63 HR0_2.out x6_1 p145 q145
       cases e145
       replace hx145_0 := (HB.out.cell (World.block_lt_of_cell? w _ hx145_0)).trans hx145_0
       replace hx145_1 := (HB.out.cell (World.block_lt_of_cell? w _ hx145_1)).trans hx145_1
       replace p145 := eq_true p145
       replace q145 := eq_true q145
       have p146 : 0 ≤ (x6_1 : Int) := od_ (by first | (with_reducible assumption) | assumption)
       have q146 : x6_1 < (l0_2.length : Int) := od_ (by first | (with_reducible assumption) | assumption)
       obtain ⟨ad146, e146, hx146_0, hx146_1⟩ := at_T63 HR0_2.out x6_1 p146 q146
       obtain rfl : ad145 = ad146 := (by injection e146)
       replace hx146_0 := (HB.out.cell (World.block_lt_of_cell? w _ hx146_0)).trans hx146_0
       replace hx146_1 := (HB.out.cell (World.block_lt_of_cell? w _ hx146_1)).trans hx146_1
       replace p146 := eq_true p146
       replace q146 := eq_true q146
       go_wp2_with (first | ((with_reducible refine gate_builtin (b := .append) (xs := #[.tmp 22, .tmp 29]) rfl ?_); at_builtin; refine Kd.R_append Kd.string (w0 := w) w.heap.size rfl (.tmp 22) (.tmp 29) 22 9 (.string ⟨#[]⟩) 16 rfl Try.underlying22 info9 rfl (by decide) (by omega) u5 x5_1 ((rd_T63 l0_2 x6_1).f0) [.string ((rd_T63 l0_2 x6_1).f0)] (fun _ => True) (fun _ => False) rfl rfl ?aP (fun _ hk => hk.elim) ?aF ?aO ?aB ?aS ?aL ?_; (case aP => exact rfl); (case aB => exact bw_); (case aF => exact (fun _ _ => trivial)); (case aO => exact (by (with_reducible repeat (first | apply Kd.R_alloc | apply Kd.R_drewN | apply Kd.R_drew)); exact HO_5.out)); (case aS => exact (bz_ bw_)); (case aL => have := LMc7.out; omega); intro v148 w9 ho hb hg hat; rw [← Ny147.out] at ho; have n0_ := A_ (blk_grown (g := gb302) (o := .cells #[.int .i64 a0_0, .slice A0_1 l0_1.length c0_1, .slice (some ad145) l0_2.length c0_2] 25 (0, 0)) bk_ hg (Kd.R_ne HO_5.out BK302.out (by decide))); have n1_ := A_ (hb); have n2_ := A_ (ho); clear BK302; clear HB; clear HO_5; have BK302 := n0_; have HB := n1_; have HO149 := n2_; clear n0_ n1_ n2_; clear ho hb hg hat))
       go_roundg k1
       case measure => have := HK1.out; omega
       case rel => exact ⟨(y147), (wrap64 (x6_1 + 1)), (by first | rfl | (simp; done) | (simp [*]; done)), H', ⟨by have := HK1.out; omega⟩, ⟨by (with_reducible repeat (first | apply Kd.R_alloc | apply Kd.R_drewN | apply Kd.R_drew)); exact HO149.out⟩, ⟨bk_⟩, ⟨bw_⟩⟩
      ·
       rw [if_neg c7] at H
       exact absurd H (by simp)
     ·
      rw [if_neg c6] at H
      have c6b0 : (((rd_T63 l0_2 x6_1).f1) == a1) = false := q4_ c6
      have c6b1 : (((rd_T63 l0_2 x6_1).f1) != a1) = true := q2_ c6
      have H' := A_ H
      clear H
      have hcz10_0 : wr.cell? ⟨gb302, 0, none⟩ = some (.int .i64 a0_0) := (bc_ BK302.out 0).trans rfl
      have hcz10_1 : wr.cell? ⟨gb302, 1, none⟩ = some (.slice A0_1 l0_1.length c0_1) := (bc_ BK302.out 1).trans rfl
      have hcz10_2 : wr.cell? ⟨gb302, 2, none⟩ = some (.slice A0_2 l0_2.length c0_2) := (bc_ BK302.out 2).trans rfl
      have hfz10_0 := bf_ BK302.out 0
      have hfz10_1 := bf_ BK302.out 1
      have hfz10_2 := bf_ BK302.out 2
      have p145 : 0 ≤ (x6_1 : Int) := od_ (by first | (with_reducible assumption) | assumption)
      have q145 : x6_1 < (l0_2.length : Int) := od_ (by first | (with_reducible assumption) | assumption)
      obtain ⟨ad145, e145, hx145_0, hx145_1⟩ := at_T63 HR0_2.out x6_1 p145 q145
      cases e145
      replace hx145_0 := (HB.out.cell (World.block_lt_of_cell? w _ hx145_0)).trans hx145_0
      replace hx145_1 := (HB.out.cell (World.block_lt_of_cell? w _ hx145_1)).trans hx145_1
      replace p145 := eq_true p145
      replace q145 := eq_true q145
      go_wp2
      go_roundg k1
      case measure => have := HK1.out; omega
      case rel => exact ⟨(x5_1), (wrap64 (x6_1 + 1)), (by first | rfl | (simp; done) | (simp [*]; done)), H', ⟨by have := HK1.out; omega⟩, ⟨by (with_reducible repeat (first | apply Kd.R_alloc | apply Kd.R_drewN | apply Kd.R_drew)); exact HO_5.out⟩, ⟨bk_⟩, ⟨bw_⟩⟩
    ·
     rw [if_neg c5] at H
     exact absurd H (by simp)
   ·
    rw [if_neg c4] at H
    have c4b0 : decide (x6_1 < (l0_2.length : Int)) = false := decide_eq_false c4
    clear c4
    replace H := os_ H
    obtain ⟨t150, A110, H⟩ := H
    replace H : (some t150) = some r := H
    have A11 := A_ A110
    clear A110
    obtain rfl := Option.some.inj H
    have hcz12_0 : wr.cell? ⟨gb302, 0, none⟩ = some (.int .i64 a0_0) := (bc_ BK302.out 0).trans rfl
    have hcz12_1 : wr.cell? ⟨gb302, 1, none⟩ = some (.slice A0_1 l0_1.length c0_1) := (bc_ BK302.out 1).trans rfl
    have hcz12_2 : wr.cell? ⟨gb302, 2, none⟩ = some (.slice A0_2 l0_2.length c0_2) := (bc_ BK302.out 2).trans rfl
    have hfz12_0 := bf_ BK302.out 0
    have hfz12_1 := bf_ BK302.out 1
    have hfz12_2 := bf_ BK302.out 2
    obtain ⟨Ao13, co13, eo13⟩ := Kd.R_slice HO_5.out
    subst eo13
    go_wp2_with (first | ((with_reducible refine gate_callee (f := 19) rfl ?_); refine goesL_ (some 32) rfl rfl Try.func19 (by kernel_rfl) rfl #[.slice Ao13 x5_1.length co13] rfl (by (try simp only [List.map_toArray, List.map_cons, List.map_nil]); first | done | rfl | (simp only [List.length_drop, List.length_take]; rfl)) ?_; (with_reducible refine (clevisref08_Sorted.calls k1 _ _ x5_1 t150 _ ?side1 ?side2 A11.out).mono ?_); (case side1 => repeat (first | exact (Kd.R_reads' HO_5.out).2.2 | (with_reducible refine ca_ ?_ _) | (with_reducible refine cn_ ?_ _) | (with_reducible refine cd_ ?_))); (case side2 => exact (Kd.R_reads' HO_5.out).2.1); rintro e w14 ⟨v151, rfl, ho0, hb⟩; refine ⟨_, rfl, ?_⟩; have n0_ := A_ (Kd.R_elder' (by (with_reducible repeat (first | apply Kd.R_alloc | apply Kd.R_drewN | apply Kd.R_drew)); exact HO_5.out) (Kd.R_base ho0) hb); have n1_ := A_ (Kd.R_lower (Kd.R_new' ho0 (Kd.R_lt (by (with_reducible repeat (first | apply Kd.R_alloc | apply Kd.R_drewN | apply Kd.R_drew)); exact HO_5.out))) (bz_ bw_)); have n2_ := A_ (kb_ BK302 hb); have n3_ := A_ (bs_ bw_ hb); clear HO_5; clear BK302; clear HB; have HO_5 := n0_; have HO152 := n1_; have BK302 := n2_; have HB := n3_; clear n0_ n1_ n2_ n3_; (try clear hb); (try clear hb2); (try clear hk); (try clear hi); (try clear ho0)))
    go_ret
    exact ⟨_, by first | rfl | (simp [errW_none, errW_some] <;> rfl) | (simp [*, errW_none, errW_some] <;> rfl), by (with_reducible repeat (first | apply Kd.R_alloc | apply Kd.R_drewN | apply Kd.R_drew)); exact Kd.R_mono HO152.out (fun _ hk => trivial), bw_⟩
end Go.Proofs.Ytcbpmmcpidfllaa.So
end
