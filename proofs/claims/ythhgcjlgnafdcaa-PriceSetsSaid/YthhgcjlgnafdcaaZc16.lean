/- Texts of this seat, put together (Zc16). -/
import Derived.RangeFuncNested
import Derived.RangeFuncBound
import Derived.RangeFuncCalls
import Derived.RangeFuncLeaves
import Derived.RangeFuncFrom
import Derived.Shelf.Abstract
import Derived.Shelf.RegionOpen
import Derived.WalkKit
import Derived.OwnWalkIn
import Derived.TacticsInMore
import Derived.LoopNIn
import Derived.LoopIn
import Derived.Test.YthhgcjlgnafdcaaZc14
section
namespace Go.Proofs.Ythhgcjlgnafdcaa.Tj
set_option linter.unusedVariables false
set_option linter.unusedSimpArgs false
open Go Go.RowKit Go.Shelf Go.Proofs.YthhgcjlgnafdcaaW.PrintWords Go.Proofs.YthhgcjlgnafdcaaW.PrintLast Go.Proofs.Ythhgcjlgnafdcaa.Hd Go.Proofs.Ythhgcjlgnafdcaa.Os Go.Proofs.Ythhgcjlgnafdcaa.Tb Go.Proofs.Ythhgcjlgnafdcaa.Tm
def rows (l : List (ByteArray × Int)) : Rws := l.map fun r => (r.1, (fun y : Int => .int .i64 y) r.2)
theorem rows_length (l : List (ByteArray × Int)) : (rows l).length = l.length := List.length_map _
section
attribute [local go_sem] Oper.semAt_some
set_option maxRecDepth 100000 in
set_option maxHeartbeats 4000000 in
theorem told_stops (n : Nat) (hn : 2 ≤ n) (B : Nat) (A : Option Addr) (l : List (ByteArray × Int)) (c : Nat) (w : World) (ok : Nat → Prop) (hl : l.length < 4611686018427387904)
    (hH : Held w ok fun W => Box B 60 #[.slice A l.length c] W ∧ Rng A (rows l) W) :
    SeqStopsK Fence.wide n Try.prog 132 #[.pointer (some ⟨B, 0, none⟩)] (fun r : ByteArray × Int => #[.string r.1, (fun y : Int => .int .i64 y) r.2]) (fun W W' => ∀ k, ok k → W'.heap[k]? = W.heap[k]?) (fun xs => xs = l) (fun _ => True) l.length w := fun lp J Jx W hW hJ hJx hY h0 => by
  have hHW : ∀ W', (∀ k, ok k → W'.heap[k]? = W.heap[k]?) → Box B 60 #[.slice A l.length c] W' ∧ Rng A (rows l) W' := fun W' h => hH.on W' fun k hk => (h k hk).trans (hW.block k (hH.lt k hk))
  have hok : ∀ k, ok k → k < W.heap.size := fun k hk => Nat.lt_of_lt_of_le (hH.lt k hk) hW.size
  have hb := (hHW W fun _ _ => rfl).1
  have hc := (blk_cell hb 0).trans (show (#[Value.slice A l.length c])[0]? = some (.slice A l.length c) from rfl)
  replace hHW := Aside0.mk hHW
  replace hok := Aside0.mk hok
  clear hb hH
  refine callsIn_of_wp Try.func132 rfl trivial ?_ rfl
  simp only [Try.ntmps132, List.size_toArray, List.length_cons, List.length_nil, Nat.reduceAdd, Nat.reduceSub, Array.replicate_succ, Array.replicate_zero, List.push_toArray, List.append_toArray, List.nil_append, List.cons_append]
  gi_wp2
  gi_loopw [7] (fun p wr => ∃ k : Nat, k ≤ l.length ∧ p = .int .i64 (k : Int) ∧ J (l.take k) wr ∧ Aside0 (∀ q, ok q → wr.heap[q]? = W.heap[q]?)) (fun p _ => l.length - (intOf p).toNat)
  case atStart => exact ⟨0, Nat.zero_le _, rfl, h0, ⟨fun _ _ => rfl⟩⟩
  case round =>
    obtain ⟨k, hk, rfl, hj, HB⟩ := hrel
    by_cases hks : k < l.length
    · obtain ⟨g, rfl, hrd⟩ := (hHW.out wr HB.out).2 k (by rw [rows_length]; exact hks)
      have htk := Aside0.mk (List.take_succ_eq_append_getElem hks)
      have hc0 : wr.cell? ⟨g, k * 2, none⟩ = some (.string l[k].1) := hrd 0 _ (by simp [enc, rows])
      have hc1 : wr.cell? ⟨g, k * 2 + 1, none⟩ = some ((fun y : Int => .int .i64 y) l[k].2) := hrd 1 _ (by simp [enc, rows])
      have hl2 : (l.take k).length < l.length := by rw [List.length_take]; omega
      obtain ⟨r, hr⟩ : ∃ r, l[k] = r := ⟨_, rfl⟩
      rw [hr] at hc0 hc1 htk
      obtain ⟨s, y⟩ := r
      simp only at hc0 hc1
      clear hrd hr
      have hj2 : J (l.take k) (wr.alloc (.cells #[.string s, .int .i64 y] 173)) := hJ _ _ _ none hj (World.grownBy_alloc wr _ _) (fun r e => by cases e)
      obtain ⟨f1, t1, a1, b1', hy1, hR1⟩ := hY (l.take k) (s, y) _ hj2 hl2
      clear hY
      gi_wp2
      refine ⟨fun _ => by omega, ?_⟩
      refine hR1.mono ?_
      rintro e W1 (⟨rfl, hJ1, hk1⟩ | ⟨rfl, hx1⟩)
      · have hk2 : Aside0 (∀ q, ok q → W1.heap[q]? = W.heap[q]?) := ⟨fun q hq => (hk1 q hq).trans ((Below.heap_alloc wr _ q (by
          have h1 := HB.out q hq
          rw [Array.getElem?_eq_getElem (hok.out q hq)] at h1
          exact (Array.getElem?_eq_some_iff.1 h1).1)).trans (HB.out q hq))⟩
        clear hk1
        gi_wp2
        exact ⟨⟨k + 1, by omega, rfl, by rw [htk.out]; exact hJ1, hk2⟩, by simp [intOf]; omega⟩
      · gi_wp2
        refine bodyPost_ret (results_none rfl _ _ _) rfl ?_
        exact ⟨⟨_, rfl⟩, .inr ⟨_, trivial, hx1⟩⟩
    · gi_wp2
      go_end0
      obtain rfl : k = l.length := by omega
      rw [List.take_length] at hj
      exact ⟨⟨_, rfl⟩, .inl ⟨_, rfl, hj⟩⟩
end
theorem each_c {w0 w : World} {L : List F2} {b n c i : Nat} {A : Option Addr} {tt : TypeId} {bs : Array Value} (H : All w0 w L) (hi : L[i]? = some (bx b tt bs)) (hcs : bs[0]? = some (.slice A n c) := by rfl) :
    Calls Try.prog 74 #[.pointer (some ⟨b, 0, none⟩)] w fun e w' => ∃ B, e = .returned (.func (.func 132) #[] #[.pointer (some ⟨B, 0, none⟩)]) ∧ w.heap.size ≤ B ∧ All w0 w' (bx B 60 #[.slice A n c] :: L) := by
  have hall : ∀ w1, All w0 w1 L → Tells Try.prog 111 #[.pointer (some ⟨b, 0, none⟩)] w1 (.slice A n c) := fun w1 H1 => by
    unfold Tells
    have H2 := (All.start w1).arg (H1.get i hi)
    have r0 := (H2.rd 0 rfl 0).trans hcs
    go_enter Try.func111, Try.ntmps111
    go_wp2
    go_ret
    exact ⟨rfl, H2.old⟩
  have htold : ∀ w1 : World, Calls Try.prog 115 #[.slice A n c] w1 fun e w' => e = .returned (.func (.func 132) #[] #[.pointer (some ⟨w1.heap.size, 0, none⟩)]) ∧ w' = w1.alloc (.cells #[.slice A n c] 60) := fun w1 => by
    go_enter Try.func115, Try.ntmps115
    go_wp2
    go_ret
    exact ⟨rfl, rfl⟩
  go_enter Try.func74, Try.ntmps74
  go_wp2_with fail
  refine (hall w H).mono ?_
  rintro e w1 ⟨rfl, hb⟩
  have H1 := H.grow hb
  go_wp2_with fail
  refine (htold w1).mono ?_
  rintro e w2 ⟨rfl, rfl⟩
  have H2 := H1.box w1.heap.size 60 #[.slice A n c]
  go_wp2
  go_ret
  exact ⟨_, rfl, hb.size, H2⟩
end Go.Proofs.Ythhgcjlgnafdcaa.Tj
end
