/- Texts of this seat, put together (Zd20). -/
import Derived.RangeFuncNested
import Derived.RangeFuncBound
import Derived.RangeFuncCalls
import Derived.RangeFuncLeaves
import Derived.RangeFuncFrom
import Derived.Shelf.Abstract
import Derived.Shelf.RegionOpen
import Derived.WalkKit
import Derived.OwnWalkIn
import Derived.TacticsInMore
import Derived.LoopNIn
import Derived.LoopIn
import Derived.Test.YthhgcjlgnafdcaaZd3
section
namespace Go.Proofs.Ythhgcjlgnafdcaa.Hd
set_option linter.unusedVariables false
set_option linter.unusedSimpArgs false
open Go Go.RowKit Go.Proofs.YthhgcjlgnafdcaaW.PrintWords Go.Proofs.YthhgcjlgnafdcaaW.PrintLast
def Cells (B : Nat) (L : List F2) : Prop := ∀ f ∈ L, ∀ W k, f.2 W → f.1 k → B ≤ k → ∃ o : Obj, W.heap[k]? = some o ∧ o.isCells = true
section
variable {P : Program} {w0 w W W' : World} {L : List F2} {ok : Nat → Prop} {T : World → Prop}
theorem All.ownTo (H : All w0 W L) (hC : Cells w0.heap.size L) {row : Option Nat} (hg : W.grownBy W' row) (hr : ∀ r, row = some r → w0.heap.size ≤ r ∧ ∃ o : Obj, W.heap[r]? = some o ∧ o.isCells = false) : All w0 W' L := by
  refine ⟨H.old.grown hg H.old.size fun k e => (hr k e).1, fun f hf => (H.mem f hf).step (fun k hk => ?_) hg.size, H.dis⟩
  refine hg.block k ((H.mem f hf).lt k hk) fun e => ?_
  obtain ⟨h1, o, h2, h3⟩ := hr k e.symm
  obtain ⟨o', h4, h5⟩ := hC f hf W k (H.mem f hf).now hk h1
  rw [h2] at h4
  cases h4
  rw [h3] at h5
  cases h5
theorem All.putObj (H : All w0 W L) (hC : Cells w0.heap.size L) {D : Nat} {o o' : Obj} (hD : w0.heap.size ≤ D) (h : W.heap[D]? = some o) (ho : o.isCells = false) : All w0 (W.putObj D o') L :=
  H.ownTo hC (grownBy_putObj' W D o') fun r e => by cases e; exact ⟨hD, o, h, ho⟩
end
end Go.Proofs.Ythhgcjlgnafdcaa.Hd
end
