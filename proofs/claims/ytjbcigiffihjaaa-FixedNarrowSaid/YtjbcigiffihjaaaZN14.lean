/- Texts of this seat, put together (ZN14). -/
import Derived.Test.YtjbcigiffihjaaaRows
import Derived.WalkKit
import Derived.ProofKit
import Derived.OpenShut
import Derived.Below
import Derived.Deep.SlicePairs
import Derived.Test.YtjbcigiffihjaaaZN5
import Derived.Test.YtjbcigiffihjaaaZN13
section
namespace Go.Proofs.Ytjbcigiffihjaaa.Rw
set_option linter.unusedSimpArgs false
set_option linter.unusedVariables false
open Go Go.RowKit Go.ChangeShapes Go.WideShapes Go.ChangeAt Go.Deep Go.Proofs.YtjbcigiffihjaaaW.PrintWords Go.Proofs.Ytjbcigiffihjaaa.Fx
theorem i64_of {n : Int} (h : (Lit.int .i64 n).wf = true) : -9223372036854775808 ≤ n ∧ n ≤ 9223372036854775807 := by
  have e0 : IntKind.i64.min = -9223372036854775808 := rfl
  have e1 : IntKind.i64.max = 9223372036854775807 := rfl
  simp [Lit.wf] at h
  omega
section
variable {H : Type} {enc : TypeId × Value → H} {P : Program} {w : World} {base : Nat} {sp : Nat → Bool} {held : Bool} {t e : TypeId}
theorem open_i64s (ht : P.underlying t = some (.slice e)) (he : P.underlying e = some (.int .i64)) (hc : P.cellsOf e = 1) {A : Option Addr} {len cap : Nat} {d : DataW H} {ps : List MemPlace} (h : DataW.Trod enc P w base sp held t (.slice A len cap) d ps) :
    ∃ l : List Int, l.length = len ∧ l.length ≤ cap ∧ Kd.C (Kd.int .i64) w A l.length l ∧ ∀ x ∈ l, -9223372036854775808 ≤ x ∧ x ≤ 9223372036854775807 := by
  obtain ⟨fuel, hf⟩ := h
  rcases open_ints ht he hc hf with ⟨hcs, _⟩ | ⟨x, n, c, zs, hcs, _, hl, hm, hz, _, hcell, hwz⟩
  · simp [Value.cells] at hcs
    obtain ⟨rfl, rfl, rfl⟩ := hcs
    exact ⟨[], rfl, Nat.le_refl _, Kd.C_nil _ _, fun x hx => by cases hx⟩
  · simp [Value.cells] at hcs
    obtain ⟨rfl, rfl, rfl⟩ := hcs
    have hzn : len ≤ zs.length := by rw [hz]; split <;> omega
    have hln : (zs.take len).length = len := by rw [List.length_take]; omega
    have hg : ∀ j, j < len → (zs.take len).getD j 0 = zs.getD j 0 := fun j hj => by rw [List.getD_eq_getElem?_getD, List.getD_eq_getElem?_getD, List.getElem?_take_of_lt hj]
    refine ⟨zs.take len, hln, by rw [hln]; exact hl, Kd.C_of_reads (d := (0 : Int)) (h1 := fun _ => rfl) ⟨rfl, by rw [hln]; unfold maxLen at hm; omega, fun _ => ⟨x, rfl, fun j hj => ?_⟩⟩, fun y hy => i64_of (hwz y (List.mem_of_mem_take hy))⟩
    rw [hln] at hj
    rw [hg j hj]
    exact hcell j (by omega)
end
end Go.Proofs.Ytjbcigiffihjaaa.Rw
end
