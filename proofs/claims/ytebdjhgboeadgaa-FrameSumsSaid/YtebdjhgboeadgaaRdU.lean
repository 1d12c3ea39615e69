/- Slices of bytes among the arguments, and slices of such slices, opened as lists. -/
import Derived.Test.YtebdjhgboeadgaaRows
import Derived.Test.YtebdjhgboeadgaaWMore
import Derived.Test.YtebdjhgboeadgaaWSized
import Derived.WalkKit
import Derived.ProofKit
import Derived.OpenShut
import Derived.Below
namespace Go.Proofs.Ytebdjhgboeadgaa.RdU
set_option linter.unusedSimpArgs false
set_option linter.unusedVariables false
open Go Go.RowKit Go.ChangeShapes Go.WideShapes Go.ChangeAt Go.Proofs.YtebdjhgboeadgaaW.PrintWords
theorem byte_of {n : Int} (h : (Lit.int .u8 n).wf = true) : 0 ≤ n ∧ n ≤ 255 := by
  have e0 : IntKind.u8.min = 0 := rfl
  have e1 : IntKind.u8.max = 255 := rfl
  simp [Lit.wf] at h
  omega
section
variable {H : Type} {enc : TypeId × Value → H} {P : Program} {w : World} {base : Nat} {sp : Nat → Bool} {held : Bool} {t e : TypeId}
theorem open_at {fuel : Nat} {cs : List Value} {x : DataW H × List MemPlace} (ht : P.underlying t = some (.slice e)) (he : P.underlying e = some (.int .u8)) (hc : P.cellsOf e = 1) (hf : DataW.trod enc P w base sp held fuel t cs = some x) :
    ∃ (A : Option Addr) (c : Nat) (l : List Int), cs = [.slice A l.length c] ∧ l.length ≤ c ∧ Kd.C (Kd.int .u8) w A l.length l ∧ ∀ x ∈ l, 0 ≤ x ∧ x ≤ 255 := by
  rcases open_ints ht he hc hf with ⟨hcs, _⟩ | ⟨x, n, c, zs, hcs, _, hl, hm, hz, _, hcell, hwz⟩
  · exact ⟨none, 0, [], hcs, Nat.le_refl _, Kd.C_nil _ _, fun x hx => by cases hx⟩
  · have hzn : n ≤ zs.length := by rw [hz]; split <;> omega
    have hln : (zs.take n).length = n := by rw [List.length_take]; omega
    have hg : ∀ j, j < n → (zs.take n).getD j 0 = zs.getD j 0 := fun j hj => by rw [List.getD_eq_getElem?_getD, List.getD_eq_getElem?_getD, List.getElem?_take_of_lt hj]
    refine ⟨some x, c, zs.take n, by rw [hln]; exact hcs, by rw [hln]; exact hl, Kd.C_of_reads (d := (0 : Int)) (h1 := fun _ => rfl) ⟨rfl, by rw [hln]; unfold maxLen at hm; omega, fun _ => ⟨x, rfl, fun j hj => ?_⟩⟩, fun y hy => byte_of (hwz y (List.mem_of_mem_take hy))⟩
    rw [hln] at hj
    rw [hg j hj]
    exact hcell j (by omega)
theorem open_u8s (ht : P.underlying t = some (.slice e)) (he : P.underlying e = some (.int .u8)) (hc : P.cellsOf e = 1) {A : Option Addr} {len cap : Nat} {d : DataW H} {ps : List MemPlace} (h : DataW.Trod enc P w base sp held t (.slice A len cap) d ps) :
    ∃ l : List Int, l.length = len ∧ l.length ≤ cap ∧ Kd.C (Kd.int .u8) w A l.length l ∧ ∀ x ∈ l, 0 ≤ x ∧ x ≤ 255 := by
  obtain ⟨fuel, hf⟩ := h
  obtain ⟨A', c', l, hcs, h1, h2, h3⟩ := open_at ht he hc hf
  simp [Value.cells] at hcs
  obtain ⟨rfl, rfl, rfl⟩ := hcs
  exact ⟨l, rfl, h1, h2, h3⟩
/-- A slice of such slices. -/
theorem open_u8ss {u : TypeId} (hu : P.underlying u = some (.slice t)) (ht : P.underlying t = some (.slice e)) (he : P.underlying e = some (.int .u8)) (hct : P.cellsOf t = 1) (hc : P.cellsOf e = 1) {A : Option Addr} {len cap : Nat} {d : DataW H} {ps : List MemPlace} (h : DataW.Trod enc P w base sp held u (.slice A len cap) d ps) :
    ∃ l : List (List Int), l.length = len ∧ l.length ≤ cap ∧ l.length ≤ 9223372036854775807 ∧ (∀ j, j < l.length → ∃ ad A' c', A = some ad ∧ w.cell? (ad.add j) = some (.slice A' (l.getD j []).length c') ∧ (l.getD j []).length ≤ c' ∧ Kd.C (Kd.int .u8) w A' (l.getD j []).length (l.getD j []) ∧ ∀ x ∈ l.getD j [], 0 ≤ x ∧ x ≤ 255) := by
  obtain ⟨fuel, hf⟩ := h
  rcases DataW.trod_slice hu hf with ⟨h0, _⟩ | ⟨a, len', cap', elems, rest, n, _, h0, _, hb, hl, hm, hlen, hel, hsp, hns⟩
  · simp [Value.cells] at h0
    obtain ⟨rfl, rfl, rfl⟩ := h0
    exact ⟨[], rfl, Nat.le_refl _, by simp, fun j hj => by simp at hj⟩
  · simp [Value.cells] at h0
    obtain ⟨rfl, rfl, rfl⟩ := h0
    have key : ∀ j, ∃ r : List Int, j < len → ∃ A' c', w.cell? (a.add j) = some (.slice A' r.length c') ∧ r.length ≤ c' ∧ Kd.C (Kd.int .u8) w A' r.length r ∧ ∀ x ∈ r, 0 ≤ x ∧ x ≤ 255 := by
      intro j
      by_cases hj : j < len
      · have hi := hel j hj
        rw [List.getElem?_eq_getElem (by omega)] at hi
        rw [hct, Nat.mul_one, Option.bind_eq_some_iff] at hi
        obtain ⟨cs', hcs, hy'⟩ := hi
        obtain ⟨A', c', r, rfl, h1, h2, h3⟩ := open_at ht he hc hy'
        exact ⟨r, fun _ => ⟨A', c', cell_of_cells?_one hcs, h1, h2, h3⟩⟩
      · exact ⟨[], fun h => absurd h hj⟩
    have hg : ∀ j, j < len → ((List.range len).map fun j => (key j).choose).getD j [] = (key j).choose := fun j hj => by
      rw [List.getD_eq_getElem?_getD, List.getElem?_map, List.getElem?_range hj]
      rfl
    refine ⟨(List.range len).map fun j => (key j).choose, by simp, by simpa using hl, by unfold maxLen at hm; simp; omega, fun j hj => ?_⟩
    have hj2 : j < len := by simpa using hj
    obtain ⟨A', c', h1, h2, h3, h4⟩ := (key j).choose_spec hj2
    rw [hg j hj2]
    exact ⟨a, A', c', rfl, h1, h2, h3, h4⟩
end
end Go.Proofs.Ytebdjhgboeadgaa.RdU
