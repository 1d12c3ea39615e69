/- A slice of bools among the arguments, opened as one list. -/
import Derived.Test.YtebdjhgboeadgaaRows
import Derived.WalkKit
import Derived.ProofKit
import Derived.OpenShut
import Derived.Below
namespace Go.Proofs.Ytebdjhgboeadgaa.RdB
set_option linter.unusedSimpArgs false
set_option linter.unusedVariables false
open Go Go.RowKit Go.ChangeShapes Go.WideShapes Go.ChangeAt
/-- The bools that a slice leads to. -/
def RdB (w : World) (A : Option Addr) (l : List Bool) : Prop := ∀ k, (h : k < l.length) → ∃ ad, A = some ad ∧ w.cell? (ad.add k) = some (.bool l[k])
theorem rdB_below {w w1 : World} {A : Option Addr} {l : List Bool} (h : RdB w A l) (hb : Below w.heap.size w w1) : RdB w1 A l := fun k hk => by
  obtain ⟨ad, e, hc⟩ := h k hk
  refine ⟨ad, e, (hb.cell ?_).trans hc⟩
  rcases Nat.lt_or_ge (ad.add k).block w.heap.size with h2 | h2
  · exact h2
  · simp [World.cell?, Array.getElem?_eq_none h2] at hc
def boolAt (w : World) (a : Addr) (i : Nat) : Bool := match w.cell? (a.add i) with
  | some (.bool b) => b
  | _ => false
theorem open_bools {H : Type} {enc : TypeId × Value → H} {P : Program} {w : World} {base : Nat} {sp : Nat → Bool} {held : Bool} {t e : TypeId} (ht : P.underlying t = some (.slice e)) (he : P.underlying e = some .bool) (hc : P.cellsOf e = 1)
    {A : Option Addr} {len cap : Nat} {d : DataW H} {ps : List MemPlace} (h : DataW.Trod enc P w base sp held t (.slice A len cap) d ps) : ∃ l : List Bool, l.length = len ∧ RdB w A l := by
  obtain ⟨fuel, hf⟩ := h
  rcases DataW.trod_slice ht hf with ⟨h0, _⟩ | ⟨a, len', cap', elems, rest, n, _, h0, _, hb, hl, hm, hlen, hel, hsp, hns⟩
  · simp [Value.cells] at h0
    obtain ⟨rfl, rfl, rfl⟩ := h0
    exact ⟨[], rfl, fun k hk => by simp at hk⟩
  · simp [Value.cells] at h0
    obtain ⟨rfl, rfl, rfl⟩ := h0
    refine ⟨(List.range len).map (boolAt w a), by simp, fun k hk => ⟨a, rfl, ?_⟩⟩
    simp only [List.length_map, List.length_range] at hk
    have hi := hel k hk
    rw [List.getElem?_eq_getElem (by omega)] at hi
    rw [hc, Nat.mul_one, Option.bind_eq_some_iff] at hi
    obtain ⟨cs', hcs, hy'⟩ := hi
    obtain ⟨b, rfl, _⟩ := DataW.trod_bool he hy'
    have hcell := cell_of_cells?_one hcs
    rw [hcell]
    simp [boolAt, hcell]
end Go.Proofs.Ytebdjhgboeadgaa.RdB
