/- A slice of strings among the arguments, opened as one list. -/
import Derived.Test.YtebdjhgboeadgaaRows
import Derived.Test.YtebdjhgboeadgaaWMore
import Derived.WalkKit
import Derived.ProofKit
import Derived.OpenShut
import Derived.Below
namespace Go.Proofs.Ytebdjhgboeadgaa.RdS
set_option linter.unusedSimpArgs false
set_option linter.unusedVariables false
open Go Go.RowKit Go.ChangeShapes Go.WideShapes Go.ChangeAt Go.Proofs.YtebdjhgboeadgaaW.PrintWords
def strAt (w : World) (a : Addr) (i : Nat) : ByteArray := match w.cell? (a.add i) with
  | some (.string b) => b
  | _ => ⟨#[]⟩
theorem open_strs {H : Type} {enc : TypeId × Value → H} {P : Program} {w : World} {base : Nat} {sp : Nat → Bool} {held : Bool} {t e : TypeId} (ht : P.underlying t = some (.slice e)) (he : P.underlying e = some .string) (hc : P.cellsOf e = 1)
    {A : Option Addr} {len cap : Nat} {d : DataW H} {ps : List MemPlace} (h : DataW.Trod enc P w base sp held t (.slice A len cap) d ps) : ∃ l : List ByteArray, l.length = len ∧ l.length ≤ cap ∧ Kd.C Kd.string w A l.length l := by
  obtain ⟨fuel, hf⟩ := h
  rcases DataW.trod_slice ht hf with ⟨h0, _⟩ | ⟨a, len', cap', elems, rest, n, _, h0, _, hb, hl, hm, hlen, hel, hsp, hns⟩
  · simp [Value.cells] at h0
    obtain ⟨rfl, rfl, rfl⟩ := h0
    exact ⟨[], rfl, Nat.le_refl _, Kd.C_of_reads (d := (⟨#[]⟩ : ByteArray)) (h1 := fun _ => rfl) ⟨rfl, by simp, fun hk => absurd hk (by simp)⟩⟩
  · simp [Value.cells] at h0
    obtain ⟨rfl, rfl, rfl⟩ := h0
    refine ⟨(List.range len).map (strAt w a), by simp, by simpa using hl, Kd.C_of_reads (d := (⟨#[]⟩ : ByteArray)) (h1 := fun _ => rfl) ⟨rfl, by unfold maxLen at hm; simp; omega, fun _ => ⟨a, rfl, fun k hk => ?_⟩⟩⟩
    simp only [List.length_map, List.length_range] at hk
    have hi := hel k hk
    rw [List.getElem?_eq_getElem (by omega)] at hi
    rw [hc, Nat.mul_one, Option.bind_eq_some_iff] at hi
    obtain ⟨cs', hcs, hy'⟩ := hi
    obtain ⟨b, rfl, _, _⟩ := DataW.trod_string he hy'
    have hcell := cell_of_cells?_one hcs
    rw [hcell, List.getD_eq_getElem?_getD, List.getElem?_map, List.getElem?_range hk]
    simp [strAt, hcell]
end Go.Proofs.Ytebdjhgboeadgaa.RdS
