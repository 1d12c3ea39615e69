/- Texts of this seat, put together (Zs15). -/
import Derived.Test.YtfbkgfffalppmaaRows
import Derived.WalkKit
import Derived.ProofKit
import Derived.OpenShut
import Derived.ChangeArms
import Derived.Below
import Derived.Deep.SlicePairs
import Derived.Test.YtfbkgfffalppmaaZs6
import Derived.Test.YtfbkgfffalppmaaZs13
import Derived.Test.YtfbkgfffalppmaaZs14
section
namespace Go.Proofs.Ytfbkgfffalppmaa.Rl
set_option linter.unusedSimpArgs false
set_option linter.unusedVariables false
open Go Go.RowKit Go.ChangeShapes Go.WideShapes Go.ChangeAt Go.Deep Go.Proofs.YtfbkgfffalppmaaW.PrintWords Go.Proofs.Ytfbkgfffalppmaa.Wf
section
variable {H : Type} {enc : TypeId × Value → H} {P : Program} {w : World} {base : Nat} {sp : Nat → Bool} {held : Bool} {t e : TypeId}
theorem open_pairsK {S : Type} (k : Kd S) (hsz : k.sz = 2) (z : S) (Good : S → Prop) {f0 f1 : Field} (ht : P.underlying t = some (.slice e)) (he : P.underlying e = some (.struct #[f0, f1])) (ce : P.cellsOf e = 2) (o0 : f0.offset = 0) (o1 : f1.offset = 1) (c0 : P.cellsOf f0.type = 1) (c1 : P.cellsOf f1.type = 1)
    (hk : ∀ n V0 V1 D0 D1 P0 P1, DataW.trod enc P w base sp held n f0.type [V0] = some (D0, P0) → DataW.trod enc P w base sp held n f1.type [V1] = some (D1, P1) → ∃ x : S, k.K w x [V0, V1] ∧ Good x)
    {A : Option Addr} {len cap : Nat} {d : DataW H} {ps : List MemPlace} (h : DataW.Trod enc P w base sp held t (.slice A len cap) d ps) :
    ∃ l : List S, l.length = len ∧ l.length ≤ cap ∧ Kd.C k w A l.length l ∧ ∀ x ∈ l, Good x := by
  obtain ⟨fuel, hf⟩ := h
  rcases open_slice_pairs ht he ce o0 o1 c0 c1 hf with ⟨hcs, _⟩ | ⟨a, len', cap', m, n, V0, V1, D0, D1, P0, P1, hcs, _, hl, hm, hmm, _, hx⟩
  · simp [Value.cells] at hcs
    obtain ⟨rfl, rfl, rfl⟩ := hcs
    exact ⟨[], rfl, Nat.le_refl _, Kd.C_nil _ _, fun x hx => by cases hx⟩
  · simp [Value.cells] at hcs
    obtain ⟨rfl, rfl, rfl⟩ := hcs
    have hlm : len ≤ m := by rw [hmm]; split <;> omega
    have key : ∀ i, ∃ x : S, i < len → (w.cell? (a.add (i * 2)) = some (V0 i) ∧ w.cell? (a.add (i * 2 + 1)) = some (V1 i) ∧ k.K w x [V0 i, V1 i] ∧ Good x) := by
      intro i
      by_cases hi : i < len
      · obtain ⟨h1, h2, h3, h4⟩ := hx i (by omega)
        obtain ⟨x, hx1, hx2⟩ := hk _ _ _ _ _ _ _ h3 h4
        exact ⟨x, fun _ => ⟨h1, h2, hx1, hx2⟩⟩
      · exact ⟨z, fun h => absurd h hi⟩
    have hg : ∀ j (p : S), ((List.range len).map fun j => (key j).choose)[j]? = some p → j < len ∧ p = (key j).choose := fun j p hj => by
      rw [List.getElem?_map] at hj
      have hjl : j < len := by
        rcases Nat.lt_or_ge j len with h | h
        · exact h
        · rw [List.getElem?_eq_none (by simp; omega)] at hj
          simp at hj
      rw [List.getElem?_range hjl] at hj
      exact ⟨hjl, by simpa using hj.symm⟩
    refine ⟨(List.range len).map fun j => (key j).choose, by simp, by simpa using hl, ?_, ?_⟩
    · refine ⟨rfl, by simp; unfold maxLen at hm; omega, fun _ => ⟨a, rfl, fun j p hj => ?_⟩⟩
      obtain ⟨hjl, rfl⟩ := hg j p hj
      have hk := (key j).choose_spec hjl
      refine ⟨[V0 j, V1 j], hsz.symm, hk.2.2.1, fun i u hi => ?_⟩
      rw [hsz]
      match i, hi with
      | 0, hi => simp at hi; rw [← hi]; exact hk.1
      | 1, hi => simp at hi; rw [← hi]; exact hk.2.1
    · intro x hx1
      obtain ⟨j, hj⟩ := List.getElem?_of_mem hx1
      obtain ⟨hjl, rfl⟩ := hg j x hj
      exact ((key j).choose_spec hjl).2.2.2
def GoodP (x : S41) : Prop := -9223372036854775808 ≤ x.f1 ∧ x.f1 ≤ 9223372036854775807
theorem open_parts {f0 f1 : Field} (ht : P.underlying t = some (.slice e)) (he : P.underlying e = some (.struct #[f0, f1])) (ce : P.cellsOf e = 2) (o0 : f0.offset = 0) (o1 : f1.offset = 1) (c0 : P.cellsOf f0.type = 1) (c1 : P.cellsOf f1.type = 1) (u0 : P.underlying f0.type = some .string) (u1 : P.underlying f1.type = some (.int .i64))
    {A : Option Addr} {len cap : Nat} {d : DataW H} {ps : List MemPlace} (h : DataW.Trod enc P w base sp held t (.slice A len cap) d ps) :
    ∃ l : List S41, l.length = len ∧ l.length ≤ cap ∧ Kd.C k41 w A l.length l ∧ ∀ x ∈ l, GoodP x := by
  refine open_pairsK k41 rfl z41 GoodP ht he ce o0 o1 c0 c1 (fun n V0 V1 D0 D1 P0 P1 h0 h1 => ?_) h
  obtain ⟨b, hb, _, _⟩ := DataW.trod_string u0 h0
  obtain ⟨y, hy, _, wy⟩ := DataW.trod_int u1 h1
  simp at hb hy
  subst hb hy
  exact ⟨⟨b, y⟩, k41_mk w ⟨b, y⟩, Rw.i64_of wy⟩
end
end Go.Proofs.Ytfbkgfffalppmaa.Rl
end
