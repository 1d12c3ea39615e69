/- Texts of this seat, put together (ZW13). -/
import Derived.Test.YtjbcigiffihjaaaRows
import Derived.WalkKit
import Derived.ProofKit
import Derived.OpenShut
import Derived.Below
import Derived.Deep.SlicePairs
import Derived.Test.YtjbcigiffihjaaaZW5
import Derived.Test.YtjbcigiffihjaaaZW12
section
namespace Go.Proofs.Ytjbcigiffihjaaa.Rw
set_option linter.unusedSimpArgs false
set_option linter.unusedVariables false
open Go Go.RowKit Go.ChangeShapes Go.WideShapes Go.ChangeAt Go.Deep Go.Proofs.YtjbcigiffihjaaaW.PrintWords Go.Proofs.Ytjbcigiffihjaaa.Fx
theorem i64_of {n : Int} (h : (Lit.int .i64 n).wf = true) : -9223372036854775808 ≤ n ∧ n ≤ 9223372036854775807 := by
  have e0 : IntKind.i64.min = -9223372036854775808 := rfl
  have e1 : IntKind.i64.max = 9223372036854775807 := rfl
  simp [Lit.wf] at h
  omega
theorem u64_of {n : Int} (h : (Lit.int .u64 n).wf = true) : 0 ≤ n ∧ n < 18446744073709551616 := by
  have e0 : IntKind.u64.min = 0 := rfl
  have e1 : IntKind.u64.max = 18446744073709551615 := rfl
  simp [Lit.wf] at h
  omega
section
variable {H : Type} {enc : TypeId × Value → H} {P : Program} {w : World} {base : Nat} {sp : Nat → Bool} {held : Bool} {t e : TypeId}
theorem open_pair {b0 : Nat} {r : Reach} {f0 f1 : Field} {k0 k1 : IntKind} {v : Value} {d : DataW H} {ps : List MemPlace} (ht : P.underlying t = some (.struct #[f0, f1])) (ct : P.cellsOf t = 2) (o0 : f0.offset = 0) (o1 : f1.offset = 1) (c0 : P.cellsOf f0.type = 1) (c1 : P.cellsOf f1.type = 1) (u0 : P.underlying f0.type = some (.int k0)) (u1 : P.underlying f1.type = some (.int k1))
    (hval : Value.okWide P w r b0 t v) (hd : DataW.Trod enc P w base sp held t v d ps) : ∃ x y, v = .agg #[.int k0 x, .int k1 y] ∧ (Lit.int k0 x).wf = true ∧ (Lit.int k1 y).wf = true := by
  obtain ⟨cs, rfl, hsz⟩ := okWide_struct ht hval
  obtain ⟨fuel, hf⟩ := hd
  obtain ⟨y0, y1, n, _, hl, g0, g1⟩ := trod_struct2 ht hf
  rw [ct] at hsz
  obtain ⟨l⟩ := cs
  simp only [Value.cells] at g0 g1
  match l, hsz with
  | [a, b], _ =>
    simp only [o0, o1, c0, c1, List.drop_zero, List.drop_succ_cons, List.take_succ_cons, List.take_zero] at g0 g1
    obtain ⟨x, hx, _, wx⟩ := DataW.trod_int u0 g0
    obtain ⟨y, hy, _, wy⟩ := DataW.trod_int u1 g1
    simp at hx hy
    exact ⟨x, y, by rw [hx, hy], wx, wy⟩
theorem open_wides {f0 f1 : Field} (ht : P.underlying t = some (.slice e)) (he : P.underlying e = some (.struct #[f0, f1])) (ce : P.cellsOf e = 2) (o0 : f0.offset = 0) (o1 : f1.offset = 1) (c0 : P.cellsOf f0.type = 1) (c1 : P.cellsOf f1.type = 1) (u0 : P.underlying f0.type = some (.int .i64)) (u1 : P.underlying f1.type = some (.int .u64))
    {A : Option Addr} {len cap : Nat} {d : DataW H} {ps : List MemPlace} (h : DataW.Trod enc P w base sp held t (.slice A len cap) d ps) :
    ∃ l : List S24, l.length = len ∧ l.length ≤ cap ∧ Kd.C k24 w A l.length l ∧ ∀ x ∈ l, (-9223372036854775808 ≤ x.f0 ∧ x.f0 ≤ 9223372036854775807) ∧ 0 ≤ x.f1 ∧ x.f1 < 18446744073709551616 := by
  obtain ⟨fuel, hf⟩ := h
  rcases open_slice_pairs ht he ce o0 o1 c0 c1 hf with ⟨hcs, _⟩ | ⟨a, len', cap', m, n, V0, V1, D0, D1, P0, P1, hcs, _, hl, hm, hmm, _, hx⟩
  · simp [Value.cells] at hcs
    obtain ⟨rfl, rfl, rfl⟩ := hcs
    exact ⟨[], rfl, Nat.le_refl _, Kd.C_nil _ _, fun x hx => by cases hx⟩
  · simp [Value.cells] at hcs
    obtain ⟨rfl, rfl, rfl⟩ := hcs
    have hlm : len ≤ m := by rw [hmm]; split <;> omega
    have key : ∀ i, ∃ x : S24, i < len → (w.cell? (a.add (i * 2)) = some (.int .i64 x.f0) ∧ w.cell? (a.add (i * 2 + 1)) = some (.int .u64 x.f1) ∧ (Lit.int .i64 x.f0).wf = true ∧ (Lit.int .u64 x.f1).wf = true) := by
      intro i
      by_cases hi : i < len
      · obtain ⟨h1, h2, h3, h4⟩ := hx i (by omega)
        obtain ⟨x, hx1, _, wx⟩ := DataW.trod_int u0 h3
        obtain ⟨y, hy1, _, wy⟩ := DataW.trod_int u1 h4
        simp at hx1 hy1
        exact ⟨⟨x, y⟩, fun _ => ⟨by rw [h1, hx1], by rw [h2, hy1], wx, wy⟩⟩
      · exact ⟨z24, fun h => absurd h hi⟩
    have hg : ∀ j (p : S24), ((List.range len).map fun j => (key j).choose)[j]? = some p → j < len ∧ p = (key j).choose := fun j p hj => by
      rw [List.getElem?_map] at hj
      have hjl : j < len := by
        rcases Nat.lt_or_ge j len with h | h
        · exact h
        · rw [List.getElem?_eq_none (by simp; omega)] at hj
          simp at hj
      rw [List.getElem?_range hjl] at hj
      exact ⟨hjl, by simpa using hj.symm⟩
    refine ⟨(List.range len).map fun j => (key j).choose, by simp, by simpa using hl, ?_, ?_⟩
    · refine ⟨rfl, by simp; unfold maxLen at hm; omega, fun _ => ⟨a, rfl, fun j p hj => ?_⟩⟩
      obtain ⟨hjl, rfl⟩ := hg j p hj
      have hk := (key j).choose_spec hjl
      refine ⟨_, rfl, k24_mk w _, fun i u hi => ?_⟩
      match i, hi with
      | 0, hi => simp at hi; rw [← hi]; exact hk.1
      | 1, hi => simp at hi; rw [← hi]; exact hk.2.1
    · intro x hx1
      obtain ⟨j, hj⟩ := List.getElem?_of_mem hx1
      obtain ⟨hjl, rfl⟩ := hg j x hj
      have hk := (key j).choose_spec hjl
      exact ⟨i64_of hk.2.2.1, u64_of hk.2.2.2⟩
end
end Go.Proofs.Ytjbcigiffihjaaa.Rw
end
