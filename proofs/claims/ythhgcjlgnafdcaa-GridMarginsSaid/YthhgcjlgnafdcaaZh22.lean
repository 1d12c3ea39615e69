/- Texts of this seat, put together (Zh22). -/
import Derived.WalkKit
import Derived.ProofKit
import Derived.OpenShut
import Derived.ChangeArms
import Derived.Below
import Derived.Deep.Slices
import Derived.Test.YthhgcjlgnafdcaaZh0
import Derived.Test.YthhgcjlgnafdcaaZh2
section
namespace Go.Proofs.Ythhgcjlgnafdcaa.Opn
set_option linter.unusedSimpArgs false
set_option linter.unusedVariables false
open Go Go.RowKit Go.ChangeShapes Go.WideShapes Go.ChangeAt Go.Deep Go.Proofs.YthhgcjlgnafdcaaW.PrintWords Go.Proofs.YthhgcjlgnafdcaaW.PrintMore
theorem i64_of {n : Int} (h : (Lit.int .i64 n).wf = true) : -9223372036854775808 ≤ n ∧ n ≤ 9223372036854775807 := by
  have e0 : IntKind.i64.min = -9223372036854775808 := rfl
  have e1 : IntKind.i64.max = 9223372036854775807 := rfl
  simp [Lit.wf] at h
  omega
section
variable {H : Type} {enc : TypeId × Value → H} {P : Program} {w : World} {base : Nat} {sp : Nat → Bool} {held : Bool} {t e : TypeId}
theorem open_sliceK {S : Type} (k : Kd S) (z : S) (Good : S → Prop) (ht : P.underlying t = some (.slice e)) (ce : P.cellsOf e = k.sz)
    (hk : ∀ n cs y, DataW.trod enc P w base sp held n e cs = some y → ∃ x : S, k.K w x cs ∧ Good x)
    {A : Option Addr} {len cap : Nat} {d : DataW H} {ps : List MemPlace} (h : DataW.Trod enc P w base sp held t (.slice A len cap) d ps) :
    ∃ l : List S, l.length = len ∧ l.length ≤ cap ∧ Kd.C k w A l.length l ∧ ∀ x ∈ l, Good x := by
  obtain ⟨fuel, hf⟩ := h
  rcases open_slice ht hf with ⟨hcs, _⟩ | ⟨a, len', cap', m, n, D, Pl, hcs, _, hl, hm, hmm, _, hx⟩
  · simp [Value.cells] at hcs
    obtain ⟨rfl, rfl, rfl⟩ := hcs
    exact ⟨[], rfl, Nat.le_refl _, Kd.C_nil _ _, fun x hx => by cases hx⟩
  · simp [Value.cells] at hcs
    obtain ⟨rfl, rfl, rfl⟩ := hcs
    have hlm : len ≤ m := by rw [hmm]; split <;> omega
    have key : ∀ i, ∃ x : S, i < len → ∃ cs : List Value, k.K w x cs ∧ Good x ∧ ∀ (j : Nat) u, cs[j]? = some u → w.cell? (a.add (i * k.sz + j)) = some u := by
      intro i
      by_cases hi : i < len
      · obtain ⟨cs, h1, h2⟩ := hx i (by omega)
        obtain ⟨x, hx1, hx2⟩ := hk _ _ _ h2
        obtain ⟨_, hln, hcell⟩ := World.cells?_some h1
        refine ⟨x, fun _ => ⟨cs, hx1, hx2, fun j u hj => ?_⟩⟩
        have hjl := (List.getElem?_eq_some_iff.1 hj).1
        have := hcell j (by omega)
        rw [Go.Deep.add_add, ce] at this
        rw [this, hj]
      · exact ⟨z, fun h => absurd h hi⟩
    have hg : ∀ j (p : S), ((List.range len).map fun j => (key j).choose)[j]? = some p → j < len ∧ p = (key j).choose := fun j p hj => by
      rw [List.getElem?_map] at hj
      have hjl : j < len := by
        rcases Nat.lt_or_ge j len with h | h
        · exact h
        · rw [List.getElem?_eq_none (by simp; omega)] at hj
          simp at hj
      rw [List.getElem?_range hjl] at hj
      exact ⟨hjl, by simpa using hj.symm⟩
    refine ⟨(List.range len).map fun j => (key j).choose, by simp, by simpa using hl, ?_, ?_⟩
    · refine ⟨rfl, by simp; unfold maxLen at hm; omega, fun _ => ⟨a, rfl, fun j p hj => ?_⟩⟩
      obtain ⟨hjl, rfl⟩ := hg j p hj
      obtain ⟨cs, h1, h2, h3⟩ := (key j).choose_spec hjl
      exact ⟨cs, k.K_len h1, h1, h3⟩
    · intro x hx1
      obtain ⟨j, hj⟩ := List.getElem?_of_mem hx1
      obtain ⟨hjl, rfl⟩ := hg j x hj
      obtain ⟨cs, h1, h2, h3⟩ := (key j).choose_spec hjl
      exact h2
def Flat (P : Program) (t : TypeId) (fs : Array Field) : Prop := P.underlying t = some (.struct fs) ∧ P.cellsOf t = fs.size ∧ ∀ (i : Nat) (f : Field), fs[i]? = some f → f.offset = i ∧ P.cellsOf f.type = 1
def flatB (P : Program) (t : TypeId) (fs : Array Field) : Bool := (P.cellsOf t == fs.size) && (List.range fs.size).all fun i => match fs[i]? with
  | some f => f.offset == i && P.cellsOf f.type == 1
  | none => true
theorem flat_of {fs : Array Field} (hu : P.underlying t = some (.struct fs)) (h : flatB P t fs = true) : Flat P t fs := by
  unfold flatB at h
  rw [Bool.and_eq_true, List.all_eq_true, beq_iff_eq] at h
  refine ⟨hu, h.1, fun i f hf => ?_⟩
  have hl := (Array.getElem?_eq_some_iff.1 hf).1
  have := h.2 i (List.mem_range.2 hl)
  rw [hf, Bool.and_eq_true, beq_iff_eq, beq_iff_eq] at this
  exact this
theorem trod_flat {fs : Array Field} (hF : Flat P t fs) {fuel : Nat} {cs : List Value} {x : DataW H × List MemPlace} (h : DataW.trod enc P w base sp held fuel t cs = some x) :
    ∃ n, cs.length = fs.size ∧ ∀ (i : Nat) (f : Field), fs[i]? = some f → ∃ v y, cs[i]? = some v ∧ DataW.trod enc P w base sp held n f.type [v] = some y := by
  obtain ⟨hu, hc, ho⟩ := hF
  obtain ⟨xs, n, _, _, hl, hxl, hf⟩ := DataW.trod_struct hu h
  refine ⟨n, hl.trans hc, fun i f hi => ?_⟩
  obtain ⟨h1, h2⟩ := ho i f hi
  have hlt := (Array.getElem?_eq_some_iff.1 hi).1
  have h3 := hf i f hi
  rw [h1, h2] at h3
  have hcl : i < cs.length := by rw [hl, hc]; exact hlt
  rw [List.drop_eq_getElem_cons hcl, List.take_succ_cons, List.take_zero, List.getElem?_eq_getElem (by rw [hxl]; exact hlt)] at h3
  exact ⟨cs[i], _, List.getElem?_eq_getElem hcl, h3⟩
end
end Go.Proofs.Ythhgcjlgnafdcaa.Opn
end
