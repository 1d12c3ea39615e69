/- Texts of this seat, put together (Za13). -/
import Derived.WalkKit
import Derived.ProofKit
import Derived.OpenShut
import Derived.ChangeArms
import Derived.Below
import Derived.Deep.Slices
import Derived.Test.YtcbpmmcpidfllaaZa0
import Derived.Test.YtcbpmmcpidfllaaZa2
section
namespace Go.Proofs.Ytcbpmmcpidfllaa.Opn
set_option linter.unusedSimpArgs false
set_option linter.unusedVariables false
open Go Go.RowKit Go.ChangeShapes Go.WideShapes Go.ChangeAt Go.Deep Go.Proofs.YtcbpmmcpidfllaaW.PrintWords Go.Proofs.YtcbpmmcpidfllaaW.PrintMore
theorem i64_of {n : Int} (h : (Lit.int .i64 n).wf = true) : -9223372036854775808 ≤ n ∧ n ≤ 9223372036854775807 := by
  have e0 : IntKind.i64.min = -9223372036854775808 := rfl
  have e1 : IntKind.i64.max = 9223372036854775807 := rfl
  simp [Lit.wf] at h
  omega
section
variable {H : Type} {enc : TypeId × Value → H} {P : Program} {w : World} {base : Nat} {sp : Nat → Bool} {held : Bool} {t e : TypeId}
def Flat (P : Program) (t : TypeId) (fs : Array Field) : Prop := P.underlying t = some (.struct fs) ∧ P.cellsOf t = fs.size ∧ ∀ (i : Nat) (f : Field), fs[i]? = some f → f.offset = i ∧ P.cellsOf f.type = 1
def flatB (P : Program) (t : TypeId) (fs : Array Field) : Bool := (P.cellsOf t == fs.size) && (List.range fs.size).all fun i => match fs[i]? with
  | some f => f.offset == i && P.cellsOf f.type == 1
  | none => true
theorem flat_of {fs : Array Field} (hu : P.underlying t = some (.struct fs)) (h : flatB P t fs = true) : Flat P t fs := by
  unfold flatB at h
  rw [Bool.and_eq_true, List.all_eq_true, beq_iff_eq] at h
  refine ⟨hu, h.1, fun i f hf => ?_⟩
  have hl := (Array.getElem?_eq_some_iff.1 hf).1
  have := h.2 i (List.mem_range.2 hl)
  rw [hf, Bool.and_eq_true, beq_iff_eq, beq_iff_eq] at this
  exact this
theorem trod_flat {fs : Array Field} (hF : Flat P t fs) {fuel : Nat} {cs : List Value} {x : DataW H × List MemPlace} (h : DataW.trod enc P w base sp held fuel t cs = some x) :
    ∃ n, cs.length = fs.size ∧ ∀ (i : Nat) (f : Field), fs[i]? = some f → ∃ v y, cs[i]? = some v ∧ DataW.trod enc P w base sp held n f.type [v] = some y := by
  obtain ⟨hu, hc, ho⟩ := hF
  obtain ⟨xs, n, _, _, hl, hxl, hf⟩ := DataW.trod_struct hu h
  refine ⟨n, hl.trans hc, fun i f hi => ?_⟩
  obtain ⟨h1, h2⟩ := ho i f hi
  have hlt := (Array.getElem?_eq_some_iff.1 hi).1
  have h3 := hf i f hi
  rw [h1, h2] at h3
  have hcl : i < cs.length := by rw [hl, hc]; exact hlt
  rw [List.drop_eq_getElem_cons hcl, List.take_succ_cons, List.take_zero, List.getElem?_eq_getElem (by rw [hxl]; exact hlt)] at h3
  exact ⟨cs[i], _, List.getElem?_eq_getElem hcl, h3⟩
theorem struct_agg {fs : Array Field} {r : Reach} {b0 : Nat} {v : Value} (hF : Flat P t fs) (hval : Value.okWide P w r b0 t v) : ∃ cs, v = .agg cs := by
  obtain ⟨cs, h, _⟩ := okWide_struct hF.1 hval
  exact ⟨cs, h⟩
end
end Go.Proofs.Ytcbpmmcpidfllaa.Opn
end
