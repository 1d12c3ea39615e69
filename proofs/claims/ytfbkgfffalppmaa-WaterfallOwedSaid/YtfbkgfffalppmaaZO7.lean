/- Texts of this seat, put together (ZO7). -/
import Derived.Test.YtfbkgfffalppmaaRows
import Derived.WalkKit
import Derived.ProofKit
import Derived.OpenShut
import Derived.Below
import Derived.Deep.SlicePairs
import Derived.Test.YtfbkgfffalppmaaZO4
import Derived.Test.YtfbkgfffalppmaaZO6
section
namespace Go.Proofs.Ytfbkgfffalppmaa.Rw
set_option linter.unusedSimpArgs false
set_option linter.unusedVariables false
open Go Go.RowKit Go.ChangeShapes Go.WideShapes Go.ChangeAt Go.Deep Go.Proofs.YtfbkgfffalppmaaW.PrintWords Go.Proofs.Ytfbkgfffalppmaa.Wf
theorem i64_of {n : Int} (h : (Lit.int .i64 n).wf = true) : -9223372036854775808 ≤ n ∧ n ≤ 9223372036854775807 := by
  have e0 : IntKind.i64.min = -9223372036854775808 := rfl
  have e1 : IntKind.i64.max = 9223372036854775807 := rfl
  simp [Lit.wf] at h
  omega
theorem u64_of {n : Int} (h : (Lit.int .u64 n).wf = true) : 0 ≤ n ∧ n < 18446744073709551616 := by
  have e0 : IntKind.u64.min = 0 := rfl
  have e1 : IntKind.u64.max = 18446744073709551615 := rfl
  simp [Lit.wf] at h
  omega
section
variable {H : Type} {enc : TypeId × Value → H} {P : Program} {w : World} {base : Nat} {sp : Nat → Bool} {held : Bool} {t e : TypeId}
theorem open_pair {b0 : Nat} {r : Reach} {f0 f1 : Field} {k0 k1 : IntKind} {v : Value} {d : DataW H} {ps : List MemPlace} (ht : P.underlying t = some (.struct #[f0, f1])) (ct : P.cellsOf t = 2) (o0 : f0.offset = 0) (o1 : f1.offset = 1) (c0 : P.cellsOf f0.type = 1) (c1 : P.cellsOf f1.type = 1) (u0 : P.underlying f0.type = some (.int k0)) (u1 : P.underlying f1.type = some (.int k1))
    (hval : Value.okWide P w r b0 t v) (hd : DataW.Trod enc P w base sp held t v d ps) : ∃ x y, v = .agg #[.int k0 x, .int k1 y] ∧ (Lit.int k0 x).wf = true ∧ (Lit.int k1 y).wf = true := by
  obtain ⟨cs, rfl, hsz⟩ := okWide_struct ht hval
  obtain ⟨fuel, hf⟩ := hd
  obtain ⟨y0, y1, n, _, hl, g0, g1⟩ := trod_struct2 ht hf
  rw [ct] at hsz
  obtain ⟨l⟩ := cs
  simp only [Value.cells] at g0 g1
  match l, hsz with
  | [a, b], _ =>
    simp only [o0, o1, c0, c1, List.drop_zero, List.drop_succ_cons, List.take_succ_cons, List.take_zero] at g0 g1
    obtain ⟨x, hx, _, wx⟩ := DataW.trod_int u0 g0
    obtain ⟨y, hy, _, wy⟩ := DataW.trod_int u1 g1
    simp at hx hy
    exact ⟨x, y, by rw [hx, hy], wx, wy⟩
end
end Go.Proofs.Ytfbkgfffalppmaa.Rw
end
