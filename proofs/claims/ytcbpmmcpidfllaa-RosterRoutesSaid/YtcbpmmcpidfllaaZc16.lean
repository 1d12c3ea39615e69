/- Texts of this seat, put together (Zc16). -/
import Derived.Test.YtcbpmmcpidfllaaRows
import Derived.Test.YtcbpmmcpidfllaaZc15
section
namespace Go.Proofs.Ytcbpmmcpidfllaa.Rt
set_option linter.unusedSimpArgs false
set_option linter.unusedVariables false
open Go Go.RowKit Go.ChangeShapes Go.WideShapes Go.ChangeAt Go.Deep Go.Proofs.YtcbpmmcpidfllaaW.PrintWords Go.Proofs.YtcbpmmcpidfllaaW.PrintMore Go.Proofs.YtcbpmmcpidfllaaW.PrintLast Go.Proofs.Ytcbpmmcpidfllaa.Opn
structure S49 where
  f0 : Int
  f1 : ByteArray
  f2 : ByteArray
  f3 : ByteArray
  f4 : Int
  f5 : Int
def Good49 (x : S49) : Prop := (-9223372036854775808 ≤ x.f0 ∧ x.f0 ≤ 9223372036854775807) ∧ (-9223372036854775808 ≤ x.f4 ∧ x.f4 ≤ 9223372036854775807) ∧ (-9223372036854775808 ≤ x.f5 ∧ x.f5 ≤ 9223372036854775807)
section
variable {H : Type} {enc : TypeId × Value → H} {w : World} {base : Nat} {sp : Nat → Bool} {held : Bool}
theorem open49 {n : Nat} {cs : List Value} {y : DataW H × List MemPlace} (h : DataW.trod enc Try.prog w base sp held n 49 cs = some y) :
    ∃ x : S49, cs = [.int .i64 x.f0, .string x.f1, .string x.f2, .string x.f3, .int .i64 x.f4, .int .i64 x.f5] ∧ Good49 x := by
  have flat49 := flat_of (P := Try.prog) Try.underlying49 (by kernel_rfl)
  obtain ⟨m, hl, hf⟩ := trod_flat flat49 h
  obtain ⟨v0, y0, e0, t0⟩ := hf 0 _ rfl
  obtain ⟨v1, y1, e1, t1⟩ := hf 1 _ rfl
  obtain ⟨v2, y2, e2, t2⟩ := hf 2 _ rfl
  obtain ⟨v3, y3, e3, t3⟩ := hf 3 _ rfl
  obtain ⟨v4, y4, e4, t4⟩ := hf 4 _ rfl
  obtain ⟨v5, y5, e5, t5⟩ := hf 5 _ rfl
  obtain ⟨x0, q0, _, g0⟩ := DataW.trod_int Try.underlying2 t0
  obtain ⟨x1, q1, _, _⟩ := DataW.trod_string Try.underlying9 t1
  obtain ⟨x2, q2, _, _⟩ := DataW.trod_string Try.underlying9 t2
  obtain ⟨x3, q3, _, _⟩ := DataW.trod_string Try.underlying9 t3
  obtain ⟨x4, q4, _, g4⟩ := DataW.trod_int Try.underlying2 t4
  obtain ⟨x5, q5, _, g5⟩ := DataW.trod_int Try.underlying2 t5
  simp only [List.cons.injEq, and_true] at q0 q1 q2 q3 q4 q5
  subst q0 q1 q2 q3 q4 q5
  refine ⟨⟨x0, x1, x2, x3, x4, x5⟩, ?_, i64_of g0, i64_of g4, i64_of g5⟩
  match cs, hl with
  | [a, b, c, d, e, f], _ =>
    simp at e0 e1 e2 e3 e4 e5
    simp [e0, e1, e2, e3, e4, e5]
set_option maxRecDepth 100000 in
theorem openT {v : Value} {d : DataW H} {ps : List MemPlace} {r : Reach} {b0 : Nat} (hval : Value.okWide Try.prog w r b0 49 v) (h : DataW.Trod enc Try.prog w base sp held 49 v d ps) :
    ∃ x : S49, v = .agg #[.int .i64 x.f0, .string x.f1, .string x.f2, .string x.f3, .int .i64 x.f4, .int .i64 x.f5] ∧ Good49 x := by
  have flat49 := flat_of (P := Try.prog) Try.underlying49 (by kernel_rfl)
  obtain ⟨cs, rfl⟩ := struct_agg flat49 hval
  obtain ⟨n, hn⟩ := h
  obtain ⟨x, hx, hg⟩ := open49 hn
  have e : cs = #[.int .i64 x.f0, .string x.f1, .string x.f2, .string x.f3, .int .i64 x.f4, .int .i64 x.f5] := Array.ext' hx
  subst e
  exact ⟨x, rfl, hg⟩
end
end Go.Proofs.Ytcbpmmcpidfllaa.Rt
end
