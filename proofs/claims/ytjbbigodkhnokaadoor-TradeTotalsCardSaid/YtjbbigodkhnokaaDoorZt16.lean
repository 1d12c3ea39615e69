/- Texts of this seat, put together (Zt16). -/
import Derived.Test.YtjbbigodkhnokaaDoorZt8
import Derived.Test.YtjbbigodkhnokaaDoorZt15
section
namespace Go.Proofs.YtjbbigodkhnokaaDoor.Rt
set_option linter.unusedSimpArgs false
set_option linter.unusedVariables false
open Go Go.RowKit Go.ChangeShapes Go.WideShapes Go.ChangeAt Go.Deep Go.Proofs.YtjbbigodkhnokaaDoorW.PrintWords Go.Proofs.YtjbbigodkhnokaaDoorW.PrintMore Go.Proofs.YtjbbigodkhnokaaDoor.Tr Go.Proofs.YtjbbigodkhnokaaDoor.Opn
def Good30 (x : S30) : Prop := (-9223372036854775808 ≤ x.f0 ∧ x.f0 ≤ 9223372036854775807) ∧ (-9223372036854775808 ≤ x.f4 ∧ x.f4 ≤ 9223372036854775807) ∧ (-9223372036854775808 ≤ x.f5 ∧ x.f5 ≤ 9223372036854775807)
section
variable {H : Type} {enc : TypeId × Value → H} {w : World} {base : Nat} {sp : Nat → Bool} {held : Bool}
theorem open30 {n : Nat} {cs : List Value} {y : DataW H × List MemPlace} (h : DataW.trod enc Tryd.prog w base sp held n 30 cs = some y) :
    ∃ x : S30, cs = [.int .i64 x.f0, .string x.f1, .string x.f2, .string x.f3, .int .i64 x.f4, .int .i64 x.f5] ∧ Good30 x := by
  have flat30 := flat_of (P := Tryd.prog) Tryd.underlying30 (by kernel_rfl)
  obtain ⟨m, hl, hf⟩ := trod_flat flat30 h
  obtain ⟨v0, y0, e0, t0⟩ := hf 0 _ rfl
  obtain ⟨v1, y1, e1, t1⟩ := hf 1 _ rfl
  obtain ⟨v2, y2, e2, t2⟩ := hf 2 _ rfl
  obtain ⟨v3, y3, e3, t3⟩ := hf 3 _ rfl
  obtain ⟨v4, y4, e4, t4⟩ := hf 4 _ rfl
  obtain ⟨v5, y5, e5, t5⟩ := hf 5 _ rfl
  obtain ⟨x0, q0, _, g0⟩ := DataW.trod_int Tryd.underlying2 t0
  obtain ⟨x1, q1, _, _⟩ := DataW.trod_string Tryd.underlying9 t1
  obtain ⟨x2, q2, _, _⟩ := DataW.trod_string Tryd.underlying9 t2
  obtain ⟨x3, q3, _, _⟩ := DataW.trod_string Tryd.underlying9 t3
  obtain ⟨x4, q4, _, g4⟩ := DataW.trod_int Tryd.underlying2 t4
  obtain ⟨x5, q5, _, g5⟩ := DataW.trod_int Tryd.underlying2 t5
  simp only [List.cons.injEq, and_true] at q0 q1 q2 q3 q4 q5
  subst q0 q1 q2 q3 q4 q5
  refine ⟨⟨x0, x1, x2, x3, x4, x5⟩, ?_, i64_of g0, i64_of g4, i64_of g5⟩
  match cs, hl with
  | [a, b, c, d, e, f], _ =>
    simp at e0 e1 e2 e3 e4 e5
    simp [e0, e1, e2, e3, e4, e5]
theorem openL {A : Option Addr} {len cap : Nat} {d : DataW H} {ps : List MemPlace} (h : DataW.Trod enc Tryd.prog w base sp held 22 (.slice A len cap) d ps) :
    ∃ l : List S30, l.length = len ∧ l.length ≤ cap ∧ Kd.C k30 w A l.length l ∧ ∀ x ∈ l, Good30 x :=
  open_sliceK k30 z30 Good30 Tryd.underlying22 (by kernel_rfl) (fun n cs y hy => by
    obtain ⟨x, rfl, hg⟩ := open30 hy
    exact ⟨x, k30_mk w x, hg⟩) h
end
end Go.Proofs.YtjbbigodkhnokaaDoor.Rt
end
