/- Texts of this seat, put together (Ze20). -/
import Derived.Test.YtcbpmmcpidfllaaZe11
import Derived.Test.YtcbpmmcpidfllaaZe19
section
namespace Go.Proofs.Ytcbpmmcpidfllaa.Rt
set_option linter.unusedSimpArgs false
set_option linter.unusedVariables false
open Go Go.RowKit Go.ChangeShapes Go.WideShapes Go.ChangeAt Go.Deep Go.Proofs.YtcbpmmcpidfllaaW.PrintWords Go.Proofs.YtcbpmmcpidfllaaW.PrintMore Go.Proofs.YtcbpmmcpidfllaaW.PrintLast Go.Proofs.Ytcbpmmcpidfllaa.Opn Go.Proofs.Ytcbpmmcpidfllaa.Ro
structure RA where
  nodes : Int
  A : Option Addr
  ci : Nat
  is : List ByteArray
  B : Option Addr
  cm : Nat
  ms : List S63
def RA.val (x : RA) : Value := .agg #[.int .i64 x.nodes, .slice x.A x.is.length x.ci, .slice x.B x.ms.length x.cm]
def Good63 (x : S63) : Prop := -9223372036854775808 ≤ x.f1 ∧ x.f1 ≤ 9223372036854775807
structure GoodR (w : World) (x : RA) : Prop where
  nodes : -9223372036854775808 ≤ x.nodes ∧ x.nodes ≤ 9223372036854775807
  ci : x.is.length ≤ x.ci
  cm : x.ms.length ≤ x.cm
  is : Kd.C Kd.string w x.A x.is.length x.is
  ms : Kd.C k63 w x.B x.ms.length x.ms
  home : ∀ m ∈ x.ms, Good63 m
section
variable {H : Type} {enc : TypeId × Value → H} {P : Program} {w : World} {base : Nat} {sp : Nat → Bool} {held : Bool} {t e : TypeId}
theorem trod_sliceV (ht : P.underlying t = some (.slice e)) {n : Nat} {v : Value} {y : DataW H × List MemPlace} (h : DataW.trod enc P w base sp held n t [v] = some y) : ∃ A l c, v = .slice A l c := by
  rcases open_slice ht h with ⟨hcs, _⟩ | ⟨a, len', cap', m, n, D, Pl, hcs, _⟩
  · simp at hcs
    exact ⟨_, _, _, hcs⟩
  · simp at hcs
    exact ⟨_, _, _, hcs⟩
theorem open63 {n : Nat} {cs : List Value} {y : DataW H × List MemPlace} (h : DataW.trod enc Try.prog w base sp held n 63 cs = some y) : ∃ x : S63, cs = [.string x.f0, .int .i64 x.f1] ∧ Good63 x := by
  obtain ⟨m, hl, hf⟩ := trod_flat (flat_of (P := Try.prog) Try.underlying63 (by kernel_rfl)) h
  obtain ⟨v0, y0, e0, t0⟩ := hf 0 _ rfl
  obtain ⟨v1, y1, e1, t1⟩ := hf 1 _ rfl
  obtain ⟨x0, q0, _, _⟩ := DataW.trod_string Try.underlying9 t0
  obtain ⟨x1, q1, _, g1⟩ := DataW.trod_int Try.underlying3 t1
  simp only [List.cons.injEq, and_true] at q0 q1
  subst q0 q1
  refine ⟨⟨x0, x1⟩, ?_, i64_of g1⟩
  match cs, hl with
  | [a, b], _ =>
    simp at e0 e1
    simp [e0, e1]
set_option maxRecDepth 100000 in
theorem openR {v : Value} {d : DataW H} {ps : List MemPlace} {r : Reach} {b0 : Nat} (hval : Value.okWide Try.prog w r b0 25 v) (h : DataW.Trod enc Try.prog w base sp held 25 v d ps) : ∃ x : RA, v = x.val ∧ GoodR w x := by
  have hF := flat_of (P := Try.prog) Try.underlying25 (by kernel_rfl)
  obtain ⟨cs, rfl⟩ := struct_agg hF hval
  obtain ⟨n, hn⟩ := h
  obtain ⟨m, hl, hf⟩ := trod_flat hF hn
  obtain ⟨v0, y0, e0, t0⟩ := hf 0 _ rfl
  obtain ⟨v1, y1, e1, t1⟩ := hf 1 _ rfl
  obtain ⟨v2, y2, e2, t2⟩ := hf 2 _ rfl
  obtain ⟨x0, q0, _, g0⟩ := DataW.trod_int Try.underlying3 t0
  simp only [List.cons.injEq, and_true] at q0
  subst q0
  obtain ⟨A1, l1, c1, rfl⟩ := trod_sliceV Try.underlying22 t1
  obtain ⟨A2, l2, c2, rfl⟩ := trod_sliceV Try.underlying23 t2
  obtain ⟨is, rfl, hci, hI, -⟩ := open_sliceK Kd.string ByteArray.empty (fun _ => True) Try.underlying22 (by kernel_rfl) (fun n cs y hy => by
    obtain ⟨x, q, _, _⟩ := DataW.trod_string Try.underlying9 hy
    exact ⟨x, q, trivial⟩) ⟨_, t1⟩
  obtain ⟨ms, rfl, hcm, hM, hG⟩ := open_sliceK k63 z63 Good63 Try.underlying23 (by kernel_rfl) (fun n cs y hy => by
    obtain ⟨x, rfl, g⟩ := open63 hy
    exact ⟨x, k63_mk w x, g⟩) ⟨_, t2⟩
  refine ⟨⟨x0, A1, c1, is, A2, c2, ms⟩, ?_, i64_of g0, hci, hcm, hI, hM, hG⟩
  obtain ⟨cs⟩ := cs
  change cs.length = 3 at hl
  change cs[0]? = _ at e0
  change cs[1]? = _ at e1
  change cs[2]? = _ at e2
  match cs, hl with
  | [a, b, c], _ =>
    simp at e0 e1 e2
    unfold RA.val
    simp [e0, e1, e2]
end
end Go.Proofs.Ytcbpmmcpidfllaa.Rt
end
