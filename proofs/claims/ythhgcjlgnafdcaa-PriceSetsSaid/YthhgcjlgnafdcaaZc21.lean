/- Texts of this seat, put together (Zc21). -/
import Derived.Test.YthhgcjlgnafdcaaZc3
import Derived.Test.YthhgcjlgnafdcaaZc20
section
namespace Go.Proofs.Ythhgcjlgnafdcaa.Rr
set_option linter.unusedSimpArgs false
set_option linter.unusedVariables false
open Go Go.RowKit Go.ChangeShapes Go.WideShapes Go.ChangeAt Go.Deep Go.Proofs.YthhgcjlgnafdcaaW.PrintWords Go.Proofs.YthhgcjlgnafdcaaW.PrintMore Go.Proofs.YthhgcjlgnafdcaaW.PrintLast Go.Proofs.Ythhgcjlgnafdcaa.Hd Go.Proofs.Ythhgcjlgnafdcaa.Opn Go.Proofs.Ythhgcjlgnafdcaa.Pp Go.Proofs.Ythhgcjlgnafdcaa.Pq
open Go.Proofs.Ythhgcjlgnafdcaa.Nu (I64 U64 I128 sgn)
structure RA where
  A : Option Addr
  cap : Nat
  l : PR
def RA.val (x : RA) : Value := .slice x.A x.l.length x.cap
structure GoodA (w : World) (x : RA) : Prop where
  cap : x.l.length ≤ x.cap
  rows : CR x.A x.l w
  i64 : ∀ r ∈ x.l, I64 r.2
theorem arg_c {w : World} (x : RA) (g : GoodA w x) : All w w [(fun k => k < w.heap.size, CR x.A (x.l.take 40))] :=
  (All.start w).arg ((held_C g.rows).imp fun W h => C_cut h _)
section
variable {H : Type} {enc : TypeId × Value → H} {P : Program} {w : World} {base : Nat} {sp : Nat → Bool} {held : Bool} {t e : TypeId}
theorem openRow {n : Nat} {cs : List Value} {y : DataW H × List MemPlace} (h : DataW.trod enc Try.prog w base sp held n 71 cs = some y) : ∃ x : ByteArray × Int, krow.K w x cs ∧ I64 x.2 := by
  obtain ⟨m, hl, hf⟩ := trod_flat (flat_of (P := Try.prog) Try.underlying71 (by kernel_rfl)) h
  obtain ⟨v0, y0, e0, t0⟩ := hf 0 _ rfl
  obtain ⟨v1, y1, e1, t1⟩ := hf 1 _ rfl
  obtain ⟨x0, q0, _, _⟩ := DataW.trod_string Try.underlying9 t0
  obtain ⟨x1, q1, _, g1⟩ := DataW.trod_int Try.underlying2 t1
  simp only [List.cons.injEq, and_true] at q0 q1
  subst q0 q1
  refine ⟨(x0, x1), ?_, i64_of g1⟩
  have : cs = encR (x0, x1) := by
    match cs, hl with
    | [a, b], _ =>
      simp at e0 e1
      simp [e0, e1, encR]
  rw [this]
  exact krow_mk w (x0, x1)
set_option maxRecDepth 100000 in
theorem openA {v : Value} {d : DataW H} {ps : List MemPlace} {r : Reach} {b0 : Nat} (hval : Value.okWide Try.prog w r b0 22 v) (h : DataW.Trod enc Try.prog w base sp held 22 v d ps) : ∃ x : RA, v = x.val ∧ GoodA w x := by
  obtain ⟨A, len, cap, rfl⟩ := okWide_slice Try.underlying22 hval
  obtain ⟨l, rfl, hc, hC, hg⟩ := open_sliceK krow (ByteArray.empty, 0) (fun x => I64 x.2) Try.underlying22 (by kernel_rfl) (fun n cs y hy => openRow hy) h
  exact ⟨⟨A, cap, l⟩, rfl, hc, hC, hg⟩
end
end Go.Proofs.Ythhgcjlgnafdcaa.Rr
end
