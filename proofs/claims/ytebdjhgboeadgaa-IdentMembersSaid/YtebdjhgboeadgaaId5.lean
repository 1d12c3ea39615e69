-- Written by a program of ours (pf.sh), for this seat.
import Derived.Test.YtebdjhgboeadgaaId0
import Derived.Test.YtebdjhgboeadgaaId3
namespace Go.Proofs.Ytebdjhgboeadgaa.Id
open Go.RowKit Go.Proofs.YtebdjhgboeadgaaW.PrintWords Go.Proofs.YtebdjhgboeadgaaW.PrintLast Go.Proofs.YtebdjhgboeadgaaW.PrintMore
attribute [local go_sem] max2_int min2_int max_two min_two max_three min_three max_four min_four   -- for this text's walks alone
set_option linter.unusedVariables false
set_option linter.unusedSimpArgs false

/-! ### ident_Digit: function 24 -/
def ident_Digit.f (a0 : ByteArray) : Option (Int × Int) := (ident_body.f 20 a0).bind fun b => if b = true then some (Ja.ckB (Ja.sumW (Ja.D a0 a0.size)), 0) else some (0, 3)
theorem ident_Digit.size {a0 : ByteArray} (h : ident_body.f 20 a0 = some true) : a0.size = 11 := by
  unfold ident_body.f at h
  by_cases e : (a0.size : Int) = 11
  · omega
  · rw [if_neg e] at h
    exact absurd h (by simp)
theorem ident_Digit.calls (a0 : ByteArray) (r1 : Int) (r2 : Int) (w : World) (h : ident_Digit.f a0 = some (r1, r2)) :
    Calls Try.prog 24 #[.string a0] w fun e w' => e = .returned (.tuple #[.int .u8 r1, .int .i64 r2]) ∧ Below w.heap.size w w' := by
  unfold ident_Digit.f at h
  obtain ⟨b, hb, h⟩ := Option.bind_eq_some_iff.mp h
  cases b with
  | true =>
    rw [if_pos rfl] at h
    simp only [Option.some.injEq, Prod.mk.injEq] at h
    obtain ⟨rfl, rfl⟩ := h
    exact Ja.digit_ok a0 (by have := ident_Digit.size hb; omega) (fun w => ident_body.calls 20 a0 true w hb) w
  | false =>
    simp only [Bool.false_eq_true, if_false, Option.some.injEq, Prod.mk.injEq] at h
    obtain ⟨rfl, rfl⟩ := h
    exact Ja.digit_bad a0 (fun w => ident_body.calls 20 a0 false w hb) w

end Go.Proofs.Ytebdjhgboeadgaa.Id
