-- Written by a program of ours (pf.sh), for this seat.
import Derived.Test.YtebdjhgboeadgaaId0
namespace Go.Proofs.Ytebdjhgboeadgaa.Id
open Go.RowKit Go.Proofs.YtebdjhgboeadgaaW.PrintWords Go.Proofs.YtebdjhgboeadgaaW.PrintLast Go.Proofs.YtebdjhgboeadgaaW.PrintMore
attribute [local go_sem] max2_int min2_int max_two min_two max_three min_three max_four min_four   -- for this text's walks alone
set_option linter.unusedVariables false
set_option linter.unusedSimpArgs false

/-! ### ident_Words: function 36 -/
def ident_Words.f (a0 : ByteArray) : Option (List ByteArray) := if a0.size ≤ 1000 then some (Jw.W a0 a0.size 0 0 []) else none
theorem ident_Words.calls (a0 : ByteArray) (r : List ByteArray) (w : World) (h : ident_Words.f a0 = some r) :
    Calls Try.prog 36 #[.string a0] w fun e w' => ∃ v0_ : Value, e = .returned (v0_) ∧ Kd.R Kd.string 9 w' w.heap.size (fun _ => True) v0_ r ∧ Below w.heap.size w w' := by
  unfold ident_Words.f at h
  by_cases hs : a0.size ≤ 1000
  · rw [if_pos hs] at h
    obtain rfl := Option.some.inj h
    exact Jw.words_calls a0 hs w
  · rw [if_neg hs] at h
    cases h

end Go.Proofs.Ytebdjhgboeadgaa.Id
