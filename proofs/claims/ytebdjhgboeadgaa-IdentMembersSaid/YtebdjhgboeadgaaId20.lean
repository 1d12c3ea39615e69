-- Written by a program of ours (pf.sh), for this seat.
import Derived.Test.YtebdjhgboeadgaaId0
import Derived.Test.YtebdjhgboeadgaaId19
namespace Go.Proofs.Ytebdjhgboeadgaa.Id
open Go.RowKit Go.Proofs.YtebdjhgboeadgaaW.PrintWords Go.Proofs.YtebdjhgboeadgaaW.PrintLast Go.Proofs.YtebdjhgboeadgaaW.PrintMore
attribute [local go_sem] max2_int min2_int max_two min_two max_three min_three max_four min_four   -- for this text's walks alone
set_option linter.unusedVariables false
set_option linter.unusedSimpArgs false

/-! ### ident_Members: function 38 -/
def ident_Members.f (l0 : List ByteArray) : Option (Int) := if l0.length ≤ 1000 ∧ (∀ s ∈ l0, s.size ≤ 1000) then Jm.g (ident_Member.f 20) l0 l0.length 0 false else none
theorem ident_Members.calls (A0 : Option Addr) (c0 : Nat) (l0 : List ByteArray) (r : Int) (w : World) (hr0 : Kd.C Kd.string w A0 l0.length l0) (hc0 : l0.length ≤ c0) (h : ident_Members.f l0 = some r) :
    Calls Try.prog 38 #[.slice A0 l0.length c0] w fun e w' => e = .returned (.int .i64 r) ∧ Below w.heap.size w w' := by
  unfold ident_Members.f at h
  by_cases hs : l0.length ≤ 1000 ∧ (∀ s ∈ l0, s.size ≤ 1000)
  · rw [if_pos hs] at h
    exact Jm.members_calls (ident_Member.f 20) (fun s e w he => ident_Member.calls 20 s e w he) A0 c0 l0 r w hr0 hc0 hs.1 hs.2 h
  · rw [if_neg hs] at h
    cases h

end Go.Proofs.Ytebdjhgboeadgaa.Id
