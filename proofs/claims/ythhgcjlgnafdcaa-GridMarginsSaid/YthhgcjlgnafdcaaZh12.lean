/- Texts of this seat, put together (Zh12). -/
import Derived.Test.YthhgcjlgnafdcaaRows
import Derived.Laws.Cover1
import Derived.Test.YthhgcjlgnafdcaaZh3
import Derived.Test.YthhgcjlgnafdcaaZh11
section
namespace Go.Proofs.Ythhgcjlgnafdcaa.Kc
set_option linter.unusedVariables false
set_option linter.unusedSimpArgs false
open Go Go.RowKit Go.Proofs.YthhgcjlgnafdcaaW.PrintWords Go.Proofs.YthhgcjlgnafdcaaW.PrintLast Go.Proofs.Ythhgcjlgnafdcaa.Hd Go.Proofs.Ythhgcjlgnafdcaa.Os
theorem nan_c {w : World} (a : ByteArray) : Tells Try.prog 133 #[.string a] w (.bool false) := by
  unfold Tells
  go_enter Try.func133, Try.ntmps133
  go_wp2
  go_ret
  exact ⟨rfl, Below.refl _ _⟩
theorem cmp_c {w : World} (a b : ByteArray) : Tells Try.prog 124 #[.string a, .string b] w (.int .i64 (cmpS a b)) := by
  unfold Tells cmpS
  by_cases c1 : Op.bytesLess a.toList b.toList = true
  · rw [if_pos c1]
    go_enter Try.func124, Try.ntmps124
    go_wp2_with fail
    refine (nan_c a).on (All.start w) fun w1 H => ?_
    go_wp2_with fail
    refine (nan_c b).on H fun w2 H => ?_
    go_wp2
    go_ret
    exact ⟨rfl, H.old⟩
  · rw [if_neg c1]
    have c1 : Op.bytesLess a.toList b.toList = false := by simpa using c1
    by_cases c2 : (a.toList == b.toList) = true
    · rw [if_pos c2]
      go_enter Try.func124, Try.ntmps124
      go_wp2_with fail
      refine (nan_c a).on (All.start w) fun w1 H => ?_
      go_wp2_with fail
      refine (nan_c b).on H fun w2 H => ?_
      go_wp2
      go_ret
      exact ⟨rfl, H.old⟩
    · rw [if_neg c2]
      have c2 : (a.toList == b.toList) = false := by simpa using c2
      go_enter Try.func124, Try.ntmps124
      go_wp2_with fail
      refine (nan_c a).on (All.start w) fun w1 H => ?_
      go_wp2_with fail
      refine (nan_c b).on H fun w2 H => ?_
      go_wp2
      go_ret
      exact ⟨rfl, H.old⟩
end Go.Proofs.Ythhgcjlgnafdcaa.Kc
end
