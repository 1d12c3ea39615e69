-- Written by a program of ours (pf.sh), for this seat.
import Derived.Test.YthhmfpfmhklapaaId0
namespace Go.Proofs.Ythhmfpfmhklapaa.Id
open Go.RowKit Go.Proofs.YthhmfpfmhklapaaW.PrintWords Go.Proofs.YthhmfpfmhklapaaW.PrintLast Go.Proofs.YthhmfpfmhklapaaW.PrintMore
attribute [local go_sem] max2_int min2_int max_two min_two max_three min_three max_four min_four   -- for this text's walks alone
set_option linter.unusedVariables false
set_option linter.unusedSimpArgs false

/-! ### ident_NodeName: function 30 -/
def ident_NodeName.f (a0 : Int) : Option (ByteArray × Int) := if a0 < 0 then (some ((⟨#[]⟩ : ByteArray), 5)) else (if a0 ≥ 3 then (some ((⟨#[]⟩ : ByteArray), 5)) else (if 0 ≤ a0 then (if a0 ≤ (wrap64 (a0 + 1)) then (if (wrap64 (a0 + 1)) ≤ 3 then (some ((⟨#[65, 66, 67]⟩ : ByteArray).extract (a0 : Int).toNat ((wrap64 (a0 + 1)) : Int).toNat, 0)) else (none)) else (none)) else (none)))
set_option maxHeartbeats 8000000 in
set_option maxRecDepth 100000 in
theorem ident_NodeName.calls (a0 : Int) (r1 : ByteArray) (r2 : Int) (w : World) (h : ident_NodeName.f a0 = some (r1, r2)) :
    Calls Try.prog 30 #[.int .i64 a0] w fun e w' => e = .returned (.tuple #[.string r1, .int .i64 r2]) ∧ Drawn0 w w' := by
  have H : (if a0 < 0 then (some ((⟨#[]⟩ : ByteArray), 5)) else (if a0 ≥ 3 then (some ((⟨#[]⟩ : ByteArray), 5)) else (if 0 ≤ a0 then (if a0 ≤ (wrap64 (a0 + 1)) then (if (wrap64 (a0 + 1)) ≤ 3 then (some ((⟨#[65, 66, 67]⟩ : ByteArray).extract (a0 : Int).toNat ((wrap64 (a0 + 1)) : Int).toNat, 0)) else (none)) else (none)) else (none)))) = some (r1, r2) := h
  clear h
  by_cases c2 : a0 < 0
  · rw [if_pos c2] at H
    have c2b0 : decide (a0 < 0) = true := decide_eq_true c2
    clear c2
    simp only [Option.some.injEq, Prod.mk.injEq] at H
    obtain ⟨rfl, rfl⟩ := H
    go_enter Try.func30, Try.ntmps30
    go_wp2
    go_ret2
    exact ⟨by first | rfl | (simp; done) | (simp [*]; done), by repeat (first | exact Drawn0.refl _ | apply Drawn0.step)⟩
  · rw [if_neg c2] at H
    have c2b0 : decide (a0 < 0) = false := decide_eq_false c2
    clear c2
    by_cases c3 : a0 ≥ 3
    · rw [if_pos c3] at H
      have c3b0 : decide (3 ≤ a0) = true := decide_eq_true c3
      clear c3
      simp only [Option.some.injEq, Prod.mk.injEq] at H
      obtain ⟨rfl, rfl⟩ := H
      go_enter Try.func30, Try.ntmps30
      go_wp2
      go_ret2
      exact ⟨by first | rfl | (simp; done) | (simp [*]; done), by repeat (first | exact Drawn0.refl _ | apply Drawn0.step)⟩
    · rw [if_neg c3] at H
      have c3b0 : decide (3 ≤ a0) = false := decide_eq_false c3
      clear c3
      by_cases c4 : 0 ≤ a0
      · rw [if_pos c4] at H
        have c4b0 := eq_true c4
        have c4b1 : decide (0 ≤ a0) = true := decide_eq_true c4
        clear c4
        by_cases c5 : a0 ≤ (wrap64 (a0 + 1))
        · rw [if_pos c5] at H
          have c5b0 := eq_true c5
          have c5b1 : decide (a0 ≤ (wrap64 (a0 + 1))) = true := decide_eq_true c5
          by_cases c6 : (wrap64 (a0 + 1)) ≤ 3
          · rw [if_pos c6] at H
            have c6b0 := eq_true c6
            have c6b1 : decide ((wrap64 (a0 + 1)) ≤ 3) = true := decide_eq_true c6
            simp only [Option.some.injEq, Prod.mk.injEq] at H
            obtain ⟨rfl, rfl⟩ := H
            go_enter Try.func30, Try.ntmps30
            go_wp2
            go_ret2
            exact ⟨by first | rfl | (simp; done) | (simp [*]; done), by repeat (first | exact Drawn0.refl _ | apply Drawn0.step)⟩
          · rw [if_neg c6] at H
            exact absurd H (by simp)
        · rw [if_neg c5] at H
          exact absurd H (by simp)
      · rw [if_neg c4] at H
        exact absurd H (by simp)

end Go.Proofs.Ythhmfpfmhklapaa.Id
