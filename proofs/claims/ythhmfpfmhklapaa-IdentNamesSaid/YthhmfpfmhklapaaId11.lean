-- Written by a program of ours (pf.sh), for this seat.
import Derived.Test.YthhmfpfmhklapaaId0
namespace Go.Proofs.Ythhmfpfmhklapaa.Id
open Go.RowKit Go.Proofs.YthhmfpfmhklapaaW.PrintWords Go.Proofs.YthhmfpfmhklapaaW.PrintLast Go.Proofs.YthhmfpfmhklapaaW.PrintMore
attribute [local go_sem] max2_int min2_int max_two min_two max_three min_three max_four min_four   -- for this text's walks alone
set_option linter.unusedVariables false
set_option linter.unusedSimpArgs false

/-! ### clevisref02_Node: function 31 -/
def clevisref02_Node.f (a0 : ByteArray) : Option (Int) := if a0.toList = ([65] : List UInt8) then (some 0) else (if a0.toList = ([66] : List UInt8) then (some 1) else (if a0.toList = ([67] : List UInt8) then (some 2) else (some (-1))))
set_option maxHeartbeats 8000000 in
set_option maxRecDepth 100000 in
theorem clevisref02_Node.calls (a0 : ByteArray) (r : Int) (w : World) (h : clevisref02_Node.f a0 = some r) :
    Calls Try.prog 31 #[.string a0] w fun e w' => e = .returned (.int .i64 r) ∧ Drawn0 w w' := by
  have H : (if a0.toList = ([65] : List UInt8) then (some 0) else (if a0.toList = ([66] : List UInt8) then (some 1) else (if a0.toList = ([67] : List UInt8) then (some 2) else (some (-1))))) = some r := h
  clear h
  by_cases c2 : a0.toList = ([65] : List UInt8)
  · rw [if_pos c2] at H
    have c2b0 : (a0.toList == ([65] : List UInt8)) = true := beq_iff_eq.mpr c2
    have c2b1 : (a0.toList != ([65] : List UInt8)) = false := bne_eq_false_iff_eq.mpr c2
    clear c2
    obtain rfl := Option.some.inj H
    go_enter Try.func31, Try.ntmps31
    go_wp2
    go_ret
    exact ⟨by first | rfl | (simp; done) | (simp [*]; done), by repeat (first | exact Drawn0.refl _ | apply Drawn0.step)⟩
  · rw [if_neg c2] at H
    have c2b0 : (a0.toList == ([65] : List UInt8)) = false := beq_eq_false_iff_ne.mpr c2
    have c2b1 : (a0.toList != ([65] : List UInt8)) = true := bne_iff_ne.mpr c2
    by_cases c3 : a0.toList = ([66] : List UInt8)
    · rw [if_pos c3] at H
      have c3b0 : (a0.toList == ([66] : List UInt8)) = true := beq_iff_eq.mpr c3
      have c3b1 : (a0.toList != ([66] : List UInt8)) = false := bne_eq_false_iff_eq.mpr c3
      clear c3
      obtain rfl := Option.some.inj H
      go_enter Try.func31, Try.ntmps31
      go_wp2
      go_ret
      exact ⟨by first | rfl | (simp; done) | (simp [*]; done), by repeat (first | exact Drawn0.refl _ | apply Drawn0.step)⟩
    · rw [if_neg c3] at H
      have c3b0 : (a0.toList == ([66] : List UInt8)) = false := beq_eq_false_iff_ne.mpr c3
      have c3b1 : (a0.toList != ([66] : List UInt8)) = true := bne_iff_ne.mpr c3
      by_cases c4 : a0.toList = ([67] : List UInt8)
      · rw [if_pos c4] at H
        have c4b0 : (a0.toList == ([67] : List UInt8)) = true := beq_iff_eq.mpr c4
        have c4b1 : (a0.toList != ([67] : List UInt8)) = false := bne_eq_false_iff_eq.mpr c4
        clear c4
        obtain rfl := Option.some.inj H
        go_enter Try.func31, Try.ntmps31
        go_wp2
        go_ret
        exact ⟨by first | rfl | (simp; done) | (simp [*]; done), by repeat (first | exact Drawn0.refl _ | apply Drawn0.step)⟩
      · rw [if_neg c4] at H
        have c4b0 : (a0.toList == ([67] : List UInt8)) = false := beq_eq_false_iff_ne.mpr c4
        have c4b1 : (a0.toList != ([67] : List UInt8)) = true := bne_iff_ne.mpr c4
        obtain rfl := Option.some.inj H
        go_enter Try.func31, Try.ntmps31
        go_wp2
        go_ret
        exact ⟨by first | rfl | (simp; done) | (simp [*]; done), by repeat (first | exact Drawn0.refl _ | apply Drawn0.step)⟩

end Go.Proofs.Ythhmfpfmhklapaa.Id
