/- Texts of this seat, put together (Zb19). -/
import Derived.Test.YthhgcjlgnafdcaaZb2
import Derived.Test.YthhgcjlgnafdcaaZb9
section
namespace Go.Proofs.Ythhgcjlgnafdcaa.Px
open Go.RowKit Go.Proofs.YthhgcjlgnafdcaaW.PrintWords Go.Proofs.YthhgcjlgnafdcaaW.PrintLast Go.Proofs.YthhgcjlgnafdcaaW.PrintMore
attribute [local go_sem] max2_int min2_int max_two min_two max_three min_three max_four min_four   -- for this text's walks alone
set_option linter.unusedVariables false
set_option linter.unusedSimpArgs false
attribute [local go_sem] run_add64_any
def note_Sorted.l0 : Nat → List (S79) → Int → Option (Bool)
 | 0, _, _ => none
 | k + 1, x0, x3 => if x3 < (x0.length : Int) then (if 0 ≤ (wrap64 (x3 - 1)) then (if (wrap64 (x3 - 1)) < (x0.length : Int) then (if 0 ≤ x3 then (if ((Op.bytesLess (((rd_T79 x0 (wrap64 (x3 - 1))).f0).toList) (((rd_T79 x0 x3).f0).toList)) = true) then (note_Sorted.l0 k x0 (wrap64 (x3 + 1))) else (some false)) else (none)) else (none)) else (none)) else (some true)
def note_Sorted.f (k : Nat) (l0 : List (S79)) : Option (Bool) := note_Sorted.l0 k l0 1
set_option maxHeartbeats 8000000 in
set_option maxRecDepth 100000 in
theorem note_Sorted.calls (k : Nat) (A0 : Option Addr) (c0 : Nat) (l0 : List (S79)) (r : Bool) (w : World) (hr0 : Kd.C k79 w A0 l0.length l0) (hc0 : l0.length ≤ c0) (h : note_Sorted.f k l0 = some r) :
  Calls Try.prog 84 #[.slice A0 l0.length c0] w fun e w' => e = .returned (.bool r) ∧ Drawn0 w w' := by
 have HR0 := A_ hr0
 have HC0 := A_ hc0
 clear hr0 hc0
 have H : (note_Sorted.l0 k l0 1) = some r := h
 clear h
 have H' := A_ H
 clear H
 go_enter Try.func84, Try.ntmps84
 go_wp2
 repeat (go_quiet (fail); try go_wp2)
 (try simp only [Act.put, sA_, sZ_, sS_])
 go_loopg [3] k (fun kq v3 w' => ∃ (x3_1 : Int), v3 = .int .i64 x3_1 ∧ Aside0 (note_Sorted.l0 kq l0 x3_1 = some r) ∧ Aside0 (kq ≤ k) ∧ Drawn0 w w')
 case atStart => exact ⟨(1), (by first | rfl | (simp; done) | (simp [*]; done)), H', ⟨Nat.le_refl _⟩, by repeat (first | exact Drawn0.refl _ | apply Drawn0.step)⟩
 case round =>
  clear H'
  obtain ⟨x3_1, rfl, HA, HK1, ⟨m1, rfl⟩⟩ := hrel
  cases gk with
  | zero => exact absurd HA.out (by simp [note_Sorted.l0])
  | succ k1 =>
   have H := HA.out
   clear HA
   simp only [note_Sorted.l0] at H
   by_cases c2 : x3_1 < (l0.length : Int)
   ·
    rw [if_pos c2] at H
    have c2b0 : decide (x3_1 < (l0.length : Int)) = true := decide_eq_true c2
    clear c2
    obtain ⟨ji3, hji3⟩ : ∃ j_ : Int, (wrap64 (x3_1 - 1)) = j_ := ⟨_, rfl⟩
    replace H : (if 0 ≤ (ji3) then (if (ji3) < (l0.length : Int) then (if 0 ≤ x3_1 then (if ((Op.bytesLess (((rd_T79 l0 (ji3)).f0).toList) (((rd_T79 l0 x3_1).f0).toList)) = true) then (note_Sorted.l0 k1 l0 (wrap64 (x3_1 + 1))) else (some false)) else (none)) else (none)) else (none)) = some r := by first | (rw [hji3] at H; exact H) | (simp only [hji3] at H ⊢; exact H)
    have hji3w : (IntKind.i64.wrap (x3_1 - 1)) = ji3 := (i64_w _).trans hji3
    by_cases c4 : 0 ≤ (ji3)
    ·
     rw [if_pos c4] at H
     have c4b0 : decide (0 ≤ (ji3)) = true := decide_eq_true c4
     clear c4
     by_cases c5 : (ji3) < (l0.length : Int)
     ·
      rw [if_pos c5] at H
      have c5b0 : decide ((ji3) < (l0.length : Int)) = true := decide_eq_true c5
      clear c5
      by_cases c6 : 0 ≤ x3_1
      ·
       rw [if_pos c6] at H
       have c6b0 : decide (0 ≤ x3_1) = true := decide_eq_true c6
       clear c6
       by_cases c7 : ((Op.bytesLess (((rd_T79 l0 (ji3)).f0).toList) (((rd_T79 l0 x3_1).f0).toList)) = true)
       ·
        rw [if_pos c7] at H
        have c7b0 : (Op.bytesLess (((rd_T79 l0 (ji3)).f0).toList) (((rd_T79 l0 x3_1).f0).toList)) = true := c7
        clear c7
        have H' := A_ H
        clear H
        have p176 : 0 ≤ ((ji3) : Int) := od_ (by first | (with_reducible assumption) | assumption)
        have q176 : (ji3) < (l0.length : Int) := od_ (by first | (with_reducible assumption) | assumption)
        obtain ⟨ad176, e176, hx176_0, hx176_1⟩ := at_T79 HR0.out (ji3) p176 q176
        cases e176
        replace p176 := eq_true p176
        replace q176 := eq_true q176
        have p177 : 0 ≤ (x3_1 : Int) := od_ (by first | (with_reducible assumption) | assumption)
        have q177 : x3_1 < (l0.length : Int) := od_ (by first | (with_reducible assumption) | assumption)
        obtain ⟨ad177, e177, hx177_0, hx177_1⟩ := at_T79 HR0.out x3_1 p177 q177
        obtain rfl : ad176 = ad177 := (by injection e177)
        replace p177 := eq_true p177
        replace q177 := eq_true q177
        go_wp2
        repeat (go_quiet (fail); try go_wp2)
        go_roundg k1
        case measure => have := HK1.out; omega
        case rel => exact ⟨(wrap64 (x3_1 + 1)), (by first | rfl | (simp; done) | (simp [*]; done)), H', ⟨by have := HK1.out; omega⟩, by repeat (first | exact Drawn0.refl _ | apply Drawn0.step)⟩
       ·
        rw [if_neg c7] at H
        have c7b0 : (Op.bytesLess (((rd_T79 l0 (ji3)).f0).toList) (((rd_T79 l0 x3_1).f0).toList)) = false := by simpa using c7
        clear c7
        obtain rfl := Option.some.inj H
        have p176 : 0 ≤ ((ji3) : Int) := od_ (by first | (with_reducible assumption) | assumption)
        have q176 : (ji3) < (l0.length : Int) := od_ (by first | (with_reducible assumption) | assumption)
        obtain ⟨ad176, e176, hx176_0, hx176_1⟩ := at_T79 HR0.out (ji3) p176 q176
        cases e176
        replace p176 := eq_true p176
        replace q176 := eq_true q176
        have p177 : 0 ≤ (x3_1 : Int) := od_ (by first | (with_reducible assumption) | assumption)
        have q177 : x3_1 < (l0.length : Int) := od_ (by first | (with_reducible assumption) | assumption)
        obtain ⟨ad177, e177, hx177_0, hx177_1⟩ := at_T79 HR0.out x3_1 p177 q177
        obtain rfl : ad176 = ad177 := (by injection e177)
        replace p177 := eq_true p177
        replace q177 := eq_true q177
        go_wp2
        repeat (go_quiet (fail); try go_wp2)
        go_ret
        exact ⟨by first | rfl | (simp; done) | (simp only [← hji3] <;> (first | rfl | simp)) | (simp [*]; done), by repeat (first | exact Drawn0.refl _ | apply Drawn0.step)⟩
      ·
       rw [if_neg c6] at H
       exact absurd H (by simp)
     ·
      rw [if_neg c5] at H
      exact absurd H (by simp)
    ·
     rw [if_neg c4] at H
     exact absurd H (by simp)
   ·
    rw [if_neg c2] at H
    have c2b0 : decide (x3_1 < (l0.length : Int)) = false := decide_eq_false c2
    clear c2
    obtain rfl := Option.some.inj H
    go_wp2
    repeat (go_quiet (fail); try go_wp2)
    go_ret
    exact ⟨by first | rfl | (simp; done) | (simp [*]; done), by repeat (first | exact Drawn0.refl _ | apply Drawn0.step)⟩
end Go.Proofs.Ythhgcjlgnafdcaa.Px
end
