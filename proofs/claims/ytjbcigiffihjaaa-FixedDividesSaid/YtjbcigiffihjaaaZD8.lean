/- Texts of this seat, put together (ZD8). -/
import Derived.Test.YtjbcigiffihjaaaZD3
import Derived.Test.YtjbcigiffihjaaaZD5
import Derived.Test.YtjbcigiffihjaaaZD6
section
namespace Go.Proofs.Ytjbcigiffihjaaa.Fx
open Go.RowKit Go.Proofs.YtjbcigiffihjaaaW.PrintWords Go.Proofs.YtjbcigiffihjaaaW.PrintLast Go.Proofs.YtjbcigiffihjaaaW.PrintMore
attribute [local go_sem] max2_int min2_int max_two min_two max_three min_three max_four min_four   -- for this text's walks alone
set_option linter.unusedVariables false
set_option linter.unusedSimpArgs false
attribute [local go_sem] run_add64_any
def bits_Len64.j0 : Nat → Int → Int → Option (Int)
 | 0, _, _ => none
 | k + 1, x0, x2 => if x0 ≥ 65536 then (if (x0 / 65536) ≥ 256 then (if 0 ≤ (((x0 / 65536) / 256) % 256) then (if (((x0 / 65536) / 256) % 256) < 256 then (some (wrap64 ((wrap64 ((wrap64 (x2 + 16)) + 8)) + (wrap64 (bt (⟨#[0, 1, 2, 2, 3, 3, 3, 3, 4, 4, 4, 4, 4, 4, 4, 4, 5, 5, 5, 5, 5, 5, 5, 5, 5, 5, 5, 5, 5, 5, 5, 5, 6, 6, 6, 6, 6, 6, 6, 6, 6, 6, 6, 6, 6, 6, 6, 6, 6, 6, 6, 6, 6, 6, 6, 6, 6, 6, 6, 6, 6, 6, 6, 6, 7, 7, 7, 7, 7, 7, 7, 7, 7, 7, 7, 7, 7, 7, 7, 7, 7, 7, 7, 7, 7, 7, 7, 7, 7, 7, 7, 7, 7, 7, 7, 7, 7, 7, 7, 7, 7, 7, 7, 7, 7, 7, 7, 7, 7, 7, 7, 7, 7, 7, 7, 7, 7, 7, 7, 7, 7, 7, 7, 7, 7, 7, 7, 7, 8, 8, 8, 8, 8, 8, 8, 8, 8, 8, 8, 8, 8, 8, 8, 8, 8, 8, 8, 8, 8, 8, 8, 8, 8, 8, 8, 8, 8, 8, 8, 8, 8, 8, 8, 8, 8, 8, 8, 8, 8, 8, 8, 8, 8, 8, 8, 8, 8, 8, 8, 8, 8, 8, 8, 8, 8, 8, 8, 8, 8, 8, 8, 8, 8, 8, 8, 8, 8, 8, 8, 8, 8, 8, 8, 8, 8, 8, 8, 8, 8, 8, 8, 8, 8, 8, 8, 8, 8, 8, 8, 8, 8, 8, 8, 8, 8, 8, 8, 8, 8, 8, 8, 8, 8, 8, 8, 8, 8, 8, 8, 8, 8, 8, 8, 8, 8, 8, 8, 8, 8, 8, 8, 8, 8, 8, 8, 8]⟩ : ByteArray) (((x0 / 65536) / 256) % 256)))))) else (none)) else (none)) else (if 0 ≤ ((x0 / 65536) % 256) then (if ((x0 / 65536) % 256) < 256 then (some (wrap64 ((wrap64 (x2 + 16)) + (wrap64 (bt (⟨#[0, 1, 2, 2, 3, 3, 3, 3, 4, 4, 4, 4, 4, 4, 4, 4, 5, 5, 5, 5, 5, 5, 5, 5, 5, 5, 5, 5, 5, 5, 5, 5, 6, 6, 6, 6, 6, 6, 6, 6, 6, 6, 6, 6, 6, 6, 6, 6, 6, 6, 6, 6, 6, 6, 6, 6, 6, 6, 6, 6, 6, 6, 6, 6, 7, 7, 7, 7, 7, 7, 7, 7, 7, 7, 7, 7, 7, 7, 7, 7, 7, 7, 7, 7, 7, 7, 7, 7, 7, 7, 7, 7, 7, 7, 7, 7, 7, 7, 7, 7, 7, 7, 7, 7, 7, 7, 7, 7, 7, 7, 7, 7, 7, 7, 7, 7, 7, 7, 7, 7, 7, 7, 7, 7, 7, 7, 7, 7, 8, 8, 8, 8, 8, 8, 8, 8, 8, 8, 8, 8, 8, 8, 8, 8, 8, 8, 8, 8, 8, 8, 8, 8, 8, 8, 8, 8, 8, 8, 8, 8, 8, 8, 8, 8, 8, 8, 8, 8, 8, 8, 8, 8, 8, 8, 8, 8, 8, 8, 8, 8, 8, 8, 8, 8, 8, 8, 8, 8, 8, 8, 8, 8, 8, 8, 8, 8, 8, 8, 8, 8, 8, 8, 8, 8, 8, 8, 8, 8, 8, 8, 8, 8, 8, 8, 8, 8, 8, 8, 8, 8, 8, 8, 8, 8, 8, 8, 8, 8, 8, 8, 8, 8, 8, 8, 8, 8, 8, 8, 8, 8, 8, 8, 8, 8, 8, 8, 8, 8, 8, 8, 8, 8, 8, 8, 8, 8]⟩ : ByteArray) ((x0 / 65536) % 256)))))) else (none)) else (none))) else (if x0 ≥ 256 then (if 0 ≤ ((x0 / 256) % 256) then (if ((x0 / 256) % 256) < 256 then (some (wrap64 ((wrap64 (x2 + 8)) + (wrap64 (bt (⟨#[0, 1, 2, 2, 3, 3, 3, 3, 4, 4, 4, 4, 4, 4, 4, 4, 5, 5, 5, 5, 5, 5, 5, 5, 5, 5, 5, 5, 5, 5, 5, 5, 6, 6, 6, 6, 6, 6, 6, 6, 6, 6, 6, 6, 6, 6, 6, 6, 6, 6, 6, 6, 6, 6, 6, 6, 6, 6, 6, 6, 6, 6, 6, 6, 7, 7, 7, 7, 7, 7, 7, 7, 7, 7, 7, 7, 7, 7, 7, 7, 7, 7, 7, 7, 7, 7, 7, 7, 7, 7, 7, 7, 7, 7, 7, 7, 7, 7, 7, 7, 7, 7, 7, 7, 7, 7, 7, 7, 7, 7, 7, 7, 7, 7, 7, 7, 7, 7, 7, 7, 7, 7, 7, 7, 7, 7, 7, 7, 8, 8, 8, 8, 8, 8, 8, 8, 8, 8, 8, 8, 8, 8, 8, 8, 8, 8, 8, 8, 8, 8, 8, 8, 8, 8, 8, 8, 8, 8, 8, 8, 8, 8, 8, 8, 8, 8, 8, 8, 8, 8, 8, 8, 8, 8, 8, 8, 8, 8, 8, 8, 8, 8, 8, 8, 8, 8, 8, 8, 8, 8, 8, 8, 8, 8, 8, 8, 8, 8, 8, 8, 8, 8, 8, 8, 8, 8, 8, 8, 8, 8, 8, 8, 8, 8, 8, 8, 8, 8, 8, 8, 8, 8, 8, 8, 8, 8, 8, 8, 8, 8, 8, 8, 8, 8, 8, 8, 8, 8, 8, 8, 8, 8, 8, 8, 8, 8, 8, 8, 8, 8, 8, 8, 8, 8, 8, 8]⟩ : ByteArray) ((x0 / 256) % 256)))))) else (none)) else (none)) else (if 0 ≤ ((x0) % 256) then (if ((x0) % 256) < 256 then (some (wrap64 (x2 + (wrap64 (bt (⟨#[0, 1, 2, 2, 3, 3, 3, 3, 4, 4, 4, 4, 4, 4, 4, 4, 5, 5, 5, 5, 5, 5, 5, 5, 5, 5, 5, 5, 5, 5, 5, 5, 6, 6, 6, 6, 6, 6, 6, 6, 6, 6, 6, 6, 6, 6, 6, 6, 6, 6, 6, 6, 6, 6, 6, 6, 6, 6, 6, 6, 6, 6, 6, 6, 7, 7, 7, 7, 7, 7, 7, 7, 7, 7, 7, 7, 7, 7, 7, 7, 7, 7, 7, 7, 7, 7, 7, 7, 7, 7, 7, 7, 7, 7, 7, 7, 7, 7, 7, 7, 7, 7, 7, 7, 7, 7, 7, 7, 7, 7, 7, 7, 7, 7, 7, 7, 7, 7, 7, 7, 7, 7, 7, 7, 7, 7, 7, 7, 8, 8, 8, 8, 8, 8, 8, 8, 8, 8, 8, 8, 8, 8, 8, 8, 8, 8, 8, 8, 8, 8, 8, 8, 8, 8, 8, 8, 8, 8, 8, 8, 8, 8, 8, 8, 8, 8, 8, 8, 8, 8, 8, 8, 8, 8, 8, 8, 8, 8, 8, 8, 8, 8, 8, 8, 8, 8, 8, 8, 8, 8, 8, 8, 8, 8, 8, 8, 8, 8, 8, 8, 8, 8, 8, 8, 8, 8, 8, 8, 8, 8, 8, 8, 8, 8, 8, 8, 8, 8, 8, 8, 8, 8, 8, 8, 8, 8, 8, 8, 8, 8, 8, 8, 8, 8, 8, 8, 8, 8, 8, 8, 8, 8, 8, 8, 8, 8, 8, 8, 8, 8, 8, 8, 8, 8, 8, 8]⟩ : ByteArray) ((x0) % 256)))))) else (none)) else (none)))
def bits_Len64.f (k : Nat) (a0 : Int) : Option (Int) := if a0 ≥ 4294967296 then (bits_Len64.j0 k (a0 / 4294967296) 32) else (bits_Len64.j0 k a0 0)
set_option maxHeartbeats 8000000 in
set_option maxRecDepth 100000 in
theorem bits_Len64.calls (k : Nat) (a0 : Int) (r : Int) (w : World) (h : bits_Len64.f k a0 = some r) :
  Calls Try.prog 64 #[.int .u64 a0] w fun e w' => e = .returned (.int .i64 r) ∧ Drawn0 w w' := by
 have H : (if a0 ≥ 4294967296 then (bits_Len64.j0 k (a0 / 4294967296) 32) else (bits_Len64.j0 k a0 0)) = some r := h
 clear h
 have HC2 := A_ H
 clear H
 go_enter Try.func64, Try.ntmps64
 go_upto_if 4 with (fail)
 go_cut [0, 2] (fun v0 v2 wc => ∃ (kq : Nat) (x0_1 : Int) (x2_1 : Int), v0 = .int .u64 x0_1 ∧ v2 = .int .i64 x2_1 ∧ Aside0 (bits_Len64.j0 kq x0_1 x2_1 = some r) ∧ Aside0 (kq ≤ k) ∧ Drawn0 w wc)
 case first =>
  have H := HC2.out
  clear HC2
  by_cases c3 : a0 ≥ 4294967296
  ·
   rw [if_pos c3] at H
   have c3b0 : decide (4294967296 ≤ a0) = true := decide_eq_true c3
   clear c3
   (first | rw [c3b0] | (simp only [i64_w, i32_w]; rw [c3b0]) | skip)
   have H' := A_ H
   clear H
   go_wp2
   go_meet
   case rel => exact ⟨_, (a0 / 4294967296), (32), (by first | rfl | (simp; done) | (simp [*]; done)), (by first | rfl | (simp; done) | (simp [*]; done)), H', ⟨by first | omega | exact Nat.le_refl _⟩, by repeat (first | exact Drawn0.refl _ | apply Drawn0.step)⟩
  ·
   rw [if_neg c3] at H
   have c3b0 : decide (4294967296 ≤ a0) = false := decide_eq_false c3
   clear c3
   (first | rw [c3b0] | (simp only [i64_w, i32_w]; rw [c3b0]) | skip)
   have H' := A_ H
   clear H
   go_wp2
   go_meet
   case rel => exact ⟨_, (a0), (0), (by first | rfl | (simp; done) | (simp [*]; done)), (by first | rfl | (simp; done) | (simp [*]; done)), H', ⟨by first | omega | exact Nat.le_refl _⟩, by repeat (first | exact Drawn0.refl _ | apply Drawn0.step)⟩
 case rest =>
  clear HC2
  try clear p2
  try clear c3
  try clear c3b0
  obtain ⟨kq, x0_1, x2_1, rfl, rfl, HA, HJ1, ⟨mc1, rfl⟩⟩ := hcut
  cases kq with
  | zero => exact absurd HA.out (by simp [bits_Len64.j0])
  | succ kj1 =>
   have H := HA.out
   clear HA
   simp only [bits_Len64.j0] at H
   by_cases c4 : x0_1 ≥ 65536
   ·
    rw [if_pos c4] at H
    have c4b0 : decide (65536 ≤ x0_1) = true := decide_eq_true c4
    clear c4
    by_cases c5 : (x0_1 / 65536) ≥ 256
    ·
     rw [if_pos c5] at H
     have c5b0 : decide (256 ≤ (x0_1 / 65536)) = true := decide_eq_true c5
     clear c5
     obtain ⟨ji6, hji6⟩ : ∃ j_ : Int, (((x0_1 / 65536) / 256) % 256) = j_ := ⟨_, rfl⟩
     replace H : (if 0 ≤ (ji6) then (if (ji6) < 256 then (some (wrap64 ((wrap64 ((wrap64 (x2_1 + 16)) + 8)) + (wrap64 (bt (⟨#[0, 1, 2, 2, 3, 3, 3, 3, 4, 4, 4, 4, 4, 4, 4, 4, 5, 5, 5, 5, 5, 5, 5, 5, 5, 5, 5, 5, 5, 5, 5, 5, 6, 6, 6, 6, 6, 6, 6, 6, 6, 6, 6, 6, 6, 6, 6, 6, 6, 6, 6, 6, 6, 6, 6, 6, 6, 6, 6, 6, 6, 6, 6, 6, 7, 7, 7, 7, 7, 7, 7, 7, 7, 7, 7, 7, 7, 7, 7, 7, 7, 7, 7, 7, 7, 7, 7, 7, 7, 7, 7, 7, 7, 7, 7, 7, 7, 7, 7, 7, 7, 7, 7, 7, 7, 7, 7, 7, 7, 7, 7, 7, 7, 7, 7, 7, 7, 7, 7, 7, 7, 7, 7, 7, 7, 7, 7, 7, 8, 8, 8, 8, 8, 8, 8, 8, 8, 8, 8, 8, 8, 8, 8, 8, 8, 8, 8, 8, 8, 8, 8, 8, 8, 8, 8, 8, 8, 8, 8, 8, 8, 8, 8, 8, 8, 8, 8, 8, 8, 8, 8, 8, 8, 8, 8, 8, 8, 8, 8, 8, 8, 8, 8, 8, 8, 8, 8, 8, 8, 8, 8, 8, 8, 8, 8, 8, 8, 8, 8, 8, 8, 8, 8, 8, 8, 8, 8, 8, 8, 8, 8, 8, 8, 8, 8, 8, 8, 8, 8, 8, 8, 8, 8, 8, 8, 8, 8, 8, 8, 8, 8, 8, 8, 8, 8, 8, 8, 8, 8, 8, 8, 8, 8, 8, 8, 8, 8, 8, 8, 8, 8, 8, 8, 8, 8, 8]⟩ : ByteArray) (ji6)))))) else (none)) else (none)) = some r := by first | (rw [hji6] at H; exact H) | (simp only [hji6] at H ⊢; exact H)
     by_cases c7 : 0 ≤ (ji6)
     ·
      rw [if_pos c7] at H
      have c7b0 : decide (0 ≤ (ji6)) = true := decide_eq_true c7
      clear c7
      by_cases c8 : (ji6) < 256
      ·
       rw [if_pos c8] at H
       have c8b0 : decide ((ji6) < 256) = true := decide_eq_true c8
       clear c8
       obtain rfl := Option.some.inj H
       have p9 : 0 ≤ ((ji6) : Int) := od_ (by first | (with_reducible assumption) | assumption)
       have q9 : (ji6) < (256 : Int) := od_ (by first | (with_reducible assumption) | assumption)
       have hx9 := bt_at (⟨#[0, 1, 2, 2, 3, 3, 3, 3, 4, 4, 4, 4, 4, 4, 4, 4, 5, 5, 5, 5, 5, 5, 5, 5, 5, 5, 5, 5, 5, 5, 5, 5, 6, 6, 6, 6, 6, 6, 6, 6, 6, 6, 6, 6, 6, 6, 6, 6, 6, 6, 6, 6, 6, 6, 6, 6, 6, 6, 6, 6, 6, 6, 6, 6, 7, 7, 7, 7, 7, 7, 7, 7, 7, 7, 7, 7, 7, 7, 7, 7, 7, 7, 7, 7, 7, 7, 7, 7, 7, 7, 7, 7, 7, 7, 7, 7, 7, 7, 7, 7, 7, 7, 7, 7, 7, 7, 7, 7, 7, 7, 7, 7, 7, 7, 7, 7, 7, 7, 7, 7, 7, 7, 7, 7, 7, 7, 7, 7, 8, 8, 8, 8, 8, 8, 8, 8, 8, 8, 8, 8, 8, 8, 8, 8, 8, 8, 8, 8, 8, 8, 8, 8, 8, 8, 8, 8, 8, 8, 8, 8, 8, 8, 8, 8, 8, 8, 8, 8, 8, 8, 8, 8, 8, 8, 8, 8, 8, 8, 8, 8, 8, 8, 8, 8, 8, 8, 8, 8, 8, 8, 8, 8, 8, 8, 8, 8, 8, 8, 8, 8, 8, 8, 8, 8, 8, 8, 8, 8, 8, 8, 8, 8, 8, 8, 8, 8, 8, 8, 8, 8, 8, 8, 8, 8, 8, 8, 8, 8, 8, 8, 8, 8, 8, 8, 8, 8, 8, 8, 8, 8, 8, 8, 8, 8, 8, 8, 8, 8, 8, 8, 8, 8, 8, 8, 8, 8]⟩ : ByteArray) (ji6)
       replace p9 := eq_true p9
       replace q9 := eq_true q9
       go_wp2
       go_ret
       exact ⟨by first | rfl | (simp; done) | (simp only [← hji6] <;> (first | rfl | simp)) | (simp [*]; done), by repeat (first | exact Drawn0.refl _ | apply Drawn0.step)⟩
      ·
       rw [if_neg c8] at H
       exact absurd H (by simp)
     ·
      rw [if_neg c7] at H
      exact absurd H (by simp)
    ·
     rw [if_neg c5] at H
     have c5b0 : decide (256 ≤ (x0_1 / 65536)) = false := decide_eq_false c5
     clear c5
     obtain ⟨ji10, hji10⟩ : ∃ j_ : Int, ((x0_1 / 65536) % 256) = j_ := ⟨_, rfl⟩
     replace H : (if 0 ≤ (ji10) then (if (ji10) < 256 then (some (wrap64 ((wrap64 (x2_1 + 16)) + (wrap64 (bt (⟨#[0, 1, 2, 2, 3, 3, 3, 3, 4, 4, 4, 4, 4, 4, 4, 4, 5, 5, 5, 5, 5, 5, 5, 5, 5, 5, 5, 5, 5, 5, 5, 5, 6, 6, 6, 6, 6, 6, 6, 6, 6, 6, 6, 6, 6, 6, 6, 6, 6, 6, 6, 6, 6, 6, 6, 6, 6, 6, 6, 6, 6, 6, 6, 6, 7, 7, 7, 7, 7, 7, 7, 7, 7, 7, 7, 7, 7, 7, 7, 7, 7, 7, 7, 7, 7, 7, 7, 7, 7, 7, 7, 7, 7, 7, 7, 7, 7, 7, 7, 7, 7, 7, 7, 7, 7, 7, 7, 7, 7, 7, 7, 7, 7, 7, 7, 7, 7, 7, 7, 7, 7, 7, 7, 7, 7, 7, 7, 7, 8, 8, 8, 8, 8, 8, 8, 8, 8, 8, 8, 8, 8, 8, 8, 8, 8, 8, 8, 8, 8, 8, 8, 8, 8, 8, 8, 8, 8, 8, 8, 8, 8, 8, 8, 8, 8, 8, 8, 8, 8, 8, 8, 8, 8, 8, 8, 8, 8, 8, 8, 8, 8, 8, 8, 8, 8, 8, 8, 8, 8, 8, 8, 8, 8, 8, 8, 8, 8, 8, 8, 8, 8, 8, 8, 8, 8, 8, 8, 8, 8, 8, 8, 8, 8, 8, 8, 8, 8, 8, 8, 8, 8, 8, 8, 8, 8, 8, 8, 8, 8, 8, 8, 8, 8, 8, 8, 8, 8, 8, 8, 8, 8, 8, 8, 8, 8, 8, 8, 8, 8, 8, 8, 8, 8, 8, 8, 8]⟩ : ByteArray) (ji10)))))) else (none)) else (none)) = some r := by first | (rw [hji10] at H; exact H) | (simp only [hji10] at H ⊢; exact H)
     by_cases c11 : 0 ≤ (ji10)
     ·
      rw [if_pos c11] at H
      have c11b0 : decide (0 ≤ (ji10)) = true := decide_eq_true c11
      clear c11
      by_cases c12 : (ji10) < 256
      ·
       rw [if_pos c12] at H
       have c12b0 : decide ((ji10) < 256) = true := decide_eq_true c12
       clear c12
       obtain rfl := Option.some.inj H
       have p13 : 0 ≤ ((ji10) : Int) := od_ (by first | (with_reducible assumption) | assumption)
       have q13 : (ji10) < (256 : Int) := od_ (by first | (with_reducible assumption) | assumption)
       have hx13 := bt_at (⟨#[0, 1, 2, 2, 3, 3, 3, 3, 4, 4, 4, 4, 4, 4, 4, 4, 5, 5, 5, 5, 5, 5, 5, 5, 5, 5, 5, 5, 5, 5, 5, 5, 6, 6, 6, 6, 6, 6, 6, 6, 6, 6, 6, 6, 6, 6, 6, 6, 6, 6, 6, 6, 6, 6, 6, 6, 6, 6, 6, 6, 6, 6, 6, 6, 7, 7, 7, 7, 7, 7, 7, 7, 7, 7, 7, 7, 7, 7, 7, 7, 7, 7, 7, 7, 7, 7, 7, 7, 7, 7, 7, 7, 7, 7, 7, 7, 7, 7, 7, 7, 7, 7, 7, 7, 7, 7, 7, 7, 7, 7, 7, 7, 7, 7, 7, 7, 7, 7, 7, 7, 7, 7, 7, 7, 7, 7, 7, 7, 8, 8, 8, 8, 8, 8, 8, 8, 8, 8, 8, 8, 8, 8, 8, 8, 8, 8, 8, 8, 8, 8, 8, 8, 8, 8, 8, 8, 8, 8, 8, 8, 8, 8, 8, 8, 8, 8, 8, 8, 8, 8, 8, 8, 8, 8, 8, 8, 8, 8, 8, 8, 8, 8, 8, 8, 8, 8, 8, 8, 8, 8, 8, 8, 8, 8, 8, 8, 8, 8, 8, 8, 8, 8, 8, 8, 8, 8, 8, 8, 8, 8, 8, 8, 8, 8, 8, 8, 8, 8, 8, 8, 8, 8, 8, 8, 8, 8, 8, 8, 8, 8, 8, 8, 8, 8, 8, 8, 8, 8, 8, 8, 8, 8, 8, 8, 8, 8, 8, 8, 8, 8, 8, 8, 8, 8, 8, 8]⟩ : ByteArray) (ji10)
       replace p13 := eq_true p13
       replace q13 := eq_true q13
       go_wp2
       go_ret
       exact ⟨by first | rfl | (simp; done) | (simp only [← hji10] <;> (first | rfl | simp)) | (simp [*]; done), by repeat (first | exact Drawn0.refl _ | apply Drawn0.step)⟩
      ·
       rw [if_neg c12] at H
       exact absurd H (by simp)
     ·
      rw [if_neg c11] at H
      exact absurd H (by simp)
   ·
    rw [if_neg c4] at H
    have c4b0 : decide (65536 ≤ x0_1) = false := decide_eq_false c4
    clear c4
    by_cases c14 : x0_1 ≥ 256
    ·
     rw [if_pos c14] at H
     have c14b0 : decide (256 ≤ x0_1) = true := decide_eq_true c14
     clear c14
     obtain ⟨ji15, hji15⟩ : ∃ j_ : Int, ((x0_1 / 256) % 256) = j_ := ⟨_, rfl⟩
     replace H : (if 0 ≤ (ji15) then (if (ji15) < 256 then (some (wrap64 ((wrap64 (x2_1 + 8)) + (wrap64 (bt (⟨#[0, 1, 2, 2, 3, 3, 3, 3, 4, 4, 4, 4, 4, 4, 4, 4, 5, 5, 5, 5, 5, 5, 5, 5, 5, 5, 5, 5, 5, 5, 5, 5, 6, 6, 6, 6, 6, 6, 6, 6, 6, 6, 6, 6, 6, 6, 6, 6, 6, 6, 6, 6, 6, 6, 6, 6, 6, 6, 6, 6, 6, 6, 6, 6, 7, 7, 7, 7, 7, 7, 7, 7, 7, 7, 7, 7, 7, 7, 7, 7, 7, 7, 7, 7, 7, 7, 7, 7, 7, 7, 7, 7, 7, 7, 7, 7, 7, 7, 7, 7, 7, 7, 7, 7, 7, 7, 7, 7, 7, 7, 7, 7, 7, 7, 7, 7, 7, 7, 7, 7, 7, 7, 7, 7, 7, 7, 7, 7, 8, 8, 8, 8, 8, 8, 8, 8, 8, 8, 8, 8, 8, 8, 8, 8, 8, 8, 8, 8, 8, 8, 8, 8, 8, 8, 8, 8, 8, 8, 8, 8, 8, 8, 8, 8, 8, 8, 8, 8, 8, 8, 8, 8, 8, 8, 8, 8, 8, 8, 8, 8, 8, 8, 8, 8, 8, 8, 8, 8, 8, 8, 8, 8, 8, 8, 8, 8, 8, 8, 8, 8, 8, 8, 8, 8, 8, 8, 8, 8, 8, 8, 8, 8, 8, 8, 8, 8, 8, 8, 8, 8, 8, 8, 8, 8, 8, 8, 8, 8, 8, 8, 8, 8, 8, 8, 8, 8, 8, 8, 8, 8, 8, 8, 8, 8, 8, 8, 8, 8, 8, 8, 8, 8, 8, 8, 8, 8]⟩ : ByteArray) (ji15)))))) else (none)) else (none)) = some r := by first | (rw [hji15] at H; exact H) | (simp only [hji15] at H ⊢; exact H)
     by_cases c16 : 0 ≤ (ji15)
     ·
      rw [if_pos c16] at H
      have c16b0 : decide (0 ≤ (ji15)) = true := decide_eq_true c16
      clear c16
      by_cases c17 : (ji15) < 256
      ·
       rw [if_pos c17] at H
       have c17b0 : decide ((ji15) < 256) = true := decide_eq_true c17
       clear c17
       obtain rfl := Option.some.inj H
       have p18 : 0 ≤ ((ji15) : Int) := od_ (by first | (with_reducible assumption) | assumption)
       have q18 : (ji15) < (256 : Int) := od_ (by first | (with_reducible assumption) | assumption)
       have hx18 := bt_at (⟨#[0, 1, 2, 2, 3, 3, 3, 3, 4, 4, 4, 4, 4, 4, 4, 4, 5, 5, 5, 5, 5, 5, 5, 5, 5, 5, 5, 5, 5, 5, 5, 5, 6, 6, 6, 6, 6, 6, 6, 6, 6, 6, 6, 6, 6, 6, 6, 6, 6, 6, 6, 6, 6, 6, 6, 6, 6, 6, 6, 6, 6, 6, 6, 6, 7, 7, 7, 7, 7, 7, 7, 7, 7, 7, 7, 7, 7, 7, 7, 7, 7, 7, 7, 7, 7, 7, 7, 7, 7, 7, 7, 7, 7, 7, 7, 7, 7, 7, 7, 7, 7, 7, 7, 7, 7, 7, 7, 7, 7, 7, 7, 7, 7, 7, 7, 7, 7, 7, 7, 7, 7, 7, 7, 7, 7, 7, 7, 7, 8, 8, 8, 8, 8, 8, 8, 8, 8, 8, 8, 8, 8, 8, 8, 8, 8, 8, 8, 8, 8, 8, 8, 8, 8, 8, 8, 8, 8, 8, 8, 8, 8, 8, 8, 8, 8, 8, 8, 8, 8, 8, 8, 8, 8, 8, 8, 8, 8, 8, 8, 8, 8, 8, 8, 8, 8, 8, 8, 8, 8, 8, 8, 8, 8, 8, 8, 8, 8, 8, 8, 8, 8, 8, 8, 8, 8, 8, 8, 8, 8, 8, 8, 8, 8, 8, 8, 8, 8, 8, 8, 8, 8, 8, 8, 8, 8, 8, 8, 8, 8, 8, 8, 8, 8, 8, 8, 8, 8, 8, 8, 8, 8, 8, 8, 8, 8, 8, 8, 8, 8, 8, 8, 8, 8, 8, 8, 8]⟩ : ByteArray) (ji15)
       replace p18 := eq_true p18
       replace q18 := eq_true q18
       go_wp2
       go_ret
       exact ⟨by first | rfl | (simp; done) | (simp only [← hji15] <;> (first | rfl | simp)) | (simp [*]; done), by repeat (first | exact Drawn0.refl _ | apply Drawn0.step)⟩
      ·
       rw [if_neg c17] at H
       exact absurd H (by simp)
     ·
      rw [if_neg c16] at H
      exact absurd H (by simp)
    ·
     rw [if_neg c14] at H
     have c14b0 : decide (256 ≤ x0_1) = false := decide_eq_false c14
     clear c14
     obtain ⟨ji19, hji19⟩ : ∃ j_ : Int, ((x0_1) % 256) = j_ := ⟨_, rfl⟩
     replace H : (if 0 ≤ (ji19) then (if (ji19) < 256 then (some (wrap64 (x2_1 + (wrap64 (bt (⟨#[0, 1, 2, 2, 3, 3, 3, 3, 4, 4, 4, 4, 4, 4, 4, 4, 5, 5, 5, 5, 5, 5, 5, 5, 5, 5, 5, 5, 5, 5, 5, 5, 6, 6, 6, 6, 6, 6, 6, 6, 6, 6, 6, 6, 6, 6, 6, 6, 6, 6, 6, 6, 6, 6, 6, 6, 6, 6, 6, 6, 6, 6, 6, 6, 7, 7, 7, 7, 7, 7, 7, 7, 7, 7, 7, 7, 7, 7, 7, 7, 7, 7, 7, 7, 7, 7, 7, 7, 7, 7, 7, 7, 7, 7, 7, 7, 7, 7, 7, 7, 7, 7, 7, 7, 7, 7, 7, 7, 7, 7, 7, 7, 7, 7, 7, 7, 7, 7, 7, 7, 7, 7, 7, 7, 7, 7, 7, 7, 8, 8, 8, 8, 8, 8, 8, 8, 8, 8, 8, 8, 8, 8, 8, 8, 8, 8, 8, 8, 8, 8, 8, 8, 8, 8, 8, 8, 8, 8, 8, 8, 8, 8, 8, 8, 8, 8, 8, 8, 8, 8, 8, 8, 8, 8, 8, 8, 8, 8, 8, 8, 8, 8, 8, 8, 8, 8, 8, 8, 8, 8, 8, 8, 8, 8, 8, 8, 8, 8, 8, 8, 8, 8, 8, 8, 8, 8, 8, 8, 8, 8, 8, 8, 8, 8, 8, 8, 8, 8, 8, 8, 8, 8, 8, 8, 8, 8, 8, 8, 8, 8, 8, 8, 8, 8, 8, 8, 8, 8, 8, 8, 8, 8, 8, 8, 8, 8, 8, 8, 8, 8, 8, 8, 8, 8, 8, 8]⟩ : ByteArray) (ji19)))))) else (none)) else (none)) = some r := by first | (rw [hji19] at H; exact H) | (simp only [hji19] at H ⊢; exact H)
     by_cases c20 : 0 ≤ (ji19)
     ·
      rw [if_pos c20] at H
      have c20b0 : decide (0 ≤ (ji19)) = true := decide_eq_true c20
      clear c20
      by_cases c21 : (ji19) < 256
      ·
       rw [if_pos c21] at H
       have c21b0 : decide ((ji19) < 256) = true := decide_eq_true c21
       clear c21
       obtain rfl := Option.some.inj H
       have p22 : 0 ≤ ((ji19) : Int) := od_ (by first | (with_reducible assumption) | assumption)
       have q22 : (ji19) < (256 : Int) := od_ (by first | (with_reducible assumption) | assumption)
       have hx22 := bt_at (⟨#[0, 1, 2, 2, 3, 3, 3, 3, 4, 4, 4, 4, 4, 4, 4, 4, 5, 5, 5, 5, 5, 5, 5, 5, 5, 5, 5, 5, 5, 5, 5, 5, 6, 6, 6, 6, 6, 6, 6, 6, 6, 6, 6, 6, 6, 6, 6, 6, 6, 6, 6, 6, 6, 6, 6, 6, 6, 6, 6, 6, 6, 6, 6, 6, 7, 7, 7, 7, 7, 7, 7, 7, 7, 7, 7, 7, 7, 7, 7, 7, 7, 7, 7, 7, 7, 7, 7, 7, 7, 7, 7, 7, 7, 7, 7, 7, 7, 7, 7, 7, 7, 7, 7, 7, 7, 7, 7, 7, 7, 7, 7, 7, 7, 7, 7, 7, 7, 7, 7, 7, 7, 7, 7, 7, 7, 7, 7, 7, 8, 8, 8, 8, 8, 8, 8, 8, 8, 8, 8, 8, 8, 8, 8, 8, 8, 8, 8, 8, 8, 8, 8, 8, 8, 8, 8, 8, 8, 8, 8, 8, 8, 8, 8, 8, 8, 8, 8, 8, 8, 8, 8, 8, 8, 8, 8, 8, 8, 8, 8, 8, 8, 8, 8, 8, 8, 8, 8, 8, 8, 8, 8, 8, 8, 8, 8, 8, 8, 8, 8, 8, 8, 8, 8, 8, 8, 8, 8, 8, 8, 8, 8, 8, 8, 8, 8, 8, 8, 8, 8, 8, 8, 8, 8, 8, 8, 8, 8, 8, 8, 8, 8, 8, 8, 8, 8, 8, 8, 8, 8, 8, 8, 8, 8, 8, 8, 8, 8, 8, 8, 8, 8, 8, 8, 8, 8, 8]⟩ : ByteArray) (ji19)
       replace p22 := eq_true p22
       replace q22 := eq_true q22
       go_wp2
       go_ret
       exact ⟨by first | rfl | (simp; done) | (simp only [← hji19] <;> (first | rfl | simp)) | (simp [*]; done), by repeat (first | exact Drawn0.refl _ | apply Drawn0.step)⟩
      ·
       rw [if_neg c21] at H
       exact absurd H (by simp)
     ·
      rw [if_neg c20] at H
      exact absurd H (by simp)
end Go.Proofs.Ytjbcigiffihjaaa.Fx
end
section
namespace Go.Proofs.Ytjbcigiffihjaaa.Fx
open Go.RowKit Go.Proofs.YtjbcigiffihjaaaW.PrintWords Go.Proofs.YtjbcigiffihjaaaW.PrintLast Go.Proofs.YtjbcigiffihjaaaW.PrintMore
attribute [local go_sem] max2_int min2_int max_two min_two max_three min_three max_four min_four   -- for this text's walks alone
set_option linter.unusedVariables false
set_option linter.unusedSimpArgs false
attribute [local go_sem] run_add64_any
def bits_LeadingZeros64.f (k : Nat) (a0 : Int) : Option (Int) := (bits_Len64.f k a0).bind fun t103 => (some (wrap64 (64 - t103)))
set_option maxHeartbeats 8000000 in
set_option maxRecDepth 100000 in
theorem bits_LeadingZeros64.calls (k : Nat) (a0 : Int) (r : Int) (w : World) (h : bits_LeadingZeros64.f k a0 = some r) :
  Calls Try.prog 60 #[.int .u64 a0] w fun e w' => e = .returned (.int .i64 r) ∧ Drawn0 w w' := by
 have H : ((bits_Len64.f k a0).bind fun t103 => (some (wrap64 (64 - t103)))) = some r := h
 clear h
 replace H := os_ H
 obtain ⟨t103, A20, H⟩ := H
 replace H : (some (wrap64 (64 - t103))) = some r := H
 have A2 := A_ A20
 clear A20
 obtain rfl := Option.some.inj H
 go_enter Try.func60, Try.ntmps60
 go_wp2_with (((with_reducible refine gate_callee (f := 64) rfl ?_); refine goesL_ (some 4) rfl rfl Try.func64 (by kernel_rfl) rfl #[.int .u64 a0] rfl (by (try simp only [List.map_toArray, List.map_cons, List.map_nil]); first | done | rfl | (simp only [List.length_drop, List.length_take]; rfl)) ?_; (with_reducible refine (bits_Len64.calls k a0 t103 _ A2.out).mono ?_); rintro e w' ⟨rfl, ⟨nd, rfl⟩⟩; refine ⟨_, rfl, ?_⟩))
 go_ret
 exact ⟨by first | rfl | (simp; done) | (simp [*]; done), by repeat (first | exact Drawn0.refl _ | apply Drawn0.step)⟩
end Go.Proofs.Ytjbcigiffihjaaa.Fx
end
section
namespace Go.Proofs.Ytjbcigiffihjaaa.Fx
open Go.RowKit Go.Proofs.YtjbcigiffihjaaaW.PrintWords Go.Proofs.YtjbcigiffihjaaaW.PrintLast Go.Proofs.YtjbcigiffihjaaaW.PrintMore
attribute [local go_sem] max2_int min2_int max_two min_two max_three min_three max_four min_four   -- for this text's walks alone
set_option linter.unusedVariables false
set_option linter.unusedSimpArgs false
attribute [local go_sem] run_add64_any
mutual
def bits_Div64.j2 : Nat → Int → Int → Int → Int → Int → Int → Int → Int → Option (Int × Int)
 | 0, _, _, _, _, _, _, _, _ => none
 | k + 1, x2, x8, x9, x10, x11, x13, x14, x15 => if x9 = 0 then (none) else (bits_Div64.l1 k x2 x8 x9 x10 x14 x15 (IntKind.u64.wrap ((IntKind.u64.wrap ((IntKind.u64.wrap ((IntKind.u64.wrap (x11 * 4294967296)) + x13)) - (IntKind.u64.wrap (x15 * x2)))) - (IntKind.u64.wrap ((IntKind.u64.wrap (Int.tdiv (IntKind.u64.wrap ((IntKind.u64.wrap ((IntKind.u64.wrap (x11 * 4294967296)) + x13)) - (IntKind.u64.wrap (x15 * x2)))) x9)) * x9)))) (IntKind.u64.wrap ((IntKind.u64.wrap ((IntKind.u64.wrap (x11 * 4294967296)) + x13)) - (IntKind.u64.wrap (x15 * x2)))) (IntKind.u64.wrap (Int.tdiv (IntKind.u64.wrap ((IntKind.u64.wrap ((IntKind.u64.wrap (x11 * 4294967296)) + x13)) - (IntKind.u64.wrap (x15 * x2)))) x9)))
def bits_Div64.l1 : Nat → Int → Int → Int → Int → Int → Int → Int → Int → Int → Option (Int × Int)
 | 0, _, _, _, _, _, _, _, _, _ => none
 | k + 1, x2, x8, x9, x10, x14, x15, x16, x17, x18 => if x18 ≥ 4294967296 then (bits_Div64.j4 k x2 x8 x9 x10 x14 x15 x16 x17 x18 true) else (bits_Div64.j4 k x2 x8 x9 x10 x14 x15 x16 x17 x18 (decide ((IntKind.u64.wrap (x18 * x10)) > (IntKind.u64.wrap ((IntKind.u64.wrap (4294967296 * x16)) + x14)))))
def bits_Div64.j4 : Nat → Int → Int → Int → Int → Int → Int → Int → Int → Int → Bool → Option (Int × Int)
 | 0, _, _, _, _, _, _, _, _, _, _ => none
 | k + 1, x2, x8, x9, x10, x14, x15, x16, x17, x18, x113 => if x113 = true then (if (IntKind.u64.wrap (x16 + x9)) ≥ 4294967296 then (if 0 ≤ x8 then (some (IntKind.u64.wrap ((IntKind.u64.wrap (x15 * 4294967296)) + (IntKind.u64.wrap (x18 - 1))), shr .u64 (IntKind.u64.wrap ((IntKind.u64.wrap ((IntKind.u64.wrap (x17 * 4294967296)) + x14)) - (IntKind.u64.wrap ((IntKind.u64.wrap (x18 - 1)) * x2)))) x8)) else (none)) else (bits_Div64.l1 k x2 x8 x9 x10 x14 x15 (IntKind.u64.wrap (x16 + x9)) x17 (IntKind.u64.wrap (x18 - 1)))) else (if 0 ≤ x8 then (some (IntKind.u64.wrap ((IntKind.u64.wrap (x15 * 4294967296)) + x18), shr .u64 (IntKind.u64.wrap ((IntKind.u64.wrap ((IntKind.u64.wrap (x17 * 4294967296)) + x14)) - (IntKind.u64.wrap (x18 * x2)))) x8)) else (none))
def bits_Div64.l0 : Nat → Int → Int → Int → Int → Int → Int → Int → Int → Int → Option (Int × Int)
 | 0, _, _, _, _, _, _, _, _, _ => none
 | k + 1, x2, x8, x9, x10, x11, x13, x14, x15, x16 => if x15 ≥ 4294967296 then (bits_Div64.j1 k x2 x8 x9 x10 x11 x13 x14 x15 x16 true) else (bits_Div64.j1 k x2 x8 x9 x10 x11 x13 x14 x15 x16 (decide ((IntKind.u64.wrap (x15 * x10)) > (IntKind.u64.wrap ((IntKind.u64.wrap (4294967296 * x16)) + x13)))))
def bits_Div64.j1 : Nat → Int → Int → Int → Int → Int → Int → Int → Int → Int → Bool → Option (Int × Int)
 | 0, _, _, _, _, _, _, _, _, _, _ => none
 | k + 1, x2, x8, x9, x10, x11, x13, x14, x15, x16, x78 => if x78 = true then (if (IntKind.u64.wrap (x16 + x9)) ≥ 4294967296 then (bits_Div64.j2 k x2 x8 x9 x10 x11 x13 x14 (IntKind.u64.wrap (x15 - 1))) else (bits_Div64.l0 k x2 x8 x9 x10 x11 x13 x14 (IntKind.u64.wrap (x15 - 1)) (IntKind.u64.wrap (x16 + x9)))) else (bits_Div64.j2 k x2 x8 x9 x10 x11 x13 x14 x15)
end
def bits_Div64.f (k : Nat) (a0 : Int) (a1 : Int) (a2 : Int) : Option (Int × Int) := if a2 = 0 then (none) else (if a2 ≤ a0 then (none) else (if a0 = 0 then (some (IntKind.u64.wrap (Int.tdiv a1 a2), Int.tmod a1 a2)) else ((bits_LeadingZeros64.f k a2).bind fun t104 => (if 0 ≤ (IntKind.u64.wrap (t104)) then (if 0 ≤ (IntKind.u64.wrap (64 - (IntKind.u64.wrap (t104)))) then (if ((shl .u64 a2 (IntKind.u64.wrap (t104))) / 4294967296) = 0 then (none) else (bits_Div64.l0 k (shl .u64 a2 (IntKind.u64.wrap (t104))) (IntKind.u64.wrap (t104)) ((shl .u64 a2 (IntKind.u64.wrap (t104))) / 4294967296) (Go.bits .and .u64 (shl .u64 a2 (IntKind.u64.wrap (t104))) 4294967295) (Go.bits .or .u64 (shl .u64 a0 (IntKind.u64.wrap (t104))) (shr .u64 a1 (IntKind.u64.wrap (64 - (IntKind.u64.wrap (t104)))))) ((shl .u64 a1 (IntKind.u64.wrap (t104))) / 4294967296) (Go.bits .and .u64 (shl .u64 a1 (IntKind.u64.wrap (t104))) 4294967295) (IntKind.u64.wrap (Int.tdiv (Go.bits .or .u64 (shl .u64 a0 (IntKind.u64.wrap (t104))) (shr .u64 a1 (IntKind.u64.wrap (64 - (IntKind.u64.wrap (t104)))))) ((shl .u64 a2 (IntKind.u64.wrap (t104))) / 4294967296))) (IntKind.u64.wrap ((Go.bits .or .u64 (shl .u64 a0 (IntKind.u64.wrap (t104))) (shr .u64 a1 (IntKind.u64.wrap (64 - (IntKind.u64.wrap (t104)))))) - (IntKind.u64.wrap ((IntKind.u64.wrap (Int.tdiv (Go.bits .or .u64 (shl .u64 a0 (IntKind.u64.wrap (t104))) (shr .u64 a1 (IntKind.u64.wrap (64 - (IntKind.u64.wrap (t104)))))) ((shl .u64 a2 (IntKind.u64.wrap (t104))) / 4294967296))) * ((shl .u64 a2 (IntKind.u64.wrap (t104))) / 4294967296))))))) else (none)) else (none)))))
set_option maxHeartbeats 8000000 in
set_option maxRecDepth 100000 in
theorem bits_Div64.calls (k : Nat) (a0 : Int) (a1 : Int) (a2 : Int) (r1 : Int) (r2 : Int) (w : World) (h : bits_Div64.f k a0 a1 a2 = some (r1, r2)) :
  Calls Try.prog 36 #[.int .u64 a0, .int .u64 a1, .int .u64 a2] w fun e w' => e = .returned (.tuple #[.int .u64 r1, .int .u64 r2]) ∧ Drawn0 w w' := by
 have H : (if a2 = 0 then (none) else (if a2 ≤ a0 then (none) else (if a0 = 0 then (some (IntKind.u64.wrap (Int.tdiv a1 a2), Int.tmod a1 a2)) else ((bits_LeadingZeros64.f k a2).bind fun t104 => (if 0 ≤ (IntKind.u64.wrap (t104)) then (if 0 ≤ (IntKind.u64.wrap (64 - (IntKind.u64.wrap (t104)))) then (if ((shl .u64 a2 (IntKind.u64.wrap (t104))) / 4294967296) = 0 then (none) else (bits_Div64.l0 k (shl .u64 a2 (IntKind.u64.wrap (t104))) (IntKind.u64.wrap (t104)) ((shl .u64 a2 (IntKind.u64.wrap (t104))) / 4294967296) (Go.bits .and .u64 (shl .u64 a2 (IntKind.u64.wrap (t104))) 4294967295) (Go.bits .or .u64 (shl .u64 a0 (IntKind.u64.wrap (t104))) (shr .u64 a1 (IntKind.u64.wrap (64 - (IntKind.u64.wrap (t104)))))) ((shl .u64 a1 (IntKind.u64.wrap (t104))) / 4294967296) (Go.bits .and .u64 (shl .u64 a1 (IntKind.u64.wrap (t104))) 4294967295) (IntKind.u64.wrap (Int.tdiv (Go.bits .or .u64 (shl .u64 a0 (IntKind.u64.wrap (t104))) (shr .u64 a1 (IntKind.u64.wrap (64 - (IntKind.u64.wrap (t104)))))) ((shl .u64 a2 (IntKind.u64.wrap (t104))) / 4294967296))) (IntKind.u64.wrap ((Go.bits .or .u64 (shl .u64 a0 (IntKind.u64.wrap (t104))) (shr .u64 a1 (IntKind.u64.wrap (64 - (IntKind.u64.wrap (t104)))))) - (IntKind.u64.wrap ((IntKind.u64.wrap (Int.tdiv (Go.bits .or .u64 (shl .u64 a0 (IntKind.u64.wrap (t104))) (shr .u64 a1 (IntKind.u64.wrap (64 - (IntKind.u64.wrap (t104)))))) ((shl .u64 a2 (IntKind.u64.wrap (t104))) / 4294967296))) * ((shl .u64 a2 (IntKind.u64.wrap (t104))) / 4294967296))))))) else (none)) else (none)))))) = some (r1, r2) := h
 clear h
 by_cases c4 : a2 = 0
 ·
  rw [if_pos c4] at H
  exact absurd H (by simp)
 ·
  rw [if_neg c4] at H
  have c4b0 : (a2 == 0) = false := q4_ c4
  have c4b1 : (a2 != 0) = true := q2_ c4
  by_cases c5 : a2 ≤ a0
  ·
   rw [if_pos c5] at H
   exact absurd H (by simp)
  ·
   rw [if_neg c5] at H
   have c5b0 : decide (a2 ≤ a0) = false := decide_eq_false c5
   clear c5
   by_cases c6 : a0 = 0
   ·
    rw [if_pos c6] at H
    have c6b0 : (a0 == 0) = true := q1_ c6
    have c6b1 : (a0 != 0) = false := q3_ c6
    clear c6
    simp only [Option.some.injEq, Prod.mk.injEq] at H
    obtain ⟨rfl, rfl⟩ := H
    go_enter Try.func36, Try.ntmps36
    go_wp2
    repeat (go_quiet (fail); try go_wp2)
    go_ret2
    exact ⟨by first | rfl | (simp; done) | (simp [*]; done), by repeat (first | exact Drawn0.refl _ | apply Drawn0.step)⟩
   ·
    rw [if_neg c6] at H
    have c6b0 : (a0 == 0) = false := q4_ c6
    have c6b1 : (a0 != 0) = true := q2_ c6
    replace H := os_ H
    obtain ⟨t104, A70, H⟩ := H
    replace H : (if 0 ≤ (IntKind.u64.wrap (t104)) then (if 0 ≤ (IntKind.u64.wrap (64 - (IntKind.u64.wrap (t104)))) then (if ((shl .u64 a2 (IntKind.u64.wrap (t104))) / 4294967296) = 0 then (none) else (bits_Div64.l0 k (shl .u64 a2 (IntKind.u64.wrap (t104))) (IntKind.u64.wrap (t104)) ((shl .u64 a2 (IntKind.u64.wrap (t104))) / 4294967296) (Go.bits .and .u64 (shl .u64 a2 (IntKind.u64.wrap (t104))) 4294967295) (Go.bits .or .u64 (shl .u64 a0 (IntKind.u64.wrap (t104))) (shr .u64 a1 (IntKind.u64.wrap (64 - (IntKind.u64.wrap (t104)))))) ((shl .u64 a1 (IntKind.u64.wrap (t104))) / 4294967296) (Go.bits .and .u64 (shl .u64 a1 (IntKind.u64.wrap (t104))) 4294967295) (IntKind.u64.wrap (Int.tdiv (Go.bits .or .u64 (shl .u64 a0 (IntKind.u64.wrap (t104))) (shr .u64 a1 (IntKind.u64.wrap (64 - (IntKind.u64.wrap (t104)))))) ((shl .u64 a2 (IntKind.u64.wrap (t104))) / 4294967296))) (IntKind.u64.wrap ((Go.bits .or .u64 (shl .u64 a0 (IntKind.u64.wrap (t104))) (shr .u64 a1 (IntKind.u64.wrap (64 - (IntKind.u64.wrap (t104)))))) - (IntKind.u64.wrap ((IntKind.u64.wrap (Int.tdiv (Go.bits .or .u64 (shl .u64 a0 (IntKind.u64.wrap (t104))) (shr .u64 a1 (IntKind.u64.wrap (64 - (IntKind.u64.wrap (t104)))))) ((shl .u64 a2 (IntKind.u64.wrap (t104))) / 4294967296))) * ((shl .u64 a2 (IntKind.u64.wrap (t104))) / 4294967296))))))) else (none)) else (none)) = some (r1, r2) := H
    have A7 := A_ A70
    clear A70
    obtain ⟨ji8, hji8⟩ : ∃ j_ : Int, (IntKind.u64.wrap (t104)) = j_ := ⟨_, rfl⟩
    replace H : (if 0 ≤ (ji8) then (if 0 ≤ (IntKind.u64.wrap (64 - (ji8))) then (if ((shl .u64 a2 (ji8)) / 4294967296) = 0 then (none) else (bits_Div64.l0 k (shl .u64 a2 (ji8)) ji8 ((shl .u64 a2 (ji8)) / 4294967296) (Go.bits .and .u64 (shl .u64 a2 (ji8)) 4294967295) (Go.bits .or .u64 (shl .u64 a0 (ji8)) (shr .u64 a1 (IntKind.u64.wrap (64 - (ji8))))) ((shl .u64 a1 (ji8)) / 4294967296) (Go.bits .and .u64 (shl .u64 a1 (ji8)) 4294967295) (IntKind.u64.wrap (Int.tdiv (Go.bits .or .u64 (shl .u64 a0 (ji8)) (shr .u64 a1 (IntKind.u64.wrap (64 - (ji8))))) ((shl .u64 a2 (ji8)) / 4294967296))) (IntKind.u64.wrap ((Go.bits .or .u64 (shl .u64 a0 (ji8)) (shr .u64 a1 (IntKind.u64.wrap (64 - (ji8))))) - (IntKind.u64.wrap ((IntKind.u64.wrap (Int.tdiv (Go.bits .or .u64 (shl .u64 a0 (ji8)) (shr .u64 a1 (IntKind.u64.wrap (64 - (ji8))))) ((shl .u64 a2 (ji8)) / 4294967296))) * ((shl .u64 a2 (ji8)) / 4294967296))))))) else (none)) else (none)) = some (r1, r2) := by first | (rw [hji8] at H; exact H) | (simp only [hji8] at H ⊢; exact H)
    (try rw [hji8] at A7)
    by_cases c9 : 0 ≤ (ji8)
    ·
     rw [if_pos c9] at H
     have c9b0 := eq_true c9
     have c9b1 : decide (0 ≤ (ji8)) = true := decide_eq_true c9
     clear c9
     obtain ⟨ji10, hji10⟩ : ∃ j_ : Int, (shl .u64 a2 (ji8)) = j_ := ⟨_, rfl⟩
     replace H : (if 0 ≤ (IntKind.u64.wrap (64 - (ji8))) then (if ((ji10) / 4294967296) = 0 then (none) else (bits_Div64.l0 k ji10 ji8 ((ji10) / 4294967296) (Go.bits .and .u64 (ji10) 4294967295) (Go.bits .or .u64 (shl .u64 a0 (ji8)) (shr .u64 a1 (IntKind.u64.wrap (64 - (ji8))))) ((shl .u64 a1 (ji8)) / 4294967296) (Go.bits .and .u64 (shl .u64 a1 (ji8)) 4294967295) (IntKind.u64.wrap (Int.tdiv (Go.bits .or .u64 (shl .u64 a0 (ji8)) (shr .u64 a1 (IntKind.u64.wrap (64 - (ji8))))) ((ji10) / 4294967296))) (IntKind.u64.wrap ((Go.bits .or .u64 (shl .u64 a0 (ji8)) (shr .u64 a1 (IntKind.u64.wrap (64 - (ji8))))) - (IntKind.u64.wrap ((IntKind.u64.wrap (Int.tdiv (Go.bits .or .u64 (shl .u64 a0 (ji8)) (shr .u64 a1 (IntKind.u64.wrap (64 - (ji8))))) ((ji10) / 4294967296))) * ((ji10) / 4294967296))))))) else (none)) = some (r1, r2) := by first | (rw [hji10] at H; exact H) | (simp only [hji10] at H ⊢; exact H)
     (try rw [hji10] at A7)
     have hji10_ : (IntKind.u64.wrap (a2 * 2 ^ min (ji8).toNat 64)) = ji10 := hji10
     have hji10z : (ji8) ≤ 64 → (IntKind.u64.wrap (a2 * 2 ^ (ji8).toNat)) = ji10 := shl_small hji10
     have c11b0 := eq_true (od_ (by first | (with_reducible assumption) | assumption) : 0 ≤ (ji8))
     obtain ⟨ji12, hji12⟩ : ∃ j_ : Int, (shl .u64 a0 (ji8)) = j_ := ⟨_, rfl⟩
     replace H : (if 0 ≤ (IntKind.u64.wrap (64 - (ji8))) then (if ((ji10) / 4294967296) = 0 then (none) else (bits_Div64.l0 k ji10 ji8 ((ji10) / 4294967296) (Go.bits .and .u64 (ji10) 4294967295) (Go.bits .or .u64 (ji12) (shr .u64 a1 (IntKind.u64.wrap (64 - (ji8))))) ((shl .u64 a1 (ji8)) / 4294967296) (Go.bits .and .u64 (shl .u64 a1 (ji8)) 4294967295) (IntKind.u64.wrap (Int.tdiv (Go.bits .or .u64 (ji12) (shr .u64 a1 (IntKind.u64.wrap (64 - (ji8))))) ((ji10) / 4294967296))) (IntKind.u64.wrap ((Go.bits .or .u64 (ji12) (shr .u64 a1 (IntKind.u64.wrap (64 - (ji8))))) - (IntKind.u64.wrap ((IntKind.u64.wrap (Int.tdiv (Go.bits .or .u64 (ji12) (shr .u64 a1 (IntKind.u64.wrap (64 - (ji8))))) ((ji10) / 4294967296))) * ((ji10) / 4294967296))))))) else (none)) = some (r1, r2) := by first | (rw [hji12] at H; exact H) | (simp only [hji12] at H ⊢; exact H)
     (try rw [hji12] at A7)
     have hji12_ : (IntKind.u64.wrap (a0 * 2 ^ min (ji8).toNat 64)) = ji12 := hji12
     have hji12z : (ji8) ≤ 64 → (IntKind.u64.wrap (a0 * 2 ^ (ji8).toNat)) = ji12 := shl_small hji12
     obtain ⟨ji13, hji13⟩ : ∃ j_ : Int, (IntKind.u64.wrap (64 - (ji8))) = j_ := ⟨_, rfl⟩
     replace H : (if 0 ≤ (ji13) then (if ((ji10) / 4294967296) = 0 then (none) else (bits_Div64.l0 k ji10 ji8 ((ji10) / 4294967296) (Go.bits .and .u64 (ji10) 4294967295) (Go.bits .or .u64 (ji12) (shr .u64 a1 (ji13))) ((shl .u64 a1 (ji8)) / 4294967296) (Go.bits .and .u64 (shl .u64 a1 (ji8)) 4294967295) (IntKind.u64.wrap (Int.tdiv (Go.bits .or .u64 (ji12) (shr .u64 a1 (ji13))) ((ji10) / 4294967296))) (IntKind.u64.wrap ((Go.bits .or .u64 (ji12) (shr .u64 a1 (ji13))) - (IntKind.u64.wrap ((IntKind.u64.wrap (Int.tdiv (Go.bits .or .u64 (ji12) (shr .u64 a1 (ji13))) ((ji10) / 4294967296))) * ((ji10) / 4294967296))))))) else (none)) = some (r1, r2) := by first | (rw [hji13] at H; exact H) | (simp only [hji13] at H ⊢; exact H)
     (try rw [hji13] at A7)
     by_cases c14 : 0 ≤ (ji13)
     ·
      rw [if_pos c14] at H
      have c14b0 := eq_true c14
      have c14b1 : decide (0 ≤ (ji13)) = true := decide_eq_true c14
      clear c14
      obtain ⟨ji15, hji15⟩ : ∃ j_ : Int, (shr .u64 a1 (ji13)) = j_ := ⟨_, rfl⟩
      replace H : (if ((ji10) / 4294967296) = 0 then (none) else (bits_Div64.l0 k ji10 ji8 ((ji10) / 4294967296) (Go.bits .and .u64 (ji10) 4294967295) (Go.bits .or .u64 (ji12) (ji15)) ((shl .u64 a1 (ji8)) / 4294967296) (Go.bits .and .u64 (shl .u64 a1 (ji8)) 4294967295) (IntKind.u64.wrap (Int.tdiv (Go.bits .or .u64 (ji12) (ji15)) ((ji10) / 4294967296))) (IntKind.u64.wrap ((Go.bits .or .u64 (ji12) (ji15)) - (IntKind.u64.wrap ((IntKind.u64.wrap (Int.tdiv (Go.bits .or .u64 (ji12) (ji15)) ((ji10) / 4294967296))) * ((ji10) / 4294967296))))))) = some (r1, r2) := by first | (rw [hji15] at H; exact H) | (simp only [hji15] at H ⊢; exact H)
      (try rw [hji15] at A7)
      have hji15_ : (a1 / 2 ^ min (ji13).toNat 64) = ji15 := hji15
      have hji15z : (ji13) ≤ 64 → (a1 / 2 ^ (ji13).toNat) = ji15 := shr_small hji15
      have c16b0 := eq_true (od_ (by first | (with_reducible assumption) | assumption) : 0 ≤ (ji8))
      obtain ⟨ji17, hji17⟩ : ∃ j_ : Int, (shl .u64 a1 (ji8)) = j_ := ⟨_, rfl⟩
      replace H : (if ((ji10) / 4294967296) = 0 then (none) else (bits_Div64.l0 k ji10 ji8 ((ji10) / 4294967296) (Go.bits .and .u64 (ji10) 4294967295) (Go.bits .or .u64 (ji12) (ji15)) ((ji17) / 4294967296) (Go.bits .and .u64 (ji17) 4294967295) (IntKind.u64.wrap (Int.tdiv (Go.bits .or .u64 (ji12) (ji15)) ((ji10) / 4294967296))) (IntKind.u64.wrap ((Go.bits .or .u64 (ji12) (ji15)) - (IntKind.u64.wrap ((IntKind.u64.wrap (Int.tdiv (Go.bits .or .u64 (ji12) (ji15)) ((ji10) / 4294967296))) * ((ji10) / 4294967296))))))) = some (r1, r2) := by first | (rw [hji17] at H; exact H) | (simp only [hji17] at H ⊢; exact H)
      (try rw [hji17] at A7)
      have hji17_ : (IntKind.u64.wrap (a1 * 2 ^ min (ji8).toNat 64)) = ji17 := hji17
      have hji17z : (ji8) ≤ 64 → (IntKind.u64.wrap (a1 * 2 ^ (ji8).toNat)) = ji17 := shl_small hji17
      by_cases c18 : ((ji10) / 4294967296) = 0
      ·
       rw [if_pos c18] at H
       exact absurd H (by simp)
      ·
       rw [if_neg c18] at H
       have c18b0 : (((ji10) / 4294967296) == 0) = false := q4_ c18
       have c18b1 : (((ji10) / 4294967296) != 0) = true := q2_ c18
       have HC19 := A_ H
       clear H
       go_enter Try.func36, Try.ntmps36
       go_upto_block 0 with (first | (go_at_call 60; (with_reducible refine (bits_LeadingZeros64.calls k a2 t104 _ A7.out).mono ?_); rintro e w' ⟨rfl, ⟨nd, rfl⟩⟩; (try first | exact ⟨rfl, _, dd_ _ _ _⟩ | exact ⟨rfl, _, Eq.trans (dd_ _ _ _) (congrArg (World.drewN _) (Nat.add_assoc _ _ _))⟩)))
       repeat (go_quiet (fail); go_upto_block 0 with (first | (go_at_call 60; (with_reducible refine (bits_LeadingZeros64.calls k a2 t104 _ A7.out).mono ?_); rintro e w' ⟨rfl, ⟨nd, rfl⟩⟩; (try first | exact ⟨rfl, _, dd_ _ _ _⟩ | exact ⟨rfl, _, Eq.trans (dd_ _ _ _) (congrArg (World.drewN _) (Nat.add_assoc _ _ _))⟩))))
       (try simp only [Act.put, sA_, sZ_, sS_])
       go_cut [15] (fun v15 wc => ∃ (kq : Nat) (x15_18 : Int), v15 = .int .u64 x15_18 ∧ Aside0 (bits_Div64.j2 kq ji10 ji8 ((ji10) / 4294967296) (Go.bits .and .u64 (ji10) 4294967295) (Go.bits .or .u64 (ji12) (ji15)) ((ji17) / 4294967296) (Go.bits .and .u64 (ji17) 4294967295) x15_18 = some (r1, r2)) ∧ Aside0 (kq ≤ k) ∧ Drawn0 w wc)
       case first =>
        have H := HC19.out
        clear HC19
        have H' := A_ H
        clear H
        go_wp2
        repeat (go_quiet (fail); try go_wp2)
        (try simp only [Act.put, sA_, sZ_, sS_])
        go_loopg [15, 16] k (fun kq v15 v16 w' => ∃ (x15_1 : Int) (x16_1 : Int), v15 = .int .u64 x15_1 ∧ v16 = .int .u64 x16_1 ∧ Aside0 (bits_Div64.l0 kq ji10 ji8 ((ji10) / 4294967296) (Go.bits .and .u64 (ji10) 4294967295) (Go.bits .or .u64 (ji12) (ji15)) ((ji17) / 4294967296) (Go.bits .and .u64 (ji17) 4294967295) x15_1 x16_1 = some (r1, r2)) ∧ Aside0 (kq ≤ k) ∧ Drawn0 w w')
        case atStart => exact ⟨(IntKind.u64.wrap (Int.tdiv (Go.bits .or .u64 (ji12) (ji15)) ((ji10) / 4294967296))), (IntKind.u64.wrap ((Go.bits .or .u64 (ji12) (ji15)) - (IntKind.u64.wrap ((IntKind.u64.wrap (Int.tdiv (Go.bits .or .u64 (ji12) (ji15)) ((ji10) / 4294967296))) * ((ji10) / 4294967296))))), (by first | rfl | (simp; done) | (simp only [← hji10, ← hji12, ← hji15] <;> (first | rfl | simp)) | (simp [*]; done)), (by first | rfl | (simp; done) | (simp only [← hji10, ← hji12, ← hji15] <;> (first | rfl | simp)) | (simp [*]; done)), H', ⟨Nat.le_refl _⟩, by repeat (first | exact Drawn0.refl _ | apply Drawn0.step)⟩
        case round =>
         clear H'
         try clear c1
         try clear p2
         try clear c3
         try clear c4
         try clear c4b0
         try clear c4b1
         try clear c5
         try clear c5b0
         try clear c6
         try clear c6b0
         try clear c6b1
         try clear c9
         try clear c9b0
         try clear c9b1
         try clear c11
         try clear c11b0
         try clear c14
         try clear c14b0
         try clear c14b1
         try clear c16
         try clear c16b0
         try clear c18
         try clear c18b0
         try clear c18b1
         obtain ⟨x15_1, x16_1, rfl, rfl, HA, HK1, ⟨m1, rfl⟩⟩ := hrel
         cases gk with
         | zero => exact absurd HA.out (by simp [bits_Div64.l0])
         | succ k1 =>
          have H := HA.out
          clear HA
          simp only [bits_Div64.l0] at H
          have HC20 := A_ H
          clear H
          go_upto_region 17 with (fail)
          repeat (go_quiet (fail); go_upto_region 17 with (fail))
          go_cut [78] (fun v78 wc => ∃ (kq : Nat) (x78_19 : Bool), v78 = .bool x78_19 ∧ Aside0 (bits_Div64.j1 kq ji10 ji8 ((ji10) / 4294967296) (Go.bits .and .u64 (ji10) 4294967295) (Go.bits .or .u64 (ji12) (ji15)) ((ji17) / 4294967296) (Go.bits .and .u64 (ji17) 4294967295) x15_1 x16_1 x78_19 = some (r1, r2)) ∧ Aside0 (kq ≤ k1) ∧ Drawn0 w wc)
          case first =>
           have H := HC20.out
           clear HC20
           by_cases c21 : x15_1 ≥ 4294967296
           ·
            rw [if_pos c21] at H
            have c21b0 : decide (4294967296 ≤ x15_1) = true := decide_eq_true c21
            clear c21
            (first | rw [c21b0] | (simp only [i64_w, i32_w]; rw [c21b0]) | skip)
            have H' := A_ H
            clear H
            go_wp2
            repeat (go_quiet (fail); try go_wp2)
            go_meet
            case rel => exact ⟨_, (true), (by first | rfl | (simp; done) | (simp [*]; done)), H', ⟨by have := HK1.out; first | omega | exact Nat.le_refl _⟩, by repeat (first | exact Drawn0.refl _ | apply Drawn0.step)⟩
           ·
            rw [if_neg c21] at H
            have c21b0 : decide (4294967296 ≤ x15_1) = false := decide_eq_false c21
            clear c21
            (first | rw [c21b0] | (simp only [i64_w, i32_w]; rw [c21b0]) | skip)
            have H' := A_ H
            clear H
            go_wp2
            repeat (go_quiet (fail); try go_wp2)
            go_meet
            case rel => exact ⟨_, (decide ((IntKind.u64.wrap (x15_1 * (Go.bits .and .u64 (ji10) 4294967295))) > (IntKind.u64.wrap ((IntKind.u64.wrap (4294967296 * x16_1)) + ((ji17) / 4294967296))))), (by first | rfl | (simp; done) | (simp only [← hji10, ← hji17] <;> (first | rfl | simp)) | (simp [*]; done)), H', ⟨by have := HK1.out; first | omega | exact Nat.le_refl _⟩, by repeat (first | exact Drawn0.refl _ | apply Drawn0.step)⟩
          case rest =>
           clear HC20
           try clear c1
           try clear c2
           try clear p2
           try clear c3
           try clear c4
           try clear c4b0
           try clear c4b1
           try clear c5
           try clear c5b0
           try clear c6
           try clear c6b0
           try clear c6b1
           try clear c9
           try clear c9b0
           try clear c9b1
           try clear c11
           try clear c11b0
           try clear c14
           try clear c14b0
           try clear c14b1
           try clear c16
           try clear c16b0
           try clear c18
           try clear c18b0
           try clear c18b1
           try clear c21
           try clear c21b0
           try clear p2
           obtain ⟨kq, x78_19, rfl, HA, HJ19, ⟨mc19, rfl⟩⟩ := hcut
           cases kq with
           | zero => exact absurd HA.out (by simp [bits_Div64.j1])
           | succ kj19 =>
            have H := HA.out
            clear HA
            simp only [bits_Div64.j1] at H
            by_cases c22 : x78_19 = true
            ·
             subst c22
             have H1 : (if (IntKind.u64.wrap (x16_1 + ((ji10) / 4294967296))) ≥ 4294967296 then (bits_Div64.j2 kj19 ji10 ji8 ((ji10) / 4294967296) (Go.bits .and .u64 (ji10) 4294967295) (Go.bits .or .u64 (ji12) (ji15)) ((ji17) / 4294967296) (Go.bits .and .u64 (ji17) 4294967295) (IntKind.u64.wrap (x15_1 - 1))) else (bits_Div64.l0 kj19 ji10 ji8 ((ji10) / 4294967296) (Go.bits .and .u64 (ji10) 4294967295) (Go.bits .or .u64 (ji12) (ji15)) ((ji17) / 4294967296) (Go.bits .and .u64 (ji17) 4294967295) (IntKind.u64.wrap (x15_1 - 1)) (IntKind.u64.wrap (x16_1 + ((ji10) / 4294967296))))) = some (r1, r2) := by rw [if_pos rfl] at H; exact H
             clear H
             have H := H1
             clear H1
             by_cases c23 : (IntKind.u64.wrap (x16_1 + ((ji10) / 4294967296))) ≥ 4294967296
             ·
              rw [if_pos c23] at H
              have c23b0 : decide (4294967296 ≤ (IntKind.u64.wrap (x16_1 + ((ji10) / 4294967296)))) = true := decide_eq_true c23
              clear c23
              have H' := A_ H
              clear H
              go_wp2
              repeat (go_quiet (fail); try go_wp2)
              go_meet
              case rel => exact ⟨_, (IntKind.u64.wrap (x15_1 - 1)), (by first | rfl | (simp; done) | (simp [*]; done)), H', ⟨by have := HK1.out; have := HJ19.out; first | omega | exact Nat.le_refl _⟩, by repeat (first | exact Drawn0.refl _ | apply Drawn0.step)⟩
             ·
              rw [if_neg c23] at H
              have c23b0 : decide (4294967296 ≤ (IntKind.u64.wrap (x16_1 + ((ji10) / 4294967296)))) = false := decide_eq_false c23
              clear c23
              have H' := A_ H
              clear H
              go_wp2
              repeat (go_quiet (fail); try go_wp2)
              go_roundg kj19
              case measure => have := HK1.out; have := HJ19.out; omega
              case rel => exact ⟨(IntKind.u64.wrap (x15_1 - 1)), (IntKind.u64.wrap (x16_1 + ((ji10) / 4294967296))), (by first | rfl | (simp; done) | (simp [*]; done)), (by first | rfl | (simp; done) | (simp only [← hji10] <;> (first | rfl | simp)) | (simp [*]; done)), H', ⟨by have := HK1.out; have := HJ19.out; omega⟩, by repeat (first | exact Drawn0.refl _ | apply Drawn0.step)⟩
            ·
             replace c22 := Bool.eq_false_iff.mpr c22
             subst c22
             have H1 : (bits_Div64.j2 kj19 ji10 ji8 ((ji10) / 4294967296) (Go.bits .and .u64 (ji10) 4294967295) (Go.bits .or .u64 (ji12) (ji15)) ((ji17) / 4294967296) (Go.bits .and .u64 (ji17) 4294967295) x15_1) = some (r1, r2) := by rw [if_neg (show ¬ (false = true) by decide)] at H; exact H
             clear H
             have H := H1
             clear H1
             have H' := A_ H
             clear H
             go_wp2
             repeat (go_quiet (fail); try go_wp2)
             go_meet
             case rel => exact ⟨_, (x15_1), (by first | rfl | (simp; done) | (simp [*]; done)), H', ⟨by have := HK1.out; have := HJ19.out; first | omega | exact Nat.le_refl _⟩, by repeat (first | exact Drawn0.refl _ | apply Drawn0.step)⟩
       case rest =>
        clear HC19
        try clear c1
        try clear c2
        try clear p2
        try clear c3
        try clear c4
        try clear c4b0
        try clear c4b1
        try clear c5
        try clear c5b0
        try clear c6
        try clear c6b0
        try clear c6b1
        try clear c9
        try clear c9b0
        try clear c9b1
        try clear c11
        try clear c11b0
        try clear c14
        try clear c14b0
        try clear c14b1
        try clear c16
        try clear c16b0
        try clear c18
        try clear c18b0
        try clear c18b1
        try clear c19
        try clear c21
        try clear c21b0
        try clear c22
        try clear c23
        try clear c23b0
        try clear p2
        obtain ⟨kq, x15_18, rfl, HA, HJ18, ⟨mc18, rfl⟩⟩ := hcut
        cases kq with
        | zero => exact absurd HA.out (by simp [bits_Div64.j2])
        | succ kj18 =>
         have H := HA.out
         clear HA
         simp only [bits_Div64.j2] at H
         by_cases c24 : ((ji10) / 4294967296) = 0
         ·
          rw [if_pos c24] at H
          exact absurd H (by simp)
         ·
          rw [if_neg c24] at H
          have c24b0 : (((ji10) / 4294967296) == 0) = false := q4_ c24
          have c24b1 : (((ji10) / 4294967296) != 0) = true := q2_ c24
          have H' := A_ H
          clear H
          go_wp2
          repeat (go_quiet (fail); try go_wp2)
          (try simp only [Act.put, sA_, sZ_, sS_])
          go_loopg [16, 18] kj18 (fun kq v16 v18 w' => ∃ (x16_2 : Int) (x18_2 : Int), v16 = .int .u64 x16_2 ∧ v18 = .int .u64 x18_2 ∧ Aside0 (bits_Div64.l1 kq ji10 ji8 ((ji10) / 4294967296) (Go.bits .and .u64 (ji10) 4294967295) (Go.bits .and .u64 (ji17) 4294967295) x15_18 x16_2 (IntKind.u64.wrap ((IntKind.u64.wrap ((IntKind.u64.wrap ((Go.bits .or .u64 (ji12) (ji15)) * 4294967296)) + ((ji17) / 4294967296))) - (IntKind.u64.wrap (x15_18 * ji10)))) x18_2 = some (r1, r2)) ∧ Aside0 (kq ≤ kj18) ∧ Drawn0 w w')
          case atStart => exact ⟨(IntKind.u64.wrap ((IntKind.u64.wrap ((IntKind.u64.wrap ((IntKind.u64.wrap ((Go.bits .or .u64 (ji12) (ji15)) * 4294967296)) + ((ji17) / 4294967296))) - (IntKind.u64.wrap (x15_18 * ji10)))) - (IntKind.u64.wrap ((IntKind.u64.wrap (Int.tdiv (IntKind.u64.wrap ((IntKind.u64.wrap ((IntKind.u64.wrap ((Go.bits .or .u64 (ji12) (ji15)) * 4294967296)) + ((ji17) / 4294967296))) - (IntKind.u64.wrap (x15_18 * ji10)))) ((ji10) / 4294967296))) * ((ji10) / 4294967296))))), (IntKind.u64.wrap (Int.tdiv (IntKind.u64.wrap ((IntKind.u64.wrap ((IntKind.u64.wrap ((Go.bits .or .u64 (ji12) (ji15)) * 4294967296)) + ((ji17) / 4294967296))) - (IntKind.u64.wrap (x15_18 * ji10)))) ((ji10) / 4294967296))), (by first | rfl | (simp; done) | (simp only [← hji10, ← hji12, ← hji15, ← hji17] <;> (first | rfl | simp)) | (simp [*]; done)), (by first | rfl | (simp; done) | (simp only [← hji10, ← hji12, ← hji15, ← hji17] <;> (first | rfl | simp)) | (simp [*]; done)), H', ⟨Nat.le_refl _⟩, by repeat (first | exact Drawn0.refl _ | apply Drawn0.step)⟩
          case round =>
           clear H'
           try clear c1
           try clear c2
           try clear p2
           try clear c3
           try clear c4
           try clear c4b0
           try clear c4b1
           try clear c5
           try clear c5b0
           try clear c6
           try clear c6b0
           try clear c6b1
           try clear c9
           try clear c9b0
           try clear c9b1
           try clear c11
           try clear c11b0
           try clear c14
           try clear c14b0
           try clear c14b1
           try clear c16
           try clear c16b0
           try clear c18
           try clear c18b0
           try clear c18b1
           try clear c19
           try clear c21
           try clear c21b0
           try clear c22
           try clear c23
           try clear c23b0
           try clear c24
           try clear c24b0
           try clear c24b1
           try clear p2
           obtain ⟨x16_2, x18_2, rfl, rfl, HA, HK2, ⟨m2, rfl⟩⟩ := hrel
           cases gk with
           | zero => exact absurd HA.out (by simp [bits_Div64.l1])
           | succ k2 =>
            have H := HA.out
            clear HA
            simp only [bits_Div64.l1] at H
            have HC25 := A_ H
            clear H
            go_upto_region 24 with (fail)
            repeat (go_quiet (fail); go_upto_region 24 with (fail))
            go_cut [113] (fun v113 wc => ∃ (kq : Nat) (x113_24 : Bool), v113 = .bool x113_24 ∧ Aside0 (bits_Div64.j4 kq ji10 ji8 ((ji10) / 4294967296) (Go.bits .and .u64 (ji10) 4294967295) (Go.bits .and .u64 (ji17) 4294967295) x15_18 x16_2 (IntKind.u64.wrap ((IntKind.u64.wrap ((IntKind.u64.wrap ((Go.bits .or .u64 (ji12) (ji15)) * 4294967296)) + ((ji17) / 4294967296))) - (IntKind.u64.wrap (x15_18 * ji10)))) x18_2 x113_24 = some (r1, r2)) ∧ Aside0 (kq ≤ k2) ∧ Drawn0 w wc)
            case first =>
             have H := HC25.out
             clear HC25
             by_cases c26 : x18_2 ≥ 4294967296
             ·
              rw [if_pos c26] at H
              have c26b0 : decide (4294967296 ≤ x18_2) = true := decide_eq_true c26
              clear c26
              (first | rw [c26b0] | (simp only [i64_w, i32_w]; rw [c26b0]) | skip)
              have H' := A_ H
              clear H
              go_wp2
              repeat (go_quiet (fail); try go_wp2)
              go_meet
              case rel => exact ⟨_, (true), (by first | rfl | (simp; done) | (simp [*]; done)), H', ⟨by have := HJ18.out; have := HK2.out; first | omega | exact Nat.le_refl _⟩, by repeat (first | exact Drawn0.refl _ | apply Drawn0.step)⟩
             ·
              rw [if_neg c26] at H
              have c26b0 : decide (4294967296 ≤ x18_2) = false := decide_eq_false c26
              clear c26
              (first | rw [c26b0] | (simp only [i64_w, i32_w]; rw [c26b0]) | skip)
              have H' := A_ H
              clear H
              go_wp2
              repeat (go_quiet (fail); try go_wp2)
              go_meet
              case rel => exact ⟨_, (decide ((IntKind.u64.wrap (x18_2 * (Go.bits .and .u64 (ji10) 4294967295))) > (IntKind.u64.wrap ((IntKind.u64.wrap (4294967296 * x16_2)) + (Go.bits .and .u64 (ji17) 4294967295))))), (by first | rfl | (simp; done) | (simp only [← hji10, ← hji17] <;> (first | rfl | simp)) | (simp [*]; done)), H', ⟨by have := HJ18.out; have := HK2.out; first | omega | exact Nat.le_refl _⟩, by repeat (first | exact Drawn0.refl _ | apply Drawn0.step)⟩
            case rest =>
             clear HC25
             try clear c1
             try clear c2
             try clear p2
             try clear c3
             try clear c4
             try clear c4b0
             try clear c4b1
             try clear c5
             try clear c5b0
             try clear c6
             try clear c6b0
             try clear c6b1
             try clear c9
             try clear c9b0
             try clear c9b1
             try clear c11
             try clear c11b0
             try clear c14
             try clear c14b0
             try clear c14b1
             try clear c16
             try clear c16b0
             try clear c18
             try clear c18b0
             try clear c18b1
             try clear c19
             try clear c21
             try clear c21b0
             try clear c22
             try clear c23
             try clear c23b0
             try clear c24
             try clear c24b0
             try clear c24b1
             try clear c26
             try clear c26b0
             try clear p2
             obtain ⟨kq, x113_24, rfl, HA, HJ24, ⟨mc24, rfl⟩⟩ := hcut
             cases kq with
             | zero => exact absurd HA.out (by simp [bits_Div64.j4])
             | succ kj24 =>
              have H := HA.out
              clear HA
              simp only [bits_Div64.j4] at H
              by_cases c27 : x113_24 = true
              ·
               subst c27
               have H1 : (if (IntKind.u64.wrap (x16_2 + ((ji10) / 4294967296))) ≥ 4294967296 then (if 0 ≤ ji8 then (some (IntKind.u64.wrap ((IntKind.u64.wrap (x15_18 * 4294967296)) + (IntKind.u64.wrap (x18_2 - 1))), shr .u64 (IntKind.u64.wrap ((IntKind.u64.wrap ((IntKind.u64.wrap ((IntKind.u64.wrap ((IntKind.u64.wrap ((IntKind.u64.wrap ((Go.bits .or .u64 (ji12) (ji15)) * 4294967296)) + ((ji17) / 4294967296))) - (IntKind.u64.wrap (x15_18 * ji10)))) * 4294967296)) + (Go.bits .and .u64 (ji17) 4294967295))) - (IntKind.u64.wrap ((IntKind.u64.wrap (x18_2 - 1)) * ji10)))) ji8)) else (none)) else (bits_Div64.l1 kj24 ji10 ji8 ((ji10) / 4294967296) (Go.bits .and .u64 (ji10) 4294967295) (Go.bits .and .u64 (ji17) 4294967295) x15_18 (IntKind.u64.wrap (x16_2 + ((ji10) / 4294967296))) (IntKind.u64.wrap ((IntKind.u64.wrap ((IntKind.u64.wrap ((Go.bits .or .u64 (ji12) (ji15)) * 4294967296)) + ((ji17) / 4294967296))) - (IntKind.u64.wrap (x15_18 * ji10)))) (IntKind.u64.wrap (x18_2 - 1)))) = some (r1, r2) := by rw [if_pos rfl] at H; exact H
               clear H
               have H := H1
               clear H1
               by_cases c28 : (IntKind.u64.wrap (x16_2 + ((ji10) / 4294967296))) ≥ 4294967296
               ·
                rw [if_pos c28] at H
                have c28b0 : decide (4294967296 ≤ (IntKind.u64.wrap (x16_2 + ((ji10) / 4294967296)))) = true := decide_eq_true c28
                clear c28
                by_cases c29 : 0 ≤ ji8
                ·
                 rw [if_pos c29] at H
                 have c29b0 := eq_true c29
                 have c29b1 : decide (0 ≤ ji8) = true := decide_eq_true c29
                 clear c29
                 obtain ⟨ji30, hji30⟩ : ∃ j_ : Int, (shr .u64 (IntKind.u64.wrap ((IntKind.u64.wrap ((IntKind.u64.wrap ((IntKind.u64.wrap ((IntKind.u64.wrap ((IntKind.u64.wrap ((Go.bits .or .u64 (ji12) (ji15)) * 4294967296)) + ((ji17) / 4294967296))) - (IntKind.u64.wrap (x15_18 * ji10)))) * 4294967296)) + (Go.bits .and .u64 (ji17) 4294967295))) - (IntKind.u64.wrap ((IntKind.u64.wrap (x18_2 - 1)) * ji10)))) ji8) = j_ := ⟨_, rfl⟩
                 replace H : (some (IntKind.u64.wrap ((IntKind.u64.wrap (x15_18 * 4294967296)) + (IntKind.u64.wrap (x18_2 - 1))), ji30)) = some (r1, r2) := by first | (rw [hji30] at H; exact H) | (simp only [hji30] at H ⊢; exact H)
                 have hji30_ : ((IntKind.u64.wrap ((IntKind.u64.wrap ((IntKind.u64.wrap ((IntKind.u64.wrap ((IntKind.u64.wrap ((IntKind.u64.wrap ((Go.bits .or .u64 (ji12) (ji15)) * 4294967296)) + ((ji17) / 4294967296))) - (IntKind.u64.wrap (x15_18 * ji10)))) * 4294967296)) + (Go.bits .and .u64 (ji17) 4294967295))) - (IntKind.u64.wrap ((IntKind.u64.wrap (x18_2 - 1)) * ji10)))) / 2 ^ min ji8.toNat 64) = ji30 := hji30
                 have hji30z : ji8 ≤ 64 → ((IntKind.u64.wrap ((IntKind.u64.wrap ((IntKind.u64.wrap ((IntKind.u64.wrap ((IntKind.u64.wrap ((IntKind.u64.wrap ((Go.bits .or .u64 (ji12) (ji15)) * 4294967296)) + ((ji17) / 4294967296))) - (IntKind.u64.wrap (x15_18 * ji10)))) * 4294967296)) + (Go.bits .and .u64 (ji17) 4294967295))) - (IntKind.u64.wrap ((IntKind.u64.wrap (x18_2 - 1)) * ji10)))) / 2 ^ ji8.toNat) = ji30 := shr_small hji30
                 simp only [Option.some.injEq, Prod.mk.injEq] at H
                 obtain ⟨rfl, rfl⟩ := H
                 go_wp2
                 repeat (go_quiet (fail); try go_wp2)
                 go_ret2
                 exact ⟨by first | rfl | (simp; done) | (simp only [← hji8, ← hji10, ← hji12, ← hji13, ← hji15, ← hji17, ← hji30] <;> (first | rfl | simp)) | (simp [*]; done), by repeat (first | exact Drawn0.refl _ | apply Drawn0.step)⟩
                ·
                 rw [if_neg c29] at H
                 exact absurd H (by simp)
               ·
                rw [if_neg c28] at H
                have c28b0 : decide (4294967296 ≤ (IntKind.u64.wrap (x16_2 + ((ji10) / 4294967296)))) = false := decide_eq_false c28
                clear c28
                have H' := A_ H
                clear H
                go_wp2
                repeat (go_quiet (fail); try go_wp2)
                go_roundg kj24
                case measure => have := HJ18.out; have := HK2.out; have := HJ24.out; omega
                case rel => exact ⟨(IntKind.u64.wrap (x16_2 + ((ji10) / 4294967296))), (IntKind.u64.wrap (x18_2 - 1)), (by first | rfl | (simp; done) | (simp only [← hji10] <;> (first | rfl | simp)) | (simp [*]; done)), (by first | rfl | (simp; done) | (simp [*]; done)), H', ⟨by have := HJ18.out; have := HK2.out; have := HJ24.out; omega⟩, by repeat (first | exact Drawn0.refl _ | apply Drawn0.step)⟩
              ·
               replace c27 := Bool.eq_false_iff.mpr c27
               subst c27
               have H1 : (if 0 ≤ ji8 then (some (IntKind.u64.wrap ((IntKind.u64.wrap (x15_18 * 4294967296)) + x18_2), shr .u64 (IntKind.u64.wrap ((IntKind.u64.wrap ((IntKind.u64.wrap ((IntKind.u64.wrap ((IntKind.u64.wrap ((IntKind.u64.wrap ((Go.bits .or .u64 (ji12) (ji15)) * 4294967296)) + ((ji17) / 4294967296))) - (IntKind.u64.wrap (x15_18 * ji10)))) * 4294967296)) + (Go.bits .and .u64 (ji17) 4294967295))) - (IntKind.u64.wrap (x18_2 * ji10)))) ji8)) else (none)) = some (r1, r2) := by rw [if_neg (show ¬ (false = true) by decide)] at H; exact H
               clear H
               have H := H1
               clear H1
               by_cases c31 : 0 ≤ ji8
               ·
                rw [if_pos c31] at H
                have c31b0 := eq_true c31
                have c31b1 : decide (0 ≤ ji8) = true := decide_eq_true c31
                clear c31
                obtain ⟨ji32, hji32⟩ : ∃ j_ : Int, (shr .u64 (IntKind.u64.wrap ((IntKind.u64.wrap ((IntKind.u64.wrap ((IntKind.u64.wrap ((IntKind.u64.wrap ((IntKind.u64.wrap ((Go.bits .or .u64 (ji12) (ji15)) * 4294967296)) + ((ji17) / 4294967296))) - (IntKind.u64.wrap (x15_18 * ji10)))) * 4294967296)) + (Go.bits .and .u64 (ji17) 4294967295))) - (IntKind.u64.wrap (x18_2 * ji10)))) ji8) = j_ := ⟨_, rfl⟩
                replace H : (some (IntKind.u64.wrap ((IntKind.u64.wrap (x15_18 * 4294967296)) + x18_2), ji32)) = some (r1, r2) := by first | (rw [hji32] at H; exact H) | (simp only [hji32] at H ⊢; exact H)
                have hji32_ : ((IntKind.u64.wrap ((IntKind.u64.wrap ((IntKind.u64.wrap ((IntKind.u64.wrap ((IntKind.u64.wrap ((IntKind.u64.wrap ((Go.bits .or .u64 (ji12) (ji15)) * 4294967296)) + ((ji17) / 4294967296))) - (IntKind.u64.wrap (x15_18 * ji10)))) * 4294967296)) + (Go.bits .and .u64 (ji17) 4294967295))) - (IntKind.u64.wrap (x18_2 * ji10)))) / 2 ^ min ji8.toNat 64) = ji32 := hji32
                have hji32z : ji8 ≤ 64 → ((IntKind.u64.wrap ((IntKind.u64.wrap ((IntKind.u64.wrap ((IntKind.u64.wrap ((IntKind.u64.wrap ((IntKind.u64.wrap ((Go.bits .or .u64 (ji12) (ji15)) * 4294967296)) + ((ji17) / 4294967296))) - (IntKind.u64.wrap (x15_18 * ji10)))) * 4294967296)) + (Go.bits .and .u64 (ji17) 4294967295))) - (IntKind.u64.wrap (x18_2 * ji10)))) / 2 ^ ji8.toNat) = ji32 := shr_small hji32
                simp only [Option.some.injEq, Prod.mk.injEq] at H
                obtain ⟨rfl, rfl⟩ := H
                go_wp2
                repeat (go_quiet (fail); try go_wp2)
                go_ret2
                exact ⟨by first | rfl | (simp; done) | (simp only [← hji8, ← hji10, ← hji12, ← hji13, ← hji15, ← hji17, ← hji32] <;> (first | rfl | simp)) | (simp [*]; done), by repeat (first | exact Drawn0.refl _ | apply Drawn0.step)⟩
               ·
                rw [if_neg c31] at H
                exact absurd H (by simp)
     ·
      rw [if_neg c14] at H
      exact absurd H (by simp)
    ·
     rw [if_neg c9] at H
     exact absurd H (by simp)
end Go.Proofs.Ytjbcigiffihjaaa.Fx
end
section
namespace Go.Proofs.Ytjbcigiffihjaaa.Fx
open Go.RowKit Go.Proofs.YtjbcigiffihjaaaW.PrintWords Go.Proofs.YtjbcigiffihjaaaW.PrintLast Go.Proofs.YtjbcigiffihjaaaW.PrintMore
attribute [local go_sem] max2_int min2_int max_two min_two max_three min_three max_four min_four   -- for this text's walks alone
set_option linter.unusedVariables false
set_option linter.unusedSimpArgs false
attribute [local go_sem] run_add64_any
mutual
def fixed_Text.l0 : Nat → Int → Int → Bool → List Int → Bool → Option (ByteArray)
 | 0, _, _, _, _, _ => none
 | k + 1, x3, x4, x5, x6, x7 => if x7 = true then ((bits_Div64.f k (Int.tmod x3 10) x4 10).bind fun bt123 => (if x6.length < 140737488355328 then (fixed_Text.l0 k (IntKind.u64.wrap (Int.tdiv x3 10)) bt123.1 x5 (x6 ++ [(IntKind.u64.wrap (48 + bt123.2)) % 256]) false) else (none))) else (if x3 > 0 then ((bits_Div64.f k (Int.tmod x3 10) x4 10).bind fun bt128 => (if x6.length < 140737488355328 then (fixed_Text.l0 k (IntKind.u64.wrap (Int.tdiv x3 10)) bt128.1 x5 (x6 ++ [(IntKind.u64.wrap (48 + bt128.2)) % 256]) false) else (none))) else (if x4 > 0 then ((bits_Div64.f k (Int.tmod x3 10) x4 10).bind fun bt133 => (if x6.length < 140737488355328 then (fixed_Text.l0 k (IntKind.u64.wrap (Int.tdiv x3 10)) bt133.1 x5 (x6 ++ [(IntKind.u64.wrap (48 + bt133.2)) % 256]) false) else (none))) else (if x5 = true then (if x6.length < 140737488355328 then (fixed_Text.j1 k (x6 ++ [45])) else (none)) else (fixed_Text.j1 k x6))))
def fixed_Text.j1 : Nat → List Int → Option (ByteArray)
 | 0, _ => none
 | k + 1, x6 => fixed_Text.l1 k x6 0 (wrap64 ((x6.length : Int) - 1))
def fixed_Text.l1 : Nat → List Int → Int → Int → Option (ByteArray)
 | 0, _, _, _ => none
 | k + 1, x6, x9, x10 => if x9 < x10 then (if 0 ≤ x10 then (if x10 < (x6.length : Int) then (if 0 ≤ x9 then (if x9 < (x6.length : Int) then (fixed_Text.l1 k ((x6.set (x9 : Int).toNat (rd x6 x10)).set (x10 : Int).toNat (rd x6 x9)) (wrap64 (x9 + 1)) (wrap64 (x10 - 1))) else (none)) else (none)) else (none)) else (none)) else (some (strOfNums x6))
end
def fixed_Text.f (k : Nat) (a0_0 : Int) (a0_1 : Int) : Option (ByteArray) := (fixed_away.f a0_0 a0_1).bind fun bt120 => (fixed_Text.l0 k bt120.1 bt120.2.1 bt120.2.2 ([] : List Int) true)
def fixed_Text.T15 : Bool × List (List Nat × List Nat) := (true, [([], []), ([], []), ([], []), ([], []), ([], []), ([], []), ([4, 5], [4, 5]), ([6], [6]), ([], []), ([], []), ([8, 9], [8, 9]), ([10], [10]), ([0, 1, 0, 1, 4, 5, 6, 7, 11], [0, 1]), ([12, 7, 0, 1, 4, 5, 6, 7, 11], [7, 12]), ([2, 3, 0, 1, 2, 3, 4, 5, 6, 7, 8, 9, 10, 11, 12, 13], [2, 3]), ([14, 11, 13, 0, 1, 2, 3, 4, 5, 6, 7, 8, 9, 10, 11, 12, 13], [11, 14])])
def fixed_Text.B15 : List Nat := [0, 0, 0, 0, 0, 0, 48, 112, 0, 0, 768, 1792, 4083, 8179, 16383, 32767]
theorem fixed_Text.tab15 : rtab .any (opsOf Try.f13 15) = fixed_Text.T15 := by kernel_rfl
theorem fixed_Text.bits15 : waitsOk fixed_Text.T15.2 fixed_Text.B15 = true := by kernel_rfl
set_option maxHeartbeats 8000000 in
set_option maxRecDepth 100000 in
theorem fixed_Text.calls (k : Nat) (a0_0 : Int) (a0_1 : Int) (r : ByteArray) (w : World) (h : fixed_Text.f k a0_0 a0_1 = some r) :
  Calls Try.prog 13 #[.agg #[.int .i64 a0_0, .int .u64 a0_1]] w fun e w' => e = .returned (.string r) ∧ Below w.heap.size w w' := by
 have hu24 := Try.underlying24
 have HB := A_ (Below.refl w.heap.size w)
 have H : ((fixed_away.f a0_0 a0_1).bind fun bt120 => (fixed_Text.l0 k bt120.1 bt120.2.1 bt120.2.2 ([] : List Int) true)) = some r := h
 clear h
 replace H := os_ H
 obtain ⟨⟨t120, t121, t122⟩, A20, H⟩ := H
 replace H : (fixed_Text.l0 k t120 t121 t122 ([] : List Int) true) = some r := H
 have A2 := A_ A20
 clear A20
 have H' := A_ H
 clear H
 go_enter Try.func13, Try.ntmps13
 go_wp2_with (first | ((with_reducible refine gate_dst (N := 1) rfl ?_); refine box_event ?hg (N := 1) ?hd (cs := #[.int .i64 a0_0, .int .u64 a0_1]) (t := 24) ?hr ?_; (case hd => rfl); (case hg => rfl); (case hr => first | (go_simp; done) | (go_simp; rfl)); intro gb301 hg w3 hbox hb; have n0_ := A_ (bs_ bw_ hb); have n1_ := A_ (hbox); have n2_ := A_ ((by rw [hg]; exact (bz_ bw_) : w.heap.size ≤ gb301)); have n3_ := A_ ((by rw [hg]; exact (bz_ bw_) : w.heap.size ≤ gb301)); clear HB; have HB := n0_; have BK301 := n1_; have GW301 := n2_; have GE301 := n3_; clear n0_ n1_ n2_ n3_; clear hb hbox hg; have hcz4_0 : w3.cell? ⟨gb301, 0, none⟩ = some (.int .i64 a0_0) := (bc_ BK301.out 0).trans rfl; have hcz4_1 : w3.cell? ⟨gb301, 1, none⟩ = some (.int .u64 a0_1) := (bc_ BK301.out 1).trans rfl; have hfz4_0 := bf_ BK301.out 0; have hfz4_1 := bf_ BK301.out 1) | ((with_reducible refine gate_callee (f := 34) rfl ?_); refine goesL_ (some 13) rfl rfl Try.func34 (by kernel_rfl) rfl #[.agg #[.int .i64 a0_0, .int .u64 a0_1]] rfl (by (try simp only [List.map_toArray, List.map_cons, List.map_nil]); first | done | rfl | (simp only [List.length_drop, List.length_take]; rfl)) ?_; (with_reducible refine (fixed_away.calls a0_0 a0_1 t120 t121 t122 _ A2.out).mono ?_); rintro e w5 ⟨rfl, hb⟩; refine ⟨_, rfl, ?_⟩; have n0_ := A_ (kb_ BK301 hb); have n1_ := A_ (bs_ bw_ hb); clear BK301; clear HB; have BK301 := n0_; have HB := n1_; clear n0_ n1_; (try clear hb); (try clear hb2); (try clear hk); (try clear hi)))
 (try simp only [Act.put, sA_, sZ_, sS_])
 go_loopg [3, 4, 6, 7] k (fun kq v3 v4 v6 v7 w' => ∃ (x3_1 : Int) (x4_1 : Int) (x6_1 : List Int) (x7_1 : Bool), v3 = .int .u64 x3_1 ∧ v4 = .int .u64 x4_1 ∧ v7 = .bool x7_1 ∧ Aside0 (fixed_Text.l0 kq x3_1 x4_1 t122 x6_1 x7_1 = some r) ∧ Aside0 (kq ≤ k) ∧ Aside0 (Kd.R (Kd.int .u8) 5 w' w.heap.size (fun _ => True) v6 x6_1) ∧ Aside0 (w'.heap[gb301]? = some (.cells #[.int .i64 a0_0, .int .u64 a0_1] 24 (0, 0))) ∧ Aside0 (Below w.heap.size w w'))
 case atStart => exact ⟨(t120), (t121), (([] : List Int)), (true), (by first | rfl | (simp; done) | (simp [*]; done)), (by first | rfl | (simp; done) | (simp [*]; done)), (by first | rfl | (simp; done) | (simp [*]; done)), H', ⟨Nat.le_refl _⟩, ⟨by first | exact Kd.R_nil _ _ _ _ _ | exact Kd.N_nil _ _ _ _ _ | exact Kd.V_nil _ _ _ _ _ | exact Kd.Q_nil _ _ _ _ _ | exact Kd.S_nil _ _ _ _ _⟩, ⟨bk_⟩, ⟨bw_⟩⟩
 case round =>
  clear H'
  try clear c1
  try clear p2
  try clear c3
  try clear hcz4_0
  try clear hcz4_1
  try clear hfz4_0
  try clear hfz4_1
  obtain ⟨x3_1, x4_1, x6_1, x7_1, rfl, rfl, rfl, HA, HK1, HO_6, BK301, HB⟩ := hrel
  cases gk with
  | zero => exact absurd HA.out (by simp [fixed_Text.l0])
  | succ k1 =>
   have H := HA.out
   clear HA
   simp only [fixed_Text.l0] at H
   by_cases c6 : x7_1 = true
   ·
    subst c6
    have H1 : ((bits_Div64.f k1 (Int.tmod x3_1 10) x4_1 10).bind fun bt123 => (if x6_1.length < 140737488355328 then (fixed_Text.l0 k1 (IntKind.u64.wrap (Int.tdiv x3_1 10)) bt123.1 t122 (x6_1 ++ [(IntKind.u64.wrap (48 + bt123.2)) % 256]) false) else (none))) = some r := by rw [if_pos rfl] at H; exact H
    clear H
    have H := H1
    clear H1
    replace H := os_ H
    obtain ⟨⟨t123, t124⟩, A70, H⟩ := H
    replace H : (if x6_1.length < 140737488355328 then (fixed_Text.l0 k1 (IntKind.u64.wrap (Int.tdiv x3_1 10)) t123 t122 (x6_1 ++ [(IntKind.u64.wrap (48 + t124)) % 256]) false) else (none)) = some r := H
    have A7 := A_ A70
    clear A70
    by_cases c8 : x6_1.length < 140737488355328
    ·
     rw [if_pos c8] at H
     have LMc8 := A_ c8
     clear c8
     obtain ⟨y125, hy125⟩ : ∃ y_ : List Int, y_ = (x6_1 ++ [(IntKind.u64.wrap (48 + t124)) % 256]) := ⟨_, rfl⟩
     replace H : (fixed_Text.l0 k1 (IntKind.u64.wrap (Int.tdiv x3_1 10)) t123 t122 y125 false) = some r := by first | (rw [hy125]; with_reducible exact H) | (have H2_ := (Option.bind_some _ _).symm.trans H; rw [hy125]; with_reducible exact H2_) | (have H2_ := (Option.bind_some _ _).symm.trans H; with_reducible exact H2_) | with_reducible exact H | (rw [hy125]; exact H) | exact H
     have Ny125 := A_ hy125
     clear hy125
     have H' := A_ H
     clear H
     go_wp2_with (first | ((with_reducible refine gate_callee (f := 36) rfl ?_); refine goesL_ (some 33) rfl rfl Try.func36 (by kernel_rfl) rfl #[.int .u64 (Int.tmod x3_1 10), .int .u64 x4_1, .int .u64 10] rfl (by (try simp only [List.map_toArray, List.map_cons, List.map_nil]); first | done | rfl | (simp only [List.length_drop, List.length_take]; rfl)) ?_; (with_reducible refine (bits_Div64.calls k1 (Int.tmod x3_1 10) x4_1 10 t123 t124 _ A7.out).mono ?_); rintro e w' ⟨rfl, ⟨nd, rfl⟩⟩; refine ⟨_, rfl, ?_⟩) | ((with_reducible refine gate_builtin (b := .append) (xs := #[.tmp 36, .tmp 40]) rfl ?_); at_builtin; refine Kd.R_append (Kd.int .u8) (w0 := w) w.heap.size rfl (.tmp 36) (.tmp 40) 77 5 (.int .u8 0) 1 rfl Try.underlying77 info5 rfl (by decide) (by omega) u6 x6_1 ((IntKind.u64.wrap (48 + t124)) % 256) [.int .u8 ((IntKind.u64.wrap (48 + t124)) % 256)] (fun _ => True) (fun _ => False) rfl rfl ?aP (fun _ hk => hk.elim) ?aF ?aO ?aB ?aS ?aL ?_; (case aP => exact rfl); (case aB => exact bw_); (case aF => exact (fun _ _ => trivial)); (case aO => exact (by (with_reducible repeat (first | apply Kd.R_alloc | apply Kd.R_drewN | apply Kd.R_drew)); exact HO_6.out)); (case aS => exact (bz_ bw_)); (case aL => have := LMc8.out; omega); intro v126 w9 ho hb hg hat; rw [← Ny125.out] at ho; have n0_ := A_ (blk_grown (g := gb301) (o := .cells #[.int .i64 a0_0, .int .u64 a0_1] 24 (0, 0)) bk_ hg (Kd.R_ne HO_6.out BK301.out (by decide))); have n1_ := A_ (hb); have n2_ := A_ (ho); clear BK301; clear HB; clear HO_6; have BK301 := n0_; have HB := n1_; have HO127 := n2_; clear n0_ n1_ n2_; clear ho hb hg hat))
     go_roundg k1
     case measure => have := HK1.out; omega
     case rel => exact ⟨(IntKind.u64.wrap (Int.tdiv x3_1 10)), (t123), (y125), (false), (by first | rfl | (simp; done) | (simp [*]; done)), (by first | rfl | (simp; done) | (simp [*]; done)), (by first | rfl | (simp; done) | (simp [*]; done)), H', ⟨by have := HK1.out; omega⟩, ⟨by (with_reducible repeat (first | apply Kd.R_alloc | apply Kd.R_drewN | apply Kd.R_drew)); exact HO127.out⟩, ⟨bk_⟩, ⟨bw_⟩⟩
    ·
     rw [if_neg c8] at H
     exact absurd H (by simp)
   ·
    replace c6 := Bool.eq_false_iff.mpr c6
    subst c6
    have H1 : (if x3_1 > 0 then ((bits_Div64.f k1 (Int.tmod x3_1 10) x4_1 10).bind fun bt128 => (if x6_1.length < 140737488355328 then (fixed_Text.l0 k1 (IntKind.u64.wrap (Int.tdiv x3_1 10)) bt128.1 t122 (x6_1 ++ [(IntKind.u64.wrap (48 + bt128.2)) % 256]) false) else (none))) else (if x4_1 > 0 then ((bits_Div64.f k1 (Int.tmod x3_1 10) x4_1 10).bind fun bt133 => (if x6_1.length < 140737488355328 then (fixed_Text.l0 k1 (IntKind.u64.wrap (Int.tdiv x3_1 10)) bt133.1 t122 (x6_1 ++ [(IntKind.u64.wrap (48 + bt133.2)) % 256]) false) else (none))) else (if t122 = true then (if x6_1.length < 140737488355328 then (fixed_Text.j1 k1 (x6_1 ++ [45])) else (none)) else (fixed_Text.j1 k1 x6_1)))) = some r := by rw [if_neg (show ¬ (false = true) by decide)] at H; exact H
    clear H
    have H := H1
    clear H1
    by_cases c10 : x3_1 > 0
    ·
     rw [if_pos c10] at H
     have c10b0 : decide (0 < x3_1) = true := decide_eq_true c10
     clear c10
     replace H := os_ H
     obtain ⟨⟨t128, t129⟩, A110, H⟩ := H
     replace H : (if x6_1.length < 140737488355328 then (fixed_Text.l0 k1 (IntKind.u64.wrap (Int.tdiv x3_1 10)) t128 t122 (x6_1 ++ [(IntKind.u64.wrap (48 + t129)) % 256]) false) else (none)) = some r := H
     have A11 := A_ A110
     clear A110
     by_cases c12 : x6_1.length < 140737488355328
     ·
      rw [if_pos c12] at H
      have LMc12 := A_ c12
      clear c12
      obtain ⟨y130, hy130⟩ : ∃ y_ : List Int, y_ = (x6_1 ++ [(IntKind.u64.wrap (48 + t129)) % 256]) := ⟨_, rfl⟩
      replace H : (fixed_Text.l0 k1 (IntKind.u64.wrap (Int.tdiv x3_1 10)) t128 t122 y130 false) = some r := by first | (rw [hy130]; with_reducible exact H) | (have H2_ := (Option.bind_some _ _).symm.trans H; rw [hy130]; with_reducible exact H2_) | (have H2_ := (Option.bind_some _ _).symm.trans H; with_reducible exact H2_) | with_reducible exact H | (rw [hy130]; exact H) | exact H
      have Ny130 := A_ hy130
      clear hy130
      have H' := A_ H
      clear H
      go_wp2_with (first | ((with_reducible refine gate_callee (f := 36) rfl ?_); refine goesL_ (some 33) rfl rfl Try.func36 (by kernel_rfl) rfl #[.int .u64 (Int.tmod x3_1 10), .int .u64 x4_1, .int .u64 10] rfl (by (try simp only [List.map_toArray, List.map_cons, List.map_nil]); first | done | rfl | (simp only [List.length_drop, List.length_take]; rfl)) ?_; (with_reducible refine (bits_Div64.calls k1 (Int.tmod x3_1 10) x4_1 10 t128 t129 _ A11.out).mono ?_); rintro e w' ⟨rfl, ⟨nd, rfl⟩⟩; refine ⟨_, rfl, ?_⟩) | ((with_reducible refine gate_builtin (b := .append) (xs := #[.tmp 36, .tmp 40]) rfl ?_); at_builtin; refine Kd.R_append (Kd.int .u8) (w0 := w) w.heap.size rfl (.tmp 36) (.tmp 40) 77 5 (.int .u8 0) 1 rfl Try.underlying77 info5 rfl (by decide) (by omega) u6 x6_1 ((IntKind.u64.wrap (48 + t129)) % 256) [.int .u8 ((IntKind.u64.wrap (48 + t129)) % 256)] (fun _ => True) (fun _ => False) rfl rfl ?aP (fun _ hk => hk.elim) ?aF ?aO ?aB ?aS ?aL ?_; (case aP => exact rfl); (case aB => exact bw_); (case aF => exact (fun _ _ => trivial)); (case aO => exact (by (with_reducible repeat (first | apply Kd.R_alloc | apply Kd.R_drewN | apply Kd.R_drew)); exact HO_6.out)); (case aS => exact (bz_ bw_)); (case aL => have := LMc12.out; omega); intro v131 w13 ho hb hg hat; rw [← Ny130.out] at ho; have n0_ := A_ (blk_grown (g := gb301) (o := .cells #[.int .i64 a0_0, .int .u64 a0_1] 24 (0, 0)) bk_ hg (Kd.R_ne HO_6.out BK301.out (by decide))); have n1_ := A_ (hb); have n2_ := A_ (ho); clear BK301; clear HB; clear HO_6; have BK301 := n0_; have HB := n1_; have HO132 := n2_; clear n0_ n1_ n2_; clear ho hb hg hat))
      go_roundg k1
      case measure => have := HK1.out; omega
      case rel => exact ⟨(IntKind.u64.wrap (Int.tdiv x3_1 10)), (t128), (y130), (false), (by first | rfl | (simp; done) | (simp [*]; done)), (by first | rfl | (simp; done) | (simp [*]; done)), (by first | rfl | (simp; done) | (simp [*]; done)), H', ⟨by have := HK1.out; omega⟩, ⟨by (with_reducible repeat (first | apply Kd.R_alloc | apply Kd.R_drewN | apply Kd.R_drew)); exact HO132.out⟩, ⟨bk_⟩, ⟨bw_⟩⟩
     ·
      rw [if_neg c12] at H
      exact absurd H (by simp)
    ·
     rw [if_neg c10] at H
     have c10b0 : decide (0 < x3_1) = false := decide_eq_false c10
     clear c10
     by_cases c14 : x4_1 > 0
     ·
      rw [if_pos c14] at H
      have c14b0 : decide (0 < x4_1) = true := decide_eq_true c14
      clear c14
      replace H := os_ H
      obtain ⟨⟨t133, t134⟩, A150, H⟩ := H
      replace H : (if x6_1.length < 140737488355328 then (fixed_Text.l0 k1 (IntKind.u64.wrap (Int.tdiv x3_1 10)) t133 t122 (x6_1 ++ [(IntKind.u64.wrap (48 + t134)) % 256]) false) else (none)) = some r := H
      have A15 := A_ A150
      clear A150
      by_cases c16 : x6_1.length < 140737488355328
      ·
       rw [if_pos c16] at H
       have LMc16 := A_ c16
       clear c16
       obtain ⟨y135, hy135⟩ : ∃ y_ : List Int, y_ = (x6_1 ++ [(IntKind.u64.wrap (48 + t134)) % 256]) := ⟨_, rfl⟩
       replace H : (fixed_Text.l0 k1 (IntKind.u64.wrap (Int.tdiv x3_1 10)) t133 t122 y135 false) = some r := by first | (rw [hy135]; with_reducible exact H) | (have H2_ := (Option.bind_some _ _).symm.trans H; rw [hy135]; with_reducible exact H2_) | (have H2_ := (Option.bind_some _ _).symm.trans H; with_reducible exact H2_) | with_reducible exact H | (rw [hy135]; exact H) | exact H
       have Ny135 := A_ hy135
       clear hy135
       have H' := A_ H
       clear H
       go_wp2_with (first | ((with_reducible refine gate_callee (f := 36) rfl ?_); refine goesL_ (some 33) rfl rfl Try.func36 (by kernel_rfl) rfl #[.int .u64 (Int.tmod x3_1 10), .int .u64 x4_1, .int .u64 10] rfl (by (try simp only [List.map_toArray, List.map_cons, List.map_nil]); first | done | rfl | (simp only [List.length_drop, List.length_take]; rfl)) ?_; (with_reducible refine (bits_Div64.calls k1 (Int.tmod x3_1 10) x4_1 10 t133 t134 _ A15.out).mono ?_); rintro e w' ⟨rfl, ⟨nd, rfl⟩⟩; refine ⟨_, rfl, ?_⟩) | ((with_reducible refine gate_builtin (b := .append) (xs := #[.tmp 36, .tmp 40]) rfl ?_); at_builtin; refine Kd.R_append (Kd.int .u8) (w0 := w) w.heap.size rfl (.tmp 36) (.tmp 40) 77 5 (.int .u8 0) 1 rfl Try.underlying77 info5 rfl (by decide) (by omega) u6 x6_1 ((IntKind.u64.wrap (48 + t134)) % 256) [.int .u8 ((IntKind.u64.wrap (48 + t134)) % 256)] (fun _ => True) (fun _ => False) rfl rfl ?aP (fun _ hk => hk.elim) ?aF ?aO ?aB ?aS ?aL ?_; (case aP => exact rfl); (case aB => exact bw_); (case aF => exact (fun _ _ => trivial)); (case aO => exact (by (with_reducible repeat (first | apply Kd.R_alloc | apply Kd.R_drewN | apply Kd.R_drew)); exact HO_6.out)); (case aS => exact (bz_ bw_)); (case aL => have := LMc16.out; omega); intro v136 w17 ho hb hg hat; rw [← Ny135.out] at ho; have n0_ := A_ (blk_grown (g := gb301) (o := .cells #[.int .i64 a0_0, .int .u64 a0_1] 24 (0, 0)) bk_ hg (Kd.R_ne HO_6.out BK301.out (by decide))); have n1_ := A_ (hb); have n2_ := A_ (ho); clear BK301; clear HB; clear HO_6; have BK301 := n0_; have HB := n1_; have HO137 := n2_; clear n0_ n1_ n2_; clear ho hb hg hat))
       go_roundg k1
       case measure => have := HK1.out; omega
       case rel => exact ⟨(IntKind.u64.wrap (Int.tdiv x3_1 10)), (t133), (y135), (false), (by first | rfl | (simp; done) | (simp [*]; done)), (by first | rfl | (simp; done) | (simp [*]; done)), (by first | rfl | (simp; done) | (simp [*]; done)), H', ⟨by have := HK1.out; omega⟩, ⟨by (with_reducible repeat (first | apply Kd.R_alloc | apply Kd.R_drewN | apply Kd.R_drew)); exact HO137.out⟩, ⟨bk_⟩, ⟨bw_⟩⟩
      ·
       rw [if_neg c16] at H
       exact absurd H (by simp)
     ·
      rw [if_neg c14] at H
      have c14b0 : decide (0 < x4_1) = false := decide_eq_false c14
      clear c14
      have HC18 := A_ H
      clear H
      go_upto_if 42 with (fail)
      go_cut [6] (fun v6 wc => ∃ (kq : Nat) (x6_17 : List Int), Aside0 (fixed_Text.j1 kq x6_17 = some r) ∧ Aside0 (kq ≤ k1) ∧ Aside0 (Kd.R (Kd.int .u8) 5 wc w.heap.size (fun _ => True) v6 x6_17) ∧ Aside0 (wc.heap[gb301]? = some (.cells #[.int .i64 a0_0, .int .u64 a0_1] 24 (0, 0))) ∧ Aside0 (Below w.heap.size w wc))
      case first =>
       have H := HC18.out
       clear HC18
       by_cases c19 : t122 = true
       ·
        subst c19
        have H1 : (if x6_1.length < 140737488355328 then (fixed_Text.j1 k1 (x6_1 ++ [45])) else (none)) = some r := by rw [if_pos rfl] at H; exact H
        clear H
        have H := H1
        clear H1
        by_cases c20 : x6_1.length < 140737488355328
        ·
         rw [if_pos c20] at H
         have LMc20 := A_ c20
         clear c20
         obtain ⟨y138, hy138⟩ : ∃ y_ : List Int, y_ = (x6_1 ++ [45]) := ⟨_, rfl⟩
         replace H : (fixed_Text.j1 k1 y138) = some r := by first | (rw [hy138]; with_reducible exact H) | (have H2_ := (Option.bind_some _ _).symm.trans H; rw [hy138]; with_reducible exact H2_) | (have H2_ := (Option.bind_some _ _).symm.trans H; with_reducible exact H2_) | with_reducible exact H | (rw [hy138]; exact H) | exact H
         have Ny138 := A_ hy138
         clear hy138
         have H' := A_ H
         clear H
         go_wp2_with (((with_reducible refine gate_builtin (b := .append) (xs := #[.tmp 43, .tmp 44]) rfl ?_); at_builtin; refine Kd.R_append (Kd.int .u8) (w0 := w) w.heap.size rfl (.tmp 43) (.tmp 44) 77 5 (.int .u8 0) 1 rfl Try.underlying77 info5 rfl (by decide) (by omega) u6 x6_1 45 [.int .u8 45] (fun _ => True) (fun _ => False) rfl rfl ?aP (fun _ hk => hk.elim) ?aF ?aO ?aB ?aS ?aL ?_; (case aP => exact rfl); (case aB => exact bw_); (case aF => exact (fun _ _ => trivial)); (case aO => exact (by (with_reducible repeat (first | apply Kd.R_alloc | apply Kd.R_drewN | apply Kd.R_drew)); exact HO_6.out)); (case aS => exact (bz_ bw_)); (case aL => have := LMc20.out; omega); intro v139 w21 ho hb hg hat; rw [← Ny138.out] at ho; have n0_ := A_ (blk_grown (g := gb301) (o := .cells #[.int .i64 a0_0, .int .u64 a0_1] 24 (0, 0)) bk_ hg (Kd.R_ne HO_6.out BK301.out (by decide))); have n1_ := A_ (hb); have n2_ := A_ (ho); clear BK301; clear HB; clear HO_6; have BK301 := n0_; have HB := n1_; have HO140 := n2_; clear n0_ n1_ n2_; clear ho hb hg hat))
         go_meet
         case rel => exact ⟨_, (y138), H', ⟨by have := HK1.out; first | omega | exact Nat.le_refl _⟩, ⟨by (with_reducible repeat (first | apply Kd.R_alloc | apply Kd.R_drewN | apply Kd.R_drew)); exact HO140.out⟩, ⟨bk_⟩, ⟨bw_⟩⟩
        ·
         rw [if_neg c20] at H
         exact absurd H (by simp)
       ·
        replace c19 := Bool.eq_false_iff.mpr c19
        subst c19
        have H1 : (fixed_Text.j1 k1 x6_1) = some r := by rw [if_neg (show ¬ (false = true) by decide)] at H; exact H
        clear H
        have H := H1
        clear H1
        have H' := A_ H
        clear H
        go_wp2
        go_meet
        case rel => exact ⟨_, (x6_1), H', ⟨by have := HK1.out; first | omega | exact Nat.le_refl _⟩, ⟨by (with_reducible repeat (first | apply Kd.R_alloc | apply Kd.R_drewN | apply Kd.R_drew)); exact HO_6.out⟩, ⟨bk_⟩, ⟨bw_⟩⟩
      case rest =>
       clear HC18
       try clear c1
       try clear c2
       try clear p2
       try clear c3
       try clear c6
       try clear c8
       try clear c10
       try clear c10b0
       try clear c12
       try clear c13
       try clear c14
       try clear c14b0
       try clear c16
       try clear c19
       try clear c20
       try clear hcz4_0
       try clear hcz4_1
       try clear hfz4_0
       try clear hfz4_1
       try clear p2
       obtain ⟨kq, x6_17, HA, HJ17, HO_6, BK301, HB⟩ := hcut
       cases kq with
       | zero => exact absurd HA.out (by simp [fixed_Text.j1])
       | succ kj17 =>
        have H := HA.out
        clear HA
        simp only [fixed_Text.j1] at H
        have H' := A_ H
        clear H
        obtain ⟨Ao22, co22, eo22⟩ := Kd.R_slice HO_6.out
        subst eo22
        go_wp2
        (try simp only [Act.put, sA_, sZ_, sS_])
        go_loopg [9, 10] kj17 (fun kq v9 v10 w' => ∃ (x6_3 : List Int) (x9_3 : Int) (x10_3 : Int), v9 = .int .i64 x9_3 ∧ v10 = .int .i64 x10_3 ∧ Aside0 (fixed_Text.l1 kq x6_3 x9_3 x10_3 = some r) ∧ Aside0 (kq ≤ kj17) ∧ Aside0 (Kd.R (Kd.int .u8) 5 w' w.heap.size (fun _ => True) (.slice Ao22 x6_17.length co22) x6_3) ∧ Aside0 (w'.heap[gb301]? = some (.cells #[.int .i64 a0_0, .int .u64 a0_1] 24 (0, 0))) ∧ Aside0 (Below w.heap.size w w'))
        case atStart => exact ⟨(x6_17), (0), (wrap64 ((x6_17.length : Int) - 1)), (by first | rfl | (simp; done) | (simp [*]; done)), (by first | rfl | (simp; done) | (simp [*]; done)), H', ⟨Nat.le_refl _⟩, ⟨by (with_reducible repeat (first | apply Kd.R_alloc | apply Kd.R_drewN | apply Kd.R_drew)); exact HO_6.out⟩, ⟨bk_⟩, ⟨bw_⟩⟩
        case round =>
         clear H'
         try clear c1
         try clear c2
         try clear p2
         try clear c3
         try clear c6
         try clear p6
         try clear c8
         try clear c10
         try clear c10b0
         try clear c12
         try clear c13
         try clear c14
         try clear c14b0
         try clear c16
         try clear c19
         try clear c20
         try clear hcz4_0
         try clear hcz4_1
         try clear hfz4_0
         try clear hfz4_1
         try clear p2
         obtain ⟨x6_3, x9_3, x10_3, rfl, rfl, HA, HK3, HO_6, BK301, HB⟩ := hrel
         have hl6_3 := (Kd.R_reads' HO_6.out).1
         rw [hl6_3] at HO_6
         (try simp only [hl6_3])
         (try simp only [hl6_3] at BK301)
         cases gk with
         | zero => exact absurd HA.out (by simp [fixed_Text.l1])
         | succ k3 =>
          have H := HA.out
          clear HA
          simp only [fixed_Text.l1] at H
          by_cases c23 : x9_3 < x10_3
          ·
           rw [if_pos c23] at H
           have c23b0 : decide (x9_3 < x10_3) = true := decide_eq_true c23
           clear c23
           by_cases c24 : 0 ≤ x10_3
           ·
            rw [if_pos c24] at H
            have c24b0 : decide (0 ≤ x10_3) = true := decide_eq_true c24
            clear c24
            by_cases c25 : x10_3 < (x6_3.length : Int)
            ·
             rw [if_pos c25] at H
             have c25b0 : decide (x10_3 < (x6_3.length : Int)) = true := decide_eq_true c25
             clear c25
             by_cases c26 : 0 ≤ x9_3
             ·
              rw [if_pos c26] at H
              have c26b0 : decide (0 ≤ x9_3) = true := decide_eq_true c26
              clear c26
              by_cases c27 : x9_3 < (x6_3.length : Int)
              ·
               rw [if_pos c27] at H
               have c27b0 : decide (x9_3 < (x6_3.length : Int)) = true := decide_eq_true c27
               clear c27
               obtain ⟨y143, hy143⟩ : ∃ y_ : List Int, y_ = (x6_3.set (x9_3 : Int).toNat (rd x6_3 x10_3)) := ⟨_, rfl⟩
               replace H : (fixed_Text.l1 k3 (y143.set (x10_3 : Int).toNat (rd x6_3 x9_3)) (wrap64 (x9_3 + 1)) (wrap64 (x10_3 - 1))) = some r := by first | (rw [hy143]; with_reducible exact H) | (have H2_ := (Option.bind_some _ _).symm.trans H; rw [hy143]; with_reducible exact H2_) | (have H2_ := (Option.bind_some _ _).symm.trans H; with_reducible exact H2_) | with_reducible exact H | (rw [hy143]; exact H) | exact H
               have Ny143 := A_ hy143
               clear hy143
               obtain ⟨y144, hy144⟩ : ∃ y_ : List Int, y_ = (y143.set (x10_3 : Int).toNat (rd x6_3 x9_3)) := ⟨_, rfl⟩
               replace H : (fixed_Text.l1 k3 y144 (wrap64 (x9_3 + 1)) (wrap64 (x10_3 - 1))) = some r := by first | (rw [hy144]; with_reducible exact H) | (have H2_ := (Option.bind_some _ _).symm.trans H; rw [hy144]; with_reducible exact H2_) | (have H2_ := (Option.bind_some _ _).symm.trans H; with_reducible exact H2_) | with_reducible exact H | (rw [hy144]; exact H) | exact H
               have Ny144 := A_ hy144
               clear hy144
               have H' := A_ H
               clear H
               try go_wp2
               have n0_ := A_ (Kd.R_drew HO_6.out)
               have n1_ := A_ (bd_ BK301.out)
               have n2_ := A_ (b1_ HB.out)
               clear HO_6
               clear BK301
               clear HB
               have HO_6 := n0_
               have BK301 := n1_
               have HB := n2_
               clear n0_ n1_ n2_
               have p141 : 0 ≤ (x10_3 : Int) := od_ (by first | (with_reducible assumption) | assumption)
               have q141 : x10_3 < (x6_3.length : Int) := od_ (by first | (with_reducible assumption) | assumption)
               obtain ⟨ad141, e141, hx141_0⟩ := Kd.at_int (Kd.R_reads' HO_6.out).2.2 x10_3 p141 q141
               cases e141
               replace p141 := eq_true p141
               replace q141 := eq_true q141
               have p142 : 0 ≤ (x9_3 : Int) := od_ (by first | (with_reducible assumption) | assumption)
               have q142 : x9_3 < (x6_3.length : Int) := od_ (by first | (with_reducible assumption) | assumption)
               obtain ⟨ad142, e142, hx142_0⟩ := Kd.at_int (Kd.R_reads' HO_6.out).2.2 x9_3 p142 q142
               obtain rfl : ad141 = ad142 := (by injection e142)
               replace p142 := eq_true p142
               replace q142 := eq_true q142
               have p28 : 0 ≤ (x9_3 : Int) := od_ (by first | (with_reducible assumption) | assumption)
               have q28 : (x9_3 : Int) < ((x6_3.length : Int) : Int) := od_ (by first | (with_reducible assumption) | assumption)
               obtain ⟨go28, co28, eo28, gb28, gl28, cl28, HG28⟩ := Kd.R_form HO_6.out (by omega)
               (first | cases eo28 | (injection eo28 with ea_ en_ ec_; (first | subst ea_ | (injection ea_ with ea_; subst ea_)); subst ec_; clear en_))
               have GB28 := A_ gb28
               have GG28 := A_ HG28
               clear gb28 gl28 HG28
               (first | simp only [add_plain] at hx141_0 | skip)
               (first | simp only [add_plain] at hx142_0 | skip)
               obtain ⟨hx28_0, hf28_0⟩ := Kd.R_celln 0 HO_6.out (x9_3 : Int) p28 q28
               replace p28 := eq_true p28
               replace q28 := eq_true q28
               have HP31 := Kd.R_putn HO_6.out (x9_3 : Int) (rd x6_3 x10_3)
               rw [← Ny143.out] at HP31
               have HQ31 := A_ HP31
               clear HP31
               have p29 : 0 ≤ (x10_3 : Int) := od_ (by first | (with_reducible assumption) | assumption)
               have q29 : (x10_3 : Int) < ((x6_3.length : Int) : Int) := od_ (by first | (with_reducible assumption) | assumption)
               obtain ⟨hx29_0, hf29_0⟩ := Kd.R_celln 0 HQ31.out (x10_3 : Int) p29 q29
               replace p29 := eq_true p29
               replace q29 := eq_true q29
               have HP32 := Kd.R_putn HQ31.out (x10_3 : Int) (rd x6_3 x9_3)
               rw [← Ny144.out] at HP32
               have HQ32 := A_ HP32
               clear HP32
               refine start_ (n := 16) (S := fun w' => w'.cell? ⟨go28, (x10_3).toNat, none⟩ = some (.int .u8 (rd x6_3 x10_3)) ∧ w'.cell? ⟨go28, (x9_3).toNat, none⟩ = some (.int .u8 (rd x6_3 x9_3))) (ds := [13, 15]) #[false, false, false, false, false, false, false, false, false, false, false, false, false, false, false, false] (by kernel_rfl) rfl rfl ⟨hx141_0, hx142_0⟩ (fun hHeld => ?_); refine with_tabW fixed_Text.tab15 fixed_Text.bits15 (fun HT_ HW_ => ?_)
               generalize wr.drew = w30 at HO_6 BK301 HB GG28 HQ31 HQ32 hf28_0 hf29_0 hx141_0 hx142_0 hx28_0 hx29_0 hHeld ⊢
               refine pure_ (i := 0) (N := some 56) (v := ?_) (a' := ?_) #[true, false, false, false, false, false, false, false, false, false, false, false, false, false, false, false] rfl rfl (any_of HT_.out (by kernel_rfl)) (fun _ _ _ h => h) (Or.inl ⟨by rfl, ?_⟩) ?_ ?_
               rotate_left
               ·
                intro w'
                go_simp
                with_reducible rfl
               rotate_left
               ·
                simp only [Act.put, sA_, sZ_, sS_, i64_w, i32_w]
                rfl
               refine pure_ (i := 1) (N := some 57) (v := ?_) (a' := ?_) #[true, true, false, false, false, false, false, false, false, false, false, false, false, false, false, false] rfl rfl (any_of HT_.out (by kernel_rfl)) (fun _ _ _ h => h) (Or.inl ⟨by rfl, ?_⟩) ?_ ?_
               rotate_left
               ·
                intro w'
                go_simp
                with_reducible rfl
               rotate_left
               ·
                simp only [Act.put, sA_, sZ_, sS_, i64_w, i32_w]
                rfl
               refine pure_ (i := 2) (N := some 58) (v := ?_) (a' := ?_) #[true, true, true, false, false, false, false, false, false, false, false, false, false, false, false, false] rfl rfl (any_of HT_.out (by kernel_rfl)) (fun _ _ _ h => h) (Or.inl ⟨by rfl, ?_⟩) ?_ ?_
               rotate_left
               ·
                intro w'
                go_simp
                with_reducible rfl
               rotate_left
               ·
                simp only [Act.put, sA_, sZ_, sS_, i64_w, i32_w]
                rfl
               refine pure_ (i := 3) (N := some 59) (v := ?_) (a' := ?_) #[true, true, true, true, false, false, false, false, false, false, false, false, false, false, false, false] rfl rfl (any_of HT_.out (by kernel_rfl)) (fun _ _ _ h => h) (Or.inl ⟨by rfl, ?_⟩) ?_ ?_
               rotate_left
               ·
                intro w'
                go_simp
                with_reducible rfl
               rotate_left
               ·
                simp only [Act.put, sA_, sZ_, sS_, i64_w, i32_w]
                rfl
               refine pure_ (i := 4) (N := some 60) (v := ?_) (a' := ?_) #[true, true, true, true, true, false, false, false, false, false, false, false, false, false, false, false] rfl rfl (any_of HT_.out (by kernel_rfl)) (fun _ _ _ h => h) (Or.inl ⟨by rfl, ?_⟩) ?_ ?_
               rotate_left
               ·
                intro w'
                go_simp
                with_reducible rfl
               rotate_left
               ·
                simp only [Act.put, sA_, sZ_, sS_, i64_w, i32_w]
                rfl
               refine pure_ (i := 5) (N := some 61) (v := ?_) (a' := ?_) #[true, true, true, true, true, true, false, false, false, false, false, false, false, false, false, false] rfl rfl (any_of HT_.out (by kernel_rfl)) (fun _ _ _ h => h) (Or.inl ⟨by rfl, ?_⟩) ?_ ?_
               rotate_left
               ·
                intro w'
                go_simp
                with_reducible rfl
               rotate_left
               ·
                simp only [Act.put, sA_, sZ_, sS_, i64_w, i32_w]
                rfl
               refine pure_ (i := 6) (N := some 62) (v := ?_) (a' := ?_) #[true, true, true, true, true, true, true, false, false, false, false, false, false, false, false, false] rfl rfl (any_of HT_.out (by kernel_rfl)) (fun _ _ _ h => h) (Or.inl ⟨by rfl, ?_⟩) ?_ ?_
               rotate_left
               ·
                intro w'
                go_simp
                with_reducible rfl
               rotate_left
               ·
                simp only [Act.put, sA_, sZ_, sS_, i64_w, i32_w]
                rfl
               refine pure_ (i := 8) (N := some 64) (v := ?_) (a' := ?_) #[true, true, true, true, true, true, true, false, true, false, false, false, false, false, false, false] rfl rfl (any_of HT_.out (by kernel_rfl)) (fun _ _ _ h => h) (Or.inl ⟨by rfl, ?_⟩) ?_ ?_
               rotate_left
               ·
                intro w'
                go_simp
                with_reducible rfl
               rotate_left
               ·
                simp only [Act.put, sA_, sZ_, sS_, i64_w, i32_w]
                rfl
               refine pure_ (i := 9) (N := some 65) (v := ?_) (a' := ?_) #[true, true, true, true, true, true, true, false, true, true, false, false, false, false, false, false] rfl rfl (any_of HT_.out (by kernel_rfl)) (fun _ _ _ h => h) (Or.inl ⟨by rfl, ?_⟩) ?_ ?_
               rotate_left
               ·
                intro w'
                go_simp
                with_reducible rfl
               rotate_left
               ·
                simp only [Act.put, sA_, sZ_, sS_, i64_w, i32_w]
                rfl
               refine pure_ (i := 10) (N := some 66) (v := ?_) (a' := ?_) #[true, true, true, true, true, true, true, false, true, true, true, false, false, false, false, false] rfl rfl (any_of HT_.out (by kernel_rfl)) (fun _ _ _ h => h) (Or.inl ⟨by rfl, ?_⟩) ?_ ?_
               rotate_left
               ·
                intro w'
                go_simp
                with_reducible rfl
               rotate_left
               ·
                simp only [Act.put, sA_, sZ_, sS_, i64_w, i32_w]
                rfl
               refine take_ (i := 7) (N := some 63) (v := ?_) (a' := ?_) #[true, true, true, true, true, true, true, true, true, true, true, false, false, false, false, false] rfl rfl (take_ofW HT_.out HW_.out (by kernel_rfl)) (fun _ _ _ h => h) (Or.inl ⟨by rfl, ?_⟩) hHeld ?_ ?_
               rotate_left
               ·
                rintro w' ⟨s0, s1⟩
                go_simp
                with_reducible rfl
               rotate_left
               ·
                simp only [Act.put, sA_, sZ_, sS_, i64_w, i32_w]
                rfl
               refine take_ (i := 11) (N := some 67) (v := ?_) (a' := ?_) #[true, true, true, true, true, true, true, true, true, true, true, true, false, false, false, false] rfl rfl (take_ofW HT_.out HW_.out (by kernel_rfl)) (fun _ _ _ h => h) (Or.inl ⟨by rfl, ?_⟩) hHeld ?_ ?_
               rotate_left
               ·
                rintro w' ⟨s0, s1⟩
                go_simp
                with_reducible rfl
               rotate_left
               ·
                simp only [Act.put, sA_, sZ_, sS_, i64_w, i32_w]
                rfl
               refine pure_ (i := 12) (N := some 68) (v := ?_) (a' := ?_) #[true, true, true, true, true, true, true, true, true, true, true, true, true, false, false, false] rfl rfl (any_of HT_.out (by kernel_rfl)) (fun _ _ _ h => h) (Or.inl ⟨by rfl, ?_⟩) ?_ ?_
               rotate_left
               ·
                intro w'
                go_simp
                with_reducible rfl
               rotate_left
               ·
                simp only [Act.put, sA_, sZ_, sS_, i64_w, i32_w]
                rfl
               refine last_ (i := 13) (N := none) #[true, true, true, true, true, true, true, true, true, true, true, true, true, true, false, false] rfl rfl (one_of HT_.out (by kernel_rfl)) (by decide) (fun K hK => ?_)
               refine skip_ (w1 := ?_) (by rfl) rfl ?_ ?_
               rotate_left
               ·
                go_simp
                rfl
               refine hK.out _ _ ?_
               clear hK K
               refine pure_ (i := 14) (N := some 69) (v := ?_) (a' := ?_) #[true, true, true, true, true, true, true, true, true, true, true, true, true, true, true, false] rfl rfl (any_of HT_.out (by kernel_rfl)) (fun _ _ _ h => h) (Or.inl ⟨by rfl, ?_⟩) ?_ ?_
               rotate_left
               ·
                intro w'
                go_simp
                with_reducible rfl
               rotate_left
               ·
                simp only [Act.put, sA_, sZ_, sS_, i64_w, i32_w]
                rfl
               refine last_ (i := 15) (N := none) #[true, true, true, true, true, true, true, true, true, true, true, true, true, true, true, true] rfl rfl (one_of HT_.out (by kernel_rfl)) (by decide) (fun K hK => ?_)
               refine skip_ (w1 := ?_) (by rfl) rfl ?_ ?_
               rotate_left
               ·
                go_simp
                rfl
               refine hK.out _ _ ?_
               clear hK K
               refine done_ (done_of HT_.out (by kernel_rfl)) ?_
               try go_wp2
               (try simp only [← hl6_3])
               go_roundg k3
               case measure => have := HK1.out; have := HJ17.out; have := HK3.out; omega
               case rel => exact ⟨(y144), (wrap64 (x9_3 + 1)), (wrap64 (x10_3 - 1)), (by first | rfl | (simp; done) | (simp [*]; done)), (by first | rfl | (simp; done) | (simp [*]; done)), H', ⟨by have := HK1.out; have := HJ17.out; have := HK3.out; omega⟩, ⟨by (try simp only [hl6_3]); (with_reducible repeat (first | apply Kd.R_alloc | apply Kd.R_drewN | apply Kd.R_drew)); exact HQ32.out⟩, ⟨by (try simp only [hl6_3]); (with_reducible repeat (first | refine bn_ ?_ _ | refine bd_ ?_ | refine ba_ ?_ _)); refine br_ ?_ (by have h_ := Kd.R_ne HO_6.out BK301.out (by decide); intro e_; exact h_ (by rw [e_]; rfl)) _; (with_reducible repeat (first | refine bn_ ?_ _ | refine bd_ ?_ | refine ba_ ?_ _)); refine br_ ?_ (by have h_ := Kd.R_ne HO_6.out BK301.out (by decide); intro e_; exact h_ (by rw [e_]; rfl)) _; (with_reducible repeat (first | refine bn_ ?_ _ | refine bd_ ?_ | refine ba_ ?_ _)); exact BK301.out⟩, ⟨by repeat (first | (with_reducible first | exact HB.out | apply bl_ | apply pn_ | apply b1_ | refine bt_ ?_ GB28.out | refine bt_ ?_ GB28.out | refine bt_ ?_ GE301.out) | exact HB.out)⟩⟩
              ·
               rw [if_neg c27] at H
               exact absurd H (by simp)
             ·
              rw [if_neg c26] at H
              exact absurd H (by simp)
            ·
             rw [if_neg c25] at H
             exact absurd H (by simp)
           ·
            rw [if_neg c24] at H
            exact absurd H (by simp)
          ·
           rw [if_neg c23] at H
           have c23b0 : decide (x9_3 < x10_3) = false := decide_eq_false c23
           clear c23
           obtain rfl := Option.some.inj H
           have hcv33 := own_string (P := Try.prog) Try.underlying77 Try.underlying5 Try.underlying9 (Kd.own_of_R HO_6.out)
           go_wp2
           go_ret
           exact ⟨by first | rfl | (simp [errW_none, errW_some] <;> rfl) | (simp [*, errW_none, errW_some] <;> rfl), bw_⟩
end Go.Proofs.Ytjbcigiffihjaaa.Fx
end
section
namespace Go.Proofs.Ytjbcigiffihjaaa.Fx
open Go.RowKit Go.Proofs.YtjbcigiffihjaaaW.PrintWords Go.Proofs.YtjbcigiffihjaaaW.PrintLast Go.Proofs.YtjbcigiffihjaaaW.PrintMore
attribute [local go_sem] max2_int min2_int max_two min_two max_three min_three max_four min_four   -- for this text's walks alone
set_option linter.unusedVariables false
set_option linter.unusedSimpArgs false
attribute [local go_sem] run_add64_any
def fixed_signed.j0 : Nat → Int → Bool → Bool → Int → Int → Option (Int × Int × Int)
 | 0, _, _, _, _, _ => none
 | k + 1, x0, x2, x13, x309000, x309001 => if x13 = true then (some (x309000, x309001, 0)) else (if x0 ≥ 9223372036854775808 then (some (0, 0, 4)) else (if x2 = true then ((fixed_turned.f x309000 x309001).bind fun bt105 => (some (bt105.1, bt105.2, 0))) else (some (x309000, x309001, 0))))
def fixed_signed.f (k : Nat) (a0 : Int) (a1 : Int) (a2 : Bool) : Option (Int × Int × Int) := if a2 = true then (if a0 = 9223372036854775808 then (fixed_signed.j0 k a0 true (a1 == 0) (wrap64 (a0)) a1) else (fixed_signed.j0 k a0 true false (wrap64 (a0)) a1)) else (fixed_signed.j0 k a0 false false (wrap64 (a0)) a1)
set_option maxHeartbeats 8000000 in
set_option maxRecDepth 100000 in
theorem fixed_signed.calls (k : Nat) (a0 : Int) (a1 : Int) (a2 : Bool) (r1 : Int) (r2 : Int) (r3 : Int) (w : World) (h : fixed_signed.f k a0 a1 a2 = some (r1, r2, r3)) :
  Calls Try.prog 39 #[.int .u64 a0, .int .u64 a1, .bool a2] w fun e w' => e = .returned (.tuple #[.agg #[.int .i64 r1, .int .u64 r2], .int .i64 r3]) ∧ Below w.heap.size w w' := by
 have hu24 := Try.underlying24
 have HB := A_ (Below.refl w.heap.size w)
 have H : (if a2 = true then (if a0 = 9223372036854775808 then (fixed_signed.j0 k a0 true (a1 == 0) (wrap64 (a0)) a1) else (fixed_signed.j0 k a0 true false (wrap64 (a0)) a1)) else (fixed_signed.j0 k a0 false false (wrap64 (a0)) a1)) = some (r1, r2, r3) := h
 clear h
 have HC4 := A_ H
 clear H
 go_enter Try.func39, Try.ntmps39
 go_upto_region 2 with (first | ((with_reducible refine gate_dst (N := 6) rfl ?_); refine box_event ?hg (N := 6) ?hd (cs := #[.int .i64 0, .int .u64 0]) (t := 24) ?hr ?_; (case hd => rfl); (case hg => rfl); (case hr => first | (go_simp; done) | (go_simp; rfl)); intro gb306 hg w5 hbox hb; have n0_ := A_ (bs_ bw_ hb); have n1_ := A_ (hbox); have n2_ := A_ ((by rw [hg]; exact (bz_ bw_) : w.heap.size ≤ gb306)); have n3_ := A_ ((by rw [hg]; exact (bz_ bw_) : w.heap.size ≤ gb306)); clear HB; have HB := n0_; have BK306 := n1_; have GW306 := n2_; have GE306 := n3_; clear n0_ n1_ n2_ n3_; clear hb hbox hg) | ((with_reducible refine gate_dst (N := 8) rfl ?_); refine box_event ?hg (N := 8) ?hd (cs := #[.int .i64 0, .int .u64 0]) (t := 24) ?hr ?_; (case hd => rfl); (case hg => rfl); (case hr => first | (go_simp; done) | (go_simp; rfl)); intro gb308 hg w6 hbox hb; have n0_ := A_ (kb_ BK306 hb); have n1_ := A_ (bs_ bw_ hb); have n2_ := A_ (hbox); have n3_ := A_ ((by rw [hg]; exact (bz_ bw_) : w.heap.size ≤ gb308)); have n4_ := A_ ((by rw [hg]; exact (bz_ bw_) : w.heap.size ≤ gb308)); have n5_ := A_ ((by rw [hg]; exact nl_ (lt_ BK306) : gb306 ≠ gb308)); have n6_ := A_ ((by rw [hg]; exact ng_ (lt_ BK306) : gb308 ≠ gb306)); clear BK306; clear HB; have BK306 := n0_; have HB := n1_; have BK308 := n2_; have GW308 := n3_; have GE308 := n4_; have NB306_308 := n5_; have NB308_306 := n6_; clear n0_ n1_ n2_ n3_ n4_ n5_ n6_; clear hb hbox hg; have hnb7 := NB308_306.out; have hnc7 := NB306_308.out; have hcz8_0 : w6.cell? ⟨gb308, 0, none⟩ = some (.int .i64 0) := (bc_ BK308.out 0).trans rfl; have hcz8_1 : w6.cell? ⟨gb308, 1, none⟩ = some (.int .u64 0) := (bc_ BK308.out 1).trans rfl; have hfz8_0 := bf_ BK308.out 0; have hfz8_1 := bf_ BK308.out 1))
 (try simp only [Act.put, sA_, sZ_, sS_])
 go_cut [2, 13] (fun v2 v13 wc => ∃ (kq : Nat) (x2_3 : Bool) (x13_3 : Bool), v2 = .bool x2_3 ∧ v13 = .bool x13_3 ∧ Aside0 (fixed_signed.j0 kq a0 x2_3 x13_3 (wrap64 (a0)) a1 = some (r1, r2, r3)) ∧ Aside0 (kq ≤ k) ∧ Aside0 (wc.heap[gb306]? = some (.cells #[.int .i64 0, .int .u64 0] 24 (0, 0))) ∧ Aside0 (wc.heap[gb308]? = some (.cells #[.int .i64 (wrap64 (a0)), .int .u64 a1] 24 (0, 0))) ∧ Aside0 (Below w.heap.size w wc))
 case first =>
  have H := HC4.out
  clear HC4
  by_cases c9 : a2 = true
  ·
   subst c9
   have H1 : (if a0 = 9223372036854775808 then (fixed_signed.j0 k a0 true (a1 == 0) (wrap64 (a0)) a1) else (fixed_signed.j0 k a0 true false (wrap64 (a0)) a1)) = some (r1, r2, r3) := by rw [if_pos rfl] at H; exact H
   clear H
   have H := H1
   clear H1
   by_cases c10 : a0 = 9223372036854775808
   ·
    rw [if_pos c10] at H
    have c10b0 : (a0 == 9223372036854775808) = true := q1_ c10
    have c10b1 : (a0 != 9223372036854775808) = false := q3_ c10
    clear c10
    (first | rw [c10b0] | (simp only [i64_w, i32_w]; rw [c10b0]) | skip)
    have H' := A_ H
    clear H
    go_wp2
    go_meet
    case rel => exact ⟨_, (true), ((a1 == 0)), (by first | rfl | (simp; done) | (simp [*]; done)), (by first | rfl | (simp; done) | (simp [*]; done)), H', ⟨by first | omega | exact Nat.le_refl _⟩, ⟨bk_⟩, ⟨by (with_reducible repeat (first | refine bn_ ?_ _ | refine bd_ ?_ | refine ba_ ?_ _)); refine bp_ (cs := #[.int .i64 (wrap64 (a0)), .int .u64 0]) ?_ 1 _ rfl; (with_reducible repeat (first | refine bn_ ?_ _ | refine bd_ ?_ | refine ba_ ?_ _)); refine bp_ (cs := #[.int .i64 0, .int .u64 0]) ?_ 0 _ rfl; (with_reducible repeat (first | refine bn_ ?_ _ | refine bd_ ?_ | refine ba_ ?_ _)); exact BK308.out⟩, ⟨bw_⟩⟩
   ·
    rw [if_neg c10] at H
    have c10b0 : (a0 == 9223372036854775808) = false := q4_ c10
    have c10b1 : (a0 != 9223372036854775808) = true := q2_ c10
    (first | rw [c10b0] | (simp only [i64_w, i32_w]; rw [c10b0]) | skip)
    have H' := A_ H
    clear H
    go_wp2
    go_meet
    case rel => exact ⟨_, (true), (false), (by first | rfl | (simp; done) | (simp [*]; done)), (by first | rfl | (simp; done) | (simp [*]; done)), H', ⟨by first | omega | exact Nat.le_refl _⟩, ⟨bk_⟩, ⟨by (with_reducible repeat (first | refine bn_ ?_ _ | refine bd_ ?_ | refine ba_ ?_ _)); refine bp_ (cs := #[.int .i64 (wrap64 (a0)), .int .u64 0]) ?_ 1 _ rfl; (with_reducible repeat (first | refine bn_ ?_ _ | refine bd_ ?_ | refine ba_ ?_ _)); refine bp_ (cs := #[.int .i64 0, .int .u64 0]) ?_ 0 _ rfl; (with_reducible repeat (first | refine bn_ ?_ _ | refine bd_ ?_ | refine ba_ ?_ _)); exact BK308.out⟩, ⟨bw_⟩⟩
  ·
   replace c9 := Bool.eq_false_iff.mpr c9
   subst c9
   have H1 : (fixed_signed.j0 k a0 false false (wrap64 (a0)) a1) = some (r1, r2, r3) := by rw [if_neg (show ¬ (false = true) by decide)] at H; exact H
   clear H
   have H := H1
   clear H1
   have H' := A_ H
   clear H
   go_wp2
   go_meet
   case rel => exact ⟨_, (false), (false), (by first | rfl | (simp; done) | (simp [*]; done)), (by first | rfl | (simp; done) | (simp [*]; done)), H', ⟨by first | omega | exact Nat.le_refl _⟩, ⟨bk_⟩, ⟨by (with_reducible repeat (first | refine bn_ ?_ _ | refine bd_ ?_ | refine ba_ ?_ _)); refine bp_ (cs := #[.int .i64 (wrap64 (a0)), .int .u64 0]) ?_ 1 _ rfl; (with_reducible repeat (first | refine bn_ ?_ _ | refine bd_ ?_ | refine ba_ ?_ _)); refine bp_ (cs := #[.int .i64 0, .int .u64 0]) ?_ 0 _ rfl; (with_reducible repeat (first | refine bn_ ?_ _ | refine bd_ ?_ | refine ba_ ?_ _)); exact BK308.out⟩, ⟨bw_⟩⟩
 case rest =>
  clear HC4
  try clear c1
  try clear p2
  try clear c3
  try clear p6
  try clear c7
  try clear c9
  try clear c10
  try clear c10b0
  try clear c10b1
  try clear hcz8_0
  try clear hcz8_1
  try clear hfz8_0
  try clear hfz8_1
  obtain ⟨kq, x2_3, x13_3, rfl, rfl, HA, HJ3, BK306, BK308, HB⟩ := hcut
  cases kq with
  | zero => exact absurd HA.out (by simp [fixed_signed.j0])
  | succ kj3 =>
   have H := HA.out
   clear HA
   simp only [fixed_signed.j0] at H
   by_cases c11 : x13_3 = true
   ·
    subst c11
    have H1 : (some ((wrap64 (a0)), a1, 0)) = some (r1, r2, r3) := by rw [if_pos rfl] at H; exact H
    clear H
    have H := H1
    clear H1
    simp only [Option.some.injEq, Prod.mk.injEq] at H
    obtain ⟨rfl, rfl, rfl⟩ := H
    have hnb12 := NB308_306.out
    have hnc12 := NB306_308.out
    have hcz13_0 : wc.cell? ⟨gb308, 0, none⟩ = some (.int .i64 (wrap64 (a0))) := (bc_ BK308.out 0).trans rfl
    have hcz13_1 : wc.cell? ⟨gb308, 1, none⟩ = some (.int .u64 a1) := (bc_ BK308.out 1).trans rfl
    have hfz13_0 := bf_ BK308.out 0
    have hfz13_1 := bf_ BK308.out 1
    have hcz14_0 : wc.cell? ⟨gb306, 0, none⟩ = some (.int .i64 0) := (bc_ BK306.out 0).trans rfl
    have hcz14_1 : wc.cell? ⟨gb306, 1, none⟩ = some (.int .u64 0) := (bc_ BK306.out 1).trans rfl
    have hfz14_0 := bf_ BK306.out 0
    have hfz14_1 := bf_ BK306.out 1
    go_wp2
    refine bodyPost_ret (results_ct rfl _ _ gb306 24 #[.int .i64 (wrap64 (a0)), .int .u64 a1] (0, 0) _ rfl (by (with_reducible repeat (first | refine bn_ ?_ _ | refine bd_ ?_ | refine ba_ ?_ _)); refine bp_ (cs := #[.int .i64 (wrap64 (a0)), .int .u64 0]) ?_ 1 _ rfl; (with_reducible repeat (first | refine bn_ ?_ _ | refine bd_ ?_ | refine ba_ ?_ _)); refine bp_ (cs := #[.int .i64 0, .int .u64 0]) ?_ 0 _ rfl; (with_reducible repeat (first | refine bn_ ?_ _ | refine bd_ ?_ | refine ba_ ?_ _)); exact BK306.out) Try.underlying24 rfl (by kernel_rfl)) rfl ?_
    exact ⟨by first | rfl | (simp [errW_none, errW_some] <;> rfl) | (simp [*, errW_none, errW_some] <;> rfl), bw_⟩
   ·
    replace c11 := Bool.eq_false_iff.mpr c11
    subst c11
    have H1 : (if a0 ≥ 9223372036854775808 then (some (0, 0, 4)) else (if x2_3 = true then ((fixed_turned.f (wrap64 (a0)) a1).bind fun bt105 => (some (bt105.1, bt105.2, 0))) else (some ((wrap64 (a0)), a1, 0)))) = some (r1, r2, r3) := by rw [if_neg (show ¬ (false = true) by decide)] at H; exact H
    clear H
    have H := H1
    clear H1
    by_cases c15 : a0 ≥ 9223372036854775808
    ·
     rw [if_pos c15] at H
     have c15b0 : decide (9223372036854775808 ≤ a0) = true := decide_eq_true c15
     clear c15
     simp only [Option.some.injEq, Prod.mk.injEq] at H
     obtain ⟨rfl, rfl, rfl⟩ := H
     have hnb16 := NB306_308.out
     have hnc16 := NB308_306.out
     have hcz17_0 : wc.cell? ⟨gb306, 0, none⟩ = some (.int .i64 0) := (bc_ BK306.out 0).trans rfl
     have hcz17_1 : wc.cell? ⟨gb306, 1, none⟩ = some (.int .u64 0) := (bc_ BK306.out 1).trans rfl
     have hfz17_0 := bf_ BK306.out 0
     have hfz17_1 := bf_ BK306.out 1
     go_wp2
     refine bodyPost_ret (results_ct rfl _ _ gb306 24 #[.int .i64 0, .int .u64 0] (0, 0) _ rfl (by (with_reducible repeat (first | refine bn_ ?_ _ | refine bd_ ?_ | refine ba_ ?_ _)); refine bp_ (cs := #[.int .i64 0, .int .u64 0]) ?_ 1 _ rfl; (with_reducible repeat (first | refine bn_ ?_ _ | refine bd_ ?_ | refine ba_ ?_ _)); refine bp_ (cs := #[.int .i64 0, .int .u64 0]) ?_ 0 _ rfl; (with_reducible repeat (first | refine bn_ ?_ _ | refine bd_ ?_ | refine ba_ ?_ _)); exact BK306.out) Try.underlying24 rfl (by kernel_rfl)) rfl ?_
     exact ⟨by first | rfl | (simp [errW_none, errW_some] <;> rfl) | (simp [*, errW_none, errW_some] <;> rfl), bw_⟩
    ·
     rw [if_neg c15] at H
     have c15b0 : decide (9223372036854775808 ≤ a0) = false := decide_eq_false c15
     clear c15
     by_cases c18 : x2_3 = true
     ·
      subst c18
      have H1 : ((fixed_turned.f (wrap64 (a0)) a1).bind fun bt105 => (some (bt105.1, bt105.2, 0))) = some (r1, r2, r3) := by rw [if_pos rfl] at H; exact H
      clear H
      have H := H1
      clear H1
      replace H := os_ H
      obtain ⟨⟨t105, t106⟩, A190, H⟩ := H
      replace H : (some (t105, t106, 0)) = some (r1, r2, r3) := H
      have A19 := A_ A190
      clear A190
      simp only [Option.some.injEq, Prod.mk.injEq] at H
      obtain ⟨rfl, rfl, rfl⟩ := H
      have hnb20 := NB308_306.out
      have hnc20 := NB306_308.out
      have hcz21_0 : wc.cell? ⟨gb308, 0, none⟩ = some (.int .i64 (wrap64 (a0))) := (bc_ BK308.out 0).trans rfl
      have hcz21_1 : wc.cell? ⟨gb308, 1, none⟩ = some (.int .u64 a1) := (bc_ BK308.out 1).trans rfl
      have hfz21_0 := bf_ BK308.out 0
      have hfz21_1 := bf_ BK308.out 1
      go_wp2_with (((with_reducible refine gate_callee (f := 55) rfl ?_); refine goesL_ (some 31) rfl rfl Try.func55 (by kernel_rfl) rfl #[.agg #[.int .i64 (wrap64 (a0)), .int .u64 a1]] rfl (by (try simp only [List.map_toArray, List.map_cons, List.map_nil]); first | done | rfl | (simp only [List.length_drop, List.length_take]; rfl)) ?_; (with_reducible refine (fixed_turned.calls (wrap64 (a0)) a1 t105 t106 _ A19.out).mono ?_); rintro e w22 ⟨rfl, hb⟩; refine ⟨_, rfl, ?_⟩; have n0_ := A_ (kb_ BK306 hb); have n1_ := A_ (kb_ BK308 hb); have n2_ := A_ (bs_ bw_ hb); clear BK306; clear BK308; clear HB; have BK306 := n0_; have BK308 := n1_; have HB := n2_; clear n0_ n1_ n2_; (try clear hb); (try clear hb2); (try clear hk); (try clear hi); have hcz23_0 : w22.cell? ⟨gb306, 0, none⟩ = some (.int .i64 0) := (bc_ BK306.out 0).trans rfl; have hcz23_1 : w22.cell? ⟨gb306, 1, none⟩ = some (.int .u64 0) := (bc_ BK306.out 1).trans rfl; have hfz23_0 := bf_ BK306.out 0; have hfz23_1 := bf_ BK306.out 1))
      refine bodyPost_ret (results_ct rfl _ _ gb306 24 #[.int .i64 t105, .int .u64 t106] (0, 0) _ rfl (by (with_reducible repeat (first | refine bn_ ?_ _ | refine bd_ ?_ | refine ba_ ?_ _)); refine bp_ (cs := #[.int .i64 t105, .int .u64 0]) ?_ 1 _ rfl; (with_reducible repeat (first | refine bn_ ?_ _ | refine bd_ ?_ | refine ba_ ?_ _)); refine bp_ (cs := #[.int .i64 0, .int .u64 0]) ?_ 0 _ rfl; (with_reducible repeat (first | refine bn_ ?_ _ | refine bd_ ?_ | refine ba_ ?_ _)); exact BK306.out) Try.underlying24 rfl (by kernel_rfl)) rfl ?_
      exact ⟨by first | rfl | (simp [errW_none, errW_some] <;> rfl) | (simp [*, errW_none, errW_some] <;> rfl), bw_⟩
     ·
      replace c18 := Bool.eq_false_iff.mpr c18
      subst c18
      have H1 : (some ((wrap64 (a0)), a1, 0)) = some (r1, r2, r3) := by rw [if_neg (show ¬ (false = true) by decide)] at H; exact H
      clear H
      have H := H1
      clear H1
      simp only [Option.some.injEq, Prod.mk.injEq] at H
      obtain ⟨rfl, rfl, rfl⟩ := H
      have hnb24 := NB308_306.out
      have hnc24 := NB306_308.out
      have hcz25_0 : wc.cell? ⟨gb308, 0, none⟩ = some (.int .i64 (wrap64 (a0))) := (bc_ BK308.out 0).trans rfl
      have hcz25_1 : wc.cell? ⟨gb308, 1, none⟩ = some (.int .u64 a1) := (bc_ BK308.out 1).trans rfl
      have hfz25_0 := bf_ BK308.out 0
      have hfz25_1 := bf_ BK308.out 1
      have hcz26_0 : wc.cell? ⟨gb306, 0, none⟩ = some (.int .i64 0) := (bc_ BK306.out 0).trans rfl
      have hcz26_1 : wc.cell? ⟨gb306, 1, none⟩ = some (.int .u64 0) := (bc_ BK306.out 1).trans rfl
      have hfz26_0 := bf_ BK306.out 0
      have hfz26_1 := bf_ BK306.out 1
      go_wp2
      refine bodyPost_ret (results_ct rfl _ _ gb306 24 #[.int .i64 (wrap64 (a0)), .int .u64 a1] (0, 0) _ rfl (by (with_reducible repeat (first | refine bn_ ?_ _ | refine bd_ ?_ | refine ba_ ?_ _)); refine bp_ (cs := #[.int .i64 (wrap64 (a0)), .int .u64 0]) ?_ 1 _ rfl; (with_reducible repeat (first | refine bn_ ?_ _ | refine bd_ ?_ | refine ba_ ?_ _)); refine bp_ (cs := #[.int .i64 0, .int .u64 0]) ?_ 0 _ rfl; (with_reducible repeat (first | refine bn_ ?_ _ | refine bd_ ?_ | refine ba_ ?_ _)); exact BK306.out) Try.underlying24 rfl (by kernel_rfl)) rfl ?_
      exact ⟨by first | rfl | (simp [errW_none, errW_some] <;> rfl) | (simp [*, errW_none, errW_some] <;> rfl), bw_⟩
end Go.Proofs.Ytjbcigiffihjaaa.Fx
end
section
namespace Go.Proofs.Ytjbcigiffihjaaa.Fx
open Go.RowKit Go.Proofs.YtjbcigiffihjaaaW.PrintWords Go.Proofs.YtjbcigiffihjaaaW.PrintLast Go.Proofs.YtjbcigiffihjaaaW.PrintMore
attribute [local go_sem] max2_int min2_int max_two min_two max_three min_three max_four min_four   -- for this text's walks alone
set_option linter.unusedVariables false
set_option linter.unusedSimpArgs false
attribute [local go_sem] run_add64_any
mutual
def fixed_Parse.j0 : Nat → ByteArray → Bool → Option (Int × Int × Int)
 | 0, _, _ => none
 | k + 1, x0, x4 => if x0.size ≤ 9223372036854775807 then ((some (bytesOf x0 : List Int)).bind fun y150 => (fixed_Parse.l0 k x4 0 0 y150 (y150.length : Int) 0)) else (none)
def fixed_Parse.l0 : Nat → Bool → Int → Int → List Int → Int → Int → Option (Int × Int × Int)
 | 0, _, _, _, _, _, _ => none
 | k + 1, x4, x5, x6, x25, x26, x27 => if x27 < x26 then (if 0 ≤ x27 then (if x27 < (x25.length : Int) then ((bits_Mul64.f x5 10).bind fun bt157 => ((bits_Mul64.f x6 10).bind fun bt159 => (if (addHi bt159.2 (((rd x25 x27) - 48) % 256) 0) ≤ 1 then (if (IntKind.u64.wrap (bt157.1 + (addHi bt157.2 bt159.1 (addHi bt159.2 (((rd x25 x27) - 48) % 256) 0)))) > 0 then (some (0, 0, 4)) else (fixed_Parse.l0 k x4 (addLo bt157.2 bt159.1 (addHi bt159.2 (((rd x25 x27) - 48) % 256) 0)) (addLo bt159.2 (((rd x25 x27) - 48) % 256) 0) x25 x26 (wrap64 (x27 + 1)))) else (none)))) else (none)) else (none)) else ((fixed_signed.f k x5 x6 x4).bind fun bt153 => (some (bt153.1, bt153.2.1, bt153.2.2)))
end
def fixed_Parse.f (k : Nat) (a0 : ByteArray) : Option (Int × Int × Int) := (fixed_form.f k a0).bind fun t149 => (if t149 = true then (if 0 < (a0.size : Int) then (if (bt a0 0) = 45 then (if 1 ≤ (a0.size : Int) then (fixed_Parse.j0 k (a0.extract 1 a0.size) true) else (none)) else (fixed_Parse.j0 k a0 false)) else (none)) else (some (0, 0, 3)))
set_option maxHeartbeats 8000000 in
set_option maxRecDepth 100000 in
theorem fixed_Parse.calls (k : Nat) (a0 : ByteArray) (r1 : Int) (r2 : Int) (r3 : Int) (w : World) (h : fixed_Parse.f k a0 = some (r1, r2, r3)) :
  Calls Try.prog 15 #[.string a0] w fun e w' => e = .returned (.tuple #[.agg #[.int .i64 r1, .int .u64 r2], .int .i64 r3]) ∧ Below w.heap.size w w' := by
 have hu24 := Try.underlying24
 have HB := A_ (Below.refl w.heap.size w)
 have H : ((fixed_form.f k a0).bind fun t149 => (if t149 = true then (if 0 < (a0.size : Int) then (if (bt a0 0) = 45 then (if 1 ≤ (a0.size : Int) then (fixed_Parse.j0 k (a0.extract 1 a0.size) true) else (none)) else (fixed_Parse.j0 k a0 false)) else (none)) else (some (0, 0, 3)))) = some (r1, r2, r3) := h
 clear h
 replace H := os_ H
 obtain ⟨t149, A20, H⟩ := H
 replace H : (if t149 = true then (if 0 < (a0.size : Int) then (if (bt a0 0) = 45 then (if 1 ≤ (a0.size : Int) then (fixed_Parse.j0 k (a0.extract 1 a0.size) true) else (none)) else (fixed_Parse.j0 k a0 false)) else (none)) else (some (0, 0, 3))) = some (r1, r2, r3) := H
 have A2 := A_ A20
 clear A20
 by_cases c3 : t149 = true
 ·
  subst c3
  have H1 : (if 0 < (a0.size : Int) then (if (bt a0 0) = 45 then (if 1 ≤ (a0.size : Int) then (fixed_Parse.j0 k (a0.extract 1 a0.size) true) else (none)) else (fixed_Parse.j0 k a0 false)) else (none)) = some (r1, r2, r3) := by rw [if_pos rfl] at H; exact H
  clear H
  have H := H1
  clear H1
  by_cases c4 : 0 < (a0.size : Int)
  ·
   rw [if_pos c4] at H
   have c4b0 : decide (0 < (a0.size : Int)) = true := decide_eq_true c4
   have c4b1 : decide (0 < a0.size) = true := decide_eq_true (by omega)
   clear c4
   have HC6 := A_ H
   clear H
   go_enter Try.func15, Try.ntmps15
   go_upto_if 21 with (first | ((with_reducible refine gate_dst (N := 2) rfl ?_); refine box_event ?hg (N := 2) ?hd (cs := #[.int .i64 0, .int .u64 0]) (t := 24) ?hr ?_; (case hd => rfl); (case hg => rfl); (case hr => first | (go_simp; done) | (go_simp; rfl)); intro gb302 hg w7 hbox hb; have n0_ := A_ (bs_ bw_ hb); have n1_ := A_ (hbox); have n2_ := A_ ((by rw [hg]; exact (bz_ bw_) : w.heap.size ≤ gb302)); have n3_ := A_ ((by rw [hg]; exact (bz_ bw_) : w.heap.size ≤ gb302)); clear HB; have HB := n0_; have BK302 := n1_; have GW302 := n2_; have GE302 := n3_; clear n0_ n1_ n2_ n3_; clear hb hbox hg) | ((with_reducible refine gate_callee (f := 48) rfl ?_); refine goesL_ (some 15) rfl rfl Try.func48 (by kernel_rfl) rfl #[.string a0] rfl (by (try simp only [List.map_toArray, List.map_cons, List.map_nil]); first | done | rfl | (simp only [List.length_drop, List.length_take]; rfl)) ?_; (with_reducible refine (fixed_form.calls k a0 true _ A2.out).mono ?_); rintro e w8 ⟨rfl, hb⟩; refine ⟨_, rfl, ?_⟩; have n0_ := A_ (kb_ BK302 hb); have n1_ := A_ (bs_ bw_ hb); clear BK302; clear HB; have BK302 := n0_; have HB := n1_; clear n0_ n1_; (try clear hb); (try clear hb2); (try clear hk); (try clear hi); have p5 : 0 ≤ (0 : Int) := (by omega); have q5 : 0 < a0.size := (by have : (0 : Int) < (a0.size : Int) := od_ (by first | (with_reducible assumption) | assumption); omega); have hx5 : ∀ h : 0 < a0.size, ((a0[0]'h).toNat : Int) = bt a0 0 := bt_at a0 0; clear p5; have qi5 : (0 < (a0.size : Int)) = True := eq_true (od_ (by first | (with_reducible assumption) | assumption)); replace q5 := eq_true q5))
   (try simp only [Act.put, sA_, sZ_, sS_])
   go_cut [0, 4] (fun v0 v4 wc => ∃ (kq : Nat) (x0_5 : ByteArray) (x4_5 : Bool), v0 = .string x0_5 ∧ v4 = .bool x4_5 ∧ Aside0 (fixed_Parse.j0 kq x0_5 x4_5 = some (r1, r2, r3)) ∧ Aside0 (kq ≤ k) ∧ Aside0 (wc.heap[gb302]? = some (.cells #[.int .i64 0, .int .u64 0] 24 (0, 0))) ∧ Aside0 (Below w.heap.size w wc))
   case first =>
    have H := HC6.out
    clear HC6
    by_cases c9 : (bt a0 0) = 45
    ·
     rw [if_pos c9] at H
     have c9b0 : ((bt a0 0) == 45) = true := q1_ c9
     have c9b1 : ((bt a0 0) != 45) = false := q3_ c9
     clear c9
     (first | rw [c9b0] | (simp only [i64_w, i32_w]; rw [c9b0]) | skip)
     by_cases c10 : 1 ≤ (a0.size : Int)
     ·
      rw [if_pos c10] at H
      have c10b0 := eq_true c10
      have c10b1 : decide (1 ≤ (a0.size : Int)) = true := decide_eq_true c10
      clear c10
      have H' := A_ H
      clear H
      go_wp2
      go_meet
      case rel => exact ⟨_, (a0.extract 1 a0.size), (true), (by first | rfl | (simp; done) | (simp [*]; done)), (by first | rfl | (simp; done) | (simp [*]; done)), H', ⟨by first | omega | exact Nat.le_refl _⟩, ⟨bk_⟩, ⟨bw_⟩⟩
     ·
      rw [if_neg c10] at H
      exact absurd H (by simp)
    ·
     rw [if_neg c9] at H
     have c9b0 : ((bt a0 0) == 45) = false := q4_ c9
     have c9b1 : ((bt a0 0) != 45) = true := q2_ c9
     (first | rw [c9b0] | (simp only [i64_w, i32_w]; rw [c9b0]) | skip)
     have H' := A_ H
     clear H
     go_wp2
     go_meet
     case rel => exact ⟨_, (a0), (false), (by first | rfl | (simp; done) | (simp [*]; done)), (by first | rfl | (simp; done) | (simp [*]; done)), H', ⟨by first | omega | exact Nat.le_refl _⟩, ⟨bk_⟩, ⟨bw_⟩⟩
   case rest =>
    clear HC6
    try clear c1
    try clear p2
    try clear c3
    try clear c4
    try clear c4b0
    try clear c4b1
    try clear p5
    try clear q5
    try clear hx5
    try clear qi5
    try clear c9
    try clear c9b0
    try clear c9b1
    try clear c10
    try clear c10b0
    try clear c10b1
    try clear p5
    try clear q5
    obtain ⟨kq, x0_5, x4_5, rfl, rfl, HA, HJ5, BK302, HB⟩ := hcut
    cases kq with
    | zero => exact absurd HA.out (by simp [fixed_Parse.j0])
    | succ kj5 =>
     have H := HA.out
     clear HA
     simp only [fixed_Parse.j0] at H
     by_cases c11 : x0_5.size ≤ 9223372036854775807
     ·
      rw [if_pos c11] at H
      have c11b0 := eq_true c11
      have c11b1 : decide (x0_5.size ≤ 9223372036854775807) = true := decide_eq_true c11
      try have c11b2 : (9223372036854775807 < x0_5.size) = False := eq_false (Nat.not_lt.2 c11)
      clear c11
      obtain ⟨y150, hy150⟩ : ∃ y_ : List Int, y_ = (bytesOf x0_5) := ⟨_, rfl⟩
      replace H : (fixed_Parse.l0 kj5 x4_5 0 0 y150 (y150.length : Int) 0) = some (r1, r2, r3) := by first | (rw [hy150]; with_reducible exact H) | (have H2_ := (Option.bind_some _ _).symm.trans H; rw [hy150]; with_reducible exact H2_) | (have H2_ := (Option.bind_some _ _).symm.trans H; with_reducible exact H2_) | with_reducible exact H | (rw [hy150]; exact H) | exact H
      have Ny150 := A_ hy150
      clear hy150
      have H' := A_ H
      clear H
      go_wp2_with (((with_reducible refine gate_dst (N := 25) rfl ?_); refine conv_event _ 5 ?hg (N := 25) ?hd x0_5 (od_ (by first | (with_reducible assumption) | assumption)) ?hr (Below.refl _ _) (Nat.le_refl _) ?_; (case hd => rfl); (case hg => rfl); (case hr => have kb_ := fun W_ => print_bytes (P := Try.prog) 9 77 5 Try.underlying9 Try.underlying77 Try.underlying5 x0_5 W_; first | (go_simp; done) | (go_simp; rfl)); intro v151 w12 ho13 hb hg_ hnew_; clear hg_ hnew_; (first | rw [← Ny150.out] at ho13 | (simp only [Int.reduceToNat] at ho13; rw [← Ny150.out] at ho13)); have n0_ := A_ (Kd.V_lower (vm_ (ok' := fun k_ => k_ ≠ gb302) ho13 (fun k_ hk_ => (Kd.freshB (g := gb302) (o := .cells #[.int .i64 0, .int .u64 0] 24 (0, 0)) bk_ k_ hk_))) (bz_ bw_)); have n1_ := A_ (kb_ BK302 hb); have n2_ := A_ (bs_ bw_ hb); clear BK302; clear HB; have HO152 := n0_; have BK302 := n1_; have HB := n2_; clear n0_ n1_ n2_; clear hb ho13; obtain ⟨Ao14, co14, eo14⟩ := Kd.V_slice HO152.out; subst eo14))
      (try simp only [Act.put, sA_, sZ_, sS_])
      go_loopg [5, 6, 27] kj5 (fun kq v5 v6 v27 w' => ∃ (x5_2 : Int) (x6_2 : Int) (x27_2 : Int) (x303000_2 : Int) (x303001_2 : Int), v5 = .int .u64 x5_2 ∧ v6 = .int .u64 x6_2 ∧ v27 = .int .i64 x27_2 ∧ Aside0 (fixed_Parse.l0 kq x4_5 x5_2 x6_2 y150 (y150.length : Int) x27_2 = some (r1, r2, r3)) ∧ Aside0 (kq ≤ kj5) ∧ Aside0 (Kd.V (Kd.int .u8) 5 w' w.heap.size (fun k_ => k_ ≠ gb302) (.slice Ao14 y150.length co14) y150) ∧ Aside0 (w'.heap[gb302]? = some (.cells #[.int .i64 x303000_2, .int .u64 x303001_2] 24 (0, 0))) ∧ Aside0 (Below w.heap.size w w'))
      case atStart => exact ⟨(0), (0), (0), (0), (0), (by first | rfl | (simp; done) | (simp [*]; done)), (by first | rfl | (simp; done) | (simp [*]; done)), (by first | rfl | (simp; done) | (simp [*]; done)), H', ⟨Nat.le_refl _⟩, ⟨by (with_reducible repeat (first | apply va_ | apply vn_ | apply vd_)); exact HO152.out⟩, ⟨bk_⟩, ⟨bw_⟩⟩
      case round =>
       clear H'
       try clear c1
       try clear p2
       try clear c3
       try clear c4
       try clear c4b0
       try clear c4b1
       try clear p5
       try clear q5
       try clear hx5
       try clear qi5
       try clear c9
       try clear c9b0
       try clear c9b1
       try clear c10
       try clear c10b0
       try clear c10b1
       try clear c11
       try clear c11b0
       try clear c11b1
       try clear c11b2
       try clear p2
       try clear p5
       try clear q5
       obtain ⟨x5_2, x6_2, x27_2, x303000_2, x303001_2, rfl, rfl, rfl, HA, HK2, HO_25, BK302, HB⟩ := hrel
       cases gk with
       | zero => exact absurd HA.out (by simp [fixed_Parse.l0])
       | succ k2 =>
        have H := HA.out
        clear HA
        simp only [fixed_Parse.l0] at H
        by_cases c15 : x27_2 < (y150.length : Int)
        ·
         rw [if_pos c15] at H
         have c15b0 : decide (x27_2 < (y150.length : Int)) = true := decide_eq_true c15
         clear c15
         by_cases c16 : 0 ≤ x27_2
         ·
          rw [if_pos c16] at H
          have c16b0 : decide (0 ≤ x27_2) = true := decide_eq_true c16
          clear c16
          by_cases c17 : x27_2 < (y150.length : Int)
          ·
           rw [if_pos c17] at H
           have c17b0 : decide (x27_2 < (y150.length : Int)) = true := decide_eq_true c17
           clear c17
           replace H := os_ H
           obtain ⟨⟨t157, t158⟩, A180, H⟩ := H
           replace H : ((bits_Mul64.f x6_2 10).bind fun bt159 => (if (addHi bt159.2 (((rd y150 x27_2) - 48) % 256) 0) ≤ 1 then (if (IntKind.u64.wrap (t157 + (addHi t158 bt159.1 (addHi bt159.2 (((rd y150 x27_2) - 48) % 256) 0)))) > 0 then (some (0, 0, 4)) else (fixed_Parse.l0 k2 x4_5 (addLo t158 bt159.1 (addHi bt159.2 (((rd y150 x27_2) - 48) % 256) 0)) (addLo bt159.2 (((rd y150 x27_2) - 48) % 256) 0) y150 (y150.length : Int) (wrap64 (x27_2 + 1)))) else (none))) = some (r1, r2, r3) := H
           have A18 := A_ A180
           clear A180
           replace H := os_ H
           obtain ⟨⟨t159, t160⟩, A190, H⟩ := H
           replace H : (if (addHi t160 (((rd y150 x27_2) - 48) % 256) 0) ≤ 1 then (if (IntKind.u64.wrap (t157 + (addHi t158 t159 (addHi t160 (((rd y150 x27_2) - 48) % 256) 0)))) > 0 then (some (0, 0, 4)) else (fixed_Parse.l0 k2 x4_5 (addLo t158 t159 (addHi t160 (((rd y150 x27_2) - 48) % 256) 0)) (addLo t160 (((rd y150 x27_2) - 48) % 256) 0) y150 (y150.length : Int) (wrap64 (x27_2 + 1)))) else (none)) = some (r1, r2, r3) := H
           have A19 := A_ A190
           clear A190
           by_cases c20 : (addHi t160 (((rd y150 x27_2) - 48) % 256) 0) ≤ 1
           ·
            rw [if_pos c20] at H
            have c20b0 := eq_true c20
            have c20b1 : decide ((addHi t160 (((rd y150 x27_2) - 48) % 256) 0) ≤ 1) = true := decide_eq_true c20
            clear c20
            by_cases c21 : (IntKind.u64.wrap (t157 + (addHi t158 t159 (addHi t160 (((rd y150 x27_2) - 48) % 256) 0)))) > 0
            ·
             rw [if_pos c21] at H
             have c21b0 : decide (0 < (IntKind.u64.wrap (t157 + (addHi t158 t159 (addHi t160 (((rd y150 x27_2) - 48) % 256) 0))))) = true := decide_eq_true c21
             clear c21
             simp only [Option.some.injEq, Prod.mk.injEq] at H
             obtain ⟨rfl, rfl, rfl⟩ := H
             have p156 : 0 ≤ (x27_2 : Int) := od_ (by first | (with_reducible assumption) | assumption)
             have q156 : x27_2 < (y150.length : Int) := od_ (by first | (with_reducible assumption) | assumption)
             obtain ⟨ad156, e156, hx156_0⟩ := Kd.at_int (Kd.V_reads' HO_25.out).2.2 x27_2 p156 q156
             cases e156
             replace p156 := eq_true p156
             replace q156 := eq_true q156
             go_wp2_with (first | ((with_reducible refine gate_callee (f := 49) rfl ?_); refine goesL_ (some 33) rfl rfl Try.func49 (by kernel_rfl) rfl #[.int .u64 x5_2, .int .u64 10] rfl (by (try simp only [List.map_toArray, List.map_cons, List.map_nil]); first | done | rfl | (simp only [List.length_drop, List.length_take]; rfl)) ?_; (with_reducible refine (bits_Mul64.calls x5_2 10 t157 t158 _ A18.out).mono ?_); rintro e w' ⟨rfl, ⟨nd, rfl⟩⟩; refine ⟨_, rfl, ?_⟩; (try (rw [drewN_self wr]; generalize hq_ : World.drewN wr _ = wr; have n0_ : Aside0 (Kd.V (Kd.int .u8) 5 wr w.heap.size (fun k_ => k_ ≠ gb302) (.slice (some ad156) y150.length co14) y150) := ⟨by rw [← hq_]; exact (by (with_reducible repeat (first | apply va_ | apply vn_ | apply vd_)); exact HO_25.out)⟩; have n1_ : Aside0 (wr.heap[gb302]? = some (.cells #[.int .i64 x303000_2, .int .u64 x303001_2] 24 (0, 0))) := ⟨by rw [← hq_]; exact bk_⟩; have n2_ : Aside0 (Below w.heap.size w wr) := ⟨by rw [← hq_]; exact bw_⟩; clear HO_25 BK302 HB hq_; have HO_25 := n0_; have BK302 := n1_; have HB := n2_; clear n0_ n1_ n2_))) | ((with_reducible refine gate_callee (f := 49) rfl ?_); refine goesL_ (some 38) rfl rfl Try.func49 (by kernel_rfl) rfl #[.int .u64 x6_2, .int .u64 10] rfl (by (try simp only [List.map_toArray, List.map_cons, List.map_nil]); first | done | rfl | (simp only [List.length_drop, List.length_take]; rfl)) ?_; (with_reducible refine (bits_Mul64.calls x6_2 10 t159 t160 _ A19.out).mono ?_); rintro e w' ⟨rfl, ⟨nd, rfl⟩⟩; refine ⟨_, rfl, ?_⟩; (try (rw [drewN_self wr]; generalize hq_ : World.drewN wr _ = wr; have n0_ : Aside0 (Kd.V (Kd.int .u8) 5 wr w.heap.size (fun k_ => k_ ≠ gb302) (.slice (some ad156) y150.length co14) y150) := ⟨by rw [← hq_]; exact (by (with_reducible repeat (first | apply va_ | apply vn_ | apply vd_)); exact HO_25.out)⟩; have n1_ : Aside0 (wr.heap[gb302]? = some (.cells #[.int .i64 x303000_2, .int .u64 x303001_2] 24 (0, 0))) := ⟨by rw [← hq_]; exact bk_⟩; have n2_ : Aside0 (Below w.heap.size w wr) := ⟨by rw [← hq_]; exact bw_⟩; clear HO_25 BK302 HB hq_; have HO_25 := n0_; have BK302 := n1_; have HB := n2_; clear n0_ n1_ n2_)); have hcz22_0 : wr.cell? ⟨gb302, 0, none⟩ = some (.int .i64 x303000_2) := (bc_ BK302.out 0).trans rfl; have hcz22_1 : wr.cell? ⟨gb302, 1, none⟩ = some (.int .u64 x303001_2) := (bc_ BK302.out 1).trans rfl; have hfz22_0 := bf_ BK302.out 0; have hfz22_1 := bf_ BK302.out 1))
             refine bodyPost_ret (results_ct rfl _ _ gb302 24 #[.int .i64 0, .int .u64 0] (0, 0) _ rfl (by (with_reducible repeat (first | refine bn_ ?_ _ | refine bd_ ?_ | refine ba_ ?_ _)); refine bp_ (cs := #[.int .i64 0, .int .u64 x303001_2]) ?_ 1 _ rfl; (with_reducible repeat (first | refine bn_ ?_ _ | refine bd_ ?_ | refine ba_ ?_ _)); refine bp_ (cs := #[.int .i64 x303000_2, .int .u64 x303001_2]) ?_ 0 _ rfl; (with_reducible repeat (first | refine bn_ ?_ _ | refine bd_ ?_ | refine ba_ ?_ _)); exact BK302.out) Try.underlying24 rfl (by kernel_rfl)) rfl ?_
             exact ⟨by first | rfl | (simp [errW_none, errW_some] <;> rfl) | (simp [*, errW_none, errW_some] <;> rfl), bw_⟩
            ·
             rw [if_neg c21] at H
             have c21b0 : decide (0 < (IntKind.u64.wrap (t157 + (addHi t158 t159 (addHi t160 (((rd y150 x27_2) - 48) % 256) 0))))) = false := decide_eq_false c21
             clear c21
             have H' := A_ H
             clear H
             have p156 : 0 ≤ (x27_2 : Int) := od_ (by first | (with_reducible assumption) | assumption)
             have q156 : x27_2 < (y150.length : Int) := od_ (by first | (with_reducible assumption) | assumption)
             obtain ⟨ad156, e156, hx156_0⟩ := Kd.at_int (Kd.V_reads' HO_25.out).2.2 x27_2 p156 q156
             cases e156
             replace p156 := eq_true p156
             replace q156 := eq_true q156
             go_wp2_with (first | ((with_reducible refine gate_callee (f := 49) rfl ?_); refine goesL_ (some 33) rfl rfl Try.func49 (by kernel_rfl) rfl #[.int .u64 x5_2, .int .u64 10] rfl (by (try simp only [List.map_toArray, List.map_cons, List.map_nil]); first | done | rfl | (simp only [List.length_drop, List.length_take]; rfl)) ?_; (with_reducible refine (bits_Mul64.calls x5_2 10 t157 t158 _ A18.out).mono ?_); rintro e w' ⟨rfl, ⟨nd, rfl⟩⟩; refine ⟨_, rfl, ?_⟩) | ((with_reducible refine gate_callee (f := 49) rfl ?_); refine goesL_ (some 38) rfl rfl Try.func49 (by kernel_rfl) rfl #[.int .u64 x6_2, .int .u64 10] rfl (by (try simp only [List.map_toArray, List.map_cons, List.map_nil]); first | done | rfl | (simp only [List.length_drop, List.length_take]; rfl)) ?_; (with_reducible refine (bits_Mul64.calls x6_2 10 t159 t160 _ A19.out).mono ?_); rintro e w' ⟨rfl, ⟨nd, rfl⟩⟩; refine ⟨_, rfl, ?_⟩))
             go_roundg k2
             case measure => have := HJ5.out; have := HK2.out; omega
             case rel => exact ⟨(addLo t158 t159 (addHi t160 (((rd y150 x27_2) - 48) % 256) 0)), (addLo t160 (((rd y150 x27_2) - 48) % 256) 0), (wrap64 (x27_2 + 1)), (x303000_2), (x303001_2), (by first | rfl | (simp; done) | (simp [*]; done)), (by first | rfl | (simp; done) | (simp [*]; done)), (by first | rfl | (simp; done) | (simp [*]; done)), H', ⟨by have := HJ5.out; have := HK2.out; omega⟩, ⟨by (with_reducible repeat (first | apply va_ | apply vn_ | apply vd_)); exact HO_25.out⟩, ⟨bk_⟩, ⟨bw_⟩⟩
           ·
            rw [if_neg c20] at H
            exact absurd H (by simp)
          ·
           rw [if_neg c17] at H
           exact absurd H (by simp)
         ·
          rw [if_neg c16] at H
          exact absurd H (by simp)
        ·
         rw [if_neg c15] at H
         have c15b0 : decide (x27_2 < (y150.length : Int)) = false := decide_eq_false c15
         clear c15
         replace H := os_ H
         obtain ⟨⟨t153, t154, t155⟩, A230, H⟩ := H
         replace H : (some (t153, t154, t155)) = some (r1, r2, r3) := H
         have A23 := A_ A230
         clear A230
         simp only [Option.some.injEq, Prod.mk.injEq] at H
         obtain ⟨rfl, rfl, rfl⟩ := H
         go_wp2_with (((with_reducible refine gate_callee (f := 39) rfl ?_); refine goesL_ (some 65) rfl rfl Try.func39 (by kernel_rfl) rfl #[.int .u64 x5_2, .int .u64 x6_2, .bool x4_5] rfl (by (try simp only [List.map_toArray, List.map_cons, List.map_nil]); first | done | rfl | (simp only [List.length_drop, List.length_take]; rfl)) ?_; (with_reducible refine (fixed_signed.calls k2 x5_2 x6_2 x4_5 t153 t154 t155 _ A23.out).mono ?_); rintro e w24 ⟨rfl, hb⟩; refine ⟨_, rfl, ?_⟩; have n0_ := A_ (Kd.V_below (by (with_reducible repeat (first | apply va_ | apply vn_ | apply vd_)); exact HO_25.out) hb); have n1_ := A_ (kb_ BK302 hb); have n2_ := A_ (bs_ bw_ hb); clear HO_25; clear BK302; clear HB; have HO_25 := n0_; have BK302 := n1_; have HB := n2_; clear n0_ n1_ n2_; (try clear hb); (try clear hb2); (try clear hk); (try clear hi); have hcz25_0 : w24.cell? ⟨gb302, 0, none⟩ = some (.int .i64 x303000_2) := (bc_ BK302.out 0).trans rfl; have hcz25_1 : w24.cell? ⟨gb302, 1, none⟩ = some (.int .u64 x303001_2) := (bc_ BK302.out 1).trans rfl; have hfz25_0 := bf_ BK302.out 0; have hfz25_1 := bf_ BK302.out 1))
         refine bodyPost_ret (results_ct rfl _ _ gb302 24 #[.int .i64 t153, .int .u64 t154] (0, 0) _ rfl (by (with_reducible repeat (first | refine bn_ ?_ _ | refine bd_ ?_ | refine ba_ ?_ _)); refine bp_ (cs := #[.int .i64 t153, .int .u64 x303001_2]) ?_ 1 _ rfl; (with_reducible repeat (first | refine bn_ ?_ _ | refine bd_ ?_ | refine ba_ ?_ _)); refine bp_ (cs := #[.int .i64 x303000_2, .int .u64 x303001_2]) ?_ 0 _ rfl; (with_reducible repeat (first | refine bn_ ?_ _ | refine bd_ ?_ | refine ba_ ?_ _)); exact BK302.out) Try.underlying24 rfl (by kernel_rfl)) rfl ?_
         exact ⟨by first | rfl | (simp [errW_none, errW_some] <;> rfl) | (simp [*, errW_none, errW_some] <;> rfl), bw_⟩
     ·
      rw [if_neg c11] at H
      exact absurd H (by simp)
  ·
   rw [if_neg c4] at H
   exact absurd H (by simp)
 ·
  replace c3 := Bool.eq_false_iff.mpr c3
  subst c3
  have H1 : (some (0, 0, 3)) = some (r1, r2, r3) := by rw [if_neg (show ¬ (false = true) by decide)] at H; exact H
  clear H
  have H := H1
  clear H1
  simp only [Option.some.injEq, Prod.mk.injEq] at H
  obtain ⟨rfl, rfl, rfl⟩ := H
  go_enter Try.func15, Try.ntmps15
  go_wp2_with (first | ((with_reducible refine gate_dst (N := 2) rfl ?_); refine box_event ?hg (N := 2) ?hd (cs := #[.int .i64 0, .int .u64 0]) (t := 24) ?hr ?_; (case hd => rfl); (case hg => rfl); (case hr => first | (go_simp; done) | (go_simp; rfl)); intro gb302 hg w26 hbox hb; have n0_ := A_ (bs_ bw_ hb); have n1_ := A_ (hbox); have n2_ := A_ ((by rw [hg]; exact (bz_ bw_) : w.heap.size ≤ gb302)); have n3_ := A_ ((by rw [hg]; exact (bz_ bw_) : w.heap.size ≤ gb302)); clear HB; have HB := n0_; have BK302 := n1_; have GW302 := n2_; have GE302 := n3_; clear n0_ n1_ n2_ n3_; clear hb hbox hg) | ((with_reducible refine gate_callee (f := 48) rfl ?_); refine goesL_ (some 15) rfl rfl Try.func48 (by kernel_rfl) rfl #[.string a0] rfl (by (try simp only [List.map_toArray, List.map_cons, List.map_nil]); first | done | rfl | (simp only [List.length_drop, List.length_take]; rfl)) ?_; (with_reducible refine (fixed_form.calls k a0 false _ A2.out).mono ?_); rintro e w27 ⟨rfl, hb⟩; refine ⟨_, rfl, ?_⟩; have n0_ := A_ (kb_ BK302 hb); have n1_ := A_ (bs_ bw_ hb); clear BK302; clear HB; have BK302 := n0_; have HB := n1_; clear n0_ n1_; (try clear hb); (try clear hb2); (try clear hk); (try clear hi); have hcz28_0 : w27.cell? ⟨gb302, 0, none⟩ = some (.int .i64 0) := (bc_ BK302.out 0).trans rfl; have hcz28_1 : w27.cell? ⟨gb302, 1, none⟩ = some (.int .u64 0) := (bc_ BK302.out 1).trans rfl; have hfz28_0 := bf_ BK302.out 0; have hfz28_1 := bf_ BK302.out 1))
  refine bodyPost_ret (results_ct rfl _ _ gb302 24 #[.int .i64 0, .int .u64 0] (0, 0) _ rfl (by (with_reducible repeat (first | refine bn_ ?_ _ | refine bd_ ?_ | refine ba_ ?_ _)); refine bp_ (cs := #[.int .i64 0, .int .u64 0]) ?_ 1 _ rfl; (with_reducible repeat (first | refine bn_ ?_ _ | refine bd_ ?_ | refine ba_ ?_ _)); refine bp_ (cs := #[.int .i64 0, .int .u64 0]) ?_ 0 _ rfl; (with_reducible repeat (first | refine bn_ ?_ _ | refine bd_ ?_ | refine ba_ ?_ _)); exact BK302.out) Try.underlying24 rfl (by kernel_rfl)) rfl ?_
  exact ⟨by first | rfl | (simp [errW_none, errW_some] <;> rfl) | (simp [*, errW_none, errW_some] <;> rfl), bw_⟩
end Go.Proofs.Ytjbcigiffihjaaa.Fx
end
section
namespace Go.Proofs.Ytjbcigiffihjaaa.Fx
open Go.RowKit Go.Proofs.YtjbcigiffihjaaaW.PrintWords Go.Proofs.YtjbcigiffihjaaaW.PrintLast Go.Proofs.YtjbcigiffihjaaaW.PrintMore
attribute [local go_sem] max2_int min2_int max_two min_two max_three min_three max_four min_four   -- for this text's walks alone
set_option linter.unusedVariables false
set_option linter.unusedSimpArgs false
attribute [local go_sem] run_add64_any
def fixed_up.f (a0 : Int) (a1 : Bool) (a2 : Bool) (a3 : Int) (a4 : Int) : Option (Bool) := if a3 = 0 then (some false) else (if a0 = 0 then (some a1) else (if a0 = 1 then (some (!a1)) else (if a0 = 2 then (some false) else (if a3 > (IntKind.u64.wrap (a4 - a3)) then (some true) else (if a3 = (IntKind.u64.wrap (a4 - a3)) then (some a2) else (some false))))))
set_option maxHeartbeats 8000000 in
set_option maxRecDepth 100000 in
theorem fixed_up.calls (a0 : Int) (a1 : Bool) (a2 : Bool) (a3 : Int) (a4 : Int) (r : Bool) (w : World) (h : fixed_up.f a0 a1 a2 a3 a4 = some r) :
  Calls Try.prog 37 #[.int .i64 a0, .bool a1, .bool a2, .int .u64 a3, .int .u64 a4] w fun e w' => e = .returned (.bool r) ∧ Drawn0 w w' := by
 have H : (if a3 = 0 then (some false) else (if a0 = 0 then (some a1) else (if a0 = 1 then (some (!a1)) else (if a0 = 2 then (some false) else (if a3 > (IntKind.u64.wrap (a4 - a3)) then (some true) else (if a3 = (IntKind.u64.wrap (a4 - a3)) then (some a2) else (some false))))))) = some r := h
 clear h
 by_cases c6 : a3 = 0
 ·
  rw [if_pos c6] at H
  have c6b0 : (a3 == 0) = true := q1_ c6
  have c6b1 : (a3 != 0) = false := q3_ c6
  clear c6
  obtain rfl := Option.some.inj H
  go_enter Try.func37, Try.ntmps37
  go_wp2
  go_ret
  exact ⟨by first | rfl | (simp; done) | (simp [*]; done), by repeat (first | exact Drawn0.refl _ | apply Drawn0.step)⟩
 ·
  rw [if_neg c6] at H
  have c6b0 : (a3 == 0) = false := q4_ c6
  have c6b1 : (a3 != 0) = true := q2_ c6
  by_cases c7 : a0 = 0
  ·
   rw [if_pos c7] at H
   have c7b0 : (a0 == 0) = true := q1_ c7
   have c7b1 : (a0 != 0) = false := q3_ c7
   clear c7
   obtain rfl := Option.some.inj H
   go_enter Try.func37, Try.ntmps37
   go_wp2
   go_ret
   exact ⟨by first | rfl | (simp; done) | (simp [*]; done), by repeat (first | exact Drawn0.refl _ | apply Drawn0.step)⟩
  ·
   rw [if_neg c7] at H
   have c7b0 : (a0 == 0) = false := q4_ c7
   have c7b1 : (a0 != 0) = true := q2_ c7
   by_cases c8 : a0 = 1
   ·
    rw [if_pos c8] at H
    have c8b0 : (a0 == 1) = true := q1_ c8
    have c8b1 : (a0 != 1) = false := q3_ c8
    clear c8
    obtain rfl := Option.some.inj H
    go_enter Try.func37, Try.ntmps37
    go_wp2
    go_ret
    exact ⟨by first | rfl | (simp; done) | (simp [*]; done), by repeat (first | exact Drawn0.refl _ | apply Drawn0.step)⟩
   ·
    rw [if_neg c8] at H
    have c8b0 : (a0 == 1) = false := q4_ c8
    have c8b1 : (a0 != 1) = true := q2_ c8
    by_cases c9 : a0 = 2
    ·
     rw [if_pos c9] at H
     have c9b0 : (a0 == 2) = true := q1_ c9
     have c9b1 : (a0 != 2) = false := q3_ c9
     clear c9
     obtain rfl := Option.some.inj H
     go_enter Try.func37, Try.ntmps37
     go_wp2
     go_ret
     exact ⟨by first | rfl | (simp; done) | (simp [*]; done), by repeat (first | exact Drawn0.refl _ | apply Drawn0.step)⟩
    ·
     rw [if_neg c9] at H
     have c9b0 : (a0 == 2) = false := q4_ c9
     have c9b1 : (a0 != 2) = true := q2_ c9
     by_cases c10 : a3 > (IntKind.u64.wrap (a4 - a3))
     ·
      rw [if_pos c10] at H
      have c10b0 : decide ((IntKind.u64.wrap (a4 - a3)) < a3) = true := decide_eq_true c10
      clear c10
      obtain rfl := Option.some.inj H
      go_enter Try.func37, Try.ntmps37
      go_wp2
      go_ret
      exact ⟨by first | rfl | (simp; done) | (simp [*]; done), by repeat (first | exact Drawn0.refl _ | apply Drawn0.step)⟩
     ·
      rw [if_neg c10] at H
      have c10b0 : decide ((IntKind.u64.wrap (a4 - a3)) < a3) = false := decide_eq_false c10
      clear c10
      by_cases c11 : a3 = (IntKind.u64.wrap (a4 - a3))
      ·
       rw [if_pos c11] at H
       have c11b0 : (a3 == (IntKind.u64.wrap (a4 - a3))) = true := q1_ c11
       have c11b1 : (a3 != (IntKind.u64.wrap (a4 - a3))) = false := q3_ c11
       clear c11
       obtain rfl := Option.some.inj H
       go_enter Try.func37, Try.ntmps37
       go_wp2
       go_ret
       exact ⟨by first | rfl | (simp; done) | (simp [*]; done), by repeat (first | exact Drawn0.refl _ | apply Drawn0.step)⟩
      ·
       rw [if_neg c11] at H
       have c11b0 : (a3 == (IntKind.u64.wrap (a4 - a3))) = false := q4_ c11
       have c11b1 : (a3 != (IntKind.u64.wrap (a4 - a3))) = true := q2_ c11
       obtain rfl := Option.some.inj H
       go_enter Try.func37, Try.ntmps37
       go_wp2
       go_ret
       exact ⟨by first | rfl | (simp; done) | (simp [*]; done), by repeat (first | exact Drawn0.refl _ | apply Drawn0.step)⟩
end Go.Proofs.Ytjbcigiffihjaaa.Fx
end
section
namespace Go.Proofs.Ytjbcigiffihjaaa.Fx
open Go.RowKit Go.Proofs.YtjbcigiffihjaaaW.PrintWords Go.Proofs.YtjbcigiffihjaaaW.PrintLast Go.Proofs.YtjbcigiffihjaaaW.PrintMore
attribute [local go_sem] max2_int min2_int max_two min_two max_three min_three max_four min_four   -- for this text's walks alone
set_option linter.unusedVariables false
set_option linter.unusedSimpArgs false
attribute [local go_sem] run_add64_any
mutual
def fixed_Divide.j0 : Nat → Int → Int → Bool → Int → Int → Option (Int × Int × Int)
 | 0, _, _, _, _, _ => none
 | k + 1, x1, x2, x25, x304000, x304001 => if x25 = true then (some (0, 0, 1)) else ((fixed_away.f x304000 x304001).bind fun bt107 => (if x1 < 0 then (fixed_Divide.j1 k x1 x2 bt107.1 bt107.2.1 (!bt107.2.2)) else (fixed_Divide.j1 k x1 x2 bt107.1 bt107.2.1 bt107.2.2)))
def fixed_Divide.j1 : Nat → Int → Int → Int → Int → Bool → Option (Int × Int × Int)
 | 0, _, _, _, _, _ => none
 | k + 1, x1, x2, x8, x9, x10 => (fixed_size.f x1).bind fun t110 => (if t110 = 0 then (none) else ((bits_Div64.f k (Int.tmod x8 t110) x9 t110).bind fun bt111 => ((fixed_up.f x2 x10 ((Go.bits .and .u64 bt111.1 1) == 1) bt111.2 t110).bind fun t113 => (if t113 = true then ((fixed_signed.f k (IntKind.u64.wrap ((IntKind.u64.wrap (Int.tdiv x8 t110)) + (addHi bt111.1 1 0))) (addLo bt111.1 1 0) x10).bind fun bt114 => (some (bt114.1, bt114.2.1, bt114.2.2))) else ((fixed_signed.f k (IntKind.u64.wrap (Int.tdiv x8 t110)) bt111.1 x10).bind fun bt117 => (some (bt117.1, bt117.2.1, bt117.2.2)))))))
end
def fixed_Divide.f (k : Nat) (a0_0 : Int) (a0_1 : Int) (a1 : Int) (a2 : Int) : Option (Int × Int × Int) := if a1 = 0 then (fixed_Divide.j0 k a1 a2 true a0_0 a0_1) else (if a2 < 0 then (fixed_Divide.j0 k a1 a2 true a0_0 a0_1) else (fixed_Divide.j0 k a1 a2 (decide (a2 > 3)) a0_0 a0_1))
set_option maxHeartbeats 8000000 in
set_option maxRecDepth 100000 in
theorem fixed_Divide.calls (k : Nat) (a0_0 : Int) (a0_1 : Int) (a1 : Int) (a2 : Int) (r1 : Int) (r2 : Int) (r3 : Int) (w : World) (h : fixed_Divide.f k a0_0 a0_1 a1 a2 = some (r1, r2, r3)) :
  Calls Try.prog 8 #[.agg #[.int .i64 a0_0, .int .u64 a0_1], .int .i64 a1, .int .i64 a2] w fun e w' => e = .returned (.tuple #[.agg #[.int .i64 r1, .int .u64 r2], .int .i64 r3]) ∧ Below w.heap.size w w' := by
 have hu24 := Try.underlying24
 have HB := A_ (Below.refl w.heap.size w)
 have H : (if a1 = 0 then (fixed_Divide.j0 k a1 a2 true a0_0 a0_1) else (if a2 < 0 then (fixed_Divide.j0 k a1 a2 true a0_0 a0_1) else (fixed_Divide.j0 k a1 a2 (decide (a2 > 3)) a0_0 a0_1))) = some (r1, r2, r3) := h
 clear h
 have HC4 := A_ H
 clear H
 go_enter Try.func8, Try.ntmps8
 go_upto_region 1 with (first | ((with_reducible refine gate_dst (N := 3) rfl ?_); refine box_event ?hg (N := 3) ?hd (cs := #[.int .i64 a0_0, .int .u64 a0_1]) (t := 24) ?hr ?_; (case hd => rfl); (case hg => rfl); (case hr => first | (go_simp; done) | (go_simp; rfl)); intro gb303 hg w5 hbox hb; have n0_ := A_ (bs_ bw_ hb); have n1_ := A_ (hbox); have n2_ := A_ ((by rw [hg]; exact (bz_ bw_) : w.heap.size ≤ gb303)); have n3_ := A_ ((by rw [hg]; exact (bz_ bw_) : w.heap.size ≤ gb303)); clear HB; have HB := n0_; have BK303 := n1_; have GW303 := n2_; have GE303 := n3_; clear n0_ n1_ n2_ n3_; clear hb hbox hg) | ((with_reducible refine gate_dst (N := 6) rfl ?_); refine box_event ?hg (N := 6) ?hd (cs := #[.int .i64 0, .int .u64 0]) (t := 24) ?hr ?_; (case hd => rfl); (case hg => rfl); (case hr => first | (go_simp; done) | (go_simp; rfl)); intro gb306 hg w6 hbox hb; have n0_ := A_ (kb_ BK303 hb); have n1_ := A_ (bs_ bw_ hb); have n2_ := A_ (hbox); have n3_ := A_ ((by rw [hg]; exact (bz_ bw_) : w.heap.size ≤ gb306)); have n4_ := A_ ((by rw [hg]; exact (bz_ bw_) : w.heap.size ≤ gb306)); have n5_ := A_ ((by rw [hg]; exact nl_ (lt_ BK303) : gb303 ≠ gb306)); have n6_ := A_ ((by rw [hg]; exact ng_ (lt_ BK303) : gb306 ≠ gb303)); clear BK303; clear HB; have BK303 := n0_; have HB := n1_; have BK306 := n2_; have GW306 := n3_; have GE306 := n4_; have NB303_306 := n5_; have NB306_303 := n6_; clear n0_ n1_ n2_ n3_ n4_ n5_ n6_; clear hb hbox hg))
 repeat (go_quiet (fail); go_upto_region 1 with (first | ((with_reducible refine gate_dst (N := 3) rfl ?_); refine box_event ?hg (N := 3) ?hd (cs := #[.int .i64 a0_0, .int .u64 a0_1]) (t := 24) ?hr ?_; (case hd => rfl); (case hg => rfl); (case hr => first | (go_simp; done) | (go_simp; rfl)); intro gb303 hg w5 hbox hb; have n0_ := A_ (bs_ bw_ hb); have n1_ := A_ (hbox); have n2_ := A_ ((by rw [hg]; exact (bz_ bw_) : w.heap.size ≤ gb303)); have n3_ := A_ ((by rw [hg]; exact (bz_ bw_) : w.heap.size ≤ gb303)); clear HB; have HB := n0_; have BK303 := n1_; have GW303 := n2_; have GE303 := n3_; clear n0_ n1_ n2_ n3_; clear hb hbox hg) | ((with_reducible refine gate_dst (N := 6) rfl ?_); refine box_event ?hg (N := 6) ?hd (cs := #[.int .i64 0, .int .u64 0]) (t := 24) ?hr ?_; (case hd => rfl); (case hg => rfl); (case hr => first | (go_simp; done) | (go_simp; rfl)); intro gb306 hg w6 hbox hb; have n0_ := A_ (kb_ BK303 hb); have n1_ := A_ (bs_ bw_ hb); have n2_ := A_ (hbox); have n3_ := A_ ((by rw [hg]; exact (bz_ bw_) : w.heap.size ≤ gb306)); have n4_ := A_ ((by rw [hg]; exact (bz_ bw_) : w.heap.size ≤ gb306)); have n5_ := A_ ((by rw [hg]; exact nl_ (lt_ BK303) : gb303 ≠ gb306)); have n6_ := A_ ((by rw [hg]; exact ng_ (lt_ BK303) : gb306 ≠ gb303)); clear BK303; clear HB; have BK303 := n0_; have HB := n1_; have BK306 := n2_; have GW306 := n3_; have GE306 := n4_; have NB303_306 := n5_; have NB306_303 := n6_; clear n0_ n1_ n2_ n3_ n4_ n5_ n6_; clear hb hbox hg)))
 (try simp only [Act.put, sA_, sZ_, sS_])
 go_cut [25] (fun v25 wc => ∃ (kq : Nat) (x25_3 : Bool), v25 = .bool x25_3 ∧ Aside0 (fixed_Divide.j0 kq a1 a2 x25_3 a0_0 a0_1 = some (r1, r2, r3)) ∧ Aside0 (kq ≤ k) ∧ Aside0 (wc.heap[gb303]? = some (.cells #[.int .i64 a0_0, .int .u64 a0_1] 24 (0, 0))) ∧ Aside0 (wc.heap[gb306]? = some (.cells #[.int .i64 0, .int .u64 0] 24 (0, 0))) ∧ Aside0 (Below w.heap.size w wc))
 case first =>
  have H := HC4.out
  clear HC4
  by_cases c7 : a1 = 0
  ·
   rw [if_pos c7] at H
   have c7b0 : (a1 == 0) = true := q1_ c7
   have c7b1 : (a1 != 0) = false := q3_ c7
   clear c7
   (first | rw [c7b0] | (simp only [i64_w, i32_w]; rw [c7b0]) | skip)
   have H' := A_ H
   clear H
   go_wp2
   repeat (go_quiet (fail); try go_wp2)
   go_meet
   case rel => exact ⟨_, (true), (by first | rfl | (simp; done) | (simp [*]; done)), H', ⟨by first | omega | exact Nat.le_refl _⟩, ⟨bk_⟩, ⟨bk_⟩, ⟨bw_⟩⟩
  ·
   rw [if_neg c7] at H
   have c7b0 : (a1 == 0) = false := q4_ c7
   have c7b1 : (a1 != 0) = true := q2_ c7
   (first | rw [c7b0] | (simp only [i64_w, i32_w]; rw [c7b0]) | skip)
   by_cases c8 : a2 < 0
   ·
    rw [if_pos c8] at H
    have c8b0 : decide (a2 < 0) = true := decide_eq_true c8
    clear c8
    have H' := A_ H
    clear H
    go_wp2
    repeat (go_quiet (fail); try go_wp2)
    go_meet
    case rel => exact ⟨_, (true), (by first | rfl | (simp; done) | (simp [*]; done)), H', ⟨by first | omega | exact Nat.le_refl _⟩, ⟨bk_⟩, ⟨bk_⟩, ⟨bw_⟩⟩
   ·
    rw [if_neg c8] at H
    have c8b0 : decide (a2 < 0) = false := decide_eq_false c8
    clear c8
    have H' := A_ H
    clear H
    go_wp2
    repeat (go_quiet (fail); try go_wp2)
    go_meet
    case rel => exact ⟨_, (decide (a2 > 3)), (by first | rfl | (simp; done) | (simp [*]; done)), H', ⟨by first | omega | exact Nat.le_refl _⟩, ⟨bk_⟩, ⟨bk_⟩, ⟨bw_⟩⟩
 case rest =>
  clear HC4
  try clear p2
  try clear c7
  try clear c7b0
  try clear c7b1
  try clear c8
  try clear c8b0
  obtain ⟨kq, x25_3, rfl, HA, HJ3, BK303, BK306, HB⟩ := hcut
  cases kq with
  | zero => exact absurd HA.out (by simp [fixed_Divide.j0])
  | succ kj3 =>
   have H := HA.out
   clear HA
   simp only [fixed_Divide.j0] at H
   by_cases c9 : x25_3 = true
   ·
    subst c9
    have H1 : (some (0, 0, 1)) = some (r1, r2, r3) := by rw [if_pos rfl] at H; exact H
    clear H
    have H := H1
    clear H1
    simp only [Option.some.injEq, Prod.mk.injEq] at H
    obtain ⟨rfl, rfl, rfl⟩ := H
    have hnb10 := NB306_303.out
    have hnc10 := NB303_306.out
    have hcz11_0 : wc.cell? ⟨gb306, 0, none⟩ = some (.int .i64 0) := (bc_ BK306.out 0).trans rfl
    have hcz11_1 : wc.cell? ⟨gb306, 1, none⟩ = some (.int .u64 0) := (bc_ BK306.out 1).trans rfl
    have hfz11_0 := bf_ BK306.out 0
    have hfz11_1 := bf_ BK306.out 1
    go_wp2
    repeat (go_quiet (fail); try go_wp2)
    refine bodyPost_ret (results_ct rfl _ _ gb306 24 #[.int .i64 0, .int .u64 0] (0, 0) _ rfl (by (with_reducible repeat (first | refine bn_ ?_ _ | refine bd_ ?_ | refine ba_ ?_ _)); refine bp_ (cs := #[.int .i64 0, .int .u64 0]) ?_ 1 _ rfl; (with_reducible repeat (first | refine bn_ ?_ _ | refine bd_ ?_ | refine ba_ ?_ _)); refine bp_ (cs := #[.int .i64 0, .int .u64 0]) ?_ 0 _ rfl; (with_reducible repeat (first | refine bn_ ?_ _ | refine bd_ ?_ | refine ba_ ?_ _)); exact BK306.out) Try.underlying24 rfl (by kernel_rfl)) rfl ?_
    exact ⟨by first | rfl | (simp [errW_none, errW_some] <;> rfl) | (simp [*, errW_none, errW_some] <;> rfl), bw_⟩
   ·
    replace c9 := Bool.eq_false_iff.mpr c9
    subst c9
    have H1 : ((fixed_away.f a0_0 a0_1).bind fun bt107 => (if a1 < 0 then (fixed_Divide.j1 kj3 a1 a2 bt107.1 bt107.2.1 (!bt107.2.2)) else (fixed_Divide.j1 kj3 a1 a2 bt107.1 bt107.2.1 bt107.2.2))) = some (r1, r2, r3) := by rw [if_neg (show ¬ (false = true) by decide)] at H; exact H
    clear H
    have H := H1
    clear H1
    replace H := os_ H
    obtain ⟨⟨t107, t108, t109⟩, A120, H⟩ := H
    replace H : (if a1 < 0 then (fixed_Divide.j1 kj3 a1 a2 t107 t108 (!t109)) else (fixed_Divide.j1 kj3 a1 a2 t107 t108 t109)) = some (r1, r2, r3) := H
    have A12 := A_ A120
    clear A120
    have HC13 := A_ H
    clear H
    have hnb14 := NB303_306.out
    have hnc14 := NB306_303.out
    have hcz15_0 : wc.cell? ⟨gb303, 0, none⟩ = some (.int .i64 a0_0) := (bc_ BK303.out 0).trans rfl
    have hcz15_1 : wc.cell? ⟨gb303, 1, none⟩ = some (.int .u64 a0_1) := (bc_ BK303.out 1).trans rfl
    have hfz15_0 := bf_ BK303.out 0
    have hfz15_1 := bf_ BK303.out 1
    go_upto_if 34 with (first | (go_at_call 34; (with_reducible refine (fixed_away.calls a0_0 a0_1 t107 t108 t109 _ A12.out).mono ?_); rintro e w16 ⟨rfl, hb⟩; have n0_ := A_ (kb_ BK303 hb); have n1_ := A_ (kb_ BK306 hb); have n2_ := A_ (bs_ bw_ hb); clear BK303; clear BK306; clear HB; have BK303 := n0_; have BK306 := n1_; have HB := n2_; clear n0_ n1_ n2_; (try clear hb); (try clear hb2); (try clear hk); (try clear hi)))
    repeat (go_quiet (fail); go_upto_if 34 with (first | (go_at_call 34; (with_reducible refine (fixed_away.calls a0_0 a0_1 t107 t108 t109 _ A12.out).mono ?_); rintro e w16 ⟨rfl, hb⟩; have n0_ := A_ (kb_ BK303 hb); have n1_ := A_ (kb_ BK306 hb); have n2_ := A_ (bs_ bw_ hb); clear BK303; clear BK306; clear HB; have BK303 := n0_; have BK306 := n1_; have HB := n2_; clear n0_ n1_ n2_; (try clear hb); (try clear hb2); (try clear hk); (try clear hi))))
    (try simp only [Act.put, sA_, sZ_, sS_])
    go_cut [10] (fun v10 wc => ∃ (kq : Nat) (x10_12 : Bool), v10 = .bool x10_12 ∧ Aside0 (fixed_Divide.j1 kq a1 a2 t107 t108 x10_12 = some (r1, r2, r3)) ∧ Aside0 (kq ≤ kj3) ∧ Aside0 (wc.heap[gb303]? = some (.cells #[.int .i64 a0_0, .int .u64 a0_1] 24 (0, 0))) ∧ Aside0 (wc.heap[gb306]? = some (.cells #[.int .i64 0, .int .u64 0] 24 (0, 0))) ∧ Aside0 (Below w.heap.size w wc))
    case first =>
     have H := HC13.out
     clear HC13
     by_cases c17 : a1 < 0
     ·
      rw [if_pos c17] at H
      have c17b0 : decide (a1 < 0) = true := decide_eq_true c17
      clear c17
      (first | rw [c17b0] | (simp only [i64_w, i32_w]; rw [c17b0]) | skip)
      have H' := A_ H
      clear H
      go_wp2
      repeat (go_quiet (fail); try go_wp2)
      go_meet
      case rel => exact ⟨_, (!t109), (by first | rfl | (simp; done) | (simp [*]; done)), H', ⟨by have := HJ3.out; first | omega | exact Nat.le_refl _⟩, ⟨bk_⟩, ⟨bk_⟩, ⟨bw_⟩⟩
     ·
      rw [if_neg c17] at H
      have c17b0 : decide (a1 < 0) = false := decide_eq_false c17
      clear c17
      (first | rw [c17b0] | (simp only [i64_w, i32_w]; rw [c17b0]) | skip)
      have H' := A_ H
      clear H
      go_wp2
      repeat (go_quiet (fail); try go_wp2)
      go_meet
      case rel => exact ⟨_, (t109), (by first | rfl | (simp; done) | (simp [*]; done)), H', ⟨by have := HJ3.out; first | omega | exact Nat.le_refl _⟩, ⟨bk_⟩, ⟨bk_⟩, ⟨bw_⟩⟩
    case rest =>
     clear HC13
     try clear c1
     try clear p2
     try clear c7
     try clear c7b0
     try clear c7b1
     try clear c8
     try clear c8b0
     try clear c9
     try clear c10
     try clear c14
     try clear c17
     try clear c17b0
     try clear hcz11_0
     try clear hcz11_1
     try clear hcz15_0
     try clear hcz15_1
     try clear hfz11_0
     try clear hfz11_1
     try clear hfz15_0
     try clear hfz15_1
     try clear p2
     obtain ⟨kq, x10_12, rfl, HA, HJ12, BK303, BK306, HB⟩ := hcut
     cases kq with
     | zero => exact absurd HA.out (by simp [fixed_Divide.j1])
     | succ kj12 =>
      have H := HA.out
      clear HA
      simp only [fixed_Divide.j1] at H
      replace H := os_ H
      obtain ⟨t110, A180, H⟩ := H
      replace H : (if t110 = 0 then (none) else ((bits_Div64.f kj12 (Int.tmod t107 t110) t108 t110).bind fun bt111 => ((fixed_up.f a2 x10_12 ((Go.bits .and .u64 bt111.1 1) == 1) bt111.2 t110).bind fun t113 => (if t113 = true then ((fixed_signed.f kj12 (IntKind.u64.wrap ((IntKind.u64.wrap (Int.tdiv t107 t110)) + (addHi bt111.1 1 0))) (addLo bt111.1 1 0) x10_12).bind fun bt114 => (some (bt114.1, bt114.2.1, bt114.2.2))) else ((fixed_signed.f kj12 (IntKind.u64.wrap (Int.tdiv t107 t110)) bt111.1 x10_12).bind fun bt117 => (some (bt117.1, bt117.2.1, bt117.2.2))))))) = some (r1, r2, r3) := H
      have A18 := A_ A180
      clear A180
      by_cases c19 : t110 = 0
      ·
       rw [if_pos c19] at H
       exact absurd H (by simp)
      ·
       rw [if_neg c19] at H
       have c19b0 : (t110 == 0) = false := q4_ c19
       have c19b1 : (t110 != 0) = true := q2_ c19
       replace H := os_ H
       obtain ⟨⟨t111, t112⟩, A200, H⟩ := H
       replace H : ((fixed_up.f a2 x10_12 ((Go.bits .and .u64 t111 1) == 1) t112 t110).bind fun t113 => (if t113 = true then ((fixed_signed.f kj12 (IntKind.u64.wrap ((IntKind.u64.wrap (Int.tdiv t107 t110)) + (addHi t111 1 0))) (addLo t111 1 0) x10_12).bind fun bt114 => (some (bt114.1, bt114.2.1, bt114.2.2))) else ((fixed_signed.f kj12 (IntKind.u64.wrap (Int.tdiv t107 t110)) t111 x10_12).bind fun bt117 => (some (bt117.1, bt117.2.1, bt117.2.2))))) = some (r1, r2, r3) := H
       have A20 := A_ A200
       clear A200
       replace H := os_ H
       obtain ⟨t113, A210, H⟩ := H
       replace H : (if t113 = true then ((fixed_signed.f kj12 (IntKind.u64.wrap ((IntKind.u64.wrap (Int.tdiv t107 t110)) + (addHi t111 1 0))) (addLo t111 1 0) x10_12).bind fun bt114 => (some (bt114.1, bt114.2.1, bt114.2.2))) else ((fixed_signed.f kj12 (IntKind.u64.wrap (Int.tdiv t107 t110)) t111 x10_12).bind fun bt117 => (some (bt117.1, bt117.2.1, bt117.2.2)))) = some (r1, r2, r3) := H
       have A21 := A_ A210
       clear A210
       by_cases c22 : t113 = true
       ·
        subst c22
        have H1 : ((fixed_signed.f kj12 (IntKind.u64.wrap ((IntKind.u64.wrap (Int.tdiv t107 t110)) + (addHi t111 1 0))) (addLo t111 1 0) x10_12).bind fun bt114 => (some (bt114.1, bt114.2.1, bt114.2.2))) = some (r1, r2, r3) := by rw [if_pos rfl] at H; exact H
        clear H
        have H := H1
        clear H1
        replace H := os_ H
        obtain ⟨⟨t114, t115, t116⟩, A230, H⟩ := H
        replace H : (some (t114, t115, t116)) = some (r1, r2, r3) := H
        have A23 := A_ A230
        clear A230
        simp only [Option.some.injEq, Prod.mk.injEq] at H
        obtain ⟨rfl, rfl, rfl⟩ := H
        go_wp2_with ((go_at_call 35; (with_reducible refine (fixed_size.calls a1 t110 _ A18.out).mono ?_); rintro e w' ⟨rfl, ⟨nd, rfl⟩⟩; (try first | exact ⟨rfl, _, dd_ _ _ _⟩ | exact ⟨rfl, _, Eq.trans (dd_ _ _ _) (congrArg (World.drewN _) (Nat.add_assoc _ _ _))⟩)))
        repeat (go_quiet (fail); try go_wp2_with (first | (go_at_call 36; (with_reducible refine (bits_Div64.calls kj12 (Int.tmod t107 t110) t108 t110 t111 t112 _ A20.out).mono ?_); rintro e w' ⟨rfl, ⟨nd, rfl⟩⟩; (try first | exact ⟨rfl, _, dd_ _ _ _⟩ | exact ⟨rfl, _, Eq.trans (dd_ _ _ _) (congrArg (World.drewN _) (Nat.add_assoc _ _ _))⟩)) | (go_at_call 37; (with_reducible refine (fixed_up.calls a2 x10_12 ((Go.bits .and .u64 t111 1) == 1) t112 t110 true _ A21.out).mono ?_); rintro e w' ⟨rfl, ⟨nd, rfl⟩⟩; (try first | exact ⟨rfl, _, dd_ _ _ _⟩ | exact ⟨rfl, _, Eq.trans (dd_ _ _ _) (congrArg (World.drewN _) (Nat.add_assoc _ _ _))⟩)) | (go_at_call 39; (with_reducible refine (fixed_signed.calls kj12 (IntKind.u64.wrap ((IntKind.u64.wrap (Int.tdiv t107 t110)) + (addHi t111 1 0))) (addLo t111 1 0) x10_12 t114 t115 t116 _ A23.out).mono ?_); rintro e w24 ⟨rfl, hb⟩; have n0_ := A_ (kb_ BK303 hb); have n1_ := A_ (kb_ BK306 hb); have n2_ := A_ (bs_ bw_ hb); clear BK303; clear BK306; clear HB; have BK303 := n0_; have BK306 := n1_; have HB := n2_; clear n0_ n1_ n2_; (try clear hb); (try clear hb2); (try clear hk); (try clear hi); have hnb25 := NB306_303.out; have hnc25 := NB303_306.out; have hcz26_0 : w24.cell? ⟨gb306, 0, none⟩ = some (.int .i64 0) := (bc_ BK306.out 0).trans rfl; have hcz26_1 : w24.cell? ⟨gb306, 1, none⟩ = some (.int .u64 0) := (bc_ BK306.out 1).trans rfl; have hfz26_0 := bf_ BK306.out 0; have hfz26_1 := bf_ BK306.out 1)))
        refine bodyPost_ret (results_ct rfl _ _ gb306 24 #[.int .i64 t114, .int .u64 t115] (0, 0) _ rfl (by (with_reducible repeat (first | refine bn_ ?_ _ | refine bd_ ?_ | refine ba_ ?_ _)); refine bp_ (cs := #[.int .i64 t114, .int .u64 0]) ?_ 1 _ rfl; (with_reducible repeat (first | refine bn_ ?_ _ | refine bd_ ?_ | refine ba_ ?_ _)); refine bp_ (cs := #[.int .i64 0, .int .u64 0]) ?_ 0 _ rfl; (with_reducible repeat (first | refine bn_ ?_ _ | refine bd_ ?_ | refine ba_ ?_ _)); exact BK306.out) Try.underlying24 rfl (by kernel_rfl)) rfl ?_
        exact ⟨by first | rfl | (simp [errW_none, errW_some] <;> rfl) | (simp [*, errW_none, errW_some] <;> rfl), bw_⟩
       ·
        replace c22 := Bool.eq_false_iff.mpr c22
        subst c22
        have H1 : ((fixed_signed.f kj12 (IntKind.u64.wrap (Int.tdiv t107 t110)) t111 x10_12).bind fun bt117 => (some (bt117.1, bt117.2.1, bt117.2.2))) = some (r1, r2, r3) := by rw [if_neg (show ¬ (false = true) by decide)] at H; exact H
        clear H
        have H := H1
        clear H1
        replace H := os_ H
        obtain ⟨⟨t117, t118, t119⟩, A270, H⟩ := H
        replace H : (some (t117, t118, t119)) = some (r1, r2, r3) := H
        have A27 := A_ A270
        clear A270
        simp only [Option.some.injEq, Prod.mk.injEq] at H
        obtain ⟨rfl, rfl, rfl⟩ := H
        go_wp2_with ((go_at_call 35; (with_reducible refine (fixed_size.calls a1 t110 _ A18.out).mono ?_); rintro e w' ⟨rfl, ⟨nd, rfl⟩⟩; (try first | exact ⟨rfl, _, dd_ _ _ _⟩ | exact ⟨rfl, _, Eq.trans (dd_ _ _ _) (congrArg (World.drewN _) (Nat.add_assoc _ _ _))⟩)))
        repeat (go_quiet (fail); try go_wp2_with (first | (go_at_call 36; (with_reducible refine (bits_Div64.calls kj12 (Int.tmod t107 t110) t108 t110 t111 t112 _ A20.out).mono ?_); rintro e w' ⟨rfl, ⟨nd, rfl⟩⟩; (try first | exact ⟨rfl, _, dd_ _ _ _⟩ | exact ⟨rfl, _, Eq.trans (dd_ _ _ _) (congrArg (World.drewN _) (Nat.add_assoc _ _ _))⟩)) | (go_at_call 37; (with_reducible refine (fixed_up.calls a2 x10_12 ((Go.bits .and .u64 t111 1) == 1) t112 t110 false _ A21.out).mono ?_); rintro e w' ⟨rfl, ⟨nd, rfl⟩⟩; (try first | exact ⟨rfl, _, dd_ _ _ _⟩ | exact ⟨rfl, _, Eq.trans (dd_ _ _ _) (congrArg (World.drewN _) (Nat.add_assoc _ _ _))⟩)) | (go_at_call 39; (with_reducible refine (fixed_signed.calls kj12 (IntKind.u64.wrap (Int.tdiv t107 t110)) t111 x10_12 t117 t118 t119 _ A27.out).mono ?_); rintro e w28 ⟨rfl, hb⟩; have n0_ := A_ (kb_ BK303 hb); have n1_ := A_ (kb_ BK306 hb); have n2_ := A_ (bs_ bw_ hb); clear BK303; clear BK306; clear HB; have BK303 := n0_; have BK306 := n1_; have HB := n2_; clear n0_ n1_ n2_; (try clear hb); (try clear hb2); (try clear hk); (try clear hi); have hnb29 := NB306_303.out; have hnc29 := NB303_306.out; have hcz30_0 : w28.cell? ⟨gb306, 0, none⟩ = some (.int .i64 0) := (bc_ BK306.out 0).trans rfl; have hcz30_1 : w28.cell? ⟨gb306, 1, none⟩ = some (.int .u64 0) := (bc_ BK306.out 1).trans rfl; have hfz30_0 := bf_ BK306.out 0; have hfz30_1 := bf_ BK306.out 1)))
        refine bodyPost_ret (results_ct rfl _ _ gb306 24 #[.int .i64 t117, .int .u64 t118] (0, 0) _ rfl (by (with_reducible repeat (first | refine bn_ ?_ _ | refine bd_ ?_ | refine ba_ ?_ _)); refine bp_ (cs := #[.int .i64 t117, .int .u64 0]) ?_ 1 _ rfl; (with_reducible repeat (first | refine bn_ ?_ _ | refine bd_ ?_ | refine ba_ ?_ _)); refine bp_ (cs := #[.int .i64 0, .int .u64 0]) ?_ 0 _ rfl; (with_reducible repeat (first | refine bn_ ?_ _ | refine bd_ ?_ | refine ba_ ?_ _)); exact BK306.out) Try.underlying24 rfl (by kernel_rfl)) rfl ?_
        exact ⟨by first | rfl | (simp [errW_none, errW_some] <;> rfl) | (simp [*, errW_none, errW_some] <;> rfl), bw_⟩
end Go.Proofs.Ytjbcigiffihjaaa.Fx
end
section
namespace Go.Proofs.Ytjbcigiffihjaaa.Fx
open Go.RowKit Go.Proofs.YtjbcigiffihjaaaW.PrintWords Go.Proofs.YtjbcigiffihjaaaW.PrintLast Go.Proofs.YtjbcigiffihjaaaW.PrintMore
attribute [local go_sem] max2_int min2_int max_two min_two max_three min_three max_four min_four   -- for this text's walks alone
set_option linter.unusedVariables false
set_option linter.unusedSimpArgs false
attribute [local go_sem] run_add64_any
def clevisref01_odd.f (a0_0 : Bool) (l0_1 : List Int) : Option (Bool) := if (l0_1.length : Int) > 0 then (if 0 < (l0_1.length : Int) then (some ((Int.tmod (rd l0_1 0) 2) == 1)) else (none)) else (some false)
set_option maxHeartbeats 8000000 in
set_option maxRecDepth 100000 in
theorem clevisref01_odd.calls (a0_0 : Bool) (A0_1 : Option Addr) (c0_1 : Nat) (l0_1 : List Int) (r : Bool) (w : World) (hr0_1 : Kd.C (Kd.int .i64) w A0_1 l0_1.length l0_1) (hc0_1 : l0_1.length ≤ c0_1) (h : clevisref01_odd.f a0_0 l0_1 = some r) :
  Calls Try.prog 43 #[.agg #[.bool a0_0, .slice A0_1 l0_1.length c0_1]] w fun e w' => e = .returned (.bool r) ∧ Below w.heap.size w w' := by
 have hu32 := Try.underlying32
 have HR0_1 := A_ hr0_1
 have HC0_1 := A_ hc0_1
 clear hr0_1 hc0_1
 have HB := A_ (Below.refl w.heap.size w)
 have H : (if (l0_1.length : Int) > 0 then (if 0 < (l0_1.length : Int) then (some ((Int.tmod (rd l0_1 0) 2) == 1)) else (none)) else (some false)) = some r := h
 clear h
 by_cases c2 : (l0_1.length : Int) > 0
 ·
  rw [if_pos c2] at H
  have c2b0 : decide (0 < (l0_1.length : Int)) = true := decide_eq_true c2
  have c2b1 : decide (0 < l0_1.length) = true := decide_eq_true (by omega)
  clear c2
  by_cases c3 : 0 < (l0_1.length : Int)
  ·
   rw [if_pos c3] at H
   have c3b0 : decide (0 < (l0_1.length : Int)) = true := decide_eq_true c3
   have c3b1 : decide (0 < l0_1.length) = true := decide_eq_true (by omega)
   clear c3
   obtain rfl := Option.some.inj H
   go_enter Try.func43, Try.ntmps43
   go_wp2_with (((with_reducible refine gate_dst (N := 1) rfl ?_); refine box_event ?hg (N := 1) ?hd (cs := #[.bool a0_0, .slice A0_1 l0_1.length c0_1]) (t := 32) ?hr ?_; (case hd => rfl); (case hg => rfl); (case hr => first | (go_simp; done) | (go_simp; rfl)); intro gb301 hg w4 hbox hb; have n0_ := A_ (bs_ bw_ hb); have n1_ := A_ (hbox); have n2_ := A_ ((by rw [hg]; exact (bz_ bw_) : w.heap.size ≤ gb301)); have n3_ := A_ ((by rw [hg]; exact (bz_ bw_) : w.heap.size ≤ gb301)); clear HB; have HB := n0_; have BK301 := n1_; have GW301 := n2_; have GE301 := n3_; clear n0_ n1_ n2_ n3_; clear hb hbox hg; have hcz5_0 : w4.cell? ⟨gb301, 0, none⟩ = some (.bool a0_0) := (bc_ BK301.out 0).trans rfl; have hcz5_1 : w4.cell? ⟨gb301, 1, none⟩ = some (.slice A0_1 l0_1.length c0_1) := (bc_ BK301.out 1).trans rfl; have hfz5_0 := bf_ BK301.out 0; have hfz5_1 := bf_ BK301.out 1; have p275 : 0 ≤ (0 : Int) := (by omega); have q275 : 0 < (l0_1.length : Int) := od_ (by first | (with_reducible assumption) | assumption); obtain ⟨ad275, e275, hx275_0⟩ := Kd.at_int HR0_1.out 0 p275 q275; cases e275; have qi275 : (0 < l0_1.length) = True := eq_true (by omega); (try rw [show ((0 : Int)).toNat = 0 from rfl] at hx275_0); (try rw [Addr.add_zero'] at hx275_0); replace hx275_0 := (HB.out.cell (World.block_lt_of_cell? w _ hx275_0)).trans hx275_0; replace p275 := eq_true p275; replace q275 := eq_true q275))
   go_ret
   exact ⟨by first | rfl | (simp [errW_none, errW_some] <;> rfl) | (simp [*, errW_none, errW_some] <;> rfl), bw_⟩
  ·
   rw [if_neg c3] at H
   exact absurd H (by simp)
 ·
  rw [if_neg c2] at H
  have c2b0 : decide (0 < (l0_1.length : Int)) = false := decide_eq_false c2
  have c2b1 : decide (0 < l0_1.length) = false := decide_eq_false (by omega)
  clear c2
  obtain rfl := Option.some.inj H
  go_enter Try.func43, Try.ntmps43
  go_wp2_with (((with_reducible refine gate_dst (N := 1) rfl ?_); refine box_event ?hg (N := 1) ?hd (cs := #[.bool a0_0, .slice A0_1 l0_1.length c0_1]) (t := 32) ?hr ?_; (case hd => rfl); (case hg => rfl); (case hr => first | (go_simp; done) | (go_simp; rfl)); intro gb301 hg w6 hbox hb; have n0_ := A_ (bs_ bw_ hb); have n1_ := A_ (hbox); have n2_ := A_ ((by rw [hg]; exact (bz_ bw_) : w.heap.size ≤ gb301)); have n3_ := A_ ((by rw [hg]; exact (bz_ bw_) : w.heap.size ≤ gb301)); clear HB; have HB := n0_; have BK301 := n1_; have GW301 := n2_; have GE301 := n3_; clear n0_ n1_ n2_ n3_; clear hb hbox hg; have hcz7_0 : w6.cell? ⟨gb301, 0, none⟩ = some (.bool a0_0) := (bc_ BK301.out 0).trans rfl; have hcz7_1 : w6.cell? ⟨gb301, 1, none⟩ = some (.slice A0_1 l0_1.length c0_1) := (bc_ BK301.out 1).trans rfl; have hfz7_0 := bf_ BK301.out 0; have hfz7_1 := bf_ BK301.out 1))
  go_ret
  exact ⟨by first | rfl | (simp [errW_none, errW_some] <;> rfl) | (simp [*, errW_none, errW_some] <;> rfl), bw_⟩
end Go.Proofs.Ytjbcigiffihjaaa.Fx
end
section
namespace Go.Proofs.Ytjbcigiffihjaaa.Fx
open Go.RowKit Go.Proofs.YtjbcigiffihjaaaW.PrintWords Go.Proofs.YtjbcigiffihjaaaW.PrintLast Go.Proofs.YtjbcigiffihjaaaW.PrintMore
attribute [local go_sem] max2_int min2_int max_two min_two max_three min_three max_four min_four   -- for this text's walks alone
set_option linter.unusedVariables false
set_option linter.unusedSimpArgs false
attribute [local go_sem] run_add64_any
def clevislaw01_known.f : Option Bool := some true
theorem clevislaw01_known.kd0 : fixed_Divide.f 100 (-1) 18446744073709551609 2 0 = some (-1, 18446744073709551612, 0) := by kernel_rfl
theorem clevislaw01_known.kd1 : fixed_Divide.f 100 (-1) 18446744073709551609 2 1 = some (-1, 18446744073709551613, 0) := by kernel_rfl
theorem clevislaw01_known.kd2 : fixed_Divide.f 100 (-1) 18446744073709551609 2 2 = some (-1, 18446744073709551613, 0) := by kernel_rfl
theorem clevislaw01_known.kd3 : fixed_Divide.f 100 (-1) 18446744073709551609 2 3 = some (-1, 18446744073709551612, 0) := by kernel_rfl
theorem clevislaw01_known.kp : fixed_Parse.f 100 ⟨#[45, 48]⟩ = some (0, 0, 3) := by kernel_rfl
theorem clevislaw01_known.kt : fixed_Text.f 100 (-1) 0 = some ⟨#[45, 49, 56, 52, 52, 54, 55, 52, 52, 48, 55, 51, 55, 48, 57, 53, 53, 49, 54, 49, 54]⟩ := by kernel_rfl
theorem clevislaw01_known.ko : fixed_Of.f (-7) = some (-1, 18446744073709551609) := by kernel_rfl
theorem clevislaw01_known.ki0 : fixed_Int.f (-1) 18446744073709551612 = some (-4, 0) := by kernel_rfl
theorem clevislaw01_known.ki1 : fixed_Int.f (-1) 18446744073709551613 = some (-3, 0) := by kernel_rfl
theorem clevislaw01_known.ki2 : fixed_Int.f (-1) 18446744073709551613 = some (-3, 0) := by kernel_rfl
theorem clevislaw01_known.ki3 : fixed_Int.f (-1) 18446744073709551612 = some (-4, 0) := by kernel_rfl
set_option maxHeartbeats 1000000 in
theorem clevislaw01_known.walk (w : World) : Calls Try.prog 9 #[] w fun e w' => e = .returned (.bool true) ∧ Below w.heap.size w w' := by
 go_enter Try.func9, Try.ntmps9
 go_wp2
 go_loopw [2] (fun v2 wr => ∃ (k : Nat), k ≤ 4 ∧ v2 = .int .i64 k ∧ Aside0 (wr.heap[w.heap.size]? = some (.cells #[.int .i64 (-4), .int .i64 (-3), .int .i64 (-3), .int .i64 (-4)] 69 (0, 0))) ∧ Aside0 (Below w.heap.size w wr)) (fun v2 _ => 4 - (intOf v2).toNat)
 case atStart => exact ⟨0, by omega, rfl, ⟨heap_alloc_new w _⟩, ⟨bl_ (Below.refl _ _) _⟩⟩
 case round =>
  obtain ⟨k, hk, rfl, HX, HB⟩ := hrel
  have hcases : k = 0 ∨ k = 1 ∨ k = 2 ∨ k = 3 ∨ k = 4 := by omega
  clear hk
  rcases hcases with rfl | rfl | rfl | rfl | rfl
  ·
   -- round 0
   go_wp2_with fail
   refine (fixed_Of.calls _ _ _ _ clevislaw01_known.ko).mono ?_
   rintro e w1 ⟨rfl, hb1⟩
   have HB1 := A_ (below_weaken HB.out HB.out.size hb1)
   have HX1 := A_ ((hb1.block _ (blk_lt HX.out)).trans HX.out)
   clear hb1
   go_wp2_with fail
   refine (fixed_Divide.calls _ _ _ _ _ _ _ _ _ clevislaw01_known.kd0).mono ?_
   rintro e w2 ⟨rfl, hb2⟩
   have HB2 := A_ (below_weaken HB1.out HB1.out.size hb2)
   have HX2 := A_ ((hb2.block _ (blk_lt HX1.out)).trans HX1.out)
   clear hb2
   go_wp2_with fail
   refine (fixed_Int.calls _ _ _ _ _ clevislaw01_known.ki0).mono ?_
   rintro e w3 ⟨rfl, hb3⟩
   have HB3 := A_ (below_weaken (bl_ HB2.out _) (by have := HB2.out.size; simp; omega) hb3)
   have HX3 := A_ ((hb3.block _ (by have := blk_lt HX2.out; simp; omega)).trans (ba_ HX2.out _))
   clear hb3
   have hc3 := (bc_ HX3.out 0).trans (show _ = some (Value.int .i64 (-4)) from rfl)
   go_wp2
   go_roundw
   case rel => exact ⟨1, by omega, rfl, HX3, HB3⟩
   case measure => simp [intOf]
  ·
   -- round 1
   go_wp2_with fail
   refine (fixed_Of.calls _ _ _ _ clevislaw01_known.ko).mono ?_
   rintro e w1 ⟨rfl, hb1⟩
   have HB1 := A_ (below_weaken HB.out HB.out.size hb1)
   have HX1 := A_ ((hb1.block _ (blk_lt HX.out)).trans HX.out)
   clear hb1
   go_wp2_with fail
   refine (fixed_Divide.calls _ _ _ _ _ _ _ _ _ clevislaw01_known.kd1).mono ?_
   rintro e w2 ⟨rfl, hb2⟩
   have HB2 := A_ (below_weaken HB1.out HB1.out.size hb2)
   have HX2 := A_ ((hb2.block _ (blk_lt HX1.out)).trans HX1.out)
   clear hb2
   go_wp2_with fail
   refine (fixed_Int.calls _ _ _ _ _ clevislaw01_known.ki1).mono ?_
   rintro e w3 ⟨rfl, hb3⟩
   have HB3 := A_ (below_weaken (bl_ HB2.out _) (by have := HB2.out.size; simp; omega) hb3)
   have HX3 := A_ ((hb3.block _ (by have := blk_lt HX2.out; simp; omega)).trans (ba_ HX2.out _))
   clear hb3
   have hc3 := (bc_ HX3.out 1).trans (show _ = some (Value.int .i64 (-3)) from rfl)
   go_wp2
   go_roundw
   case rel => exact ⟨2, by omega, rfl, HX3, HB3⟩
   case measure => simp [intOf]
  ·
   -- round 2
   go_wp2_with fail
   refine (fixed_Of.calls _ _ _ _ clevislaw01_known.ko).mono ?_
   rintro e w1 ⟨rfl, hb1⟩
   have HB1 := A_ (below_weaken HB.out HB.out.size hb1)
   have HX1 := A_ ((hb1.block _ (blk_lt HX.out)).trans HX.out)
   clear hb1
   go_wp2_with fail
   refine (fixed_Divide.calls _ _ _ _ _ _ _ _ _ clevislaw01_known.kd2).mono ?_
   rintro e w2 ⟨rfl, hb2⟩
   have HB2 := A_ (below_weaken HB1.out HB1.out.size hb2)
   have HX2 := A_ ((hb2.block _ (blk_lt HX1.out)).trans HX1.out)
   clear hb2
   go_wp2_with fail
   refine (fixed_Int.calls _ _ _ _ _ clevislaw01_known.ki2).mono ?_
   rintro e w3 ⟨rfl, hb3⟩
   have HB3 := A_ (below_weaken (bl_ HB2.out _) (by have := HB2.out.size; simp; omega) hb3)
   have HX3 := A_ ((hb3.block _ (by have := blk_lt HX2.out; simp; omega)).trans (ba_ HX2.out _))
   clear hb3
   have hc3 := (bc_ HX3.out 2).trans (show _ = some (Value.int .i64 (-3)) from rfl)
   go_wp2
   go_roundw
   case rel => exact ⟨3, by omega, rfl, HX3, HB3⟩
   case measure => simp [intOf]
  ·
   -- round 3
   go_wp2_with fail
   refine (fixed_Of.calls _ _ _ _ clevislaw01_known.ko).mono ?_
   rintro e w1 ⟨rfl, hb1⟩
   have HB1 := A_ (below_weaken HB.out HB.out.size hb1)
   have HX1 := A_ ((hb1.block _ (blk_lt HX.out)).trans HX.out)
   clear hb1
   go_wp2_with fail
   refine (fixed_Divide.calls _ _ _ _ _ _ _ _ _ clevislaw01_known.kd3).mono ?_
   rintro e w2 ⟨rfl, hb2⟩
   have HB2 := A_ (below_weaken HB1.out HB1.out.size hb2)
   have HX2 := A_ ((hb2.block _ (blk_lt HX1.out)).trans HX1.out)
   clear hb2
   go_wp2_with fail
   refine (fixed_Int.calls _ _ _ _ _ clevislaw01_known.ki3).mono ?_
   rintro e w3 ⟨rfl, hb3⟩
   have HB3 := A_ (below_weaken (bl_ HB2.out _) (by have := HB2.out.size; simp; omega) hb3)
   have HX3 := A_ ((hb3.block _ (by have := blk_lt HX2.out; simp; omega)).trans (ba_ HX2.out _))
   clear hb3
   have hc3 := (bc_ HX3.out 3).trans (show _ = some (Value.int .i64 (-4)) from rfl)
   go_wp2
   go_roundw
   case rel => exact ⟨4, by omega, rfl, HX3, HB3⟩
   case measure => simp [intOf]
  ·
   go_wp2_with fail
   refine (fixed_Parse.calls _ _ _ _ _ _ clevislaw01_known.kp).mono ?_
   rintro e w1 ⟨rfl, hb1⟩
   have HB1 := A_ (below_weaken HB.out HB.out.size hb1)
   clear hb1
   go_wp2_with fail
   refine (fixed_Text.calls _ _ _ _ _ clevislaw01_known.kt).mono ?_
   rintro e w2 ⟨rfl, hb2⟩
   have HB2 := A_ (below_weaken (bl_ HB1.out _) (by have := HB1.out.size; simp; omega) hb2)
   clear hb2
   go_wp2
   go_ret
   exact ⟨rfl, HB2.out⟩
theorem clevislaw01_known.calls (r : Bool) (w : World) (h : clevislaw01_known.f = some r) : Calls Try.prog 9 #[] w fun e w' => e = .returned (.bool r) ∧ Below w.heap.size w w' := by
 obtain rfl := Option.some.inj h
 exact clevislaw01_known.walk w
end Go.Proofs.Ytjbcigiffihjaaa.Fx
end
