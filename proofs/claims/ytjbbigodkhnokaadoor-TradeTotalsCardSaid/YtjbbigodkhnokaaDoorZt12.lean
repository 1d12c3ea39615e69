/- Texts of this seat, put together (Zt12). -/
import Derived.Test.YtjbbigodkhnokaaDoorZt3
import Derived.Test.YtjbbigodkhnokaaDoorZt6
import Derived.Test.YtjbbigodkhnokaaDoorZt8
section
namespace Go.Proofs.YtjbbigodkhnokaaDoor.Tr
open Go.RowKit Go.Proofs.YtjbbigodkhnokaaDoorW.PrintWords Go.Proofs.YtjbbigodkhnokaaDoorW.PrintLast Go.Proofs.YtjbbigodkhnokaaDoorW.PrintMore
attribute [local go_sem] max2_int min2_int max_two min_two max_three min_three max_four min_four   -- for this text's walks alone
set_option linter.unusedVariables false
set_option linter.unusedSimpArgs false
attribute [local go_sem] run_add64_any
mutual
def clevisref02_Member.j0 : Nat → ByteArray → Bool → Option (Int)
 | 0, _, _ => none
 | k + 1, x0, x17 => if x17 = true then (some 3) else (clevisref02_Member.l0 k x0 0)
def clevisref02_Member.l0 : Nat → ByteArray → Int → Option (Int)
 | 0, _, _ => none
 | k + 1, x0, x3 => if x3 < (x0.size : Int) then (if 0 ≤ x3 then ((clevisref02_letter.f (bt x0 x3) 97).bind fun t327 => (if t327 = true then (clevisref02_Member.l0 k x0 (wrap64 (x3 + 1))) else ((clevisref02_digit.f (bt x0 x3)).bind fun t328 => (if t328 = true then (clevisref02_Member.l0 k x0 (wrap64 (x3 + 1))) else (some 3))))) else (none)) else (some 0)
end
def clevisref02_Member.f (k : Nat) (a0 : ByteArray) : Option (Int) := if (a0.size : Int) < 1 then (clevisref02_Member.j0 k a0 true) else (if (a0.size : Int) > 8 then (clevisref02_Member.j0 k a0 true) else (if 0 < (a0.size : Int) then ((clevisref02_letter.f (bt a0 0) 97).bind fun t326 => (clevisref02_Member.j0 k a0 (!t326))) else (none)))
theorem clevisref02_Member.mono_l : ∀ k, (∀ y0 y1, LeO (clevisref02_Member.j0 k y0 y1) (clevisref02_Member.j0 (k + 1) y0 y1)) ∧ (∀ y0 y1, LeO (clevisref02_Member.l0 k y0 y1) (clevisref02_Member.l0 (k + 1) y0 y1))
 | 0 => ⟨fun _ _ r h => by simp [clevisref02_Member.j0] at h, fun _ _ r h => by simp [clevisref02_Member.l0] at h⟩
 | k + 1 => by
  obtain ⟨ih0, ih1⟩ := clevisref02_Member.mono_l k
  refine ⟨?_, ?_⟩
  ·
   intro y0 y1
   unfold clevisref02_Member.j0
   repeat' first
   | (with_reducible exact ih0 _ _)
   | (with_reducible exact ih1 _ _)
   | (with_reducible exact LeO.refl _)
   | (with_reducible exact LeO.none _)
   | (with_reducible refine LeO.ite ?_ ?_)
   | (with_reducible refine LeO.bind ?_ (fun _ => ?_))
   | exact ih0 _ _
   | exact ih1 _ _
   | exact LeO.none _
   | refine LeO.ite ?_ ?_
   | refine LeO.bind ?_ (fun _ => ?_)
  ·
   intro y0 y1
   unfold clevisref02_Member.l0
   repeat' first
   | (with_reducible exact ih0 _ _)
   | (with_reducible exact ih1 _ _)
   | (with_reducible exact LeO.refl _)
   | (with_reducible exact LeO.none _)
   | (with_reducible refine LeO.ite ?_ ?_)
   | (with_reducible refine LeO.bind ?_ (fun _ => ?_))
   | exact ih0 _ _
   | exact ih1 _ _
   | exact LeO.none _
   | refine LeO.ite ?_ ?_
   | refine LeO.bind ?_ (fun _ => ?_)
theorem clevisref02_Member.mono : ∀ a0 k, LeO (clevisref02_Member.f k a0) (clevisref02_Member.f (k + 1) a0) := by
 intro a0 k
 obtain ⟨ih0, ih1⟩ := clevisref02_Member.mono_l k
 unfold clevisref02_Member.f
 repeat' first
   | (with_reducible exact ih0 _ _)
   | (with_reducible exact ih1 _ _)
   | (with_reducible exact LeO.refl _)
   | (with_reducible exact LeO.none _)
   | (with_reducible refine LeO.ite ?_ ?_)
   | (with_reducible refine LeO.bind ?_ (fun _ => ?_))
   | exact ih0 _ _
   | exact ih1 _ _
   | exact LeO.none _
   | refine LeO.ite ?_ ?_
   | refine LeO.bind ?_ (fun _ => ?_)
set_option maxHeartbeats 8000000 in
set_option maxRecDepth 100000 in
theorem clevisref02_Member.calls (k : Nat) (a0 : ByteArray) (r : Int) (w : World) (h : clevisref02_Member.f k a0 = some r) :
  Calls Tryd.prog 31 #[.string a0] w fun e w' => e = .returned (.int .i64 r) ∧ Drawn0 w w' := by
 have H : (if (a0.size : Int) < 1 then (clevisref02_Member.j0 k a0 true) else (if (a0.size : Int) > 8 then (clevisref02_Member.j0 k a0 true) else (if 0 < (a0.size : Int) then ((clevisref02_letter.f (bt a0 0) 97).bind fun t326 => (clevisref02_Member.j0 k a0 (!t326))) else (none)))) = some r := h
 clear h
 have HC2 := A_ H
 clear H
 go_enter Tryd.func31, Tryd.ntmps31
 go_upto_region 1 with (fail)
 go_cut [17] (fun v17 wc => ∃ (kq : Nat) (x17_1 : Bool), v17 = .bool x17_1 ∧ Aside0 (clevisref02_Member.j0 kq a0 x17_1 = some r) ∧ Aside0 (kq ≤ k) ∧ Drawn0 w wc)
 case first =>
  have H := HC2.out
  clear HC2
  by_cases c3 : (a0.size : Int) < 1
  ·
   rw [if_pos c3] at H
   have c3b0 : decide ((a0.size : Int) < 1) = true := decide_eq_true c3
   have c3b1 : decide (a0.size < 1) = true := decide_eq_true (by omega)
   clear c3
   (first | rw [c3b0] | (simp only [i64_w, i32_w]; rw [c3b0]) | skip)
   have H' := A_ H
   clear H
   go_wp2
   go_meet
   case rel => exact ⟨_, (true), (by first | rfl | (simp; done) | (simp [*]; done)), H', ⟨by first | omega | exact Nat.le_refl _⟩, by repeat (first | exact Drawn0.refl _ | apply Drawn0.step)⟩
  ·
   rw [if_neg c3] at H
   have c3b0 : decide ((a0.size : Int) < 1) = false := decide_eq_false c3
   have c3b1 : decide (a0.size < 1) = false := decide_eq_false (by omega)
   clear c3
   (first | rw [c3b0] | (simp only [i64_w, i32_w]; rw [c3b0]) | skip)
   by_cases c4 : (a0.size : Int) > 8
   ·
    rw [if_pos c4] at H
    have c4b0 : decide (8 < (a0.size : Int)) = true := decide_eq_true c4
    have c4b1 : decide (8 < a0.size) = true := decide_eq_true (by omega)
    clear c4
    have H' := A_ H
    clear H
    go_wp2
    go_meet
    case rel => exact ⟨_, (true), (by first | rfl | (simp; done) | (simp [*]; done)), H', ⟨by first | omega | exact Nat.le_refl _⟩, by repeat (first | exact Drawn0.refl _ | apply Drawn0.step)⟩
   ·
    rw [if_neg c4] at H
    have c4b0 : decide (8 < (a0.size : Int)) = false := decide_eq_false c4
    have c4b1 : decide (8 < a0.size) = false := decide_eq_false (by omega)
    clear c4
    by_cases c5 : 0 < (a0.size : Int)
    ·
     rw [if_pos c5] at H
     have c5b0 : decide (0 < (a0.size : Int)) = true := decide_eq_true c5
     have c5b1 : decide (0 < a0.size) = true := decide_eq_true (by omega)
     clear c5
     replace H := os_ H
     obtain ⟨t326, A70, H⟩ := H
     replace H : (clevisref02_Member.j0 k a0 (!t326)) = some r := H
     have A7 := A_ A70
     clear A70
     have H' := A_ H
     clear H
     have p6 : 0 ≤ (0 : Int) := (by omega)
     have q6 : 0 < a0.size := (by have : (0 : Int) < (a0.size : Int) := od_ (by first | (with_reducible assumption) | assumption); omega)
     have hx6 : ∀ h : 0 < a0.size, ((a0[0]'h).toNat : Int) = bt a0 0 := bt_at a0 0
     clear p6
     have qi6 : (0 < (a0.size : Int)) = True := eq_true (od_ (by first | (with_reducible assumption) | assumption))
     replace q6 := eq_true q6
     go_wp2_with (first | (go_at_call 50; (with_reducible refine (clevisref02_letter.calls (bt a0 0) 97 t326 _ A7.out).mono ?_); rintro e w' ⟨rfl, ⟨nd, rfl⟩⟩))
     go_meet
     case rel => exact ⟨_, (!t326), (by first | rfl | (simp; done) | (simp [*]; done)), H', ⟨by first | omega | exact Nat.le_refl _⟩, by repeat (first | exact Drawn0.refl _ | apply Drawn0.step)⟩
    ·
     rw [if_neg c5] at H
     exact absurd H (by simp)
 case rest =>
  clear HC2
  try clear p2
  try clear c3
  try clear c3b0
  try clear c3b1
  try clear c4
  try clear c4b0
  try clear c4b1
  try clear c5
  try clear c5b0
  try clear c5b1
  try clear p6
  try clear q6
  try clear hx6
  try clear qi6
  try clear p6
  try clear q6
  obtain ⟨kq, x17_1, rfl, HA, HJ1, ⟨mc1, rfl⟩⟩ := hcut
  cases kq with
  | zero => exact absurd HA.out (by simp [clevisref02_Member.j0])
  | succ kj1 =>
   have H := HA.out
   clear HA
   simp only [clevisref02_Member.j0] at H
   by_cases c8 : x17_1 = true
   ·
    subst c8
    have H1 : (some 3) = some r := by rw [if_pos rfl] at H; exact H
    clear H
    have H := H1
    clear H1
    obtain rfl := Option.some.inj H
    go_wp2
    go_ret
    exact ⟨by first | rfl | (simp; done) | (simp [*]; done), by repeat (first | exact Drawn0.refl _ | apply Drawn0.step)⟩
   ·
    replace c8 := Bool.eq_false_iff.mpr c8
    subst c8
    have H1 : (clevisref02_Member.l0 kj1 a0 0) = some r := by rw [if_neg (show ¬ (false = true) by decide)] at H; exact H
    clear H
    have H := H1
    clear H1
    have H' := A_ H
    clear H
    go_wp2
    (try simp only [Act.put, sA_, sZ_, sS_])
    go_loopg [3] kj1 (fun kq v3 w' => ∃ (x3_2 : Int), v3 = .int .i64 x3_2 ∧ Aside0 (clevisref02_Member.l0 kq a0 x3_2 = some r) ∧ Aside0 (kq ≤ kj1) ∧ Drawn0 w w')
    case atStart => exact ⟨(0), (by first | rfl | (simp; done) | (simp [*]; done)), H', ⟨Nat.le_refl _⟩, by repeat (first | exact Drawn0.refl _ | apply Drawn0.step)⟩
    case round =>
     clear H'
     try clear c1
     try clear p2
     try clear c3
     try clear c3b0
     try clear c3b1
     try clear c4
     try clear c4b0
     try clear c4b1
     try clear c5
     try clear c5b0
     try clear c5b1
     try clear p6
     try clear q6
     try clear hx6
     try clear qi6
     try clear c8
     try clear p2
     try clear p6
     try clear q6
     obtain ⟨x3_2, rfl, HA, HK2, ⟨m2, rfl⟩⟩ := hrel
     cases gk with
     | zero => exact absurd HA.out (by simp [clevisref02_Member.l0])
     | succ k2 =>
      have H := HA.out
      clear HA
      simp only [clevisref02_Member.l0] at H
      by_cases c9 : x3_2 < (a0.size : Int)
      ·
       rw [if_pos c9] at H
       have c9b0 : decide (x3_2 < (a0.size : Int)) = true := decide_eq_true c9
       clear c9
       by_cases c10 : 0 ≤ x3_2
       ·
        rw [if_pos c10] at H
        have c10b0 : decide (0 ≤ x3_2) = true := decide_eq_true c10
        clear c10
        replace H := os_ H
        obtain ⟨t327, A120, H⟩ := H
        replace H : (if t327 = true then (clevisref02_Member.l0 k2 a0 (wrap64 (x3_2 + 1))) else ((clevisref02_digit.f (bt a0 x3_2)).bind fun t328 => (if t328 = true then (clevisref02_Member.l0 k2 a0 (wrap64 (x3_2 + 1))) else (some 3)))) = some r := H
        have A12 := A_ A120
        clear A120
        by_cases c13 : t327 = true
        ·
         subst c13
         have H1 : (clevisref02_Member.l0 k2 a0 (wrap64 (x3_2 + 1))) = some r := by rw [if_pos rfl] at H; exact H
         clear H
         have H := H1
         clear H1
         have H' := A_ H
         clear H
         have p11 : 0 ≤ (x3_2 : Int) := od_ (by first | (with_reducible assumption) | assumption)
         have q11 : x3_2 < (a0.size : Int) := od_ (by first | (with_reducible assumption) | assumption)
         have hx11 := bt_at a0 x3_2
         replace p11 := eq_true p11
         replace q11 := eq_true q11
         go_wp2_with (first | ((with_reducible refine gate_callee (f := 50) rfl ?_); refine goesL_ (some 27) rfl rfl Tryd.func50 (by kernel_rfl) rfl #[.int .u8 (bt a0 x3_2), .int .u8 97] rfl (by (try simp only [List.map_toArray, List.map_cons, List.map_nil]); first | done | rfl | (simp only [List.length_drop, List.length_take]; rfl)) ?_; (with_reducible refine (clevisref02_letter.calls (bt a0 x3_2) 97 true _ A12.out).mono ?_); rintro e w' ⟨rfl, ⟨nd, rfl⟩⟩; refine ⟨_, rfl, ?_⟩))
         go_roundg k2
         case measure => have := HJ1.out; have := HK2.out; omega
         case rel => exact ⟨(wrap64 (x3_2 + 1)), (by first | rfl | (simp; done) | (simp [*]; done)), H', ⟨by have := HJ1.out; have := HK2.out; omega⟩, by repeat (first | exact Drawn0.refl _ | apply Drawn0.step)⟩
        ·
         replace c13 := Bool.eq_false_iff.mpr c13
         subst c13
         have H1 : ((clevisref02_digit.f (bt a0 x3_2)).bind fun t328 => (if t328 = true then (clevisref02_Member.l0 k2 a0 (wrap64 (x3_2 + 1))) else (some 3))) = some r := by rw [if_neg (show ¬ (false = true) by decide)] at H; exact H
         clear H
         have H := H1
         clear H1
         replace H := os_ H
         obtain ⟨t328, A150, H⟩ := H
         replace H : (if t328 = true then (clevisref02_Member.l0 k2 a0 (wrap64 (x3_2 + 1))) else (some 3)) = some r := H
         have A15 := A_ A150
         clear A150
         by_cases c16 : t328 = true
         ·
          subst c16
          have H1 : (clevisref02_Member.l0 k2 a0 (wrap64 (x3_2 + 1))) = some r := by rw [if_pos rfl] at H; exact H
          clear H
          have H := H1
          clear H1
          have H' := A_ H
          clear H
          have p11 : 0 ≤ (x3_2 : Int) := od_ (by first | (with_reducible assumption) | assumption)
          have q11 : x3_2 < (a0.size : Int) := od_ (by first | (with_reducible assumption) | assumption)
          have hx11 := bt_at a0 x3_2
          replace p11 := eq_true p11
          replace q11 := eq_true q11
          go_wp2_with (first | ((with_reducible refine gate_callee (f := 50) rfl ?_); refine goesL_ (some 27) rfl rfl Tryd.func50 (by kernel_rfl) rfl #[.int .u8 (bt a0 x3_2), .int .u8 97] rfl (by (try simp only [List.map_toArray, List.map_cons, List.map_nil]); first | done | rfl | (simp only [List.length_drop, List.length_take]; rfl)) ?_; (with_reducible refine (clevisref02_letter.calls (bt a0 x3_2) 97 false _ A12.out).mono ?_); rintro e w' ⟨rfl, ⟨nd, rfl⟩⟩; refine ⟨_, rfl, ?_⟩; have p14 : 0 ≤ (x3_2 : Int) := od_ (by first | (with_reducible assumption) | assumption); have q14 : x3_2 < (a0.size : Int) := od_ (by first | (with_reducible assumption) | assumption); have hx14 := bt_at a0 x3_2; replace p14 := eq_true p14; replace q14 := eq_true q14) | (go_at_call 51; (with_reducible refine (clevisref02_digit.calls (bt a0 x3_2) true _ A15.out).mono ?_); rintro e w' ⟨rfl, ⟨nd, rfl⟩⟩))
          go_roundg k2
          case measure => have := HJ1.out; have := HK2.out; omega
          case rel => exact ⟨(wrap64 (x3_2 + 1)), (by first | rfl | (simp; done) | (simp [*]; done)), H', ⟨by have := HJ1.out; have := HK2.out; omega⟩, by repeat (first | exact Drawn0.refl _ | apply Drawn0.step)⟩
         ·
          replace c16 := Bool.eq_false_iff.mpr c16
          subst c16
          have H1 : (some 3) = some r := by rw [if_neg (show ¬ (false = true) by decide)] at H; exact H
          clear H
          have H := H1
          clear H1
          obtain rfl := Option.some.inj H
          have p11 : 0 ≤ (x3_2 : Int) := od_ (by first | (with_reducible assumption) | assumption)
          have q11 : x3_2 < (a0.size : Int) := od_ (by first | (with_reducible assumption) | assumption)
          have hx11 := bt_at a0 x3_2
          replace p11 := eq_true p11
          replace q11 := eq_true q11
          go_wp2_with (first | ((with_reducible refine gate_callee (f := 50) rfl ?_); refine goesL_ (some 27) rfl rfl Tryd.func50 (by kernel_rfl) rfl #[.int .u8 (bt a0 x3_2), .int .u8 97] rfl (by (try simp only [List.map_toArray, List.map_cons, List.map_nil]); first | done | rfl | (simp only [List.length_drop, List.length_take]; rfl)) ?_; (with_reducible refine (clevisref02_letter.calls (bt a0 x3_2) 97 false _ A12.out).mono ?_); rintro e w' ⟨rfl, ⟨nd, rfl⟩⟩; refine ⟨_, rfl, ?_⟩; have p14 : 0 ≤ (x3_2 : Int) := od_ (by first | (with_reducible assumption) | assumption); have q14 : x3_2 < (a0.size : Int) := od_ (by first | (with_reducible assumption) | assumption); have hx14 := bt_at a0 x3_2; replace p14 := eq_true p14; replace q14 := eq_true q14) | (go_at_call 51; (with_reducible refine (clevisref02_digit.calls (bt a0 x3_2) false _ A15.out).mono ?_); rintro e w' ⟨rfl, ⟨nd, rfl⟩⟩))
          go_ret
          exact ⟨by first | rfl | (simp; done) | (simp [*]; done), by repeat (first | exact Drawn0.refl _ | apply Drawn0.step)⟩
       ·
        rw [if_neg c10] at H
        exact absurd H (by simp)
      ·
       rw [if_neg c9] at H
       have c9b0 : decide (x3_2 < (a0.size : Int)) = false := decide_eq_false c9
       clear c9
       obtain rfl := Option.some.inj H
       go_wp2
       go_ret
       exact ⟨by first | rfl | (simp; done) | (simp [*]; done), by repeat (first | exact Drawn0.refl _ | apply Drawn0.step)⟩
end Go.Proofs.YtjbbigodkhnokaaDoor.Tr
end
section
namespace Go.Proofs.YtjbbigodkhnokaaDoor.Tr
open Go.RowKit Go.Proofs.YtjbbigodkhnokaaDoorW.PrintWords Go.Proofs.YtjbbigodkhnokaaDoorW.PrintLast Go.Proofs.YtjbbigodkhnokaaDoorW.PrintMore
attribute [local go_sem] max2_int min2_int max_two min_two max_three min_three max_four min_four   -- for this text's walks alone
set_option linter.unusedVariables false
set_option linter.unusedSimpArgs false
attribute [local go_sem] run_add64_any
mutual
def clevisref02_Digit.l0 : Nat → ByteArray → List Int → Int → Option (Int)
 | 0, _, _, _ => none
 | k + 1, x0, x3, x4 => if x4 < 11 then (if 0 ≤ x4 then (if x4 < (x0.size : Int) then ((clevisref02_letter.f (bt x0 x4) 65).bind fun t329 => (if t329 = true then ((some (([wrap64 (Int.tdiv (wrap64 ((wrap64 (bt x0 x4)) - 55)) 10), Int.tmod (wrap64 ((wrap64 (bt x0 x4)) - 55)) 10] : List Int) : List Int)).bind fun y330 => (if x3.length + y330.length < 17592186044416 then (clevisref02_Digit.l0 k x0 (x3 ++ y330) (wrap64 (x4 + 1))) else (none))) else ((clevisref02_digit.f (bt x0 x4)).bind fun t336 => (if t336 = true then (if x4 ≥ 2 then (if x3.length < 17592186044416 then (clevisref02_Digit.l0 k x0 (x3 ++ [wrap64 ((wrap64 (bt x0 x4)) - 48)]) (wrap64 (x4 + 1))) else (none)) else (some (-1))) else (some (-1)))))) else (none)) else (none)) else (clevisref02_Digit.l1 k x3 0 0)
def clevisref02_Digit.l1 : Nat → List Int → Int → Int → Option (Int)
 | 0, _, _, _ => none
 | k + 1, x3, x6, x7 => if x7 < (x3.length : Int) then (if 0 ≤ x7 then (if (Int.tmod (wrap64 ((x3.length : Int) - x7)) 2) = 1 then (if (wrap64 (2 * (rd x3 x7))) > 9 then (clevisref02_Digit.l1 k x3 (wrap64 (x6 + (wrap64 ((wrap64 (2 * (rd x3 x7))) - 9)))) (wrap64 (x7 + 1))) else (clevisref02_Digit.l1 k x3 (wrap64 (x6 + (wrap64 (2 * (rd x3 x7))))) (wrap64 (x7 + 1)))) else (clevisref02_Digit.l1 k x3 (wrap64 (x6 + (rd x3 x7))) (wrap64 (x7 + 1)))) else (none)) else (clevisref02_Digit.l2 k x6 0)
def clevisref02_Digit.l2 : Nat → Int → Int → Option (Int)
 | 0, _, _ => none
 | k + 1, x6, x9 => if x9 < 10 then (if (Int.tmod (wrap64 (x6 + x9)) 10) = 0 then (some x9) else (clevisref02_Digit.l2 k x6 (wrap64 (x9 + 1)))) else (some (-1))
end
def clevisref02_Digit.f (k : Nat) (a0 : ByteArray) : Option (Int) := if (a0.size : Int) = 11 then (clevisref02_Digit.l0 k a0 ([] : List Int) 0) else (some (-1))
theorem clevisref02_Digit.mono_l : ∀ k, (∀ y0 y1 y2, LeO (clevisref02_Digit.l0 k y0 y1 y2) (clevisref02_Digit.l0 (k + 1) y0 y1 y2)) ∧ (∀ y0 y1 y2, LeO (clevisref02_Digit.l1 k y0 y1 y2) (clevisref02_Digit.l1 (k + 1) y0 y1 y2)) ∧ (∀ y0 y1, LeO (clevisref02_Digit.l2 k y0 y1) (clevisref02_Digit.l2 (k + 1) y0 y1))
 | 0 => ⟨fun _ _ _ r h => by simp [clevisref02_Digit.l0] at h, fun _ _ _ r h => by simp [clevisref02_Digit.l1] at h, fun _ _ r h => by simp [clevisref02_Digit.l2] at h⟩
 | k + 1 => by
  obtain ⟨ih0, ih1, ih2⟩ := clevisref02_Digit.mono_l k
  refine ⟨?_, ?_, ?_⟩
  ·
   intro y0 y1 y2
   unfold clevisref02_Digit.l0
   repeat' first
   | (with_reducible exact ih0 _ _ _)
   | (with_reducible exact ih1 _ _ _)
   | (with_reducible exact ih2 _ _)
   | (with_reducible exact LeO.refl _)
   | (with_reducible exact LeO.none _)
   | (with_reducible refine LeO.ite ?_ ?_)
   | (with_reducible refine LeO.bind ?_ (fun _ => ?_))
   | exact ih0 _ _ _
   | exact ih1 _ _ _
   | exact ih2 _ _
   | exact LeO.none _
   | refine LeO.ite ?_ ?_
   | refine LeO.bind ?_ (fun _ => ?_)
  ·
   intro y0 y1 y2
   unfold clevisref02_Digit.l1
   repeat' first
   | (with_reducible exact ih0 _ _ _)
   | (with_reducible exact ih1 _ _ _)
   | (with_reducible exact ih2 _ _)
   | (with_reducible exact LeO.refl _)
   | (with_reducible exact LeO.none _)
   | (with_reducible refine LeO.ite ?_ ?_)
   | (with_reducible refine LeO.bind ?_ (fun _ => ?_))
   | exact ih0 _ _ _
   | exact ih1 _ _ _
   | exact ih2 _ _
   | exact LeO.none _
   | refine LeO.ite ?_ ?_
   | refine LeO.bind ?_ (fun _ => ?_)
  ·
   intro y0 y1
   unfold clevisref02_Digit.l2
   repeat' first
   | (with_reducible exact ih0 _ _ _)
   | (with_reducible exact ih1 _ _ _)
   | (with_reducible exact ih2 _ _)
   | (with_reducible exact LeO.refl _)
   | (with_reducible exact LeO.none _)
   | (with_reducible refine LeO.ite ?_ ?_)
   | (with_reducible refine LeO.bind ?_ (fun _ => ?_))
   | exact ih0 _ _ _
   | exact ih1 _ _ _
   | exact ih2 _ _
   | exact LeO.none _
   | refine LeO.ite ?_ ?_
   | refine LeO.bind ?_ (fun _ => ?_)
theorem clevisref02_Digit.mono : ∀ a0 k, LeO (clevisref02_Digit.f k a0) (clevisref02_Digit.f (k + 1) a0) := by
 intro a0 k
 obtain ⟨ih0, ih1, ih2⟩ := clevisref02_Digit.mono_l k
 unfold clevisref02_Digit.f
 repeat' first
   | (with_reducible exact ih0 _ _ _)
   | (with_reducible exact ih1 _ _ _)
   | (with_reducible exact ih2 _ _)
   | (with_reducible exact LeO.refl _)
   | (with_reducible exact LeO.none _)
   | (with_reducible refine LeO.ite ?_ ?_)
   | (with_reducible refine LeO.bind ?_ (fun _ => ?_))
   | exact ih0 _ _ _
   | exact ih1 _ _ _
   | exact ih2 _ _
   | exact LeO.none _
   | refine LeO.ite ?_ ?_
   | refine LeO.bind ?_ (fun _ => ?_)
set_option maxHeartbeats 8000000 in
set_option maxRecDepth 100000 in
theorem clevisref02_Digit.calls (k : Nat) (a0 : ByteArray) (r : Int) (w : World) (h : clevisref02_Digit.f k a0 = some r) :
  Calls Tryd.prog 52 #[.string a0] w fun e w' => e = .returned (.int .i64 r) ∧ Below w.heap.size w w' := by
 have HB := A_ (Below.refl w.heap.size w)
 have H : (if (a0.size : Int) = 11 then (clevisref02_Digit.l0 k a0 ([] : List Int) 0) else (some (-1))) = some r := h
 clear h
 by_cases c2 : (a0.size : Int) = 11
 ·
  rw [if_pos c2] at H
  have c2b0 : ((a0.size : Int) == 11) = true := q1_ c2
  have c2b1 : ((a0.size : Int) != 11) = false := q3_ c2
  clear c2
  have H' := A_ H
  clear H
  go_enter Tryd.func52, Tryd.ntmps52
  go_wp2
  (try simp only [Act.put, sA_, sZ_, sS_])
  go_loopg [3, 4] k (fun kq v3 v4 w' => ∃ (x3_1 : List Int) (x4_1 : Int), v4 = .int .i64 x4_1 ∧ Aside0 (clevisref02_Digit.l0 kq a0 x3_1 x4_1 = some r) ∧ Aside0 (kq ≤ k) ∧ Aside0 (Kd.R (Kd.int .i64) 3 w' w.heap.size (fun _ => True) v3 x3_1) ∧ Aside0 (Below w.heap.size w w'))
  case atStart => exact ⟨(([] : List Int)), (0), (by first | rfl | (simp; done) | (simp [*]; done)), H', ⟨Nat.le_refl _⟩, ⟨by first | exact Kd.R_nil _ _ _ _ _ | exact Kd.N_nil _ _ _ _ _ | exact Kd.V_nil _ _ _ _ _ | exact Kd.Q_nil _ _ _ _ _ | exact Kd.S_nil _ _ _ _ _⟩, ⟨bw_⟩⟩
  case round =>
   clear H'
   try clear c2
   try clear c2b0
   try clear c2b1
   try clear p2
   obtain ⟨x3_1, x4_1, rfl, HA, HK1, HO_3, HB⟩ := hrel
   cases gk with
   | zero => exact absurd HA.out (by simp [clevisref02_Digit.l0])
   | succ k1 =>
    have H := HA.out
    clear HA
    simp only [clevisref02_Digit.l0] at H
    by_cases c3 : x4_1 < 11
    ·
     rw [if_pos c3] at H
     have c3b0 : decide (x4_1 < 11) = true := decide_eq_true c3
     clear c3
     by_cases c4 : 0 ≤ x4_1
     ·
      rw [if_pos c4] at H
      have c4b0 : decide (0 ≤ x4_1) = true := decide_eq_true c4
      clear c4
      by_cases c5 : x4_1 < (a0.size : Int)
      ·
       rw [if_pos c5] at H
       have c5b0 : decide (x4_1 < (a0.size : Int)) = true := decide_eq_true c5
       clear c5
       replace H := os_ H
       obtain ⟨t329, A70, H⟩ := H
       replace H : (if t329 = true then ((some (([wrap64 (Int.tdiv (wrap64 ((wrap64 (bt a0 x4_1)) - 55)) 10), Int.tmod (wrap64 ((wrap64 (bt a0 x4_1)) - 55)) 10] : List Int) : List Int)).bind fun y330 => (if x3_1.length + y330.length < 17592186044416 then (clevisref02_Digit.l0 k1 a0 (x3_1 ++ y330) (wrap64 (x4_1 + 1))) else (none))) else ((clevisref02_digit.f (bt a0 x4_1)).bind fun t336 => (if t336 = true then (if x4_1 ≥ 2 then (if x3_1.length < 17592186044416 then (clevisref02_Digit.l0 k1 a0 (x3_1 ++ [wrap64 ((wrap64 (bt a0 x4_1)) - 48)]) (wrap64 (x4_1 + 1))) else (none)) else (some (-1))) else (some (-1))))) = some r := H
       have A7 := A_ A70
       clear A70
       by_cases c8 : t329 = true
       ·
        subst c8
        have H1 : ((some (([wrap64 (Int.tdiv (wrap64 ((wrap64 (bt a0 x4_1)) - 55)) 10), Int.tmod (wrap64 ((wrap64 (bt a0 x4_1)) - 55)) 10] : List Int) : List Int)).bind fun y330 => (if x3_1.length + y330.length < 17592186044416 then (clevisref02_Digit.l0 k1 a0 (x3_1 ++ y330) (wrap64 (x4_1 + 1))) else (none))) = some r := by rw [if_pos rfl] at H; exact H
        clear H
        have H := H1
        clear H1
        obtain ⟨y330, hy330⟩ : ∃ y_ : List Int, y_ = (([wrap64 (Int.tdiv (wrap64 ((wrap64 (bt a0 x4_1)) - 55)) 10), Int.tmod (wrap64 ((wrap64 (bt a0 x4_1)) - 55)) 10] : List Int)) := ⟨_, rfl⟩
        replace H : (if x3_1.length + y330.length < 17592186044416 then (clevisref02_Digit.l0 k1 a0 (x3_1 ++ y330) (wrap64 (x4_1 + 1))) else (none)) = some r := by first | (rw [hy330]; with_reducible exact H) | (have H2_ := (Option.bind_some _ _).symm.trans H; rw [hy330]; with_reducible exact H2_) | (have H2_ := (Option.bind_some _ _).symm.trans H; with_reducible exact H2_) | with_reducible exact H | (rw [hy330]; exact H) | exact H
        have Ny330 := A_ hy330
        clear hy330
        by_cases c10 : x3_1.length + y330.length < 17592186044416
        ·
         rw [if_pos c10] at H
         have LMc10 := A_ c10
         clear c10
         obtain ⟨y333, hy333⟩ : ∃ y_ : List Int, y_ = (x3_1 ++ y330) := ⟨_, rfl⟩
         replace H : (clevisref02_Digit.l0 k1 a0 y333 (wrap64 (x4_1 + 1))) = some r := by first | (rw [hy333]; with_reducible exact H) | (have H2_ := (Option.bind_some _ _).symm.trans H; rw [hy333]; with_reducible exact H2_) | (have H2_ := (Option.bind_some _ _).symm.trans H; with_reducible exact H2_) | with_reducible exact H | (rw [hy333]; exact H) | exact H
         have Ny333 := A_ hy333
         clear hy333
         have H' := A_ H
         clear H
         have p6 : 0 ≤ (x4_1 : Int) := od_ (by first | (with_reducible assumption) | assumption)
         have q6 : x4_1 < (a0.size : Int) := od_ (by first | (with_reducible assumption) | assumption)
         have hx6 := bt_at a0 x4_1
         replace p6 := eq_true p6
         replace q6 := eq_true q6
         go_wp2_with (first | ((with_reducible refine gate_callee (f := 50) rfl ?_); refine goesL_ (some 21) rfl rfl Tryd.func50 (by kernel_rfl) rfl #[.int .u8 (bt a0 x4_1), .int .u8 65] rfl (by (try simp only [List.map_toArray, List.map_cons, List.map_nil]); first | done | rfl | (simp only [List.length_drop, List.length_take]; rfl)) ?_; (with_reducible refine (clevisref02_letter.calls (bt a0 x4_1) 65 true _ A7.out).mono ?_); rintro e w' ⟨rfl, ⟨nd, rfl⟩⟩; refine ⟨_, rfl, ?_⟩; have p9 : 0 ≤ (x4_1 : Int) := od_ (by first | (with_reducible assumption) | assumption); have q9 : x4_1 < (a0.size : Int) := od_ (by first | (with_reducible assumption) | assumption); have hx9 := bt_at a0 x4_1; replace p9 := eq_true p9; replace q9 := eq_true q9) | ((with_reducible refine gate_dst (N := 32) rfl ?_); refine Kd.R_lit (Kd.int .i64) _ 3 ?hg (N := 32) ?hd (xs := ([wrap64 (Int.tdiv (wrap64 ((wrap64 (bt a0 x4_1)) - 55)) 10), Int.tmod (wrap64 ((wrap64 (bt a0 x4_1)) - 55)) 10] : List Int)) (inner := [.int .i64 (wrap64 (Int.tdiv (wrap64 ((wrap64 (bt a0 x4_1)) - 55)) 10)), .int .i64 (Int.tmod (wrap64 ((wrap64 (bt a0 x4_1)) - 55)) 10)]) (ok := fun _ => True) (okp := fun _ => True) ?hr ?hp (fun _ hk => hk) trivial (Below.refl _ _) (Nat.le_refl _) (by simp) ?_; (case hd => rfl); (case hg => rfl); (case hr => first | (go_simp; done) | (go_simp; rfl)); (case hp => exact (Reps.one (show Kd.M (Kd.int .i64) _ _ _ (wrap64 (Int.tdiv (wrap64 ((wrap64 (bt a0 x4_1)) - 55)) 10)) [.int .i64 (wrap64 (Int.tdiv (wrap64 ((wrap64 (bt a0 x4_1)) - 55)) 10))] from rfl) (Reps.one (show Kd.M (Kd.int .i64) _ _ _ (Int.tmod (wrap64 ((wrap64 (bt a0 x4_1)) - 55)) 10) [.int .i64 (Int.tmod (wrap64 ((wrap64 (bt a0 x4_1)) - 55)) 10)] from rfl) (Reps.none _ _)))); intro v331 w11 ho12 hb hg_ hnew_; clear hg_ hnew_; (first | rw [← Ny330.out] at ho12 | (simp only [Int.reduceToNat] at ho12; rw [← Ny330.out] at ho12)); have n0_ := A_ (Kd.R_elder' (by (with_reducible repeat (first | apply Kd.R_alloc | apply Kd.R_drewN | apply Kd.R_drew)); exact HO_3.out) (Kd.R_base ho12) hb); have n1_ := A_ (Kd.R_lower (Kd.R_new' ho12 (Kd.R_lt (by (with_reducible repeat (first | apply Kd.R_alloc | apply Kd.R_drewN | apply Kd.R_drew)); exact HO_3.out))) (bz_ bw_)); have n2_ := A_ (bs_ bw_ hb); clear HO_3; clear HB; have HO_3 := n0_; have HO332 := n1_; have HB := n2_; clear n0_ n1_ n2_; clear hb ho12; obtain ⟨Ao14, co14, eo14⟩ := Kd.R_slice HO332.out; subst eo14) | ((with_reducible refine gate_builtin (b := .append) (xs := #[.tmp 27, .tmp 32]) rfl ?_); at_builtin; refine Kd.R_append_rows (Kd.int .i64) (w0 := w) w.heap.size rfl (.tmp 27) (.tmp 32) 24 3 (.int .i64 0) 8 rfl Tryd.underlying24 info3 rfl (by decide) (by omega) u3 x3_1 y330 _ _ _ (fun k_ => some k_ ≠ (.slice Ao14 y330.length co14 : Value).ownBlock) (fun _ => False) rfl rfl ?aO ?aR (fun _ _ h => h) (fun _ h => h.elim) ?aF ?aB ?aS ?aL ?_; (case aR => repeat (first | exact (Kd.R_reads' HO332.out).2.2 | (with_reducible refine ca_ ?_ _) | (with_reducible refine cn_ ?_ _) | (with_reducible refine cd_ ?_))); (case aB => exact bw_); (case aF => exact (fun k_ hk => Kd.fresh' (Kd.R_lt (by (with_reducible repeat (first | apply Kd.R_alloc | apply Kd.R_drewN | apply Kd.R_drew)); exact HO332.out)) k_ hk)); (case aO => exact (by (with_reducible repeat (first | apply Kd.R_alloc | apply Kd.R_drewN | apply Kd.R_drew)); exact Kd.R_mono HO_3.out (fun _ hk => hk.2))); (case aS => exact (bz_ bw_)); (case aL => have := LMc10.out; omega); intro v334 w13 ho hb hg hat; rw [← Ny333.out] at ho; have n0_ := A_ (Kd.R_after (ok := (fun _ => True)) (by (with_reducible repeat (first | apply Kd.R_alloc | apply Kd.R_drewN | apply Kd.R_drew)); exact HO332.out) hg hat); have n1_ := A_ (hb); have n2_ := A_ (ho); clear HO332; clear HB; clear HO_3; have HO332 := n0_; have HB := n1_; have HO335 := n2_; clear n0_ n1_ n2_; clear ho hb hg hat))
         go_roundg k1
         case measure => have := HK1.out; omega
         case rel => exact ⟨(y333), (wrap64 (x4_1 + 1)), (by first | rfl | (simp; done) | (simp [*]; done)), H', ⟨by have := HK1.out; omega⟩, ⟨by (with_reducible repeat (first | apply Kd.R_alloc | apply Kd.R_drewN | apply Kd.R_drew)); exact Kd.R_mono HO335.out (fun _ hk => trivial)⟩, ⟨bw_⟩⟩
        ·
         rw [if_neg c10] at H
         exact absurd H (by simp)
       ·
        replace c8 := Bool.eq_false_iff.mpr c8
        subst c8
        have H1 : ((clevisref02_digit.f (bt a0 x4_1)).bind fun t336 => (if t336 = true then (if x4_1 ≥ 2 then (if x3_1.length < 17592186044416 then (clevisref02_Digit.l0 k1 a0 (x3_1 ++ [wrap64 ((wrap64 (bt a0 x4_1)) - 48)]) (wrap64 (x4_1 + 1))) else (none)) else (some (-1))) else (some (-1)))) = some r := by rw [if_neg (show ¬ (false = true) by decide)] at H; exact H
        clear H
        have H := H1
        clear H1
        replace H := os_ H
        obtain ⟨t336, A160, H⟩ := H
        replace H : (if t336 = true then (if x4_1 ≥ 2 then (if x3_1.length < 17592186044416 then (clevisref02_Digit.l0 k1 a0 (x3_1 ++ [wrap64 ((wrap64 (bt a0 x4_1)) - 48)]) (wrap64 (x4_1 + 1))) else (none)) else (some (-1))) else (some (-1))) = some r := H
        have A16 := A_ A160
        clear A160
        by_cases c17 : t336 = true
        ·
         subst c17
         have H1 : (if x4_1 ≥ 2 then (if x3_1.length < 17592186044416 then (clevisref02_Digit.l0 k1 a0 (x3_1 ++ [wrap64 ((wrap64 (bt a0 x4_1)) - 48)]) (wrap64 (x4_1 + 1))) else (none)) else (some (-1))) = some r := by rw [if_pos rfl] at H; exact H
         clear H
         have H := H1
         clear H1
         by_cases c18 : x4_1 ≥ 2
         ·
          rw [if_pos c18] at H
          have c18b0 : decide (2 ≤ x4_1) = true := decide_eq_true c18
          clear c18
          by_cases c20 : x3_1.length < 17592186044416
          ·
           rw [if_pos c20] at H
           have LMc20 := A_ c20
           clear c20
           obtain ⟨y337, hy337⟩ : ∃ y_ : List Int, y_ = (x3_1 ++ [wrap64 ((wrap64 (bt a0 x4_1)) - 48)]) := ⟨_, rfl⟩
           replace H : (clevisref02_Digit.l0 k1 a0 y337 (wrap64 (x4_1 + 1))) = some r := by first | (rw [hy337]; with_reducible exact H) | (have H2_ := (Option.bind_some _ _).symm.trans H; rw [hy337]; with_reducible exact H2_) | (have H2_ := (Option.bind_some _ _).symm.trans H; with_reducible exact H2_) | with_reducible exact H | (rw [hy337]; exact H) | exact H
           have Ny337 := A_ hy337
           clear hy337
           have H' := A_ H
           clear H
           have p6 : 0 ≤ (x4_1 : Int) := od_ (by first | (with_reducible assumption) | assumption)
           have q6 : x4_1 < (a0.size : Int) := od_ (by first | (with_reducible assumption) | assumption)
           have hx6 := bt_at a0 x4_1
           replace p6 := eq_true p6
           replace q6 := eq_true q6
           go_wp2_with (first | ((with_reducible refine gate_callee (f := 50) rfl ?_); refine goesL_ (some 21) rfl rfl Tryd.func50 (by kernel_rfl) rfl #[.int .u8 (bt a0 x4_1), .int .u8 65] rfl (by (try simp only [List.map_toArray, List.map_cons, List.map_nil]); first | done | rfl | (simp only [List.length_drop, List.length_take]; rfl)) ?_; (with_reducible refine (clevisref02_letter.calls (bt a0 x4_1) 65 false _ A7.out).mono ?_); rintro e w' ⟨rfl, ⟨nd, rfl⟩⟩; refine ⟨_, rfl, ?_⟩; have p15 : 0 ≤ (x4_1 : Int) := od_ (by first | (with_reducible assumption) | assumption); have q15 : x4_1 < (a0.size : Int) := od_ (by first | (with_reducible assumption) | assumption); have hx15 := bt_at a0 x4_1; replace p15 := eq_true p15; replace q15 := eq_true q15) | ((with_reducible refine gate_callee (f := 51) rfl ?_); refine goesL_ (some 38) rfl rfl Tryd.func51 (by kernel_rfl) rfl #[.int .u8 (bt a0 x4_1)] rfl (by (try simp only [List.map_toArray, List.map_cons, List.map_nil]); first | done | rfl | (simp only [List.length_drop, List.length_take]; rfl)) ?_; (with_reducible refine (clevisref02_digit.calls (bt a0 x4_1) true _ A16.out).mono ?_); rintro e w' ⟨rfl, ⟨nd, rfl⟩⟩; refine ⟨_, rfl, ?_⟩; have p19 : 0 ≤ (x4_1 : Int) := od_ (by first | (with_reducible assumption) | assumption); have q19 : x4_1 < (a0.size : Int) := od_ (by first | (with_reducible assumption) | assumption); have hx19 := bt_at a0 x4_1; replace p19 := eq_true p19; replace q19 := eq_true q19) | ((with_reducible refine gate_builtin (b := .append) (xs := #[.tmp 43, .tmp 49]) rfl ?_); at_builtin; refine Kd.R_append (Kd.int .i64) (w0 := w) w.heap.size rfl (.tmp 43) (.tmp 49) 24 3 (.int .i64 0) 8 rfl Tryd.underlying24 info3 rfl (by decide) (by omega) u3 x3_1 (wrap64 ((wrap64 (bt a0 x4_1)) - 48)) [.int .i64 (wrap64 ((wrap64 (bt a0 x4_1)) - 48))] (fun _ => True) (fun _ => False) rfl rfl ?aP (fun _ hk => hk.elim) ?aF ?aO ?aB ?aS ?aL ?_; (case aP => exact rfl); (case aB => exact bw_); (case aF => exact (fun _ _ => trivial)); (case aO => exact (by (with_reducible repeat (first | apply Kd.R_alloc | apply Kd.R_drewN | apply Kd.R_drew)); exact HO_3.out)); (case aS => exact (bz_ bw_)); (case aL => have := LMc20.out; omega); intro v338 w21 ho hb hg hat; rw [← Ny337.out] at ho; have n0_ := A_ (hb); have n1_ := A_ (ho); clear HB; clear HO_3; have HB := n0_; have HO339 := n1_; clear n0_ n1_; clear ho hb hg hat))
           go_roundg k1
           case measure => have := HK1.out; omega
           case rel => exact ⟨(y337), (wrap64 (x4_1 + 1)), (by first | rfl | (simp; done) | (simp [*]; done)), H', ⟨by have := HK1.out; omega⟩, ⟨by (with_reducible repeat (first | apply Kd.R_alloc | apply Kd.R_drewN | apply Kd.R_drew)); exact HO339.out⟩, ⟨bw_⟩⟩
          ·
           rw [if_neg c20] at H
           exact absurd H (by simp)
         ·
          rw [if_neg c18] at H
          have c18b0 : decide (2 ≤ x4_1) = false := decide_eq_false c18
          clear c18
          obtain rfl := Option.some.inj H
          have p6 : 0 ≤ (x4_1 : Int) := od_ (by first | (with_reducible assumption) | assumption)
          have q6 : x4_1 < (a0.size : Int) := od_ (by first | (with_reducible assumption) | assumption)
          have hx6 := bt_at a0 x4_1
          replace p6 := eq_true p6
          replace q6 := eq_true q6
          go_wp2_with (first | ((with_reducible refine gate_callee (f := 50) rfl ?_); refine goesL_ (some 21) rfl rfl Tryd.func50 (by kernel_rfl) rfl #[.int .u8 (bt a0 x4_1), .int .u8 65] rfl (by (try simp only [List.map_toArray, List.map_cons, List.map_nil]); first | done | rfl | (simp only [List.length_drop, List.length_take]; rfl)) ?_; (with_reducible refine (clevisref02_letter.calls (bt a0 x4_1) 65 false _ A7.out).mono ?_); rintro e w' ⟨rfl, ⟨nd, rfl⟩⟩; refine ⟨_, rfl, ?_⟩; have p15 : 0 ≤ (x4_1 : Int) := od_ (by first | (with_reducible assumption) | assumption); have q15 : x4_1 < (a0.size : Int) := od_ (by first | (with_reducible assumption) | assumption); have hx15 := bt_at a0 x4_1; replace p15 := eq_true p15; replace q15 := eq_true q15) | ((with_reducible refine gate_callee (f := 51) rfl ?_); refine goesL_ (some 38) rfl rfl Tryd.func51 (by kernel_rfl) rfl #[.int .u8 (bt a0 x4_1)] rfl (by (try simp only [List.map_toArray, List.map_cons, List.map_nil]); first | done | rfl | (simp only [List.length_drop, List.length_take]; rfl)) ?_; (with_reducible refine (clevisref02_digit.calls (bt a0 x4_1) true _ A16.out).mono ?_); rintro e w' ⟨rfl, ⟨nd, rfl⟩⟩; refine ⟨_, rfl, ?_⟩))
          go_ret
          exact ⟨by first | rfl | (simp [errW_none, errW_some] <;> rfl) | (simp [*, errW_none, errW_some] <;> rfl), bw_⟩
        ·
         replace c17 := Bool.eq_false_iff.mpr c17
         subst c17
         have H1 : (some (-1)) = some r := by rw [if_neg (show ¬ (false = true) by decide)] at H; exact H
         clear H
         have H := H1
         clear H1
         obtain rfl := Option.some.inj H
         have p6 : 0 ≤ (x4_1 : Int) := od_ (by first | (with_reducible assumption) | assumption)
         have q6 : x4_1 < (a0.size : Int) := od_ (by first | (with_reducible assumption) | assumption)
         have hx6 := bt_at a0 x4_1
         replace p6 := eq_true p6
         replace q6 := eq_true q6
         go_wp2_with (first | ((with_reducible refine gate_callee (f := 50) rfl ?_); refine goesL_ (some 21) rfl rfl Tryd.func50 (by kernel_rfl) rfl #[.int .u8 (bt a0 x4_1), .int .u8 65] rfl (by (try simp only [List.map_toArray, List.map_cons, List.map_nil]); first | done | rfl | (simp only [List.length_drop, List.length_take]; rfl)) ?_; (with_reducible refine (clevisref02_letter.calls (bt a0 x4_1) 65 false _ A7.out).mono ?_); rintro e w' ⟨rfl, ⟨nd, rfl⟩⟩; refine ⟨_, rfl, ?_⟩; have p15 : 0 ≤ (x4_1 : Int) := od_ (by first | (with_reducible assumption) | assumption); have q15 : x4_1 < (a0.size : Int) := od_ (by first | (with_reducible assumption) | assumption); have hx15 := bt_at a0 x4_1; replace p15 := eq_true p15; replace q15 := eq_true q15) | ((with_reducible refine gate_callee (f := 51) rfl ?_); refine goesL_ (some 38) rfl rfl Tryd.func51 (by kernel_rfl) rfl #[.int .u8 (bt a0 x4_1)] rfl (by (try simp only [List.map_toArray, List.map_cons, List.map_nil]); first | done | rfl | (simp only [List.length_drop, List.length_take]; rfl)) ?_; (with_reducible refine (clevisref02_digit.calls (bt a0 x4_1) false _ A16.out).mono ?_); rintro e w' ⟨rfl, ⟨nd, rfl⟩⟩; refine ⟨_, rfl, ?_⟩))
         go_ret
         exact ⟨by first | rfl | (simp [errW_none, errW_some] <;> rfl) | (simp [*, errW_none, errW_some] <;> rfl), bw_⟩
      ·
       rw [if_neg c5] at H
       exact absurd H (by simp)
     ·
      rw [if_neg c4] at H
      exact absurd H (by simp)
    ·
     rw [if_neg c3] at H
     have c3b0 : decide (x4_1 < 11) = false := decide_eq_false c3
     clear c3
     have H' := A_ H
     clear H
     go_wp2
     (try simp only [Act.put, sA_, sZ_, sS_])
     go_loopg [6, 7] k1 (fun kq v6 v7 w' => ∃ (x6_2 : Int) (x7_2 : Int), v6 = .int .i64 x6_2 ∧ v7 = .int .i64 x7_2 ∧ Aside0 (clevisref02_Digit.l1 kq x3_1 x6_2 x7_2 = some r) ∧ Aside0 (kq ≤ k1) ∧ Aside0 (Kd.R (Kd.int .i64) 3 w' w.heap.size (fun _ => True) u3 x3_1) ∧ Aside0 (Below w.heap.size w w'))
     case atStart => exact ⟨(0), (0), (by first | rfl | (simp; done) | (simp [*]; done)), (by first | rfl | (simp; done) | (simp [*]; done)), H', ⟨Nat.le_refl _⟩, ⟨by (with_reducible repeat (first | apply Kd.R_alloc | apply Kd.R_drewN | apply Kd.R_drew)); exact HO_3.out⟩, ⟨bw_⟩⟩
     case round =>
      clear H'
      try clear c1
      try clear p1
      try clear q1
      try clear hx1
      try clear c2
      try clear c2b0
      try clear c2b1
      try clear p2
      try clear c3
      try clear c3b0
      try clear c4
      try clear c4b0
      try clear c5
      try clear c5b0
      try clear p6
      try clear q6
      try clear hx6
      try clear c8
      try clear p9
      try clear q9
      try clear hx9
      try clear c10
      try clear p15
      try clear q15
      try clear hx15
      try clear c17
      try clear c18
      try clear c18b0
      try clear p19
      try clear q19
      try clear hx19
      try clear c20
      try clear p15
      try clear p19
      try clear p2
      try clear p6
      try clear p9
      try clear q15
      try clear q19
      try clear q6
      try clear q9
      obtain ⟨x6_2, x7_2, rfl, rfl, HA, HK2, HO_3, HB⟩ := hrel
      cases gk with
      | zero => exact absurd HA.out (by simp [clevisref02_Digit.l1])
      | succ k2 =>
       have H := HA.out
       clear HA
       simp only [clevisref02_Digit.l1] at H
       by_cases c22 : x7_2 < (x3_1.length : Int)
       ·
        rw [if_pos c22] at H
        have c22b0 : decide (x7_2 < (x3_1.length : Int)) = true := decide_eq_true c22
        clear c22
        by_cases c23 : 0 ≤ x7_2
        ·
         rw [if_pos c23] at H
         have c23b0 : decide (0 ≤ x7_2) = true := decide_eq_true c23
         clear c23
         by_cases c24 : (Int.tmod (wrap64 ((x3_1.length : Int) - x7_2)) 2) = 1
         ·
          rw [if_pos c24] at H
          have c24b0 : ((Int.tmod (wrap64 ((x3_1.length : Int) - x7_2)) 2) == 1) = true := q1_ c24
          have c24b1 : ((Int.tmod (wrap64 ((x3_1.length : Int) - x7_2)) 2) != 1) = false := q3_ c24
          clear c24
          by_cases c25 : (wrap64 (2 * (rd x3_1 x7_2))) > 9
          ·
           rw [if_pos c25] at H
           have c25b0 : decide (9 < (wrap64 (2 * (rd x3_1 x7_2)))) = true := decide_eq_true c25
           clear c25
           have H' := A_ H
           clear H
           obtain ⟨Ao26, co26, eo26⟩ := Kd.R_slice HO_3.out
           subst eo26
           have p340 : 0 ≤ (x7_2 : Int) := od_ (by first | (with_reducible assumption) | assumption)
           have q340 : x7_2 < (x3_1.length : Int) := od_ (by first | (with_reducible assumption) | assumption)
           obtain ⟨ad340, e340, hx340_0⟩ := Kd.at_int (Kd.R_reads' HO_3.out).2.2 x7_2 p340 q340
           cases e340
           replace p340 := eq_true p340
           replace q340 := eq_true q340
           go_wp2
           go_roundg k2
           case measure => have := HK1.out; have := HK2.out; omega
           case rel => exact ⟨(wrap64 (x6_2 + (wrap64 ((wrap64 (2 * (rd x3_1 x7_2))) - 9)))), (wrap64 (x7_2 + 1)), (by first | rfl | (simp; done) | (simp [*]; done)), (by first | rfl | (simp; done) | (simp [*]; done)), H', ⟨by have := HK1.out; have := HK2.out; omega⟩, ⟨by (with_reducible repeat (first | apply Kd.R_alloc | apply Kd.R_drewN | apply Kd.R_drew)); exact HO_3.out⟩, ⟨bw_⟩⟩
          ·
           rw [if_neg c25] at H
           have c25b0 : decide (9 < (wrap64 (2 * (rd x3_1 x7_2)))) = false := decide_eq_false c25
           clear c25
           have H' := A_ H
           clear H
           obtain ⟨Ao27, co27, eo27⟩ := Kd.R_slice HO_3.out
           subst eo27
           have p340 : 0 ≤ (x7_2 : Int) := od_ (by first | (with_reducible assumption) | assumption)
           have q340 : x7_2 < (x3_1.length : Int) := od_ (by first | (with_reducible assumption) | assumption)
           obtain ⟨ad340, e340, hx340_0⟩ := Kd.at_int (Kd.R_reads' HO_3.out).2.2 x7_2 p340 q340
           cases e340
           replace p340 := eq_true p340
           replace q340 := eq_true q340
           go_wp2
           go_roundg k2
           case measure => have := HK1.out; have := HK2.out; omega
           case rel => exact ⟨(wrap64 (x6_2 + (wrap64 (2 * (rd x3_1 x7_2))))), (wrap64 (x7_2 + 1)), (by first | rfl | (simp; done) | (simp [*]; done)), (by first | rfl | (simp; done) | (simp [*]; done)), H', ⟨by have := HK1.out; have := HK2.out; omega⟩, ⟨by (with_reducible repeat (first | apply Kd.R_alloc | apply Kd.R_drewN | apply Kd.R_drew)); exact HO_3.out⟩, ⟨bw_⟩⟩
         ·
          rw [if_neg c24] at H
          have c24b0 : ((Int.tmod (wrap64 ((x3_1.length : Int) - x7_2)) 2) == 1) = false := q4_ c24
          have c24b1 : ((Int.tmod (wrap64 ((x3_1.length : Int) - x7_2)) 2) != 1) = true := q2_ c24
          have H' := A_ H
          clear H
          obtain ⟨Ao28, co28, eo28⟩ := Kd.R_slice HO_3.out
          subst eo28
          have p340 : 0 ≤ (x7_2 : Int) := od_ (by first | (with_reducible assumption) | assumption)
          have q340 : x7_2 < (x3_1.length : Int) := od_ (by first | (with_reducible assumption) | assumption)
          obtain ⟨ad340, e340, hx340_0⟩ := Kd.at_int (Kd.R_reads' HO_3.out).2.2 x7_2 p340 q340
          cases e340
          replace p340 := eq_true p340
          replace q340 := eq_true q340
          go_wp2
          go_roundg k2
          case measure => have := HK1.out; have := HK2.out; omega
          case rel => exact ⟨(wrap64 (x6_2 + (rd x3_1 x7_2))), (wrap64 (x7_2 + 1)), (by first | rfl | (simp; done) | (simp [*]; done)), (by first | rfl | (simp; done) | (simp [*]; done)), H', ⟨by have := HK1.out; have := HK2.out; omega⟩, ⟨by (with_reducible repeat (first | apply Kd.R_alloc | apply Kd.R_drewN | apply Kd.R_drew)); exact HO_3.out⟩, ⟨bw_⟩⟩
        ·
         rw [if_neg c23] at H
         exact absurd H (by simp)
       ·
        rw [if_neg c22] at H
        have c22b0 : decide (x7_2 < (x3_1.length : Int)) = false := decide_eq_false c22
        clear c22
        have H' := A_ H
        clear H
        obtain ⟨Ao29, co29, eo29⟩ := Kd.R_slice HO_3.out
        subst eo29
        go_wp2
        (try simp only [Act.put, sA_, sZ_, sS_])
        go_loopg [9] k2 (fun kq v9 w' => ∃ (x9_3 : Int), v9 = .int .i64 x9_3 ∧ Aside0 (clevisref02_Digit.l2 kq x6_2 x9_3 = some r) ∧ Aside0 (kq ≤ k2) ∧ Aside0 (Below w.heap.size w w'))
        case atStart => exact ⟨(0), (by first | rfl | (simp; done) | (simp [*]; done)), H', ⟨Nat.le_refl _⟩, ⟨bw_⟩⟩
        case round =>
         clear H'
         try clear c1
         try clear p1
         try clear q1
         try clear hx1
         try clear c2
         try clear c2b0
         try clear c2b1
         try clear p2
         try clear c3
         try clear c3b0
         try clear p3
         try clear q3
         try clear hx3
         try clear c4
         try clear c4b0
         try clear c5
         try clear c5b0
         try clear p6
         try clear q6
         try clear hx6
         try clear c8
         try clear p9
         try clear q9
         try clear hx9
         try clear c10
         try clear p15
         try clear q15
         try clear hx15
         try clear c17
         try clear c18
         try clear c18b0
         try clear p19
         try clear q19
         try clear hx19
         try clear c20
         try clear c22
         try clear c22b0
         try clear c23
         try clear c23b0
         try clear c24
         try clear c24b0
         try clear c24b1
         try clear c25
         try clear c25b0
         try clear hx340_0
         try clear p1
         try clear p15
         try clear p19
         try clear p2
         try clear p340
         try clear p6
         try clear p9
         try clear q1
         try clear q15
         try clear q19
         try clear q340
         try clear q6
         try clear q9
         obtain ⟨x9_3, rfl, HA, HK3, HB⟩ := hrel
         cases gk with
         | zero => exact absurd HA.out (by simp [clevisref02_Digit.l2])
         | succ k3 =>
          have H := HA.out
          clear HA
          simp only [clevisref02_Digit.l2] at H
          by_cases c30 : x9_3 < 10
          ·
           rw [if_pos c30] at H
           have c30b0 : decide (x9_3 < 10) = true := decide_eq_true c30
           clear c30
           by_cases c31 : (Int.tmod (wrap64 (x6_2 + x9_3)) 10) = 0
           ·
            rw [if_pos c31] at H
            have c31b0 : ((Int.tmod (wrap64 (x6_2 + x9_3)) 10) == 0) = true := q1_ c31
            have c31b1 : ((Int.tmod (wrap64 (x6_2 + x9_3)) 10) != 0) = false := q3_ c31
            clear c31
            obtain rfl := Option.some.inj H
            go_wp2
            go_ret
            exact ⟨by first | rfl | (simp [errW_none, errW_some] <;> rfl) | (simp [*, errW_none, errW_some] <;> rfl), bw_⟩
           ·
            rw [if_neg c31] at H
            have c31b0 : ((Int.tmod (wrap64 (x6_2 + x9_3)) 10) == 0) = false := q4_ c31
            have c31b1 : ((Int.tmod (wrap64 (x6_2 + x9_3)) 10) != 0) = true := q2_ c31
            have H' := A_ H
            clear H
            go_wp2
            go_roundg k3
            case measure => have := HK1.out; have := HK2.out; have := HK3.out; omega
            case rel => exact ⟨(wrap64 (x9_3 + 1)), (by first | rfl | (simp; done) | (simp [*]; done)), H', ⟨by have := HK1.out; have := HK2.out; have := HK3.out; omega⟩, ⟨bw_⟩⟩
          ·
           rw [if_neg c30] at H
           have c30b0 : decide (x9_3 < 10) = false := decide_eq_false c30
           clear c30
           obtain rfl := Option.some.inj H
           go_wp2
           go_ret
           exact ⟨by first | rfl | (simp [errW_none, errW_some] <;> rfl) | (simp [*, errW_none, errW_some] <;> rfl), bw_⟩
 ·
  rw [if_neg c2] at H
  have c2b0 : ((a0.size : Int) == 11) = false := q4_ c2
  have c2b1 : ((a0.size : Int) != 11) = true := q2_ c2
  obtain rfl := Option.some.inj H
  go_enter Tryd.func52, Tryd.ntmps52
  go_wp2
  go_ret
  exact ⟨by first | rfl | (simp [errW_none, errW_some] <;> rfl) | (simp [*, errW_none, errW_some] <;> rfl), bw_⟩
end Go.Proofs.YtjbbigodkhnokaaDoor.Tr
end
section
namespace Go.Proofs.YtjbbigodkhnokaaDoor.Tr
open Go.RowKit Go.Proofs.YtjbbigodkhnokaaDoorW.PrintWords Go.Proofs.YtjbbigodkhnokaaDoorW.PrintLast Go.Proofs.YtjbbigodkhnokaaDoorW.PrintMore
attribute [local go_sem] max2_int min2_int max_two min_two max_three min_three max_four min_four   -- for this text's walks alone
set_option linter.unusedVariables false
set_option linter.unusedSimpArgs false
attribute [local go_sem] run_add64_any
def clevisref02_Isin.j0 : Nat → ByteArray → Bool → Option (Int)
 | 0, _, _ => none
 | k + 1, x0, x17 => if x17 = true then (some 3) else (if 0 ≤ 11 then (if 11 ≤ (x0.size : Int) then ((clevisref02_Digit.f k (x0.extract 0 11)).bind fun t343 => (if 11 < (x0.size : Int) then (if t343 = (wrap64 ((wrap64 (bt x0 11)) - 48)) then (some 0) else (some 11)) else (none))) else (none)) else (none))
def clevisref02_Isin.f (k : Nat) (a0 : ByteArray) : Option (Int) := if (a0.size : Int) = 12 then (if 11 < (a0.size : Int) then ((clevisref02_digit.f (bt a0 11)).bind fun t341 => (if t341 = true then (if 0 ≤ 11 then (if 11 ≤ (a0.size : Int) then ((clevisref02_Digit.f k (a0.extract 0 11)).bind fun t342 => (clevisref02_Isin.j0 k a0 (decide (t342 < 0)))) else (none)) else (none)) else (clevisref02_Isin.j0 k a0 true))) else (none)) else (clevisref02_Isin.j0 k a0 true)
def clevisref02_Isin.T3 : Bool × List (List Nat × List Nat) := (true, [([], []), ([0], [0]), ([1], [1]), ([], []), ([3], [3]), ([4], [4]), ([5], [5]), ([2, 6], [2, 6])])
def clevisref02_Isin.B3 : List Nat := [0, 1, 3, 0, 8, 24, 56, 127]
theorem clevisref02_Isin.tab3 : rtab .any (opsOf Tryd.f32 3) = clevisref02_Isin.T3 := by kernel_rfl
theorem clevisref02_Isin.bits3 : waitsOk clevisref02_Isin.T3.2 clevisref02_Isin.B3 = true := by kernel_rfl
set_option maxHeartbeats 8000000 in
set_option maxRecDepth 100000 in
theorem clevisref02_Isin.calls (k : Nat) (a0 : ByteArray) (r : Int) (w : World) (h : clevisref02_Isin.f k a0 = some r) :
  Calls Tryd.prog 32 #[.string a0] w fun e w' => e = .returned (.int .i64 r) ∧ Below w.heap.size w w' := by
 have HB := A_ (Below.refl w.heap.size w)
 have H : (if (a0.size : Int) = 12 then (if 11 < (a0.size : Int) then ((clevisref02_digit.f (bt a0 11)).bind fun t341 => (if t341 = true then (if 0 ≤ 11 then (if 11 ≤ (a0.size : Int) then ((clevisref02_Digit.f k (a0.extract 0 11)).bind fun t342 => (clevisref02_Isin.j0 k a0 (decide (t342 < 0)))) else (none)) else (none)) else (clevisref02_Isin.j0 k a0 true))) else (none)) else (clevisref02_Isin.j0 k a0 true)) = some r := h
 clear h
 have HC2 := A_ H
 clear H
 go_enter Tryd.func32, Tryd.ntmps32
 go_upto_region 1 with (fail)
 go_cut [17] (fun v17 wc => ∃ (kq : Nat) (x17_1 : Bool), v17 = .bool x17_1 ∧ Aside0 (clevisref02_Isin.j0 kq a0 x17_1 = some r) ∧ Aside0 (kq ≤ k) ∧ Aside0 (Below w.heap.size w wc))
 case first =>
  have H := HC2.out
  clear HC2
  by_cases c3 : (a0.size : Int) = 12
  ·
   rw [if_pos c3] at H
   have c3b0 : ((a0.size : Int) == 12) = true := q1_ c3
   have c3b1 : ((a0.size : Int) != 12) = false := q3_ c3
   clear c3
   (first | rw [c3b0] | (simp only [i64_w, i32_w]; rw [c3b0]) | skip)
   by_cases c4 : 11 < (a0.size : Int)
   ·
    rw [if_pos c4] at H
    have c4b0 : decide (11 < (a0.size : Int)) = true := decide_eq_true c4
    have c4b1 : decide (11 < a0.size) = true := decide_eq_true (by omega)
    clear c4
    replace H := os_ H
    obtain ⟨t341, A60, H⟩ := H
    replace H : (if t341 = true then (if 0 ≤ 11 then (if 11 ≤ (a0.size : Int) then ((clevisref02_Digit.f k (a0.extract 0 11)).bind fun t342 => (clevisref02_Isin.j0 k a0 (decide (t342 < 0)))) else (none)) else (none)) else (clevisref02_Isin.j0 k a0 true)) = some r := H
    have A6 := A_ A60
    clear A60
    by_cases c7 : t341 = true
    ·
     subst c7
     have H1 : (if 0 ≤ 11 then (if 11 ≤ (a0.size : Int) then ((clevisref02_Digit.f k (a0.extract 0 11)).bind fun t342 => (clevisref02_Isin.j0 k a0 (decide (t342 < 0)))) else (none)) else (none)) = some r := by rw [if_pos rfl] at H; exact H
     clear H
     have H := H1
     clear H1
     by_cases c8 : 0 ≤ 11
     ·
      rw [if_pos c8] at H
      have c8b0 := eq_true c8
      have c8b1 : decide (0 ≤ 11) = true := decide_eq_true c8
      clear c8
      by_cases c9 : 11 ≤ (a0.size : Int)
      ·
       rw [if_pos c9] at H
       have c9b0 := eq_true c9
       have c9b1 : decide (11 ≤ (a0.size : Int)) = true := decide_eq_true c9
       clear c9
       replace H := os_ H
       obtain ⟨t342, A100, H⟩ := H
       replace H : (clevisref02_Isin.j0 k a0 (decide (t342 < 0))) = some r := H
       have A10 := A_ A100
       clear A100
       have H' := A_ H
       clear H
       have p5 : 0 ≤ (11 : Int) := (by omega)
       have q5 : 11 < a0.size := (by have : (11 : Int) < (a0.size : Int) := od_ (by first | (with_reducible assumption) | assumption); omega)
       have hx5 : ∀ h : 11 < a0.size, ((a0[11]'h).toNat : Int) = bt a0 11 := bt_at a0 11
       clear p5
       have qi5 : (11 < (a0.size : Int)) = True := eq_true (od_ (by first | (with_reducible assumption) | assumption))
       replace q5 := eq_true q5
       go_wp2_with (first | (go_at_call 51; (with_reducible refine (clevisref02_digit.calls (bt a0 11) true _ A6.out).mono ?_); rintro e w' ⟨rfl, ⟨nd, rfl⟩⟩) | (go_at_call 52; (with_reducible refine (clevisref02_Digit.calls k (a0.extract 0 11) t342 _ A10.out).mono ?_); rintro e w11 ⟨rfl, hb⟩; have n0_ := A_ (bs_ bw_ hb); clear HB; have HB := n0_; clear n0_; (try clear hb); (try clear hb2); (try clear hk); (try clear hi)))
       go_meet
       case rel => exact ⟨_, (decide (t342 < 0)), (by first | rfl | (simp; done) | (simp [*]; done)), H', ⟨by first | omega | exact Nat.le_refl _⟩, ⟨bw_⟩⟩
      ·
       rw [if_neg c9] at H
       exact absurd H (by simp)
     ·
      rw [if_neg c8] at H
      exact absurd H (by simp)
    ·
     replace c7 := Bool.eq_false_iff.mpr c7
     subst c7
     have H1 : (clevisref02_Isin.j0 k a0 true) = some r := by rw [if_neg (show ¬ (false = true) by decide)] at H; exact H
     clear H
     have H := H1
     clear H1
     have H' := A_ H
     clear H
     have p5 : 0 ≤ (11 : Int) := (by omega)
     have q5 : 11 < a0.size := (by have : (11 : Int) < (a0.size : Int) := od_ (by first | (with_reducible assumption) | assumption); omega)
     have hx5 : ∀ h : 11 < a0.size, ((a0[11]'h).toNat : Int) = bt a0 11 := bt_at a0 11
     clear p5
     have qi5 : (11 < (a0.size : Int)) = True := eq_true (od_ (by first | (with_reducible assumption) | assumption))
     replace q5 := eq_true q5
     go_wp2_with (first | (go_at_call 51; (with_reducible refine (clevisref02_digit.calls (bt a0 11) false _ A6.out).mono ?_); rintro e w' ⟨rfl, ⟨nd, rfl⟩⟩))
     go_meet
     case rel => exact ⟨_, (true), (by first | rfl | (simp; done) | (simp [*]; done)), H', ⟨by first | omega | exact Nat.le_refl _⟩, ⟨bw_⟩⟩
   ·
    rw [if_neg c4] at H
    exact absurd H (by simp)
  ·
   rw [if_neg c3] at H
   have c3b0 : ((a0.size : Int) == 12) = false := q4_ c3
   have c3b1 : ((a0.size : Int) != 12) = true := q2_ c3
   (first | rw [c3b0] | (simp only [i64_w, i32_w]; rw [c3b0]) | skip)
   have H' := A_ H
   clear H
   go_wp2
   go_meet
   case rel => exact ⟨_, (true), (by first | rfl | (simp; done) | (simp [*]; done)), H', ⟨by first | omega | exact Nat.le_refl _⟩, ⟨bw_⟩⟩
 case rest =>
  clear HC2
  try clear p2
  try clear c3
  try clear c3b0
  try clear c3b1
  try clear c4
  try clear c4b0
  try clear c4b1
  try clear p5
  try clear q5
  try clear hx5
  try clear qi5
  try clear c7
  try clear c8
  try clear c8b0
  try clear c8b1
  try clear c9
  try clear c9b0
  try clear c9b1
  try clear p5
  try clear q5
  obtain ⟨kq, x17_1, rfl, HA, HJ1, HB⟩ := hcut
  cases kq with
  | zero => exact absurd HA.out (by simp [clevisref02_Isin.j0])
  | succ kj1 =>
   have H := HA.out
   clear HA
   simp only [clevisref02_Isin.j0] at H
   by_cases c12 : x17_1 = true
   ·
    subst c12
    have H1 : (some 3) = some r := by rw [if_pos rfl] at H; exact H
    clear H
    have H := H1
    clear H1
    obtain rfl := Option.some.inj H
    go_wp2
    go_ret
    exact ⟨by first | rfl | (simp [errW_none, errW_some] <;> rfl) | (simp [*, errW_none, errW_some] <;> rfl), bw_⟩
   ·
    replace c12 := Bool.eq_false_iff.mpr c12
    subst c12
    have H1 : (if 0 ≤ 11 then (if 11 ≤ (a0.size : Int) then ((clevisref02_Digit.f kj1 (a0.extract 0 11)).bind fun t343 => (if 11 < (a0.size : Int) then (if t343 = (wrap64 ((wrap64 (bt a0 11)) - 48)) then (some 0) else (some 11)) else (none))) else (none)) else (none)) = some r := by rw [if_neg (show ¬ (false = true) by decide)] at H; exact H
    clear H
    have H := H1
    clear H1
    by_cases c13 : 0 ≤ 11
    ·
     rw [if_pos c13] at H
     have c13b0 := eq_true c13
     have c13b1 : decide (0 ≤ 11) = true := decide_eq_true c13
     clear c13
     by_cases c14 : 11 ≤ (a0.size : Int)
     ·
      rw [if_pos c14] at H
      have c14b0 := eq_true c14
      have c14b1 : decide (11 ≤ (a0.size : Int)) = true := decide_eq_true c14
      clear c14
      replace H := os_ H
      obtain ⟨t343, A150, H⟩ := H
      replace H : (if 11 < (a0.size : Int) then (if t343 = (wrap64 ((wrap64 (bt a0 11)) - 48)) then (some 0) else (some 11)) else (none)) = some r := H
      have A15 := A_ A150
      clear A150
      by_cases c16 : 11 < (a0.size : Int)
      ·
       rw [if_pos c16] at H
       have c16b0 : decide (11 < (a0.size : Int)) = true := decide_eq_true c16
       have c16b1 : decide (11 < a0.size) = true := decide_eq_true (by omega)
       clear c16
       by_cases c18 : t343 = (wrap64 ((wrap64 (bt a0 11)) - 48))
       ·
        rw [if_pos c18] at H
        have c18b0 : (t343 == (wrap64 ((wrap64 (bt a0 11)) - 48))) = true := q1_ c18
        have c18b1 : (t343 != (wrap64 ((wrap64 (bt a0 11)) - 48))) = false := q3_ c18
        clear c18
        obtain rfl := Option.some.inj H
        try go_wp2
        have n0_ := A_ (b1_ HB.out)
        clear HB
        have HB := n0_
        clear n0_
        have p17 : 0 ≤ (11 : Int) := (by omega)
        have q17 : 11 < a0.size := (by have : (11 : Int) < (a0.size : Int) := od_ (by first | (with_reducible assumption) | assumption); omega)
        have hx17 : ∀ h : 11 < a0.size, ((a0[11]'h).toNat : Int) = bt a0 11 := bt_at a0 11
        clear p17
        have qi17 : (11 < (a0.size : Int)) = True := eq_true (od_ (by first | (with_reducible assumption) | assumption))
        replace q17 := eq_true q17
        refine start_ (n := 8) (S := fun w' => True) (ds := []) #[false, false, false, false, false, false, false, false] (by kernel_rfl) rfl rfl trivial (fun hHeld => ?_); refine with_tabW clevisref02_Isin.tab3 clevisref02_Isin.bits3 (fun HT_ HW_ => ?_)
        generalize wc.drew = w19 at HB hHeld ⊢
        refine pure_ (i := 0) (N := some 18) (v := ?_) (a' := ?_) #[true, false, false, false, false, false, false, false] rfl rfl (any_of HT_.out (by kernel_rfl)) (fun _ _ _ h => h) (Or.inl ⟨by rfl, ?_⟩) ?_ ?_
        rotate_left
        ·
         intro w'
         go_simp
         with_reducible rfl
        rotate_left
        ·
         simp only [Act.put, sA_, sZ_, sS_, i64_w, i32_w]
         rfl
        refine pure_ (i := 1) (N := some 19) (v := ?_) (a' := ?_) #[true, true, false, false, false, false, false, false] rfl rfl (any_of HT_.out (by kernel_rfl)) (fun _ _ _ h => h) (Or.inl ⟨by rfl, ?_⟩) ?_ ?_
        rotate_left
        ·
         intro w'
         go_simp
         with_reducible rfl
        rotate_left
        ·
         simp only [Act.put, sA_, sZ_, sS_, i64_w, i32_w]
         rfl
        refine pure_ (i := 3) (N := some 21) (v := ?_) (a' := ?_) #[true, true, false, true, false, false, false, false] rfl rfl (any_of HT_.out (by kernel_rfl)) (fun _ _ _ h => h) (Or.inl ⟨by rfl, ?_⟩) ?_ ?_
        rotate_left
        ·
         intro w'
         go_simp
         with_reducible rfl
        rotate_left
        ·
         simp only [Act.put, sA_, sZ_, sS_, i64_w, i32_w]
         rfl
        refine take_ (i := 4) (N := some 22) (v := ?_) (a' := ?_) #[true, true, false, true, true, false, false, false] rfl rfl (take_ofW HT_.out HW_.out (by kernel_rfl)) (fun _ _ _ h => h) (Or.inl ⟨by rfl, ?_⟩) hHeld ?_ ?_
        rotate_left
        ·
         intro w' _
         go_simp
         with_reducible rfl
        rotate_left
        ·
         simp only [Act.put, sA_, sZ_, sS_, i64_w, i32_w]
         rfl
        refine pure_ (i := 5) (N := some 23) (v := ?_) (a' := ?_) #[true, true, false, true, true, true, false, false] rfl rfl (any_of HT_.out (by kernel_rfl)) (fun _ _ _ h => h) (Or.inl ⟨by rfl, ?_⟩) ?_ ?_
        rotate_left
        ·
         intro w'
         go_simp
         with_reducible rfl
        rotate_left
        ·
         simp only [Act.put, sA_, sZ_, sS_, i64_w, i32_w]
         rfl
        refine pure_ (i := 6) (N := some 24) (v := ?_) (a' := ?_) #[true, true, false, true, true, true, true, false] rfl rfl (any_of HT_.out (by kernel_rfl)) (fun _ _ _ h => h) (Or.inl ⟨by rfl, ?_⟩) ?_ ?_
        rotate_left
        ·
         intro w'
         go_simp
         with_reducible rfl
        rotate_left
        ·
         simp only [Act.put, sA_, sZ_, sS_, i64_w, i32_w]
         rfl
        refine one_ (i := 2) (N := some 20) #[true, true, true, true, true, true, true, false] rfl rfl (one_of HT_.out (by kernel_rfl)) (by decide) (fun K hK => ?_)
        refine goes_ Tryd.func52 (by kernel_rfl) rfl #[.string (a0.extract 0 11)] (by rfl) rfl rfl (by (try simp only [List.map_toArray, List.map_cons, List.map_nil]); first | done | rfl | (simp only [List.length_drop, List.length_take]; rfl)) ?_
        with_reducible refine (clevisref02_Digit.calls kj1 (a0.extract 0 11) t343 _ A15.out).mono ?_
        rintro e w20 ⟨rfl, hb⟩
        refine ⟨_, rfl, ?_⟩
        have n0_ := A_ (bs_ bw_ hb)
        clear HB
        have HB := n0_
        clear n0_
        (try clear hb)
        (try clear hb2)
        (try clear hk)
        (try clear hi)
        refine hK.out _ _ trivial (fun hHeld => ?_)
        clear hK K
        refine norm_ (a' := ?_) ?_ ?_
        rotate_left
        ·
         show Act.put _ (some 20) _ = _
         simp only [Act.put, sA_, sZ_, sS_, i64_w, i32_w]
         rfl
        refine pure_ (i := 7) (N := some 25) (v := ?_) (a' := ?_) #[true, true, true, true, true, true, true, true] rfl rfl (any_of HT_.out (by kernel_rfl)) (fun _ _ _ h => h) (Or.inl ⟨by rfl, ?_⟩) ?_ ?_
        rotate_left
        ·
         intro w'
         go_simp
         with_reducible rfl
        rotate_left
        ·
         simp only [Act.put, sA_, sZ_, sS_, i64_w, i32_w]
         rfl
        refine done_ (done_of HT_.out (by kernel_rfl)) ?_
        try go_wp2
        go_ret
        exact ⟨by first | rfl | (simp [errW_none, errW_some] <;> rfl) | (simp [*, errW_none, errW_some] <;> rfl), bw_⟩
       ·
        rw [if_neg c18] at H
        have c18b0 : (t343 == (wrap64 ((wrap64 (bt a0 11)) - 48))) = false := q4_ c18
        have c18b1 : (t343 != (wrap64 ((wrap64 (bt a0 11)) - 48))) = true := q2_ c18
        obtain rfl := Option.some.inj H
        try go_wp2
        have n0_ := A_ (b1_ HB.out)
        clear HB
        have HB := n0_
        clear n0_
        have p17 : 0 ≤ (11 : Int) := (by omega)
        have q17 : 11 < a0.size := (by have : (11 : Int) < (a0.size : Int) := od_ (by first | (with_reducible assumption) | assumption); omega)
        have hx17 : ∀ h : 11 < a0.size, ((a0[11]'h).toNat : Int) = bt a0 11 := bt_at a0 11
        clear p17
        have qi17 : (11 < (a0.size : Int)) = True := eq_true (od_ (by first | (with_reducible assumption) | assumption))
        replace q17 := eq_true q17
        refine start_ (n := 8) (S := fun w' => True) (ds := []) #[false, false, false, false, false, false, false, false] (by kernel_rfl) rfl rfl trivial (fun hHeld => ?_); refine with_tabW clevisref02_Isin.tab3 clevisref02_Isin.bits3 (fun HT_ HW_ => ?_)
        generalize wc.drew = w21 at HB hHeld ⊢
        refine pure_ (i := 0) (N := some 18) (v := ?_) (a' := ?_) #[true, false, false, false, false, false, false, false] rfl rfl (any_of HT_.out (by kernel_rfl)) (fun _ _ _ h => h) (Or.inl ⟨by rfl, ?_⟩) ?_ ?_
        rotate_left
        ·
         intro w'
         go_simp
         with_reducible rfl
        rotate_left
        ·
         simp only [Act.put, sA_, sZ_, sS_, i64_w, i32_w]
         rfl
        refine pure_ (i := 1) (N := some 19) (v := ?_) (a' := ?_) #[true, true, false, false, false, false, false, false] rfl rfl (any_of HT_.out (by kernel_rfl)) (fun _ _ _ h => h) (Or.inl ⟨by rfl, ?_⟩) ?_ ?_
        rotate_left
        ·
         intro w'
         go_simp
         with_reducible rfl
        rotate_left
        ·
         simp only [Act.put, sA_, sZ_, sS_, i64_w, i32_w]
         rfl
        refine pure_ (i := 3) (N := some 21) (v := ?_) (a' := ?_) #[true, true, false, true, false, false, false, false] rfl rfl (any_of HT_.out (by kernel_rfl)) (fun _ _ _ h => h) (Or.inl ⟨by rfl, ?_⟩) ?_ ?_
        rotate_left
        ·
         intro w'
         go_simp
         with_reducible rfl
        rotate_left
        ·
         simp only [Act.put, sA_, sZ_, sS_, i64_w, i32_w]
         rfl
        refine take_ (i := 4) (N := some 22) (v := ?_) (a' := ?_) #[true, true, false, true, true, false, false, false] rfl rfl (take_ofW HT_.out HW_.out (by kernel_rfl)) (fun _ _ _ h => h) (Or.inl ⟨by rfl, ?_⟩) hHeld ?_ ?_
        rotate_left
        ·
         intro w' _
         go_simp
         with_reducible rfl
        rotate_left
        ·
         simp only [Act.put, sA_, sZ_, sS_, i64_w, i32_w]
         rfl
        refine pure_ (i := 5) (N := some 23) (v := ?_) (a' := ?_) #[true, true, false, true, true, true, false, false] rfl rfl (any_of HT_.out (by kernel_rfl)) (fun _ _ _ h => h) (Or.inl ⟨by rfl, ?_⟩) ?_ ?_
        rotate_left
        ·
         intro w'
         go_simp
         with_reducible rfl
        rotate_left
        ·
         simp only [Act.put, sA_, sZ_, sS_, i64_w, i32_w]
         rfl
        refine pure_ (i := 6) (N := some 24) (v := ?_) (a' := ?_) #[true, true, false, true, true, true, true, false] rfl rfl (any_of HT_.out (by kernel_rfl)) (fun _ _ _ h => h) (Or.inl ⟨by rfl, ?_⟩) ?_ ?_
        rotate_left
        ·
         intro w'
         go_simp
         with_reducible rfl
        rotate_left
        ·
         simp only [Act.put, sA_, sZ_, sS_, i64_w, i32_w]
         rfl
        refine one_ (i := 2) (N := some 20) #[true, true, true, true, true, true, true, false] rfl rfl (one_of HT_.out (by kernel_rfl)) (by decide) (fun K hK => ?_)
        refine goes_ Tryd.func52 (by kernel_rfl) rfl #[.string (a0.extract 0 11)] (by rfl) rfl rfl (by (try simp only [List.map_toArray, List.map_cons, List.map_nil]); first | done | rfl | (simp only [List.length_drop, List.length_take]; rfl)) ?_
        with_reducible refine (clevisref02_Digit.calls kj1 (a0.extract 0 11) t343 _ A15.out).mono ?_
        rintro e w22 ⟨rfl, hb⟩
        refine ⟨_, rfl, ?_⟩
        have n0_ := A_ (bs_ bw_ hb)
        clear HB
        have HB := n0_
        clear n0_
        (try clear hb)
        (try clear hb2)
        (try clear hk)
        (try clear hi)
        refine hK.out _ _ trivial (fun hHeld => ?_)
        clear hK K
        refine norm_ (a' := ?_) ?_ ?_
        rotate_left
        ·
         show Act.put _ (some 20) _ = _
         simp only [Act.put, sA_, sZ_, sS_, i64_w, i32_w]
         rfl
        refine pure_ (i := 7) (N := some 25) (v := ?_) (a' := ?_) #[true, true, true, true, true, true, true, true] rfl rfl (any_of HT_.out (by kernel_rfl)) (fun _ _ _ h => h) (Or.inl ⟨by rfl, ?_⟩) ?_ ?_
        rotate_left
        ·
         intro w'
         go_simp
         with_reducible rfl
        rotate_left
        ·
         simp only [Act.put, sA_, sZ_, sS_, i64_w, i32_w]
         rfl
        refine done_ (done_of HT_.out (by kernel_rfl)) ?_
        try go_wp2
        go_ret
        exact ⟨by first | rfl | (simp [errW_none, errW_some] <;> rfl) | (simp [*, errW_none, errW_some] <;> rfl), bw_⟩
      ·
       rw [if_neg c16] at H
       exact absurd H (by simp)
     ·
      rw [if_neg c14] at H
      exact absurd H (by simp)
    ·
     rw [if_neg c13] at H
     exact absurd H (by simp)
end Go.Proofs.YtjbbigodkhnokaaDoor.Tr
end
section
namespace Go.Proofs.YtjbbigodkhnokaaDoor.Ip
set_option linter.unusedSimpArgs false
set_option linter.unusedVariables false
open Go Go.RowKit Go.Proofs.YtjbbigodkhnokaaDoorW.PrintWords Go.Proofs.YtjbbigodkhnokaaDoorW.PrintLast Go.Proofs.YtjbbigodkhnokaaDoorW.PrintMore Go.Proofs.YtjbbigodkhnokaaDoor.Ja Go.Proofs.YtjbbigodkhnokaaDoor.Jb Go.Proofs.YtjbbigodkhnokaaDoor.Tr
theorem great_f (c : Int) : ident_great.f c = some (isG c) := by
  unfold ident_great.f isG
  by_cases h : c ≥ 65
  · rw [if_pos h]; simp [h]
  · rw [if_neg h]; simp; omega
theorem digit_f (c : Int) : ident_digit.f c = some (isD c) := by
  unfold ident_digit.f isD
  by_cases h : c ≥ 48
  · rw [if_pos h]; simp [h]
  · rw [if_neg h]; simp; omega
theorem letter_f (c : Int) : clevisref02_letter.f c 65 = some (isG c) := by
  unfold clevisref02_letter.f isG
  by_cases h : c ≥ 65
  · rw [if_pos h]; simp [h]
  · rw [if_neg h]; simp; omega
theorem rdigit_f (c : Int) : clevisref02_digit.f c = some (isD c) := by
  unfold clevisref02_digit.f isD
  by_cases h : c ≥ 48
  · rw [if_pos h]; simp [h]
  · rw [if_neg h]; simp; omega
def allOk (s : ByteArray) : Nat → Nat → Bool
  | _, 0 => true
  | i, n + 1 => okAt i (bt s i) && allOk s (i + 1) n
theorem rd_bytes (s : ByteArray) (i : Nat) : rd (bytesOf s) i = bt s i := by
  simp only [rd, bytesOf, bt, Int.toNat_natCast]
  by_cases h : i < s.size
  · rw [dif_pos h, List.getD_eq_getElem?_getD, List.getElem?_map]
    have h' : i < s.data.toList.length := by simpa using h
    rw [List.getElem?_eq_getElem h']
    rfl
  · rw [dif_neg h, List.getD_eq_getElem?_getD, List.getElem?_map]
    have h' : s.data.toList.length ≤ i := by simpa using h
    rw [List.getElem?_eq_none h']
    rfl
theorem bytes_length (s : ByteArray) : (bytesOf s).length = s.size := by simp [bytesOf]
theorem body_l0 (s : ByteArray) (h11 : s.size = 11) (k : Nat) : ∀ n i : Nat, i + n = 11 → ident_body.l0 (n + 1 + k) (bytesOf s) 11 i = some (allOk s i n)
  | 0, i, h => by
    rw [show 0 + 1 + k = k + 1 by omega, ident_body.l0, if_neg (by omega)]
    rfl
  | n + 1, i, h => by
    have hw : wrap64 ((i : Int) + 1) = ((i + 1 : Nat) : Int) := by unfold wrap64; omega
    have ih := body_l0 s h11 k n (i + 1) (by omega)
    rw [show n + 1 + 1 + k = (n + 1 + k) + 1 by omega, ident_body.l0, if_pos (by omega), if_pos (by omega), if_pos (by rw [bytes_length]; omega)]
    simp only [rd_bytes, great_f, digit_f, Option.bind_some, hw, ih, allOk, okAt]
    cases isG (bt s i) <;> cases isD (bt s i) <;> by_cases h2 : (i : Int) < 2 <;> simp [h2] <;> omega
theorem body_f (s : ByteArray) (h11 : s.size = 11) : ident_body.f 20 s = some (allOk s 0 11) := by
  have h := body_l0 s h11 8 11 0 (by omega)
  unfold ident_body.f
  rw [if_pos (by omega), if_pos (by omega)]
  simp only [Option.bind_some, bytes_length, h11]
  exact h
theorem body_f' (s : ByteArray) (h : s.size ≠ 11) : ident_body.f 20 s = some false := by
  unfold ident_body.f
  rw [if_neg (by omega)]
theorem ref_l2 (f : Int) (h0 : 0 ≤ f) (h1 : f ≤ 1000) (k : Nat) (r : Nat) (hr : (r : Int) = (10 - f % 10) % 10) : ∀ n c : Nat, c + n = r → clevisref02_Digit.l2 (n + 1 + k) f c = some (r : Int)
  | 0, c, h => by
    rw [show 0 + 1 + k = k + 1 by omega, clevisref02_Digit.l2, if_pos (by omega), w64 (by omega), Int.tmod_eq_emod_of_nonneg (by omega), if_pos (by omega)]
    simp; omega
  | n + 1, c, h => by
    have hw : wrap64 ((c : Int) + 1) = ((c + 1 : Nat) : Int) := by unfold wrap64; omega
    rw [show n + 1 + 1 + k = (n + 1 + k) + 1 by omega, clevisref02_Digit.l2, if_pos (by omega), w64 (n := f + c) (by omega), Int.tmod_eq_emod_of_nonneg (by omega), if_neg (by omega), hw]
    exact ref_l2 f h0 h1 k r hr n (c + 1) (by omega)
theorem rd_nat (xs : List Int) (i : Nat) (h : i < xs.length) : rd xs i = xs[i] := by simp [rd, List.getD_eq_getElem?_getD, List.getElem?_eq_getElem h]
theorem F_range : ∀ xs : List Int, dig xs → 0 ≤ F xs ∧ F xs ≤ 9 * xs.length
  | [], _ => by simp [F]
  | x :: xs, h => by
    have h1 := wt_range (j := xs.length) (h x (by simp))
    have h2 := F_range xs (fun y hy => h y (by simp [hy]))
    simp only [F, List.length_cons]
    omega
theorem ref_l1 (xs : List Int) (hd : dig xs) (hl : xs.length ≤ 50) (k : Nat) : ∀ (n i : Nat) (sum : Int), i + n = xs.length → 0 ≤ sum → sum ≤ 9 * i → clevisref02_Digit.l1 (n + 1 + k) xs sum i = clevisref02_Digit.l2 k (sum + F (xs.drop i)) 0
  | 0, i, sum, h, _, _ => by
    rw [show 0 + 1 + k = k + 1 by omega, clevisref02_Digit.l1, if_neg (by omega), List.drop_of_length_le (by omega)]
    simp [F]
  | n + 1, i, sum, h, h0, h1 => by
    have hi : i < xs.length := by omega
    have hw : wrap64 ((i : Int) + 1) = ((i + 1 : Nat) : Int) := by unfold wrap64; omega
    have hx := hd xs[i] (List.getElem_mem hi)
    have hwt := wt_range (j := (xs.drop (i + 1)).length) hx
    have ih := ref_l1 xs hd hl k n (i + 1) (sum + wt (xs.drop (i + 1)).length xs[i]) (by omega) (by omega) (by push_cast; omega)
    have hF : F (xs.drop i) = wt (xs.drop (i + 1)).length xs[i] + F (xs.drop (i + 1)) := by rw [List.drop_eq_getElem_cons hi, F]
    rw [show n + 1 + 1 + k = (n + 1 + k) + 1 by omega, clevisref02_Digit.l1, if_pos (by omega), if_pos (by omega)]
    rw [w64 (n := (xs.length : Int) - i) (by omega), Int.tmod_eq_emod_of_nonneg (by omega), rd_nat xs i hi, w64 (n := 2 * xs[i]) (by omega), w64 (n := 2 * xs[i] - 9) (by omega), hw]
    rw [hF, ← Int.add_assoc, ← ih]
    have hln : (xs.drop (i + 1)).length = xs.length - (i + 1) := List.length_drop
    rw [hln] at hwt ⊢
    unfold wt at hwt ⊢
    by_cases hp : ((xs.length : Int) - i) % 2 = 1
    · rw [if_pos hp]
      have hp2 : (xs.length - (i + 1)) % 2 = 0 := by omega
      rw [if_pos hp2] at hwt ⊢
      by_cases h9 : 2 * xs[i] > 9
      · rw [if_pos h9]
        rw [if_pos h9] at hwt ⊢
        rw [w64 (by omega)]
      · rw [if_neg h9]
        rw [if_neg h9] at hwt ⊢
        rw [w64 (by omega)]
    · rw [if_neg hp]
      have hp2 : ¬ (xs.length - (i + 1)) % 2 = 0 := by omega
      rw [if_neg hp2] at hwt ⊢
      rw [w64 (by omega)]
theorem ref_l0 (s : ByteArray) (h11 : s.size = 11) (k : Nat) : ∀ (n i : Nat) (acc : List Int), i + n = 11 → acc.length ≤ 2 * i → clevisref02_Digit.l0 (n + 1 + k) s acc i = if allOk s i n = true then clevisref02_Digit.l1 k (acc ++ row s i n) 0 0 else some (-1)
  | 0, i, acc, h, _ => by
    rw [show 0 + 1 + k = k + 1 by omega, clevisref02_Digit.l0, if_neg (by omega)]
    simp [allOk, row]
  | n + 1, i, acc, h, ha => by
    have hw : wrap64 ((i : Int) + 1) = ((i + 1 : Nat) : Int) := by unfold wrap64; omega
    have hr := bt_range s i
    have ih := fun acc' => ref_l0 s h11 k n (i + 1) acc' (by omega)
    rw [show n + 1 + 1 + k = (n + 1 + k) + 1 by omega, clevisref02_Digit.l0, if_pos (by omega), if_pos (by omega), if_pos (by omega)]
    simp only [letter_f, rdigit_f, Option.bind_some, hw, row]
    by_cases hg : isG (bt s i) = true
    · have h1 : 65 ≤ bt s i ∧ bt s i ≤ 90 := by simpa [isG] using hg
      have he : ed (bt s i) = [(bt s i - 55) / 10, (bt s i - 55) % 10] := by unfold ed; rw [if_pos hg]
      have hA : allOk s i (n + 1) = allOk s (i + 1) n := by simp [allOk, okAt, hg]
      rw [if_pos hg, w64 (n := bt s i) (by omega), w64 (n := bt s i - 55) (by omega), Int.tdiv_eq_ediv_of_nonneg (by omega), Int.tmod_eq_emod_of_nonneg (by omega), w64 (by omega), if_pos (by simp; omega), ih _ (by simp; omega), he, hA, List.append_assoc]
    · rw [if_neg hg]
      by_cases hd : isD (bt s i) = true
      · have h1 : 48 ≤ bt s i ∧ bt s i ≤ 57 := by simpa [isD] using hd
        have he : ed (bt s i) = [bt s i - 48] := by unfold ed; rw [if_neg hg]
        rw [if_pos hd]
        by_cases h2 : 2 ≤ i
        · have hA : allOk s i (n + 1) = allOk s (i + 1) n := by simp [allOk, okAt, hd, h2]
          rw [if_pos (by omega), if_pos (by omega), w64 (n := bt s i) (by omega), w64 (by omega), ih _ (by simp; omega), he, hA, List.append_assoc]
        · have hA : allOk s i (n + 1) = false := by simp [allOk, okAt, hg, h2]
          rw [if_neg (by omega), hA]
          simp
      · have hA : allOk s i (n + 1) = false := by simp [allOk, okAt, hg, hd]
        rw [if_neg hd, hA]
        simp
def okS (s : ByteArray) : Bool := decide (s.size = 11) && allOk s 0 11
def chk (s : ByteArray) : Int := (10 - F (row s 0 11) % 10) % 10
theorem allOk_at (s : ByteArray) : ∀ n i, allOk s i n = true → ∀ j, i ≤ j → j < i + n → okAt j (bt s j) = true
  | 0, i, _, j, h1, h2 => by omega
  | n + 1, i, h, j, h1, h2 => by
    simp only [allOk, Bool.and_eq_true] at h
    by_cases e : j = i
    · subst e; exact h.1
    · exact allOk_at s n (i + 1) h.2 j (by omega) (by omega)
theorem chk_range (s : ByteArray) : 0 ≤ chk s ∧ chk s ≤ 9 := by unfold chk; omega
theorem iDigit (s : ByteArray) : ident_Digit.f s = some (if okS s = true then (48 + chk s, 0) else (0, 3)) := by
  unfold ident_Digit.f
  by_cases h : s.size = 11
  · rw [body_f s h]
    cases hk : allOk s 0 11 with
    | true =>
      have e : okS s = true := by simp [okS, h, hk]
      simp only [Option.bind_some, e, if_true]
      rw [ckB_row s h (fun i hi => allOk_at s 11 0 hk i (Nat.zero_le _) (by omega))]
      rfl
    | false =>
      have e : okS s = false := by simp [okS, h, hk]
      simp [e]
  · rw [body_f' s h]
    have e : okS s = false := by simp [okS, h]
    simp [e]
theorem rDigit60 (s : ByteArray) : clevisref02_Digit.f 60 s = some (if okS s = true then chk s else -1) := by
  unfold clevisref02_Digit.f
  by_cases h : s.size = 11
  · rw [if_pos (by omega)]
    have h0 := ref_l0 s h 48 11 0 [] (by omega) (by simp)
    rw [show 11 + 1 + 48 = 60 by omega] at h0
    refine h0.trans ?_
    cases hk : allOk s 0 11 with
    | true =>
      have e : okS s = true := by simp [okS, h, hk]
      have hd := row_dig s (fun i hi => allOk_at s 11 0 hk i (Nat.zero_le _) (by omega)) 11 0 (by omega)
      have hl := row_length s 11 0
      have hF := F_range _ hd
      have h1 := ref_l1 (row s 0 11) hd (by omega) (47 - (row s 0 11).length) (row s 0 11).length 0 0 (by omega) (Int.le_refl _) (by omega)
      rw [show (row s 0 11).length + 1 + (47 - (row s 0 11).length) = 48 by omega] at h1
      simp only [if_true, List.nil_append, e]
      refine h1.trans ?_
      simp only [List.drop_zero, Int.zero_add]
      obtain ⟨r, hr⟩ := Int.eq_ofNat_of_zero_le (chk_range s).1
      have hr9 := (chk_range s).2
      rw [hr] at hr9 ⊢
      have h2 := ref_l2 (F (row s 0 11)) hF.1 (by omega) (47 - (row s 0 11).length - r - 1) r (by rw [← hr]; rfl) r 0 (by omega)
      rw [show r + 1 + (47 - (row s 0 11).length - r - 1) = 47 - (row s 0 11).length by omega] at h2
      exact h2
    | false =>
      have e : okS s = false := by simp [okS, h, hk]
      simp [e]
  · rw [if_neg (by omega)]
    have e : okS s = false := by simp [okS, h]
    simp [e]
theorem rDigit (s : ByteArray) (k : Nat) (hk : 60 ≤ k) : clevisref02_Digit.f k s = some (if okS s = true then chk s else -1) :=
  at_rounds (g := fun k => clevisref02_Digit.f k s) (fun k => clevisref02_Digit.mono s k) hk (rDigit60 s)
def isinE (s : ByteArray) : Int := if s.size = 12 ∧ isD (bt s 11) = true ∧ okS (s.extract 0 11) = true then (if 48 + chk (s.extract 0 11) = bt s 11 then 0 else 11) else 3
theorem iIsin (s : ByteArray) (k : Nat) : ident_Isin.f (k + 1) s = some (isinE s) := by
  unfold ident_Isin.f isinE
  by_cases h : s.size = 12
  · rw [if_pos (by omega), if_pos (by omega), digit_f]
    simp only [Option.bind_some, ident_Isin.j0]
    cases hd : isD (bt s 11) with
    | true =>
      simp only [Bool.not_true, Bool.false_eq_true, if_false]
      rw [if_pos (by omega), if_pos (by omega), iDigit]
      cases ho : okS (s.extract 0 11) with
      | true =>
        simp only [Option.bind_some, if_true, h, and_self]
        rw [if_pos (by omega)]
        split <;> rfl
      | false => simp
    | false => simp
  · rw [if_neg (by omega)]
    simp [ident_Isin.j0, h]
theorem rIsin (s : ByteArray) (k : Nat) (hk : 61 ≤ k) : clevisref02_Isin.f k s = some (isinE s) := by
  obtain ⟨k, rfl⟩ : ∃ j, k = j + 1 := ⟨k - 1, by omega⟩
  unfold clevisref02_Isin.f isinE
  by_cases h : s.size = 12
  · have hr := bt_range s 11
    rw [if_pos (by omega), if_pos (by omega), rdigit_f]
    simp only [Option.bind_some, clevisref02_Isin.j0]
    cases hd : isD (bt s 11) with
    | true =>
      simp only [if_true]
      rw [if_pos (by omega), if_pos (by omega), rDigit _ _ (by omega), rDigit _ _ (by omega)]
      have hc := chk_range (s.extract 0 11)
      cases ho : okS (s.extract 0 11) with
      | true =>
        have e : decide (chk (s.extract 0 11) < 0) = false := by simp; omega
        simp only [Option.bind_some, if_true, h, and_self, e, Bool.false_eq_true, if_false]
        rw [if_pos (by omega), if_pos (by omega), if_pos (by omega), w64 (n := bt s 11) (by omega), w64 (by omega)]
        by_cases q : 48 + chk (s.extract 0 11) = bt s 11
        · rw [if_pos q, if_pos (by omega)]
        · rw [if_neg q, if_neg (by omega)]
      | false => simp
    | false => simp
  · rw [if_neg (by omega)]
    simp [clevisref02_Isin.j0, h]
theorem tl (s : ByteArray) : s.toList = s.data.toList := ByteArray.toList_eq s
def isS (c : Int) : Bool := decide (97 ≤ c) && decide (c ≤ 122)
theorem small_f (c : Int) : ident_small.f c = some (isS c) := by
  unfold ident_small.f isS
  by_cases h : c ≥ 97
  · rw [if_pos h]; simp [h]
  · rw [if_neg h]; simp; omega
theorem letter97_f (c : Int) : clevisref02_letter.f c 97 = some (isS c) := by
  unfold clevisref02_letter.f isS
  by_cases h : c ≥ 97
  · rw [if_pos h]; simp [h]
  · rw [if_neg h]; simp; omega
def memE (s : ByteArray) : Nat → Nat → Int
  | _, 0 => 0
  | i, n + 1 => if isS (bt s i) = true then memE s (i + 1) n else if isD (bt s i) = true then memE s (i + 1) n else 3
theorem mem_l0 (s : ByteArray) (hs : s.size ≤ 8) (k : Nat) : ∀ n i : Nat, i + n = s.size → ident_Member.l0 (n + 1 + k) (bytesOf s) (s.size : Int) i = some (memE s i n)
  | 0, i, h => by
    rw [show 0 + 1 + k = k + 1 by omega, ident_Member.l0, if_neg (by omega)]
    rfl
  | n + 1, i, h => by
    have hw : wrap64 ((i : Int) + 1) = ((i + 1 : Nat) : Int) := by unfold wrap64; omega
    have ih := mem_l0 s hs k n (i + 1) (by omega)
    rw [show n + 1 + 1 + k = (n + 1 + k) + 1 by omega, ident_Member.l0, if_pos (by omega), if_pos (by omega), if_pos (by rw [bytesOf_length]; omega)]
    simp only [rd_bytesOf, small_f, digit_f, Option.bind_some, hw, ih, memE]
    split
    · rfl
    · split <;> rfl
theorem mem_r0 (s : ByteArray) (hs : s.size ≤ 8) (k : Nat) : ∀ n i : Nat, i + n = s.size → clevisref02_Member.l0 (n + 1 + k) s i = some (memE s i n)
  | 0, i, h => by
    rw [show 0 + 1 + k = k + 1 by omega, clevisref02_Member.l0, if_neg (by omega)]
    rfl
  | n + 1, i, h => by
    have hw : wrap64 ((i : Int) + 1) = ((i + 1 : Nat) : Int) := by unfold wrap64; omega
    have ih := mem_r0 s hs k n (i + 1) (by omega)
    rw [show n + 1 + 1 + k = (n + 1 + k) + 1 by omega, clevisref02_Member.l0, if_pos (by omega), if_pos (by omega)]
    simp only [letter97_f, rdigit_f, Option.bind_some, hw, ih, memE]
    split
    · rfl
    · split <;> rfl
def memN (s : ByteArray) : Int := if s.size < 1 ∨ 8 < s.size then 3 else if isS (bt s 0) = true then memE s 0 s.size else 3
theorem iMember (s : ByteArray) : ident_Member.f 70 s = some (memN s) := by
  unfold ident_Member.f memN
  by_cases h0 : s.size < 1
  · have e : s.toList = [] := by
      have : s = ⟨#[]⟩ := by
        obtain ⟨d⟩ := s
        have h' : d.size = 0 := by have : d.size < 1 := h0; omega
        rw [Array.eq_empty_of_size_eq_zero h']
      rw [this, tl]
    rw [if_pos e]
    simp [ident_Member.j0, h0]
  · have e : ¬ s.toList = [] := by
      intro e
      rw [tl] at e
      have : s.data.toList.length = s.size := rfl
      rw [e] at this
      simp at this
      omega
    rw [if_neg e]
    by_cases h8 : 8 < s.size
    · rw [if_pos (by omega)]
      simp [ident_Member.j0, h8]
    · rw [if_neg (by omega), if_pos (by omega), small_f]
      have hl := mem_l0 s (by omega) (68 - s.size) s.size 0 (by omega)
      rw [show s.size + 1 + (68 - s.size) = 69 by omega] at hl
      have e2 : ¬ (s.size < 1 ∨ 8 < s.size) := by omega
      simp only [Option.bind_some, ident_Member.j0, e2, if_false]
      cases hS : isS (bt s 0) with
      | true =>
        simp only [Bool.not_true, Bool.false_eq_true, if_false, if_true]
        rw [if_pos (by omega)]
        simp only [Option.bind_some, bytesOf_length]
        exact hl
      | false => simp
theorem rMember (s : ByteArray) : clevisref02_Member.f 70 s = some (memN s) := by
  unfold clevisref02_Member.f memN
  by_cases h0 : s.size < 1
  · rw [if_pos (by omega)]
    simp [clevisref02_Member.j0, h0]
  · rw [if_neg (by omega)]
    by_cases h8 : 8 < s.size
    · rw [if_pos (by omega)]
      simp [clevisref02_Member.j0, h8]
    · rw [if_neg (by omega), if_pos (by omega), letter97_f]
      have hl := mem_r0 s (by omega) (68 - s.size) s.size 0 (by omega)
      rw [show s.size + 1 + (68 - s.size) = 69 by omega] at hl
      have e2 : ¬ (s.size < 1 ∨ 8 < s.size) := by omega
      simp only [Option.bind_some, clevisref02_Member.j0, e2, if_false]
      cases hS : isS (bt s 0) with
      | true =>
        simp only [Bool.not_true, Bool.false_eq_true, if_false, if_true]
        exact hl
      | false => simp
theorem iMember' (s : ByteArray) (k : Nat) (hk : 70 ≤ k) : ident_Member.f k s = some (memN s) := at_rounds (g := fun k => ident_Member.f k s) (fun k => ident_Member.mono s k) hk (iMember s)
theorem rMember' (s : ByteArray) (k : Nat) (hk : 70 ≤ k) : clevisref02_Member.f k s = some (memN s) := at_rounds (g := fun k => clevisref02_Member.f k s) (fun k => clevisref02_Member.mono s k) hk (rMember s)
theorem memE_range (s : ByteArray) : ∀ n i, memE s i n = 0 ∨ memE s i n = 3
  | 0, i => .inl rfl
  | n + 1, i => by
    unfold memE
    split
    · exact memE_range s n (i + 1)
    · split
      · exact memE_range s n (i + 1)
      · exact .inr rfl
theorem memN_range (s : ByteArray) : memN s = 0 ∨ memN s = 3 := by
  unfold memN
  split
  · exact .inr rfl
  · split
    · exact memE_range s _ _
    · exact .inr rfl
end Go.Proofs.YtjbbigodkhnokaaDoor.Ip
end
section
namespace Go.Proofs.YtjbbigodkhnokaaDoor.Tr
open Go.RowKit Go.Proofs.YtjbbigodkhnokaaDoorW.PrintWords Go.Proofs.YtjbbigodkhnokaaDoorW.PrintLast Go.Proofs.YtjbbigodkhnokaaDoorW.PrintMore
attribute [local go_sem] max2_int min2_int max_two min_two max_three min_three max_four min_four   -- for this text's walks alone
set_option linter.unusedVariables false
set_option linter.unusedSimpArgs false
attribute [local go_sem] run_add64_any
def clevisref07_Check.j0 : Nat → Bool → Int → ByteArray → ByteArray → ByteArray → Int → Int → Option (Int)
 | 0, _, _, _, _, _, _, _ => none
 | k + 1, x7, x302000, x302001, x302002, x302003, x302004, x302005 => if x7 = true then (some 3) else ((clevisref02_Isin.f k x302003).bind fun t346 => (if t346 = 0 then (if x302001.toList = x302002.toList then (some 6) else (if x302004 < 1 then (some 2) else (if x302004 > 2147483647 then (some 2) else (if x302005 < 0 then (some 2) else (if x302005 > 2147483647 then (some 2) else (some 0)))))) else ((clevisref02_Isin.f k x302003).bind fun t347 => (some t347))))
def clevisref07_Check.f (k : Nat) (a0_0 : Int) (a0_1 : ByteArray) (a0_2 : ByteArray) (a0_3 : ByteArray) (a0_4 : Int) (a0_5 : Int) : Option (Int) := if a0_0 < 1 then (some 1) else ((clevisref02_Member.f k a0_1).bind fun t344 => (if t344 = 0 then ((clevisref02_Member.f k a0_2).bind fun t345 => (clevisref07_Check.j0 k (t345 != 0) a0_0 a0_1 a0_2 a0_3 a0_4 a0_5)) else (clevisref07_Check.j0 k true a0_0 a0_1 a0_2 a0_3 a0_4 a0_5)))
set_option maxHeartbeats 8000000 in
set_option maxRecDepth 100000 in
theorem clevisref07_Check.calls (k : Nat) (a0_0 : Int) (a0_1 : ByteArray) (a0_2 : ByteArray) (a0_3 : ByteArray) (a0_4 : Int) (a0_5 : Int) (r : Int) (w : World) (h : clevisref07_Check.f k a0_0 a0_1 a0_2 a0_3 a0_4 a0_5 = some r) :
  Calls Tryd.prog 16 #[.agg #[.int .i64 a0_0, .string a0_1, .string a0_2, .string a0_3, .int .i64 a0_4, .int .i64 a0_5]] w fun e w' => e = .returned (.int .i64 r) ∧ Below w.heap.size w w' := by
 have hu30 := Tryd.underlying30
 have HB := A_ (Below.refl w.heap.size w)
 have H : (if a0_0 < 1 then (some 1) else ((clevisref02_Member.f k a0_1).bind fun t344 => (if t344 = 0 then ((clevisref02_Member.f k a0_2).bind fun t345 => (clevisref07_Check.j0 k (t345 != 0) a0_0 a0_1 a0_2 a0_3 a0_4 a0_5)) else (clevisref07_Check.j0 k true a0_0 a0_1 a0_2 a0_3 a0_4 a0_5)))) = some r := h
 clear h
 by_cases c2 : a0_0 < 1
 ·
  rw [if_pos c2] at H
  have c2b0 : decide (a0_0 < 1) = true := decide_eq_true c2
  clear c2
  obtain rfl := Option.some.inj H
  go_enter Tryd.func16, Tryd.ntmps16
  go_wp2_with (first | ((with_reducible refine gate_dst (N := 1) rfl ?_); refine box_event ?hg (N := 1) ?hd (cs := #[.int .i64 a0_0, .string a0_1, .string a0_2, .string a0_3, .int .i64 a0_4, .int .i64 a0_5]) (t := 30) ?hr ?_; (case hd => rfl); (case hg => rfl); (case hr => first | (go_simp; done) | (go_simp; rfl)); intro gb301 hg w3 hbox hb; have n0_ := A_ (bs_ bw_ hb); have n1_ := A_ (hbox); have n2_ := A_ ((by rw [hg]; exact (bz_ bw_) : w.heap.size ≤ gb301)); have n3_ := A_ ((by rw [hg]; exact (bz_ bw_) : w.heap.size ≤ gb301)); clear HB; have HB := n0_; have BK301 := n1_; have GW301 := n2_; have GE301 := n3_; clear n0_ n1_ n2_ n3_; clear hb hbox hg; have hcz4_0 : w3.cell? ⟨gb301, 0, none⟩ = some (.int .i64 a0_0) := (bc_ BK301.out 0).trans rfl; have hcz4_1 : w3.cell? ⟨gb301, 1, none⟩ = some (.string a0_1) := (bc_ BK301.out 1).trans rfl; have hcz4_2 : w3.cell? ⟨gb301, 2, none⟩ = some (.string a0_2) := (bc_ BK301.out 2).trans rfl; have hcz4_3 : w3.cell? ⟨gb301, 3, none⟩ = some (.string a0_3) := (bc_ BK301.out 3).trans rfl; have hcz4_4 : w3.cell? ⟨gb301, 4, none⟩ = some (.int .i64 a0_4) := (bc_ BK301.out 4).trans rfl; have hcz4_5 : w3.cell? ⟨gb301, 5, none⟩ = some (.int .i64 a0_5) := (bc_ BK301.out 5).trans rfl; have hfz4_0 := bf_ BK301.out 0; have hfz4_1 := bf_ BK301.out 1; have hfz4_2 := bf_ BK301.out 2; have hfz4_3 := bf_ BK301.out 3; have hfz4_4 := bf_ BK301.out 4; have hfz4_5 := bf_ BK301.out 5))
  go_ret
  exact ⟨by first | rfl | (simp [errW_none, errW_some] <;> rfl) | (simp [*, errW_none, errW_some] <;> rfl), bw_⟩
 ·
  rw [if_neg c2] at H
  have c2b0 : decide (a0_0 < 1) = false := decide_eq_false c2
  clear c2
  have HC5 := A_ H
  clear H
  go_enter Tryd.func16, Tryd.ntmps16
  go_upto_region 3 with (first | ((with_reducible refine gate_dst (N := 1) rfl ?_); refine box_event ?hg (N := 1) ?hd (cs := #[.int .i64 a0_0, .string a0_1, .string a0_2, .string a0_3, .int .i64 a0_4, .int .i64 a0_5]) (t := 30) ?hr ?_; (case hd => rfl); (case hg => rfl); (case hr => first | (go_simp; done) | (go_simp; rfl)); intro gb301 hg w6 hbox hb; have n0_ := A_ (bs_ bw_ hb); have n1_ := A_ (hbox); have n2_ := A_ ((by rw [hg]; exact (bz_ bw_) : w.heap.size ≤ gb301)); have n3_ := A_ ((by rw [hg]; exact (bz_ bw_) : w.heap.size ≤ gb301)); clear HB; have HB := n0_; have BK301 := n1_; have GW301 := n2_; have GE301 := n3_; clear n0_ n1_ n2_ n3_; clear hb hbox hg; have hcz7_0 : w6.cell? ⟨gb301, 0, none⟩ = some (.int .i64 a0_0) := (bc_ BK301.out 0).trans rfl; have hcz7_1 : w6.cell? ⟨gb301, 1, none⟩ = some (.string a0_1) := (bc_ BK301.out 1).trans rfl; have hcz7_2 : w6.cell? ⟨gb301, 2, none⟩ = some (.string a0_2) := (bc_ BK301.out 2).trans rfl; have hcz7_3 : w6.cell? ⟨gb301, 3, none⟩ = some (.string a0_3) := (bc_ BK301.out 3).trans rfl; have hcz7_4 : w6.cell? ⟨gb301, 4, none⟩ = some (.int .i64 a0_4) := (bc_ BK301.out 4).trans rfl; have hcz7_5 : w6.cell? ⟨gb301, 5, none⟩ = some (.int .i64 a0_5) := (bc_ BK301.out 5).trans rfl; have hfz7_0 := bf_ BK301.out 0; have hfz7_1 := bf_ BK301.out 1; have hfz7_2 := bf_ BK301.out 2; have hfz7_3 := bf_ BK301.out 3; have hfz7_4 := bf_ BK301.out 4; have hfz7_5 := bf_ BK301.out 5))
  (try simp only [Act.put, sA_, sZ_, sS_])
  go_cut [7] (fun v7 wc => ∃ (kq : Nat) (x7_4 : Bool), v7 = .bool x7_4 ∧ Aside0 (clevisref07_Check.j0 kq x7_4 a0_0 a0_1 a0_2 a0_3 a0_4 a0_5 = some r) ∧ Aside0 (kq ≤ k) ∧ Aside0 (wc.heap[gb301]? = some (.cells #[.int .i64 a0_0, .string a0_1, .string a0_2, .string a0_3, .int .i64 a0_4, .int .i64 a0_5] 30 (0, 0))) ∧ Aside0 (Below w.heap.size w wc))
  case first =>
   have H := HC5.out
   clear HC5
   replace H := os_ H
   obtain ⟨t344, A80, H⟩ := H
   replace H : (if t344 = 0 then ((clevisref02_Member.f k a0_2).bind fun t345 => (clevisref07_Check.j0 k (t345 != 0) a0_0 a0_1 a0_2 a0_3 a0_4 a0_5)) else (clevisref07_Check.j0 k true a0_0 a0_1 a0_2 a0_3 a0_4 a0_5)) = some r := H
   have A8 := A_ A80
   clear A80
   by_cases c9 : t344 = 0
   ·
    rw [if_pos c9] at H
    have c9b0 : (t344 == 0) = true := q1_ c9
    have c9b1 : (t344 != 0) = false := q3_ c9
    clear c9
    (first | rw [c9b0] | (simp only [i64_w, i32_w]; rw [c9b0]) | skip)
    replace H := os_ H
    obtain ⟨t345, A100, H⟩ := H
    replace H : (clevisref07_Check.j0 k (t345 != 0) a0_0 a0_1 a0_2 a0_3 a0_4 a0_5) = some r := H
    have A10 := A_ A100
    clear A100
    have H' := A_ H
    clear H
    have hcz11_0 : w6.cell? ⟨gb301, 0, none⟩ = some (.int .i64 a0_0) := (bc_ BK301.out 0).trans rfl
    have hcz11_1 : w6.cell? ⟨gb301, 1, none⟩ = some (.string a0_1) := (bc_ BK301.out 1).trans rfl
    have hcz11_2 : w6.cell? ⟨gb301, 2, none⟩ = some (.string a0_2) := (bc_ BK301.out 2).trans rfl
    have hcz11_3 : w6.cell? ⟨gb301, 3, none⟩ = some (.string a0_3) := (bc_ BK301.out 3).trans rfl
    have hcz11_4 : w6.cell? ⟨gb301, 4, none⟩ = some (.int .i64 a0_4) := (bc_ BK301.out 4).trans rfl
    have hcz11_5 : w6.cell? ⟨gb301, 5, none⟩ = some (.int .i64 a0_5) := (bc_ BK301.out 5).trans rfl
    have hfz11_0 := bf_ BK301.out 0
    have hfz11_1 := bf_ BK301.out 1
    have hfz11_2 := bf_ BK301.out 2
    have hfz11_3 := bf_ BK301.out 3
    have hfz11_4 := bf_ BK301.out 4
    have hfz11_5 := bf_ BK301.out 5
    go_wp2_with (first | ((with_reducible refine gate_callee (f := 31) rfl ?_); refine goesL_ (some 10) rfl rfl Tryd.func31 (by kernel_rfl) rfl #[.string a0_1] rfl (by (try simp only [List.map_toArray, List.map_cons, List.map_nil]); first | done | rfl | (simp only [List.length_drop, List.length_take]; rfl)) ?_; (with_reducible refine (clevisref02_Member.calls k a0_1 t344 _ A8.out).mono ?_); rintro e w' ⟨rfl, ⟨nd, rfl⟩⟩; refine ⟨_, rfl, ?_⟩) | (go_at_call 31; (with_reducible refine (clevisref02_Member.calls k a0_2 t345 _ A10.out).mono ?_); rintro e w' ⟨rfl, ⟨nd, rfl⟩⟩))
    go_meet
    case rel => exact ⟨_, ((t345 != 0)), (by first | rfl | (simp; done) | (simp [*]; done)), H', ⟨by first | omega | exact Nat.le_refl _⟩, ⟨bk_⟩, ⟨bw_⟩⟩
   ·
    rw [if_neg c9] at H
    have c9b0 : (t344 == 0) = false := q4_ c9
    have c9b1 : (t344 != 0) = true := q2_ c9
    (first | rw [c9b0] | (simp only [i64_w, i32_w]; rw [c9b0]) | skip)
    have H' := A_ H
    clear H
    have hcz12_0 : w6.cell? ⟨gb301, 0, none⟩ = some (.int .i64 a0_0) := (bc_ BK301.out 0).trans rfl
    have hcz12_1 : w6.cell? ⟨gb301, 1, none⟩ = some (.string a0_1) := (bc_ BK301.out 1).trans rfl
    have hcz12_2 : w6.cell? ⟨gb301, 2, none⟩ = some (.string a0_2) := (bc_ BK301.out 2).trans rfl
    have hcz12_3 : w6.cell? ⟨gb301, 3, none⟩ = some (.string a0_3) := (bc_ BK301.out 3).trans rfl
    have hcz12_4 : w6.cell? ⟨gb301, 4, none⟩ = some (.int .i64 a0_4) := (bc_ BK301.out 4).trans rfl
    have hcz12_5 : w6.cell? ⟨gb301, 5, none⟩ = some (.int .i64 a0_5) := (bc_ BK301.out 5).trans rfl
    have hfz12_0 := bf_ BK301.out 0
    have hfz12_1 := bf_ BK301.out 1
    have hfz12_2 := bf_ BK301.out 2
    have hfz12_3 := bf_ BK301.out 3
    have hfz12_4 := bf_ BK301.out 4
    have hfz12_5 := bf_ BK301.out 5
    go_wp2_with (first | ((with_reducible refine gate_callee (f := 31) rfl ?_); refine goesL_ (some 10) rfl rfl Tryd.func31 (by kernel_rfl) rfl #[.string a0_1] rfl (by (try simp only [List.map_toArray, List.map_cons, List.map_nil]); first | done | rfl | (simp only [List.length_drop, List.length_take]; rfl)) ?_; (with_reducible refine (clevisref02_Member.calls k a0_1 t344 _ A8.out).mono ?_); rintro e w' ⟨rfl, ⟨nd, rfl⟩⟩; refine ⟨_, rfl, ?_⟩))
    go_meet
    case rel => exact ⟨_, (true), (by first | rfl | (simp; done) | (simp [*]; done)), H', ⟨by first | omega | exact Nat.le_refl _⟩, ⟨bk_⟩, ⟨bw_⟩⟩
  case rest =>
   clear HC5
   try clear c1
   try clear c2
   try clear c2b0
   try clear p2
   try clear c3
   try clear c9
   try clear c9b0
   try clear c9b1
   try clear hcz11_0
   try clear hcz11_1
   try clear hcz11_2
   try clear hcz11_3
   try clear hcz11_4
   try clear hcz11_5
   try clear hcz12_0
   try clear hcz12_1
   try clear hcz12_2
   try clear hcz12_3
   try clear hcz12_4
   try clear hcz12_5
   try clear hcz4_0
   try clear hcz4_1
   try clear hcz4_2
   try clear hcz4_3
   try clear hcz4_4
   try clear hcz4_5
   try clear hcz7_0
   try clear hcz7_1
   try clear hcz7_2
   try clear hcz7_3
   try clear hcz7_4
   try clear hcz7_5
   try clear hfz11_0
   try clear hfz11_1
   try clear hfz11_2
   try clear hfz11_3
   try clear hfz11_4
   try clear hfz11_5
   try clear hfz12_0
   try clear hfz12_1
   try clear hfz12_2
   try clear hfz12_3
   try clear hfz12_4
   try clear hfz12_5
   try clear hfz4_0
   try clear hfz4_1
   try clear hfz4_2
   try clear hfz4_3
   try clear hfz4_4
   try clear hfz4_5
   try clear hfz7_0
   try clear hfz7_1
   try clear hfz7_2
   try clear hfz7_3
   try clear hfz7_4
   try clear hfz7_5
   obtain ⟨kq, x7_4, rfl, HA, HJ4, BK301, HB⟩ := hcut
   cases kq with
   | zero => exact absurd HA.out (by simp [clevisref07_Check.j0])
   | succ kj4 =>
    have H := HA.out
    clear HA
    simp only [clevisref07_Check.j0] at H
    by_cases c13 : x7_4 = true
    ·
     subst c13
     have H1 : (some 3) = some r := by rw [if_pos rfl] at H; exact H
     clear H
     have H := H1
     clear H1
     obtain rfl := Option.some.inj H
     go_wp2
     go_ret
     exact ⟨by first | rfl | (simp [errW_none, errW_some] <;> rfl) | (simp [*, errW_none, errW_some] <;> rfl), bw_⟩
    ·
     replace c13 := Bool.eq_false_iff.mpr c13
     subst c13
     have H1 : ((clevisref02_Isin.f kj4 a0_3).bind fun t346 => (if t346 = 0 then (if a0_1.toList = a0_2.toList then (some 6) else (if a0_4 < 1 then (some 2) else (if a0_4 > 2147483647 then (some 2) else (if a0_5 < 0 then (some 2) else (if a0_5 > 2147483647 then (some 2) else (some 0)))))) else ((clevisref02_Isin.f kj4 a0_3).bind fun t347 => (some t347)))) = some r := by rw [if_neg (show ¬ (false = true) by decide)] at H; exact H
     clear H
     have H := H1
     clear H1
     replace H := os_ H
     obtain ⟨t346, A140, H⟩ := H
     replace H : (if t346 = 0 then (if a0_1.toList = a0_2.toList then (some 6) else (if a0_4 < 1 then (some 2) else (if a0_4 > 2147483647 then (some 2) else (if a0_5 < 0 then (some 2) else (if a0_5 > 2147483647 then (some 2) else (some 0)))))) else ((clevisref02_Isin.f kj4 a0_3).bind fun t347 => (some t347))) = some r := H
     have A14 := A_ A140
     clear A140
     by_cases c15 : t346 = 0
     ·
      rw [if_pos c15] at H
      have c15b0 : (t346 == 0) = true := q1_ c15
      have c15b1 : (t346 != 0) = false := q3_ c15
      clear c15
      by_cases c16 : a0_1.toList = a0_2.toList
      ·
       rw [if_pos c16] at H
       have c16b0 : (a0_1.toList == a0_2.toList) = true := q1_ c16
       have c16b1 : (a0_1.toList != a0_2.toList) = false := q3_ c16
       clear c16
       obtain rfl := Option.some.inj H
       have hcz17_0 : wc.cell? ⟨gb301, 0, none⟩ = some (.int .i64 a0_0) := (bc_ BK301.out 0).trans rfl
       have hcz17_1 : wc.cell? ⟨gb301, 1, none⟩ = some (.string a0_1) := (bc_ BK301.out 1).trans rfl
       have hcz17_2 : wc.cell? ⟨gb301, 2, none⟩ = some (.string a0_2) := (bc_ BK301.out 2).trans rfl
       have hcz17_3 : wc.cell? ⟨gb301, 3, none⟩ = some (.string a0_3) := (bc_ BK301.out 3).trans rfl
       have hcz17_4 : wc.cell? ⟨gb301, 4, none⟩ = some (.int .i64 a0_4) := (bc_ BK301.out 4).trans rfl
       have hcz17_5 : wc.cell? ⟨gb301, 5, none⟩ = some (.int .i64 a0_5) := (bc_ BK301.out 5).trans rfl
       have hfz17_0 := bf_ BK301.out 0
       have hfz17_1 := bf_ BK301.out 1
       have hfz17_2 := bf_ BK301.out 2
       have hfz17_3 := bf_ BK301.out 3
       have hfz17_4 := bf_ BK301.out 4
       have hfz17_5 := bf_ BK301.out 5
       go_wp2_with (first | ((with_reducible refine gate_callee (f := 32) rfl ?_); refine goesL_ (some 21) rfl rfl Tryd.func32 (by kernel_rfl) rfl #[.string a0_3] rfl (by (try simp only [List.map_toArray, List.map_cons, List.map_nil]); first | done | rfl | (simp only [List.length_drop, List.length_take]; rfl)) ?_; (with_reducible refine (clevisref02_Isin.calls kj4 a0_3 t346 _ A14.out).mono ?_); rintro e w18 ⟨rfl, hb⟩; refine ⟨_, rfl, ?_⟩; have n0_ := A_ (kb_ BK301 hb); have n1_ := A_ (bs_ bw_ hb); clear BK301; clear HB; have BK301 := n0_; have HB := n1_; clear n0_ n1_; (try clear hb); (try clear hb2); (try clear hk); (try clear hi); have hcz19_0 : w18.cell? ⟨gb301, 0, none⟩ = some (.int .i64 a0_0) := (bc_ BK301.out 0).trans rfl; have hcz19_1 : w18.cell? ⟨gb301, 1, none⟩ = some (.string a0_1) := (bc_ BK301.out 1).trans rfl; have hcz19_2 : w18.cell? ⟨gb301, 2, none⟩ = some (.string a0_2) := (bc_ BK301.out 2).trans rfl; have hcz19_3 : w18.cell? ⟨gb301, 3, none⟩ = some (.string a0_3) := (bc_ BK301.out 3).trans rfl; have hcz19_4 : w18.cell? ⟨gb301, 4, none⟩ = some (.int .i64 a0_4) := (bc_ BK301.out 4).trans rfl; have hcz19_5 : w18.cell? ⟨gb301, 5, none⟩ = some (.int .i64 a0_5) := (bc_ BK301.out 5).trans rfl; have hfz19_0 := bf_ BK301.out 0; have hfz19_1 := bf_ BK301.out 1; have hfz19_2 := bf_ BK301.out 2; have hfz19_3 := bf_ BK301.out 3; have hfz19_4 := bf_ BK301.out 4; have hfz19_5 := bf_ BK301.out 5))
       go_ret
       exact ⟨by first | rfl | (simp [errW_none, errW_some] <;> rfl) | (simp [*, errW_none, errW_some] <;> rfl), bw_⟩
      ·
       rw [if_neg c16] at H
       have c16b0 : (a0_1.toList == a0_2.toList) = false := q4_ c16
       have c16b1 : (a0_1.toList != a0_2.toList) = true := q2_ c16
       by_cases c20 : a0_4 < 1
       ·
        rw [if_pos c20] at H
        have c20b0 : decide (a0_4 < 1) = true := decide_eq_true c20
        clear c20
        obtain rfl := Option.some.inj H
        have hcz21_0 : wc.cell? ⟨gb301, 0, none⟩ = some (.int .i64 a0_0) := (bc_ BK301.out 0).trans rfl
        have hcz21_1 : wc.cell? ⟨gb301, 1, none⟩ = some (.string a0_1) := (bc_ BK301.out 1).trans rfl
        have hcz21_2 : wc.cell? ⟨gb301, 2, none⟩ = some (.string a0_2) := (bc_ BK301.out 2).trans rfl
        have hcz21_3 : wc.cell? ⟨gb301, 3, none⟩ = some (.string a0_3) := (bc_ BK301.out 3).trans rfl
        have hcz21_4 : wc.cell? ⟨gb301, 4, none⟩ = some (.int .i64 a0_4) := (bc_ BK301.out 4).trans rfl
        have hcz21_5 : wc.cell? ⟨gb301, 5, none⟩ = some (.int .i64 a0_5) := (bc_ BK301.out 5).trans rfl
        have hfz21_0 := bf_ BK301.out 0
        have hfz21_1 := bf_ BK301.out 1
        have hfz21_2 := bf_ BK301.out 2
        have hfz21_3 := bf_ BK301.out 3
        have hfz21_4 := bf_ BK301.out 4
        have hfz21_5 := bf_ BK301.out 5
        go_wp2_with (first | ((with_reducible refine gate_callee (f := 32) rfl ?_); refine goesL_ (some 21) rfl rfl Tryd.func32 (by kernel_rfl) rfl #[.string a0_3] rfl (by (try simp only [List.map_toArray, List.map_cons, List.map_nil]); first | done | rfl | (simp only [List.length_drop, List.length_take]; rfl)) ?_; (with_reducible refine (clevisref02_Isin.calls kj4 a0_3 t346 _ A14.out).mono ?_); rintro e w22 ⟨rfl, hb⟩; refine ⟨_, rfl, ?_⟩; have n0_ := A_ (kb_ BK301 hb); have n1_ := A_ (bs_ bw_ hb); clear BK301; clear HB; have BK301 := n0_; have HB := n1_; clear n0_ n1_; (try clear hb); (try clear hb2); (try clear hk); (try clear hi); have hcz23_0 : w22.cell? ⟨gb301, 0, none⟩ = some (.int .i64 a0_0) := (bc_ BK301.out 0).trans rfl; have hcz23_1 : w22.cell? ⟨gb301, 1, none⟩ = some (.string a0_1) := (bc_ BK301.out 1).trans rfl; have hcz23_2 : w22.cell? ⟨gb301, 2, none⟩ = some (.string a0_2) := (bc_ BK301.out 2).trans rfl; have hcz23_3 : w22.cell? ⟨gb301, 3, none⟩ = some (.string a0_3) := (bc_ BK301.out 3).trans rfl; have hcz23_4 : w22.cell? ⟨gb301, 4, none⟩ = some (.int .i64 a0_4) := (bc_ BK301.out 4).trans rfl; have hcz23_5 : w22.cell? ⟨gb301, 5, none⟩ = some (.int .i64 a0_5) := (bc_ BK301.out 5).trans rfl; have hfz23_0 := bf_ BK301.out 0; have hfz23_1 := bf_ BK301.out 1; have hfz23_2 := bf_ BK301.out 2; have hfz23_3 := bf_ BK301.out 3; have hfz23_4 := bf_ BK301.out 4; have hfz23_5 := bf_ BK301.out 5))
        go_ret
        exact ⟨by first | rfl | (simp [errW_none, errW_some] <;> rfl) | (simp [*, errW_none, errW_some] <;> rfl), bw_⟩
       ·
        rw [if_neg c20] at H
        have c20b0 : decide (a0_4 < 1) = false := decide_eq_false c20
        clear c20
        by_cases c24 : a0_4 > 2147483647
        ·
         rw [if_pos c24] at H
         have c24b0 : decide (2147483647 < a0_4) = true := decide_eq_true c24
         clear c24
         obtain rfl := Option.some.inj H
         have hcz25_0 : wc.cell? ⟨gb301, 0, none⟩ = some (.int .i64 a0_0) := (bc_ BK301.out 0).trans rfl
         have hcz25_1 : wc.cell? ⟨gb301, 1, none⟩ = some (.string a0_1) := (bc_ BK301.out 1).trans rfl
         have hcz25_2 : wc.cell? ⟨gb301, 2, none⟩ = some (.string a0_2) := (bc_ BK301.out 2).trans rfl
         have hcz25_3 : wc.cell? ⟨gb301, 3, none⟩ = some (.string a0_3) := (bc_ BK301.out 3).trans rfl
         have hcz25_4 : wc.cell? ⟨gb301, 4, none⟩ = some (.int .i64 a0_4) := (bc_ BK301.out 4).trans rfl
         have hcz25_5 : wc.cell? ⟨gb301, 5, none⟩ = some (.int .i64 a0_5) := (bc_ BK301.out 5).trans rfl
         have hfz25_0 := bf_ BK301.out 0
         have hfz25_1 := bf_ BK301.out 1
         have hfz25_2 := bf_ BK301.out 2
         have hfz25_3 := bf_ BK301.out 3
         have hfz25_4 := bf_ BK301.out 4
         have hfz25_5 := bf_ BK301.out 5
         go_wp2_with (first | ((with_reducible refine gate_callee (f := 32) rfl ?_); refine goesL_ (some 21) rfl rfl Tryd.func32 (by kernel_rfl) rfl #[.string a0_3] rfl (by (try simp only [List.map_toArray, List.map_cons, List.map_nil]); first | done | rfl | (simp only [List.length_drop, List.length_take]; rfl)) ?_; (with_reducible refine (clevisref02_Isin.calls kj4 a0_3 t346 _ A14.out).mono ?_); rintro e w26 ⟨rfl, hb⟩; refine ⟨_, rfl, ?_⟩; have n0_ := A_ (kb_ BK301 hb); have n1_ := A_ (bs_ bw_ hb); clear BK301; clear HB; have BK301 := n0_; have HB := n1_; clear n0_ n1_; (try clear hb); (try clear hb2); (try clear hk); (try clear hi); have hcz27_0 : w26.cell? ⟨gb301, 0, none⟩ = some (.int .i64 a0_0) := (bc_ BK301.out 0).trans rfl; have hcz27_1 : w26.cell? ⟨gb301, 1, none⟩ = some (.string a0_1) := (bc_ BK301.out 1).trans rfl; have hcz27_2 : w26.cell? ⟨gb301, 2, none⟩ = some (.string a0_2) := (bc_ BK301.out 2).trans rfl; have hcz27_3 : w26.cell? ⟨gb301, 3, none⟩ = some (.string a0_3) := (bc_ BK301.out 3).trans rfl; have hcz27_4 : w26.cell? ⟨gb301, 4, none⟩ = some (.int .i64 a0_4) := (bc_ BK301.out 4).trans rfl; have hcz27_5 : w26.cell? ⟨gb301, 5, none⟩ = some (.int .i64 a0_5) := (bc_ BK301.out 5).trans rfl; have hfz27_0 := bf_ BK301.out 0; have hfz27_1 := bf_ BK301.out 1; have hfz27_2 := bf_ BK301.out 2; have hfz27_3 := bf_ BK301.out 3; have hfz27_4 := bf_ BK301.out 4; have hfz27_5 := bf_ BK301.out 5))
         go_ret
         exact ⟨by first | rfl | (simp [errW_none, errW_some] <;> rfl) | (simp [*, errW_none, errW_some] <;> rfl), bw_⟩
        ·
         rw [if_neg c24] at H
         have c24b0 : decide (2147483647 < a0_4) = false := decide_eq_false c24
         clear c24
         by_cases c28 : a0_5 < 0
         ·
          rw [if_pos c28] at H
          have c28b0 : decide (a0_5 < 0) = true := decide_eq_true c28
          clear c28
          obtain rfl := Option.some.inj H
          have hcz29_0 : wc.cell? ⟨gb301, 0, none⟩ = some (.int .i64 a0_0) := (bc_ BK301.out 0).trans rfl
          have hcz29_1 : wc.cell? ⟨gb301, 1, none⟩ = some (.string a0_1) := (bc_ BK301.out 1).trans rfl
          have hcz29_2 : wc.cell? ⟨gb301, 2, none⟩ = some (.string a0_2) := (bc_ BK301.out 2).trans rfl
          have hcz29_3 : wc.cell? ⟨gb301, 3, none⟩ = some (.string a0_3) := (bc_ BK301.out 3).trans rfl
          have hcz29_4 : wc.cell? ⟨gb301, 4, none⟩ = some (.int .i64 a0_4) := (bc_ BK301.out 4).trans rfl
          have hcz29_5 : wc.cell? ⟨gb301, 5, none⟩ = some (.int .i64 a0_5) := (bc_ BK301.out 5).trans rfl
          have hfz29_0 := bf_ BK301.out 0
          have hfz29_1 := bf_ BK301.out 1
          have hfz29_2 := bf_ BK301.out 2
          have hfz29_3 := bf_ BK301.out 3
          have hfz29_4 := bf_ BK301.out 4
          have hfz29_5 := bf_ BK301.out 5
          go_wp2_with (first | ((with_reducible refine gate_callee (f := 32) rfl ?_); refine goesL_ (some 21) rfl rfl Tryd.func32 (by kernel_rfl) rfl #[.string a0_3] rfl (by (try simp only [List.map_toArray, List.map_cons, List.map_nil]); first | done | rfl | (simp only [List.length_drop, List.length_take]; rfl)) ?_; (with_reducible refine (clevisref02_Isin.calls kj4 a0_3 t346 _ A14.out).mono ?_); rintro e w30 ⟨rfl, hb⟩; refine ⟨_, rfl, ?_⟩; have n0_ := A_ (kb_ BK301 hb); have n1_ := A_ (bs_ bw_ hb); clear BK301; clear HB; have BK301 := n0_; have HB := n1_; clear n0_ n1_; (try clear hb); (try clear hb2); (try clear hk); (try clear hi); have hcz31_0 : w30.cell? ⟨gb301, 0, none⟩ = some (.int .i64 a0_0) := (bc_ BK301.out 0).trans rfl; have hcz31_1 : w30.cell? ⟨gb301, 1, none⟩ = some (.string a0_1) := (bc_ BK301.out 1).trans rfl; have hcz31_2 : w30.cell? ⟨gb301, 2, none⟩ = some (.string a0_2) := (bc_ BK301.out 2).trans rfl; have hcz31_3 : w30.cell? ⟨gb301, 3, none⟩ = some (.string a0_3) := (bc_ BK301.out 3).trans rfl; have hcz31_4 : w30.cell? ⟨gb301, 4, none⟩ = some (.int .i64 a0_4) := (bc_ BK301.out 4).trans rfl; have hcz31_5 : w30.cell? ⟨gb301, 5, none⟩ = some (.int .i64 a0_5) := (bc_ BK301.out 5).trans rfl; have hfz31_0 := bf_ BK301.out 0; have hfz31_1 := bf_ BK301.out 1; have hfz31_2 := bf_ BK301.out 2; have hfz31_3 := bf_ BK301.out 3; have hfz31_4 := bf_ BK301.out 4; have hfz31_5 := bf_ BK301.out 5))
          go_ret
          exact ⟨by first | rfl | (simp [errW_none, errW_some] <;> rfl) | (simp [*, errW_none, errW_some] <;> rfl), bw_⟩
         ·
          rw [if_neg c28] at H
          have c28b0 : decide (a0_5 < 0) = false := decide_eq_false c28
          clear c28
          by_cases c32 : a0_5 > 2147483647
          ·
           rw [if_pos c32] at H
           have c32b0 : decide (2147483647 < a0_5) = true := decide_eq_true c32
           clear c32
           obtain rfl := Option.some.inj H
           have hcz33_0 : wc.cell? ⟨gb301, 0, none⟩ = some (.int .i64 a0_0) := (bc_ BK301.out 0).trans rfl
           have hcz33_1 : wc.cell? ⟨gb301, 1, none⟩ = some (.string a0_1) := (bc_ BK301.out 1).trans rfl
           have hcz33_2 : wc.cell? ⟨gb301, 2, none⟩ = some (.string a0_2) := (bc_ BK301.out 2).trans rfl
           have hcz33_3 : wc.cell? ⟨gb301, 3, none⟩ = some (.string a0_3) := (bc_ BK301.out 3).trans rfl
           have hcz33_4 : wc.cell? ⟨gb301, 4, none⟩ = some (.int .i64 a0_4) := (bc_ BK301.out 4).trans rfl
           have hcz33_5 : wc.cell? ⟨gb301, 5, none⟩ = some (.int .i64 a0_5) := (bc_ BK301.out 5).trans rfl
           have hfz33_0 := bf_ BK301.out 0
           have hfz33_1 := bf_ BK301.out 1
           have hfz33_2 := bf_ BK301.out 2
           have hfz33_3 := bf_ BK301.out 3
           have hfz33_4 := bf_ BK301.out 4
           have hfz33_5 := bf_ BK301.out 5
           go_wp2_with (first | ((with_reducible refine gate_callee (f := 32) rfl ?_); refine goesL_ (some 21) rfl rfl Tryd.func32 (by kernel_rfl) rfl #[.string a0_3] rfl (by (try simp only [List.map_toArray, List.map_cons, List.map_nil]); first | done | rfl | (simp only [List.length_drop, List.length_take]; rfl)) ?_; (with_reducible refine (clevisref02_Isin.calls kj4 a0_3 t346 _ A14.out).mono ?_); rintro e w34 ⟨rfl, hb⟩; refine ⟨_, rfl, ?_⟩; have n0_ := A_ (kb_ BK301 hb); have n1_ := A_ (bs_ bw_ hb); clear BK301; clear HB; have BK301 := n0_; have HB := n1_; clear n0_ n1_; (try clear hb); (try clear hb2); (try clear hk); (try clear hi); have hcz35_0 : w34.cell? ⟨gb301, 0, none⟩ = some (.int .i64 a0_0) := (bc_ BK301.out 0).trans rfl; have hcz35_1 : w34.cell? ⟨gb301, 1, none⟩ = some (.string a0_1) := (bc_ BK301.out 1).trans rfl; have hcz35_2 : w34.cell? ⟨gb301, 2, none⟩ = some (.string a0_2) := (bc_ BK301.out 2).trans rfl; have hcz35_3 : w34.cell? ⟨gb301, 3, none⟩ = some (.string a0_3) := (bc_ BK301.out 3).trans rfl; have hcz35_4 : w34.cell? ⟨gb301, 4, none⟩ = some (.int .i64 a0_4) := (bc_ BK301.out 4).trans rfl; have hcz35_5 : w34.cell? ⟨gb301, 5, none⟩ = some (.int .i64 a0_5) := (bc_ BK301.out 5).trans rfl; have hfz35_0 := bf_ BK301.out 0; have hfz35_1 := bf_ BK301.out 1; have hfz35_2 := bf_ BK301.out 2; have hfz35_3 := bf_ BK301.out 3; have hfz35_4 := bf_ BK301.out 4; have hfz35_5 := bf_ BK301.out 5))
           go_ret
           exact ⟨by first | rfl | (simp [errW_none, errW_some] <;> rfl) | (simp [*, errW_none, errW_some] <;> rfl), bw_⟩
          ·
           rw [if_neg c32] at H
           have c32b0 : decide (2147483647 < a0_5) = false := decide_eq_false c32
           clear c32
           obtain rfl := Option.some.inj H
           have hcz36_0 : wc.cell? ⟨gb301, 0, none⟩ = some (.int .i64 a0_0) := (bc_ BK301.out 0).trans rfl
           have hcz36_1 : wc.cell? ⟨gb301, 1, none⟩ = some (.string a0_1) := (bc_ BK301.out 1).trans rfl
           have hcz36_2 : wc.cell? ⟨gb301, 2, none⟩ = some (.string a0_2) := (bc_ BK301.out 2).trans rfl
           have hcz36_3 : wc.cell? ⟨gb301, 3, none⟩ = some (.string a0_3) := (bc_ BK301.out 3).trans rfl
           have hcz36_4 : wc.cell? ⟨gb301, 4, none⟩ = some (.int .i64 a0_4) := (bc_ BK301.out 4).trans rfl
           have hcz36_5 : wc.cell? ⟨gb301, 5, none⟩ = some (.int .i64 a0_5) := (bc_ BK301.out 5).trans rfl
           have hfz36_0 := bf_ BK301.out 0
           have hfz36_1 := bf_ BK301.out 1
           have hfz36_2 := bf_ BK301.out 2
           have hfz36_3 := bf_ BK301.out 3
           have hfz36_4 := bf_ BK301.out 4
           have hfz36_5 := bf_ BK301.out 5
           go_wp2_with (first | ((with_reducible refine gate_callee (f := 32) rfl ?_); refine goesL_ (some 21) rfl rfl Tryd.func32 (by kernel_rfl) rfl #[.string a0_3] rfl (by (try simp only [List.map_toArray, List.map_cons, List.map_nil]); first | done | rfl | (simp only [List.length_drop, List.length_take]; rfl)) ?_; (with_reducible refine (clevisref02_Isin.calls kj4 a0_3 t346 _ A14.out).mono ?_); rintro e w37 ⟨rfl, hb⟩; refine ⟨_, rfl, ?_⟩; have n0_ := A_ (kb_ BK301 hb); have n1_ := A_ (bs_ bw_ hb); clear BK301; clear HB; have BK301 := n0_; have HB := n1_; clear n0_ n1_; (try clear hb); (try clear hb2); (try clear hk); (try clear hi); have hcz38_0 : w37.cell? ⟨gb301, 0, none⟩ = some (.int .i64 a0_0) := (bc_ BK301.out 0).trans rfl; have hcz38_1 : w37.cell? ⟨gb301, 1, none⟩ = some (.string a0_1) := (bc_ BK301.out 1).trans rfl; have hcz38_2 : w37.cell? ⟨gb301, 2, none⟩ = some (.string a0_2) := (bc_ BK301.out 2).trans rfl; have hcz38_3 : w37.cell? ⟨gb301, 3, none⟩ = some (.string a0_3) := (bc_ BK301.out 3).trans rfl; have hcz38_4 : w37.cell? ⟨gb301, 4, none⟩ = some (.int .i64 a0_4) := (bc_ BK301.out 4).trans rfl; have hcz38_5 : w37.cell? ⟨gb301, 5, none⟩ = some (.int .i64 a0_5) := (bc_ BK301.out 5).trans rfl; have hfz38_0 := bf_ BK301.out 0; have hfz38_1 := bf_ BK301.out 1; have hfz38_2 := bf_ BK301.out 2; have hfz38_3 := bf_ BK301.out 3; have hfz38_4 := bf_ BK301.out 4; have hfz38_5 := bf_ BK301.out 5))
           go_ret
           exact ⟨by first | rfl | (simp [errW_none, errW_some] <;> rfl) | (simp [*, errW_none, errW_some] <;> rfl), bw_⟩
     ·
      rw [if_neg c15] at H
      have c15b0 : (t346 == 0) = false := q4_ c15
      have c15b1 : (t346 != 0) = true := q2_ c15
      replace H := os_ H
      obtain ⟨t347, A390, H⟩ := H
      replace H : (some t347) = some r := H
      have A39 := A_ A390
      clear A390
      obtain rfl := Option.some.inj H
      have hcz40_0 : wc.cell? ⟨gb301, 0, none⟩ = some (.int .i64 a0_0) := (bc_ BK301.out 0).trans rfl
      have hcz40_1 : wc.cell? ⟨gb301, 1, none⟩ = some (.string a0_1) := (bc_ BK301.out 1).trans rfl
      have hcz40_2 : wc.cell? ⟨gb301, 2, none⟩ = some (.string a0_2) := (bc_ BK301.out 2).trans rfl
      have hcz40_3 : wc.cell? ⟨gb301, 3, none⟩ = some (.string a0_3) := (bc_ BK301.out 3).trans rfl
      have hcz40_4 : wc.cell? ⟨gb301, 4, none⟩ = some (.int .i64 a0_4) := (bc_ BK301.out 4).trans rfl
      have hcz40_5 : wc.cell? ⟨gb301, 5, none⟩ = some (.int .i64 a0_5) := (bc_ BK301.out 5).trans rfl
      have hfz40_0 := bf_ BK301.out 0
      have hfz40_1 := bf_ BK301.out 1
      have hfz40_2 := bf_ BK301.out 2
      have hfz40_3 := bf_ BK301.out 3
      have hfz40_4 := bf_ BK301.out 4
      have hfz40_5 := bf_ BK301.out 5
      go_wp2_with (first | ((with_reducible refine gate_callee (f := 32) rfl ?_); refine goesL_ (some 21) rfl rfl Tryd.func32 (by kernel_rfl) rfl #[.string a0_3] rfl (by (try simp only [List.map_toArray, List.map_cons, List.map_nil]); first | done | rfl | (simp only [List.length_drop, List.length_take]; rfl)) ?_; (with_reducible refine (clevisref02_Isin.calls kj4 a0_3 t346 _ A14.out).mono ?_); rintro e w41 ⟨rfl, hb⟩; refine ⟨_, rfl, ?_⟩; have n0_ := A_ (kb_ BK301 hb); have n1_ := A_ (bs_ bw_ hb); clear BK301; clear HB; have BK301 := n0_; have HB := n1_; clear n0_ n1_; (try clear hb); (try clear hb2); (try clear hk); (try clear hi); have hcz42_0 : w41.cell? ⟨gb301, 0, none⟩ = some (.int .i64 a0_0) := (bc_ BK301.out 0).trans rfl; have hcz42_1 : w41.cell? ⟨gb301, 1, none⟩ = some (.string a0_1) := (bc_ BK301.out 1).trans rfl; have hcz42_2 : w41.cell? ⟨gb301, 2, none⟩ = some (.string a0_2) := (bc_ BK301.out 2).trans rfl; have hcz42_3 : w41.cell? ⟨gb301, 3, none⟩ = some (.string a0_3) := (bc_ BK301.out 3).trans rfl; have hcz42_4 : w41.cell? ⟨gb301, 4, none⟩ = some (.int .i64 a0_4) := (bc_ BK301.out 4).trans rfl; have hcz42_5 : w41.cell? ⟨gb301, 5, none⟩ = some (.int .i64 a0_5) := (bc_ BK301.out 5).trans rfl; have hfz42_0 := bf_ BK301.out 0; have hfz42_1 := bf_ BK301.out 1; have hfz42_2 := bf_ BK301.out 2; have hfz42_3 := bf_ BK301.out 3; have hfz42_4 := bf_ BK301.out 4; have hfz42_5 := bf_ BK301.out 5) | ((with_reducible refine gate_callee (f := 32) rfl ?_); refine goesL_ (some 25) rfl rfl Tryd.func32 (by kernel_rfl) rfl #[.string a0_3] rfl (by (try simp only [List.map_toArray, List.map_cons, List.map_nil]); first | done | rfl | (simp only [List.length_drop, List.length_take]; rfl)) ?_; (with_reducible refine (clevisref02_Isin.calls kj4 a0_3 t347 _ A39.out).mono ?_); rintro e w43 ⟨rfl, hb⟩; refine ⟨_, rfl, ?_⟩; have n0_ := A_ (kb_ BK301 hb); have n1_ := A_ (bs_ bw_ hb); clear BK301; clear HB; have BK301 := n0_; have HB := n1_; clear n0_ n1_; (try clear hb); (try clear hb2); (try clear hk); (try clear hi)))
      go_ret
      exact ⟨by first | rfl | (simp [errW_none, errW_some] <;> rfl) | (simp [*, errW_none, errW_some] <;> rfl), bw_⟩
end Go.Proofs.YtjbbigodkhnokaaDoor.Tr
end
section
namespace Go.Proofs.YtjbbigodkhnokaaDoor.Tp
set_option linter.unusedSimpArgs false
set_option linter.unusedVariables false
open Go Go.RowKit Go.Proofs.YtjbbigodkhnokaaDoorW.PrintWords Go.Proofs.YtjbbigodkhnokaaDoorW.PrintLast Go.Proofs.YtjbbigodkhnokaaDoorW.PrintMore Go.Proofs.YtjbbigodkhnokaaDoor.Tr Go.Proofs.YtjbbigodkhnokaaDoor.Ip
def chkT (a0 : Int) (a1 a2 a3 : ByteArray) (a4 a5 : Int) : Int :=
  if a0 < 1 then 1 else if memN a1 ≠ 0 ∨ memN a2 ≠ 0 then 3 else if isinE a3 ≠ 0 then isinE a3 else if a1.toList = a2.toList then 6 else if a4 < 1 ∨ a4 ≥ 2147483648 ∨ a5 < 0 ∨ a5 ≥ 2147483648 then 2 else 0
theorem names_f (a0 : Int) (a1 a2 a3 : ByteArray) (a4 a5 : Int) (m : Nat) (hm : 70 ≤ m) : trade_names.f (m + 3) a0 a1 a2 a3 a4 a5 = some (if memN a1 ≠ 0 ∨ memN a2 ≠ 0 then 3 else isinE a3) := by
  unfold trade_names.f
  simp only [Option.bind_some, List.length_cons, List.length_nil]
  have e1 : wrap64 ((0 : Int) + 1) = 1 := by unfold wrap64; omega
  have e2 : wrap64 ((1 : Int) + 1) = 2 := by unfold wrap64; omega
  have r1 := memN_range a1
  have r2 := memN_range a2
  simp only [trade_names.l0, List.length_cons, List.length_nil]
  rw [if_pos (by omega), if_pos (by omega), if_pos (by omega), show rdOf ByteArray.empty [a1, a2] 0 = a1 from rfl, iMember' _ _ (by omega)]
  simp only [Option.bind_some, e1]
  by_cases h1 : memN a1 = 0
  · rw [if_pos h1, if_pos (by omega), if_pos (by omega), if_pos (by omega), show rdOf ByteArray.empty [a1, a2] 1 = a2 from rfl, iMember' _ _ (by omega)]
    simp only [Option.bind_some, e2]
    by_cases h2 : memN a2 = 0
    · rw [if_pos h2, if_neg (by omega), show m = (m - 1) + 1 by omega, iIsin]
      simp [h1, h2]
    · rw [if_neg h2]
      simp [h1, h2]
      omega
  · rw [if_neg h1]
    simp [h1]
    omega
theorem iCheck (a0 : Int) (a1 a2 a3 : ByteArray) (a4 a5 : Int) (k : Nat) (hk : 80 ≤ k) : trade_Check.f k a0 a1 a2 a3 a4 a5 = some (chkT a0 a1 a2 a3 a4 a5) := by
  obtain ⟨m, rfl⟩ : ∃ m, k = m + 3 := ⟨k - 3, by omega⟩
  unfold trade_Check.f chkT
  by_cases h0 : a0 < 1
  · rw [if_pos h0, if_pos h0]
  · rw [if_neg h0, if_neg h0, names_f _ _ _ _ _ _ _ (by omega)]
    simp only [Option.bind_some]
    by_cases h1 : memN a1 ≠ 0 ∨ memN a2 ≠ 0
    · rw [if_pos h1, if_neg (by decide), if_pos h1]
    · rw [if_neg h1, if_neg h1]
      by_cases h2 : isinE a3 = 0
      · rw [if_pos h2, if_neg (show ¬ isinE a3 ≠ 0 from fun h => h h2)]
        by_cases h3 : a1.toList = a2.toList
        · rw [if_pos h3, if_pos h3]
        · rw [if_neg h3, if_neg h3]
          (repeat' split) <;> first | rfl | omega
      · rw [if_neg h2, if_pos h2]
theorem rCheck (a0 : Int) (a1 a2 a3 : ByteArray) (a4 a5 : Int) (k : Nat) (hk : 80 ≤ k) : clevisref07_Check.f k a0 a1 a2 a3 a4 a5 = some (chkT a0 a1 a2 a3 a4 a5) := by
  obtain ⟨m, rfl⟩ : ∃ m, k = m + 1 := ⟨k - 1, by omega⟩
  have r1 := memN_range a1
  have r2 := memN_range a2
  unfold clevisref07_Check.f chkT
  by_cases h0 : a0 < 1
  · rw [if_pos h0, if_pos h0]
  · rw [if_neg h0, if_neg h0, rMember' _ _ (by omega), rMember' _ _ (by omega)]
    simp only [Option.bind_some, clevisref07_Check.j0]
    by_cases h1 : memN a1 = 0
    · rw [if_pos h1]
      by_cases h2 : memN a2 = 0
      · have e : (memN a2 != 0) = false := by simp [h2]
        rw [e, if_neg (show ¬ (false = true) by simp), if_neg (show ¬ (memN a1 ≠ 0 ∨ memN a2 ≠ 0) by simp [h1, h2]), rIsin _ _ (by omega)]
        simp only [Option.bind_some]
        by_cases h3 : isinE a3 = 0
        · rw [if_pos h3, if_neg (show ¬ isinE a3 ≠ 0 from fun h => h h3)]
          by_cases h4 : a1.toList = a2.toList
          · rw [if_pos h4, if_pos h4]
          · rw [if_neg h4, if_neg h4]
            (repeat' split) <;> first | rfl | omega
        · rw [if_neg h3, if_pos h3]
      · have e : (memN a2 != 0) = true := by simpa using h2
        rw [e, if_pos rfl, if_pos (show memN a1 ≠ 0 ∨ memN a2 ≠ 0 from .inr h2)]
    · rw [if_neg h1, if_pos trivial, if_pos (show memN a1 ≠ 0 ∨ memN a2 ≠ 0 from .inl h1)]
end Go.Proofs.YtjbbigodkhnokaaDoor.Tp
end
section
namespace Go.Proofs.YtjbbigodkhnokaaDoor.Tr
open Go.RowKit Go.Proofs.YtjbbigodkhnokaaDoorW.PrintWords Go.Proofs.YtjbbigodkhnokaaDoorW.PrintLast Go.Proofs.YtjbbigodkhnokaaDoorW.PrintMore
attribute [local go_sem] max2_int min2_int max_two min_two max_three min_three max_four min_four   -- for this text's walks alone
set_option linter.unusedVariables false
set_option linter.unusedSimpArgs false
attribute [local go_sem] run_add64_any
def IsS73 (w0 W : World) (g : Nat) (f0 : Int) (f1 : Int) (f2 : Int) : Prop := W.heap[g]? = some (.cells #[.int .i64 f0, .int .u64 f1, .int .u64 f2] 73 (0, 0)) ∧ w0.heap.size ≤ g
theorem IsS73.grown {w0 W : World} {g : Nat} {f0 : Int} {f1 : Int} {f2 : Int} {W1 : World} {row : Option Nat} (h : IsS73 w0 W g f0 f1 f2) (hw : W.grownBy W1 row) (hne : some g ≠ row) : IsS73 w0 W1 g f0 f1 f2 := by
 obtain ⟨hb, hg⟩ := h
 exact ⟨blk_grown hb hw hne, hg⟩
theorem IsS73.kept {w0 W : World} {g : Nat} {f0 : Int} {f1 : Int} {f2 : Int} {W1 : World} {S : Nat → Prop} (h : IsS73 w0 W g f0 f1 f2) (hk : Kept W W1 S) (hne : ¬ S g) : IsS73 w0 W1 g f0 f1 f2 := by
 obtain ⟨hb, hg⟩ := h
 exact ⟨blk_kept hb hk hne, hg⟩
theorem IsS73.below {w0 W : World} {g : Nat} {f0 : Int} {f1 : Int} {f2 : Int} {W1 : World} (h : IsS73 w0 W g f0 f1 f2) (hw : Below W.heap.size W W1) : IsS73 w0 W1 g f0 f1 f2 := h.grown (grown_of_below hw none) (by simp)
theorem IsS73.alloc {w0 W : World} {g : Nat} {f0 : Int} {f1 : Int} {f2 : Int} (h : IsS73 w0 W g f0 f1 f2) (o : Obj) : IsS73 w0 (W.alloc o) g f0 f1 f2 := h.below (bl_ (Below.refl _ _) o)
theorem IsS73.drewN {w0 W : World} {g : Nat} {f0 : Int} {f1 : Int} {f2 : Int} (h : IsS73 w0 W g f0 f1 f2) (m : Nat) : IsS73 w0 (W.drewN m) g f0 f1 f2 := h
theorem IsS73.drew {w0 W : World} {g : Nat} {f0 : Int} {f1 : Int} {f2 : Int} (h : IsS73 w0 W g f0 f1 f2) : IsS73 w0 W.drew g f0 f1 f2 := h
theorem IsS73.at_ {w0 W : World} {g : Nat} {f0 : Int} {f1 : Int} {f2 : Int} {w' : World} {m : Nat} (hq : W.drewN m = w') (h : IsS73 w0 W g f0 f1 f2) : IsS73 w0 w' g f0 f1 f2 := by subst hq; exact IsS73.drewN h m
theorem IsS73.apart {w0 W : World} {g : Nat} {f0 : Int} {f1 : Int} {f2 : Int} {α : Type} {d : Kd α} {e : Nat} {base : Nat} {ok : Nat → Prop} {v : Value} {xs : List α} (h : IsS73 w0 W g f0 f1 f2) (ho : d.R e W base ok v xs) (ht : ∀ q, q ∈ e :: d.E → q ≠ 73) : d.R e W base (fun k => ok k ∧ k ≠ g) v xs := by
 obtain ⟨hb, hg⟩ := h
 exact Kd.R_types ho hb ht
theorem IsS73.own_ne {w0 W : World} {g : Nat} {f0 : Int} {f1 : Int} {f2 : Int} {α : Type} {d : Kd α} {e : Nat} {base : Nat} {ok : Nat → Prop} {v : Value} {xs : List α} (h : IsS73 w0 W g f0 f1 f2) (ho : d.R e W base ok v xs) (ht : e ≠ 73) : some g ≠ v.ownBlock := by
 obtain ⟨hb, hg⟩ := h
 exact Kd.R_ne ho hb ht
theorem IsS73.lt {w0 W : World} {g : Nat} {f0 : Int} {f1 : Int} {f2 : Int} (h : IsS73 w0 W g f0 f1 f2) : g < W.heap.size := by
 obtain ⟨hb, hg⟩ := h
 exact blk_lt hb
theorem IsS73.new (w0 W : World) (f0 : Int) (f1 : Int) (f2 : Int) (hB : Below w0.heap.size w0 W) : IsS73 w0 (W.alloc (.cells #[.int .i64 f0, .int .u64 f1, .int .u64 f2] 73)) W.heap.size f0 f1 f2 := ⟨by simpa using heap_alloc_new W _, hB.size⟩
def fixed_long_add.f (s0 s1 s2 a0 a1 : Int) : Option (Int × Int × Int) := if addHi s2 a1 0 ≤ 1 then some (wrap64 (s0 + wrap64 (a0 / 9223372036854775808 + wrap64 (addHi s1 (IntKind.u64.wrap a0) (addHi s2 a1 0)))), addLo s1 (IntKind.u64.wrap a0) (addHi s2 a1 0), addLo s2 a1 0) else none
section
attribute [local go_sem] run_add64_any
set_option maxHeartbeats 1000000 in
theorem fixed_long_add.walk (g : Nat) (s0_0 s0_1 s0_2 a1_0 a1_1 : Int) (w : World) (h0 : w.cell? ⟨g, 0, none⟩ = some (.int .i64 s0_0)) (h1 : w.cell? ⟨g, 1, none⟩ = some (.int .u64 s0_1)) (h2 : w.cell? ⟨g, 2, none⟩ = some (.int .u64 s0_2)) (f0 : w.frozen? ⟨g, 0, none⟩ = false) (f1 : w.frozen? ⟨g, 1, none⟩ = false) (f2 : w.frozen? ⟨g, 2, none⟩ = false) (hg : g < w.heap.size) (hc : decide (addHi s0_2 a1_1 0 ≤ 1) = true) :
  Calls Tryd.prog 41 #[.pointer (some ⟨g, 0, none⟩), .agg #[.int .i64 a1_0, .int .u64 a1_1]] w fun e w' => e = .returned (.tuple #[]) ∧ w' = ((((w.setCell ⟨g, 2, none⟩ (.int .u64 (addLo s0_2 a1_1 0))).setCell ⟨g, 1, none⟩ (.int .u64 (addLo s0_1 (IntKind.u64.wrap a1_0) (addHi s0_2 a1_1 0)))).setCell ⟨g, 0, none⟩ (.int .i64 (wrap64 (s0_0 + wrap64 (a1_0 / 9223372036854775808 + wrap64 (addHi s0_1 (IntKind.u64.wrap a1_0) (addHi s0_2 a1_1 0))))))).alloc (.cells #[.int .i64 a1_0, .int .u64 a1_1] 35)).drew.drew.drew := by
 go_enter Tryd.func41, Tryd.ntmps41
 go_wp2
 go_region
 go_wp2
 go_region
 go_wp2
 go_region
 go_wp2
 go_end0
 exact ⟨rfl, rfl⟩
end
theorem fixed_long_add.walkf (g : Nat) (s0_0 s0_1 s0_2 a1_0 a1_1 r1 r2 r3 : Int) (w : World) (h : fixed_long_add.f s0_0 s0_1 s0_2 a1_0 a1_1 = some (r1, r2, r3)) (h0 : w.cell? ⟨g, 0, none⟩ = some (.int .i64 s0_0)) (h1 : w.cell? ⟨g, 1, none⟩ = some (.int .u64 s0_1)) (h2 : w.cell? ⟨g, 2, none⟩ = some (.int .u64 s0_2)) (f0 : w.frozen? ⟨g, 0, none⟩ = false) (f1 : w.frozen? ⟨g, 1, none⟩ = false) (f2 : w.frozen? ⟨g, 2, none⟩ = false) (hg : g < w.heap.size) :
  Calls Tryd.prog 41 #[.pointer (some ⟨g, 0, none⟩), .agg #[.int .i64 a1_0, .int .u64 a1_1]] w fun e w' => e = .returned (.tuple #[]) ∧ w' = ((((w.setCell ⟨g, 2, none⟩ (.int .u64 r3)).setCell ⟨g, 1, none⟩ (.int .u64 r2)).setCell ⟨g, 0, none⟩ (.int .i64 r1)).alloc (.cells #[.int .i64 a1_0, .int .u64 a1_1] 35)).drew.drew.drew := by
 unfold fixed_long_add.f at h
 split at h
 case isFalse => cases h
 rename_i hc
 simp only [Option.some.injEq, Prod.mk.injEq] at h
 obtain ⟨rfl, rfl, rfl⟩ := h
 exact fixed_long_add.walk g s0_0 s0_1 s0_2 a1_0 a1_1 w h0 h1 h2 f0 f1 f2 hg (decide_eq_true hc)
end Go.Proofs.YtjbbigodkhnokaaDoor.Tr
end
section
namespace Go.Proofs.YtjbbigodkhnokaaDoor.Tr
open Go.RowKit Go.Proofs.YtjbbigodkhnokaaDoorW.PrintWords Go.Proofs.YtjbbigodkhnokaaDoorW.PrintLast Go.Proofs.YtjbbigodkhnokaaDoorW.PrintMore
attribute [local go_sem] max2_int min2_int max_two min_two max_three min_three max_four min_four   -- for this text's walks alone
set_option linter.unusedVariables false
set_option linter.unusedSimpArgs false
attribute [local go_sem] run_add64_any
def fixed_fits.f (a0_0 : Int) (a0_1 : Int) (a1 : Bool) : Option (Int × Int × Int) := if a1 = true then (some (a0_0, a0_1, 0)) else (some (0, 0, 4))
set_option maxHeartbeats 8000000 in
set_option maxRecDepth 100000 in
theorem fixed_fits.calls (a0_0 : Int) (a0_1 : Int) (a1 : Bool) (r1 : Int) (r2 : Int) (r3 : Int) (w : World) (h : fixed_fits.f a0_0 a0_1 a1 = some (r1, r2, r3)) :
  Calls Tryd.prog 42 #[.agg #[.int .i64 a0_0, .int .u64 a0_1], .bool a1] w fun e w' => e = .returned (.tuple #[.agg #[.int .i64 r1, .int .u64 r2], .int .i64 r3]) ∧ Below w.heap.size w w' := by
 have hu35 := Tryd.underlying35
 have HB := A_ (Below.refl w.heap.size w)
 have H : (if a1 = true then (some (a0_0, a0_1, 0)) else (some (0, 0, 4))) = some (r1, r2, r3) := h
 clear h
 by_cases c3 : a1 = true
 ·
  subst c3
  have H1 : (some (a0_0, a0_1, 0)) = some (r1, r2, r3) := by rw [if_pos rfl] at H; exact H
  clear H
  have H := H1
  clear H1
  simp only [Option.some.injEq, Prod.mk.injEq] at H
  obtain ⟨rfl, rfl, rfl⟩ := H
  go_enter Tryd.func42, Tryd.ntmps42
  go_wp2_with (first | ((with_reducible refine gate_dst (N := 2) rfl ?_); refine box_event ?hg (N := 2) ?hd (cs := #[.int .i64 a0_0, .int .u64 a0_1]) (t := 35) ?hr ?_; (case hd => rfl); (case hg => rfl); (case hr => first | (go_simp; done) | (go_simp; rfl)); intro gb302 hg w4 hbox hb; have n0_ := A_ (bs_ bw_ hb); have n1_ := A_ (hbox); have n2_ := A_ ((by rw [hg]; exact (bz_ bw_) : w.heap.size ≤ gb302)); have n3_ := A_ ((by rw [hg]; exact (bz_ bw_) : w.heap.size ≤ gb302)); clear HB; have HB := n0_; have BK302 := n1_; have GW302 := n2_; have GE302 := n3_; clear n0_ n1_ n2_ n3_; clear hb hbox hg) | ((with_reducible refine gate_dst (N := 4) rfl ?_); refine box_event ?hg (N := 4) ?hd (cs := #[.int .i64 0, .int .u64 0]) (t := 35) ?hr ?_; (case hd => rfl); (case hg => rfl); (case hr => first | (go_simp; done) | (go_simp; rfl)); intro gb304 hg w5 hbox hb; have n0_ := A_ (kb_ BK302 hb); have n1_ := A_ (bs_ bw_ hb); have n2_ := A_ (hbox); have n3_ := A_ ((by rw [hg]; exact (bz_ bw_) : w.heap.size ≤ gb304)); have n4_ := A_ ((by rw [hg]; exact (bz_ bw_) : w.heap.size ≤ gb304)); have n5_ := A_ ((by rw [hg]; exact nl_ (lt_ BK302) : gb302 ≠ gb304)); have n6_ := A_ ((by rw [hg]; exact ng_ (lt_ BK302) : gb304 ≠ gb302)); clear BK302; clear HB; have BK302 := n0_; have HB := n1_; have BK304 := n2_; have GW304 := n3_; have GE304 := n4_; have NB302_304 := n5_; have NB304_302 := n6_; clear n0_ n1_ n2_ n3_ n4_ n5_ n6_; clear hb hbox hg; have hnb6 := NB302_304.out; have hnc6 := NB304_302.out; have hcz7_0 : w5.cell? ⟨gb302, 0, none⟩ = some (.int .i64 a0_0) := (bc_ BK302.out 0).trans rfl; have hcz7_1 : w5.cell? ⟨gb302, 1, none⟩ = some (.int .u64 a0_1) := (bc_ BK302.out 1).trans rfl; have hfz7_0 := bf_ BK302.out 0; have hfz7_1 := bf_ BK302.out 1; have hcz8_0 : w5.cell? ⟨gb304, 0, none⟩ = some (.int .i64 0) := (bc_ BK304.out 0).trans rfl; have hcz8_1 : w5.cell? ⟨gb304, 1, none⟩ = some (.int .u64 0) := (bc_ BK304.out 1).trans rfl; have hfz8_0 := bf_ BK304.out 0; have hfz8_1 := bf_ BK304.out 1))
  refine bodyPost_ret (results_ct rfl _ _ gb304 35 #[.int .i64 a0_0, .int .u64 a0_1] (0, 0) _ rfl (by (with_reducible repeat (first | refine bn_ ?_ _ | refine bd_ ?_ | refine ba_ ?_ _)); refine bp_ (cs := #[.int .i64 a0_0, .int .u64 0]) ?_ 1 _ rfl; (with_reducible repeat (first | refine bn_ ?_ _ | refine bd_ ?_ | refine ba_ ?_ _)); refine bp_ (cs := #[.int .i64 0, .int .u64 0]) ?_ 0 _ rfl; (with_reducible repeat (first | refine bn_ ?_ _ | refine bd_ ?_ | refine ba_ ?_ _)); exact BK304.out) Tryd.underlying35 rfl (by kernel_rfl)) rfl ?_
  exact ⟨by first | rfl | (simp [errW_none, errW_some] <;> rfl) | (simp [*, errW_none, errW_some] <;> rfl), bw_⟩
 ·
  replace c3 := Bool.eq_false_iff.mpr c3
  subst c3
  have H1 : (some (0, 0, 4)) = some (r1, r2, r3) := by rw [if_neg (show ¬ (false = true) by decide)] at H; exact H
  clear H
  have H := H1
  clear H1
  simp only [Option.some.injEq, Prod.mk.injEq] at H
  obtain ⟨rfl, rfl, rfl⟩ := H
  go_enter Tryd.func42, Tryd.ntmps42
  go_wp2_with (first | ((with_reducible refine gate_dst (N := 2) rfl ?_); refine box_event ?hg (N := 2) ?hd (cs := #[.int .i64 a0_0, .int .u64 a0_1]) (t := 35) ?hr ?_; (case hd => rfl); (case hg => rfl); (case hr => first | (go_simp; done) | (go_simp; rfl)); intro gb302 hg w9 hbox hb; have n0_ := A_ (bs_ bw_ hb); have n1_ := A_ (hbox); have n2_ := A_ ((by rw [hg]; exact (bz_ bw_) : w.heap.size ≤ gb302)); have n3_ := A_ ((by rw [hg]; exact (bz_ bw_) : w.heap.size ≤ gb302)); clear HB; have HB := n0_; have BK302 := n1_; have GW302 := n2_; have GE302 := n3_; clear n0_ n1_ n2_ n3_; clear hb hbox hg) | ((with_reducible refine gate_dst (N := 4) rfl ?_); refine box_event ?hg (N := 4) ?hd (cs := #[.int .i64 0, .int .u64 0]) (t := 35) ?hr ?_; (case hd => rfl); (case hg => rfl); (case hr => first | (go_simp; done) | (go_simp; rfl)); intro gb304 hg w10 hbox hb; have n0_ := A_ (kb_ BK302 hb); have n1_ := A_ (bs_ bw_ hb); have n2_ := A_ (hbox); have n3_ := A_ ((by rw [hg]; exact (bz_ bw_) : w.heap.size ≤ gb304)); have n4_ := A_ ((by rw [hg]; exact (bz_ bw_) : w.heap.size ≤ gb304)); have n5_ := A_ ((by rw [hg]; exact nl_ (lt_ BK302) : gb302 ≠ gb304)); have n6_ := A_ ((by rw [hg]; exact ng_ (lt_ BK302) : gb304 ≠ gb302)); clear BK302; clear HB; have BK302 := n0_; have HB := n1_; have BK304 := n2_; have GW304 := n3_; have GE304 := n4_; have NB302_304 := n5_; have NB304_302 := n6_; clear n0_ n1_ n2_ n3_ n4_ n5_ n6_; clear hb hbox hg; have hnb11 := NB304_302.out; have hnc11 := NB302_304.out; have hcz12_0 : w10.cell? ⟨gb304, 0, none⟩ = some (.int .i64 0) := (bc_ BK304.out 0).trans rfl; have hcz12_1 : w10.cell? ⟨gb304, 1, none⟩ = some (.int .u64 0) := (bc_ BK304.out 1).trans rfl; have hfz12_0 := bf_ BK304.out 0; have hfz12_1 := bf_ BK304.out 1))
  refine bodyPost_ret (results_ct rfl _ _ gb304 35 #[.int .i64 0, .int .u64 0] (0, 0) _ rfl (by (with_reducible repeat (first | refine bn_ ?_ _ | refine bd_ ?_ | refine ba_ ?_ _)); refine bp_ (cs := #[.int .i64 0, .int .u64 0]) ?_ 1 _ rfl; (with_reducible repeat (first | refine bn_ ?_ _ | refine bd_ ?_ | refine ba_ ?_ _)); refine bp_ (cs := #[.int .i64 0, .int .u64 0]) ?_ 0 _ rfl; (with_reducible repeat (first | refine bn_ ?_ _ | refine bd_ ?_ | refine ba_ ?_ _)); exact BK304.out) Tryd.underlying35 rfl (by kernel_rfl)) rfl ?_
  exact ⟨by first | rfl | (simp [errW_none, errW_some] <;> rfl) | (simp [*, errW_none, errW_some] <;> rfl), bw_⟩
end Go.Proofs.YtjbbigodkhnokaaDoor.Tr
end
section
namespace Go.Proofs.YtjbbigodkhnokaaDoor.Tr
open Go.RowKit Go.Proofs.YtjbbigodkhnokaaDoorW.PrintWords Go.Proofs.YtjbbigodkhnokaaDoorW.PrintLast Go.Proofs.YtjbbigodkhnokaaDoorW.PrintMore
attribute [local go_sem] max2_int min2_int max_two min_two max_three min_three max_four min_four   -- for this text's walks alone
set_option linter.unusedVariables false
set_option linter.unusedSimpArgs false
attribute [local go_sem] run_add64_any
set_option maxHeartbeats 1000000 in
theorem fixed_long_wide.walk (g : Nat) (s0_0 s0_1 s0_2 : Int) (w : World) (h0 : w.cell? ⟨g, 0, none⟩ = some (.int .i64 s0_0)) (h1 : w.cell? ⟨g, 1, none⟩ = some (.int .u64 s0_1)) (h2 : w.cell? ⟨g, 2, none⟩ = some (.int .u64 s0_2)) (hg : g < w.heap.size) :
  Calls Tryd.prog 43 #[.pointer (some ⟨g, 0, none⟩)] w fun e w' => e = .returned (.tuple #[.agg #[.int .i64 (wrap64 s0_1), .int .u64 s0_2], .bool (s0_0 == wrap64 s0_1 / 9223372036854775808)]) ∧ w' = ((w.alloc (.cells #[.int .i64 (wrap64 s0_1), .int .u64 s0_2] 35)).alloc (.cells #[.int .i64 (wrap64 s0_1), .int .u64 s0_2] 35)).drew.drew := by
 go_enter Tryd.func43, Tryd.ntmps43
 go_wp2
 go_region
 go_wp2
 go_region
 go_wp2
 refine bodyPost_ret (v := .tuple #[.agg #[.int .i64 (wrap64 s0_1), .int .u64 s0_2], .bool (s0_0 == wrap64 s0_1 / 9223372036854775808)]) (by simp [results, Tryd.results43, go_sem]) rfl ⟨rfl, rfl⟩
def longWide (s : Int × Int × Int) : Option (Int × Int × Int) := fixed_fits.f (wrap64 s.2.1) s.2.2 (s.1 == wrap64 s.2.1 / 9223372036854775808)
end Go.Proofs.YtjbbigodkhnokaaDoor.Tr
end
section
namespace Go.Proofs.YtjbbigodkhnokaaDoor.Tr
open Go.RowKit Go.Proofs.YtjbbigodkhnokaaDoorW.PrintWords Go.Proofs.YtjbbigodkhnokaaDoorW.PrintLast Go.Proofs.YtjbbigodkhnokaaDoorW.PrintMore
attribute [local go_sem] max2_int min2_int max_two min_two max_three min_three max_four min_four   -- for this text's walks alone
set_option linter.unusedVariables false
set_option linter.unusedSimpArgs false
attribute [local go_sem] run_add64_any
def longAll : List S35 → Int × Int × Int → Option (Int × Int × Int)
 | [], s => some s
 | a :: l, s => (fixed_long_add.f s.1 s.2.1 s.2.2 a.f0 a.f1).bind fun t => longAll l t
def fixed_Plus.f (l0 : List S35) : Option (Int × Int × Int) := (longAll l0 (0, 0, 0)).bind longWide
theorem longAll_step {l : List S35} {k : Nat} (hk : k < l.length) {s sf : Int × Int × Int} (h : longAll (l.drop k) s = some sf) :
  ∃ r1 r2 r3, fixed_long_add.f s.1 s.2.1 s.2.2 (rd_T35 l k).f0 (rd_T35 l k).f1 = some (r1, r2, r3) ∧ longAll (l.drop (k + 1)) (r1, r2, r3) = some sf := by
 rw [List.drop_eq_getElem_cons hk, longAll] at h
 obtain ⟨⟨r1, r2, r3⟩, h1, h2⟩ := os_ h
 have e : rd_T35 l k = l[k] := by simp [rd_T35, List.getD_eq_getElem?_getD, List.getElem?_eq_getElem hk]
 exact ⟨r1, r2, r3, by rw [e]; exact h1, h2⟩
set_option maxHeartbeats 2000000 in
theorem fixed_Plus.calls (A0 : Option Addr) (c0 : Nat) (l0 : List S35) (r1 r2 r3 : Int) (w : World) (hr0 : Kd.C k35 w A0 l0.length l0) (hc0 : l0.length ≤ c0) (h : fixed_Plus.f l0 = some (r1, r2, r3)) :
  Calls Tryd.prog 25 #[.slice A0 l0.length c0] w fun e w' => e = .returned (.tuple #[.agg #[.int .i64 r1, .int .u64 r2], .int .i64 r3]) ∧ Below w.heap.size w w' := by
 unfold fixed_Plus.f at h
 obtain ⟨⟨z1, z2, z3⟩, h1, h⟩ := os_ h
 have H1 := A_ h1
 have H := A_ h
 have HR := A_ hr0
 have hmax : l0.length ≤ 9223372036854775807 := Kd.C_max hr0
 clear h h1 hr0
 go_enter Tryd.func25, Tryd.ntmps25
 go_wp2
 go_loopw [9] (fun v9 wr => ∃ (k : Nat) (s1 s2 s3 : Int), k ≤ l0.length ∧ v9 = .int .i64 k ∧ Aside0 (longAll (l0.drop k) (s1, s2, s3) = some (z1, z2, z3)) ∧ Aside0 (wr.heap[w.heap.size + 1]? = some (.cells #[.int .i64 s1, .int .u64 s2, .int .u64 s3] 73 (0, 0))) ∧ Aside0 (wr.heap[w.heap.size]? = some (.cells #[.int .i64 0, .int .u64 0] 35 (0, 0))) ∧ Aside0 (Below w.heap.size w wr)) (fun v9 _ => l0.length - (intOf v9).toNat)
 case atStart => exact ⟨0, 0, 0, 0, Nat.zero_le _, rfl, H1, ⟨by simpa using heap_alloc_new (w.alloc (.cells #[.int .i64 0, .int .u64 0] 35)) _⟩, ⟨by rw [Below.heap_alloc _ _ _ (by simp)]; exact heap_alloc_new w _⟩, ⟨bl_ (bl_ (Below.refl _ _) _) _⟩⟩
 case round =>
  obtain ⟨k, s1, s2, s3, hk, rfl, HA, HX, HZ, HB⟩ := hrel
  have hx := HX.out
  have hx0 : wr.cell? ⟨w.heap.size + 1, 0, none⟩ = some (.int .i64 s1) := (bc_ hx 0).trans rfl
  have hx1 : wr.cell? ⟨w.heap.size + 1, 1, none⟩ = some (.int .u64 s2) := (bc_ hx 1).trans rfl
  have hx2 : wr.cell? ⟨w.heap.size + 1, 2, none⟩ = some (.int .u64 s3) := (bc_ hx 2).trans rfl
  have hf0 := bf_ hx 0
  have hf1 := bf_ hx 1
  have hf2 := bf_ hx 2
  have hlt : w.heap.size + 1 < wr.heap.size := blk_lt hx
  clear hx
  by_cases hkl : k < l0.length
  ·
   obtain ⟨r1', r2', r3', ha, hn⟩ := longAll_step hkl HA.out
   have HAd := A_ ha
   have HAn := A_ hn
   clear ha hn
   obtain ⟨ad, rfl, he0, he1⟩ := at_T35 (cb_ HR.out HB.out) (k : Int) (by omega) (by omega)
   simp only [Int.toNat_natCast] at he0 he1
   go_wp2_with (go_at_call 41; refine (fixed_long_add.walkf (w.heap.size + 1) s1 s2 s3 _ _ r1' r2' r3' _ HAd.out ?c0 ?c1 ?c2 ?f0 ?f1 ?f2 ?g).mono ?_; (case c0 => go_simp); (case c1 => go_simp); (case c2 => go_simp); (case f0 => go_simp); (case f1 => go_simp); (case f2 => go_simp); (case g => (simp; omega)); rintro e w' ⟨rfl, rfl⟩)
   go_roundw
   case rel =>
    refine ⟨k + 1, r1', r2', r3', by omega, by go_num, HAn, ⟨?_⟩, ⟨?_⟩, ⟨?_⟩⟩
    ·
     refine bd_ (bd_ (bd_ (ba_ (ba_ ?_ _) _)))
     exact bp_ (bp_ (bp_ HX.out 2 _ rfl) 1 _ rfl) 0 _ rfl
    ·
     refine bd_ (bd_ (bd_ (ba_ (ba_ ?_ _) _)))
     exact br_ (br_ (br_ HZ.out (by simp) _) (by simp) _) (by simp) _
    ·
     exact b1_ (b1_ (b1_ (bl_ (bl_ (bt_ (bt_ (bt_ HB.out (by omega)) (by omega)) (by omega)) _) _)))
   case measure => simp [intOf]; omega
  ·
   obtain rfl : k = l0.length := by omega
   have e : longAll (l0.drop l0.length) (s1, s2, s3) = some (s1, s2, s3) := by rw [List.drop_length]; rfl
   have hh := Option.some.inj (e.symm.trans HA.out)
   simp only [Prod.mk.injEq] at hh
   obtain ⟨rfl, rfl, rfl⟩ := hh
   have hz := HZ.out
   have hz0 : wr.cell? ⟨w.heap.size, 0, none⟩ = some (.int .i64 0) := (bc_ hz 0).trans rfl
   have hz1 : wr.cell? ⟨w.heap.size, 1, none⟩ = some (.int .u64 0) := (bc_ hz 1).trans rfl
   have hy0 := bf_ hz 0
   have hy1 := bf_ hz 1
   have hlz : w.heap.size < wr.heap.size := blk_lt hz
   clear hz e
   go_wp2_with fail
   refine (fixed_long_wide.walk (w.heap.size + 1) s1 s2 s3 _ hx0 hx1 hx2 hlt).mono ?_
   rintro e w' ⟨rfl, rfl⟩
   go_wp2_with fail
   refine (fixed_fits.calls _ _ _ _ _ _ _ H.out).mono ?_
   rintro e w' ⟨rfl, hb⟩
   have hall : Below wr.heap.size wr w' := below_weaken (by repeat (first | exact Below.refl _ _ | apply b1_ | apply bl_)) (by simp; omega) hb
   have q0 := pw_cell_below hall hz0
   have q1 := pw_cell_below hall hz1
   have y0 := (hall.frozen (p := ⟨w.heap.size, 0, none⟩) hlz).trans hy0
   have y1 := (hall.frozen (p := ⟨w.heap.size, 1, none⟩) hlz).trans hy1
   have hs := hall.size
   have hB := A_ (below_weaken HB.out HB.out.size hall)
   clear hb hall hx0 hx1 hx2 hz0 hz1 hf0 hf1 hf2 hy0 hy1
   go_wp2
   refine bodyPost_ret (v := .tuple #[.agg #[.int .i64 r1, .int .u64 r2], .int .i64 r3]) (by simp [results, Tryd.results25, go_sem, q0, q1]) rfl ⟨rfl, ?_⟩
   exact bt_ (bt_ hB.out (Nat.le_refl _)) (Nat.le_refl _)
end Go.Proofs.YtjbbigodkhnokaaDoor.Tr
end
section
namespace Go.Proofs.YtjbbigodkhnokaaDoor.Tr
open Go.RowKit Go.Proofs.YtjbbigodkhnokaaDoorW.PrintWords Go.Proofs.YtjbbigodkhnokaaDoorW.PrintLast Go.Proofs.YtjbbigodkhnokaaDoorW.PrintMore
attribute [local go_sem] max2_int min2_int max_two min_two max_three min_three max_four min_four   -- for this text's walks alone
set_option linter.unusedVariables false
set_option linter.unusedSimpArgs false
attribute [local go_sem] run_add64_any
def clevislaw07_Of.f (a0_0 : Int) (a0_1 : ByteArray) (a0_2 : ByteArray) (a0_3 : ByteArray) (a0_4 : Int) (a0_5 : Int) : Option (Int × ByteArray × ByteArray × ByteArray × Int × Int) := some (a0_0, a0_1, a0_2, a0_3, a0_4, a0_5)
set_option maxHeartbeats 8000000 in
set_option maxRecDepth 100000 in
theorem clevislaw07_Of.calls (a0_0 : Int) (a0_1 : ByteArray) (a0_2 : ByteArray) (a0_3 : ByteArray) (a0_4 : Int) (a0_5 : Int) (r1 : Int) (r2 : ByteArray) (r3 : ByteArray) (r4 : ByteArray) (r5 : Int) (r6 : Int) (w : World) (h : clevislaw07_Of.f a0_0 a0_1 a0_2 a0_3 a0_4 a0_5 = some (r1, r2, r3, r4, r5, r6)) :
  Calls Tryd.prog 14 #[.agg #[.int .i64 a0_0, .string a0_1, .string a0_2, .string a0_3, .int .i64 a0_4, .int .i64 a0_5]] w fun e w' => e = .returned (.agg #[.int .i64 r1, .string r2, .string r3, .string r4, .int .i64 r5, .int .i64 r6]) ∧ Below w.heap.size w w' := by
 have hu28 := Tryd.underlying28
 have hu30 := Tryd.underlying30
 have HB := A_ (Below.refl w.heap.size w)
 have H : (some (a0_0, a0_1, a0_2, a0_3, a0_4, a0_5)) = some (r1, r2, r3, r4, r5, r6) := h
 clear h
 simp only [Option.some.injEq, Prod.mk.injEq] at H
 obtain ⟨rfl, rfl, rfl, rfl, rfl, rfl⟩ := H
 go_enter Tryd.func14, Tryd.ntmps14
 go_wp2_with (first | ((with_reducible refine gate_dst (N := 1) rfl ?_); refine box_event ?hg (N := 1) ?hd (cs := #[.int .i64 a0_0, .string a0_1, .string a0_2, .string a0_3, .int .i64 a0_4, .int .i64 a0_5]) (t := 28) ?hr ?_; (case hd => rfl); (case hg => rfl); (case hr => first | (go_simp; done) | (go_simp; rfl)); intro gb301 hg w2 hbox hb; have n0_ := A_ (bs_ bw_ hb); have n1_ := A_ (hbox); have n2_ := A_ ((by rw [hg]; exact (bz_ bw_) : w.heap.size ≤ gb301)); have n3_ := A_ ((by rw [hg]; exact (bz_ bw_) : w.heap.size ≤ gb301)); clear HB; have HB := n0_; have BK301 := n1_; have GW301 := n2_; have GE301 := n3_; clear n0_ n1_ n2_ n3_; clear hb hbox hg) | ((with_reducible refine gate_dst (N := 2) rfl ?_); refine box_event ?hg (N := 2) ?hd (cs := #[.int .i64 0, .string (⟨#[]⟩ : ByteArray), .string (⟨#[]⟩ : ByteArray), .string (⟨#[]⟩ : ByteArray), .int .i64 0, .int .i64 0]) (t := 30) ?hr ?_; (case hd => rfl); (case hg => rfl); (case hr => first | (go_simp; done) | (go_simp; rfl)); intro gb302 hg w3 hbox hb; have n0_ := A_ (kb_ BK301 hb); have n1_ := A_ (bs_ bw_ hb); have n2_ := A_ (hbox); have n3_ := A_ ((by rw [hg]; exact (bz_ bw_) : w.heap.size ≤ gb302)); have n4_ := A_ ((by rw [hg]; exact (bz_ bw_) : w.heap.size ≤ gb302)); have n5_ := A_ ((by rw [hg]; exact nl_ (lt_ BK301) : gb301 ≠ gb302)); have n6_ := A_ ((by rw [hg]; exact ng_ (lt_ BK301) : gb302 ≠ gb301)); clear BK301; clear HB; have BK301 := n0_; have HB := n1_; have BK302 := n2_; have GW302 := n3_; have GE302 := n4_; have NB301_302 := n5_; have NB302_301 := n6_; clear n0_ n1_ n2_ n3_ n4_ n5_ n6_; clear hb hbox hg; have hnb4 := NB301_302.out; have hnc4 := NB302_301.out; have hcz5_0 : w3.cell? ⟨gb301, 0, none⟩ = some (.int .i64 a0_0) := (bc_ BK301.out 0).trans rfl; have hcz5_1 : w3.cell? ⟨gb301, 1, none⟩ = some (.string a0_1) := (bc_ BK301.out 1).trans rfl; have hcz5_2 : w3.cell? ⟨gb301, 2, none⟩ = some (.string a0_2) := (bc_ BK301.out 2).trans rfl; have hcz5_3 : w3.cell? ⟨gb301, 3, none⟩ = some (.string a0_3) := (bc_ BK301.out 3).trans rfl; have hcz5_4 : w3.cell? ⟨gb301, 4, none⟩ = some (.int .i64 a0_4) := (bc_ BK301.out 4).trans rfl; have hcz5_5 : w3.cell? ⟨gb301, 5, none⟩ = some (.int .i64 a0_5) := (bc_ BK301.out 5).trans rfl; have hfz5_0 := bf_ BK301.out 0; have hfz5_1 := bf_ BK301.out 1; have hfz5_2 := bf_ BK301.out 2; have hfz5_3 := bf_ BK301.out 3; have hfz5_4 := bf_ BK301.out 4; have hfz5_5 := bf_ BK301.out 5; have hcz6_0 : w3.cell? ⟨gb302, 0, none⟩ = some (.int .i64 0) := (bc_ BK302.out 0).trans rfl; have hcz6_1 : w3.cell? ⟨gb302, 1, none⟩ = some (.string (⟨#[]⟩ : ByteArray)) := (bc_ BK302.out 1).trans rfl; have hcz6_2 : w3.cell? ⟨gb302, 2, none⟩ = some (.string (⟨#[]⟩ : ByteArray)) := (bc_ BK302.out 2).trans rfl; have hcz6_3 : w3.cell? ⟨gb302, 3, none⟩ = some (.string (⟨#[]⟩ : ByteArray)) := (bc_ BK302.out 3).trans rfl; have hcz6_4 : w3.cell? ⟨gb302, 4, none⟩ = some (.int .i64 0) := (bc_ BK302.out 4).trans rfl; have hcz6_5 : w3.cell? ⟨gb302, 5, none⟩ = some (.int .i64 0) := (bc_ BK302.out 5).trans rfl; have hfz6_0 := bf_ BK302.out 0; have hfz6_1 := bf_ BK302.out 1; have hfz6_2 := bf_ BK302.out 2; have hfz6_3 := bf_ BK302.out 3; have hfz6_4 := bf_ BK302.out 4; have hfz6_5 := bf_ BK302.out 5))
 refine bodyPost_ret (results_cell_row rfl _ _ gb302 30 #[.int .i64 a0_0, .string a0_1, .string a0_2, .string a0_3, .int .i64 a0_4, .int .i64 a0_5] (0, 0) _ rfl (by (with_reducible repeat (first | refine bn_ ?_ _ | refine bd_ ?_ | refine ba_ ?_ _)); refine bp_ (cs := #[.int .i64 a0_0, .string a0_1, .string a0_2, .string a0_3, .int .i64 a0_4, .int .i64 0]) ?_ 5 _ rfl; (with_reducible repeat (first | refine bn_ ?_ _ | refine bd_ ?_ | refine ba_ ?_ _)); refine bp_ (cs := #[.int .i64 a0_0, .string a0_1, .string a0_2, .string a0_3, .int .i64 0, .int .i64 0]) ?_ 4 _ rfl; (with_reducible repeat (first | refine bn_ ?_ _ | refine bd_ ?_ | refine ba_ ?_ _)); refine bp_ (cs := #[.int .i64 a0_0, .string a0_1, .string a0_2, .string (⟨#[]⟩ : ByteArray), .int .i64 0, .int .i64 0]) ?_ 3 _ rfl; (with_reducible repeat (first | refine bn_ ?_ _ | refine bd_ ?_ | refine ba_ ?_ _)); refine bp_ (cs := #[.int .i64 a0_0, .string a0_1, .string (⟨#[]⟩ : ByteArray), .string (⟨#[]⟩ : ByteArray), .int .i64 0, .int .i64 0]) ?_ 2 _ rfl; (with_reducible repeat (first | refine bn_ ?_ _ | refine bd_ ?_ | refine ba_ ?_ _)); refine bp_ (cs := #[.int .i64 a0_0, .string (⟨#[]⟩ : ByteArray), .string (⟨#[]⟩ : ByteArray), .string (⟨#[]⟩ : ByteArray), .int .i64 0, .int .i64 0]) ?_ 1 _ rfl; (with_reducible repeat (first | refine bn_ ?_ _ | refine bd_ ?_ | refine ba_ ?_ _)); refine bp_ (cs := #[.int .i64 0, .string (⟨#[]⟩ : ByteArray), .string (⟨#[]⟩ : ByteArray), .string (⟨#[]⟩ : ByteArray), .int .i64 0, .int .i64 0]) ?_ 0 _ rfl; (with_reducible repeat (first | refine bn_ ?_ _ | refine bd_ ?_ | refine ba_ ?_ _)); exact BK302.out) Tryd.underlying30 rfl (by kernel_rfl)) rfl ?_
 exact ⟨by first | rfl | (simp [errW_none, errW_some] <;> rfl) | (simp [*, errW_none, errW_some] <;> rfl), bw_⟩
end Go.Proofs.YtjbbigodkhnokaaDoor.Tr
end
section
namespace Go.Proofs.YtjbbigodkhnokaaDoor.Tr
open Go.RowKit Go.Proofs.YtjbbigodkhnokaaDoorW.PrintWords Go.Proofs.YtjbbigodkhnokaaDoorW.PrintLast Go.Proofs.YtjbbigodkhnokaaDoorW.PrintMore
attribute [local go_sem] max2_int min2_int max_two min_two max_three min_three max_four min_four   -- for this text's walks alone
set_option linter.unusedVariables false
set_option linter.unusedSimpArgs false
attribute [local go_sem] run_add64_any
def trade_Total.l0 : Nat → List (S35) → List (S28) → Int → Int → Option (Int × Int × Int)
 | 0, _, _, _, _ => none
 | k + 1, x4, x7, x8, x9 => if x9 < x8 then (if 0 ≤ x9 then (if x9 < (x7.length : Int) then ((trade_Value.f ((rd_T28 x7 x9).f0) ((rd_T28 x7 x9).f1) ((rd_T28 x7 x9).f2) ((rd_T28 x7 x9).f3) ((rd_T28 x7 x9).f4) ((rd_T28 x7 x9).f5)).bind fun bt218 => (if x4.length < 8796093022208 then (trade_Total.l0 k (x4 ++ [(⟨bt218.1, bt218.2⟩ : S35)]) x7 x8 (wrap64 (x9 + 1))) else (none))) else (none)) else (none)) else ((fixed_Plus.f x4).bind fun bt223 => (some (bt223.1, bt223.2.1, bt223.2.2)))
def trade_Total.f (k : Nat) (l0 : List (S28)) : Option (Int × Int × Int) := trade_Total.l0 k ([] : List (S35)) l0 (l0.length : Int) 0
set_option maxHeartbeats 8000000 in
set_option maxRecDepth 100000 in
theorem trade_Total.calls (k : Nat) (A0 : Option Addr) (c0 : Nat) (l0 : List (S28)) (r1 : Int) (r2 : Int) (r3 : Int) (w : World) (hr0 : Kd.C k28 w A0 l0.length l0) (hc0 : l0.length ≤ c0) (h : trade_Total.f k l0 = some (r1, r2, r3)) :
  Calls Tryd.prog 9 #[.slice A0 l0.length c0] w fun e w' => e = .returned (.tuple #[.agg #[.int .i64 r1, .int .u64 r2], .int .i64 r3]) ∧ Below w.heap.size w w' := by
 have hu35 := Tryd.underlying35
 have hu28 := Tryd.underlying28
 have HR0 := A_ hr0
 have HC0 := A_ hc0
 clear hr0 hc0
 have HB := A_ (Below.refl w.heap.size w)
 have H : (trade_Total.l0 k ([] : List (S35)) l0 (l0.length : Int) 0) = some (r1, r2, r3) := h
 clear h
 have H' := A_ H
 clear H
 go_enter Tryd.func9, Tryd.ntmps9
 go_wp2_with (first | ((with_reducible refine gate_dst (N := 2) rfl ?_); refine box_event ?hg (N := 2) ?hd (cs := #[.int .i64 0, .int .u64 0]) (t := 35) ?hr ?_; (case hd => rfl); (case hg => rfl); (case hr => first | (go_simp; done) | (go_simp; rfl)); intro gb302 hg w2 hbox hb; have n0_ := A_ (bs_ bw_ hb); have n1_ := A_ (hbox); have n2_ := A_ ((by rw [hg]; exact (bz_ bw_) : w.heap.size ≤ gb302)); have n3_ := A_ ((by rw [hg]; exact (bz_ bw_) : w.heap.size ≤ gb302)); clear HB; have HB := n0_; have BK302 := n1_; have GW302 := n2_; have GE302 := n3_; clear n0_ n1_ n2_ n3_; clear hb hbox hg))
 (try simp only [Act.put, sA_, sZ_, sS_])
 go_loopg [4, 9] k (fun kq v4 v9 w' => ∃ (x4_1 : List (S35)) (x9_1 : Int), v9 = .int .i64 x9_1 ∧ Aside0 (trade_Total.l0 kq x4_1 l0 (l0.length : Int) x9_1 = some (r1, r2, r3)) ∧ Aside0 (kq ≤ k) ∧ Aside0 (Kd.R k35 35 w' w.heap.size (fun k_ => k_ ≠ gb302) v4 x4_1) ∧ Aside0 (w'.heap[gb302]? = some (.cells #[.int .i64 0, .int .u64 0] 35 (0, 0))) ∧ Aside0 (Below w.heap.size w w'))
 case atStart => exact ⟨(([] : List (S35))), (0), (by first | rfl | (simp; done) | (simp [*]; done)), H', ⟨Nat.le_refl _⟩, ⟨by first | exact Kd.R_nil _ _ _ _ _ | exact Kd.N_nil _ _ _ _ _ | exact Kd.V_nil _ _ _ _ _ | exact Kd.Q_nil _ _ _ _ _ | exact Kd.S_nil _ _ _ _ _⟩, ⟨bk_⟩, ⟨bw_⟩⟩
 case round =>
  clear H'
  try clear p2
  obtain ⟨x4_1, x9_1, rfl, HA, HK1, HO_4, BK302, HB⟩ := hrel
  cases gk with
  | zero => exact absurd HA.out (by simp [trade_Total.l0])
  | succ k1 =>
   have H := HA.out
   clear HA
   simp only [trade_Total.l0] at H
   by_cases c3 : x9_1 < (l0.length : Int)
   ·
    rw [if_pos c3] at H
    have c3b0 : decide (x9_1 < (l0.length : Int)) = true := decide_eq_true c3
    clear c3
    by_cases c4 : 0 ≤ x9_1
    ·
     rw [if_pos c4] at H
     have c4b0 : decide (0 ≤ x9_1) = true := decide_eq_true c4
     clear c4
     by_cases c5 : x9_1 < (l0.length : Int)
     ·
      rw [if_pos c5] at H
      have c5b0 : decide (x9_1 < (l0.length : Int)) = true := decide_eq_true c5
      clear c5
      replace H := os_ H
      obtain ⟨⟨t218, t219⟩, A60, H⟩ := H
      replace H : (if x4_1.length < 8796093022208 then (trade_Total.l0 k1 (x4_1 ++ [(⟨t218, t219⟩ : S35)]) l0 (l0.length : Int) (wrap64 (x9_1 + 1))) else (none)) = some (r1, r2, r3) := H
      have A6 := A_ A60
      clear A60
      by_cases c7 : x4_1.length < 8796093022208
      ·
       rw [if_pos c7] at H
       have LMc7 := A_ c7
       clear c7
       obtain ⟨y220, hy220⟩ : ∃ y_ : List (S35), y_ = (x4_1 ++ [(⟨t218, t219⟩ : S35)]) := ⟨_, rfl⟩
       replace H : (trade_Total.l0 k1 y220 l0 (l0.length : Int) (wrap64 (x9_1 + 1))) = some (r1, r2, r3) := by first | (rw [hy220]; with_reducible exact H) | (have H2_ := (Option.bind_some _ _).symm.trans H; rw [hy220]; with_reducible exact H2_) | (have H2_ := (Option.bind_some _ _).symm.trans H; with_reducible exact H2_) | with_reducible exact H | (rw [hy220]; exact H) | exact H
       have Ny220 := A_ hy220
       clear hy220
       have H' := A_ H
       clear H
       have p217 : 0 ≤ (x9_1 : Int) := od_ (by first | (with_reducible assumption) | assumption)
       have q217 : x9_1 < (l0.length : Int) := od_ (by first | (with_reducible assumption) | assumption)
       obtain ⟨ad217, e217, hx217_0, hx217_1, hx217_2, hx217_3, hx217_4, hx217_5⟩ := at_T28 HR0.out x9_1 p217 q217
       cases e217
       replace hx217_0 := (HB.out.cell (World.block_lt_of_cell? w _ hx217_0)).trans hx217_0
       replace hx217_1 := (HB.out.cell (World.block_lt_of_cell? w _ hx217_1)).trans hx217_1
       replace hx217_2 := (HB.out.cell (World.block_lt_of_cell? w _ hx217_2)).trans hx217_2
       replace hx217_3 := (HB.out.cell (World.block_lt_of_cell? w _ hx217_3)).trans hx217_3
       replace hx217_4 := (HB.out.cell (World.block_lt_of_cell? w _ hx217_4)).trans hx217_4
       replace hx217_5 := (HB.out.cell (World.block_lt_of_cell? w _ hx217_5)).trans hx217_5
       replace p217 := eq_true p217
       replace q217 := eq_true q217
       go_wp2_with (first | ((with_reducible refine gate_dst (N := 6) rfl ?_); refine box_event ?hg (N := 6) ?hd (cs := #[.int .i64 0, .string (⟨#[]⟩ : ByteArray), .string (⟨#[]⟩ : ByteArray), .string (⟨#[]⟩ : ByteArray), .int .i64 0, .int .i64 0]) (t := 28) ?hr ?_; (case hd => rfl); (case hg => rfl); (case hr => first | (go_simp; done) | (go_simp; rfl)); intro gb306 hg w8 hbox hb; have n0_ := A_ (Kd.R_below (by (with_reducible repeat (first | apply Kd.R_alloc | apply Kd.R_drewN | apply Kd.R_drew)); exact HO_4.out) hb); have n1_ := A_ (kb_ BK302 hb); have n2_ := A_ (bs_ bw_ hb); have n3_ := A_ (hbox); have n4_ := A_ ((by rw [hg]; exact (bz_ bw_) : w.heap.size ≤ gb306)); have n5_ := A_ ((by rw [hg]; exact (bz_ bw_) : w.heap.size ≤ gb306)); have n6_ := A_ ((by rw [hg]; exact nl_ (lt_ BK302) : gb302 ≠ gb306)); have n7_ := A_ ((by rw [hg]; exact ng_ (lt_ BK302) : gb306 ≠ gb302)); clear HO_4; clear BK302; clear HB; have HO_4 := n0_; have BK302 := n1_; have HB := n2_; have BK306 := n3_; have GW306 := n4_; have GE306 := n5_; have NB302_306 := n6_; have NB306_302 := n7_; clear n0_ n1_ n2_ n3_ n4_ n5_ n6_ n7_; clear hb hbox hg; have hnb9 := NB306_302.out; have hnc9 := NB302_306.out; have hcz10_0 : w8.cell? ⟨gb306, 0, none⟩ = some (.int .i64 0) := (bc_ BK306.out 0).trans rfl; have hcz10_1 : w8.cell? ⟨gb306, 1, none⟩ = some (.string (⟨#[]⟩ : ByteArray)) := (bc_ BK306.out 1).trans rfl; have hcz10_2 : w8.cell? ⟨gb306, 2, none⟩ = some (.string (⟨#[]⟩ : ByteArray)) := (bc_ BK306.out 2).trans rfl; have hcz10_3 : w8.cell? ⟨gb306, 3, none⟩ = some (.string (⟨#[]⟩ : ByteArray)) := (bc_ BK306.out 3).trans rfl; have hcz10_4 : w8.cell? ⟨gb306, 4, none⟩ = some (.int .i64 0) := (bc_ BK306.out 4).trans rfl; have hcz10_5 : w8.cell? ⟨gb306, 5, none⟩ = some (.int .i64 0) := (bc_ BK306.out 5).trans rfl; have hfz10_0 := bf_ BK306.out 0; have hfz10_1 := bf_ BK306.out 1; have hfz10_2 := bf_ BK306.out 2; have hfz10_3 := bf_ BK306.out 3; have hfz10_4 := bf_ BK306.out 4; have hfz10_5 := bf_ BK306.out 5) | ((with_reducible refine gate_callee (f := 17) rfl ?_); refine goesL_ (some 15) rfl rfl Tryd.func17 (by kernel_rfl) rfl #[.agg #[.int .i64 ((rd_T28 l0 x9_1).f0), .string ((rd_T28 l0 x9_1).f1), .string ((rd_T28 l0 x9_1).f2), .string ((rd_T28 l0 x9_1).f3), .int .i64 ((rd_T28 l0 x9_1).f4), .int .i64 ((rd_T28 l0 x9_1).f5)]] rfl (by (try simp only [List.map_toArray, List.map_cons, List.map_nil]); first | done | rfl | (simp only [List.length_drop, List.length_take]; rfl)) ?_; (with_reducible refine (trade_Value.calls ((rd_T28 l0 x9_1).f0) ((rd_T28 l0 x9_1).f1) ((rd_T28 l0 x9_1).f2) ((rd_T28 l0 x9_1).f3) ((rd_T28 l0 x9_1).f4) ((rd_T28 l0 x9_1).f5) t218 t219 _ A6.out).mono ?_); rintro e w11 ⟨rfl, hb⟩; refine ⟨_, rfl, ?_⟩; have n0_ := A_ (Kd.R_below (by (with_reducible repeat (first | apply Kd.R_alloc | apply Kd.R_drewN | apply Kd.R_drew)); exact (Kd.R_mono (Kd.R_far (p := ⟨gb306, 5, none⟩) (Kd.R_far (p := ⟨gb306, 4, none⟩) (Kd.R_far (p := ⟨gb306, 3, none⟩) (Kd.R_far (p := ⟨gb306, 2, none⟩) (Kd.R_far (p := ⟨gb306, 1, none⟩) (Kd.R_far (p := ⟨gb306, 0, none⟩) (Kd.R_types HO_4.out BK306.out (by decide)) (fun _ hk => hk.2) (.int .i64 ((rd_T28 l0 x9_1).f0))) (fun _ hk => hk.2) (.string ((rd_T28 l0 x9_1).f1))) (fun _ hk => hk.2) (.string ((rd_T28 l0 x9_1).f2))) (fun _ hk => hk.2) (.string ((rd_T28 l0 x9_1).f3))) (fun _ hk => hk.2) (.int .i64 ((rd_T28 l0 x9_1).f4))) (fun _ hk => hk.2) (.int .i64 ((rd_T28 l0 x9_1).f5))) (fun _ h_ => h_.1))) hb); have n1_ := A_ (kb_ BK302 hb); have n2_ := A_ (blk_below (g := gb306) (o := .cells #[.int .i64 ((rd_T28 l0 x9_1).f0), .string ((rd_T28 l0 x9_1).f1), .string ((rd_T28 l0 x9_1).f2), .string ((rd_T28 l0 x9_1).f3), .int .i64 ((rd_T28 l0 x9_1).f4), .int .i64 ((rd_T28 l0 x9_1).f5)] 28 (0, 0)) (by (with_reducible repeat (first | refine bn_ ?_ _ | refine bd_ ?_ | refine ba_ ?_ _)); refine bp_ (cs := #[.int .i64 ((rd_T28 l0 x9_1).f0), .string ((rd_T28 l0 x9_1).f1), .string ((rd_T28 l0 x9_1).f2), .string ((rd_T28 l0 x9_1).f3), .int .i64 ((rd_T28 l0 x9_1).f4), .int .i64 0]) ?_ 5 _ rfl; (with_reducible repeat (first | refine bn_ ?_ _ | refine bd_ ?_ | refine ba_ ?_ _)); refine bp_ (cs := #[.int .i64 ((rd_T28 l0 x9_1).f0), .string ((rd_T28 l0 x9_1).f1), .string ((rd_T28 l0 x9_1).f2), .string ((rd_T28 l0 x9_1).f3), .int .i64 0, .int .i64 0]) ?_ 4 _ rfl; (with_reducible repeat (first | refine bn_ ?_ _ | refine bd_ ?_ | refine ba_ ?_ _)); refine bp_ (cs := #[.int .i64 ((rd_T28 l0 x9_1).f0), .string ((rd_T28 l0 x9_1).f1), .string ((rd_T28 l0 x9_1).f2), .string (⟨#[]⟩ : ByteArray), .int .i64 0, .int .i64 0]) ?_ 3 _ rfl; (with_reducible repeat (first | refine bn_ ?_ _ | refine bd_ ?_ | refine ba_ ?_ _)); refine bp_ (cs := #[.int .i64 ((rd_T28 l0 x9_1).f0), .string ((rd_T28 l0 x9_1).f1), .string (⟨#[]⟩ : ByteArray), .string (⟨#[]⟩ : ByteArray), .int .i64 0, .int .i64 0]) ?_ 2 _ rfl; (with_reducible repeat (first | refine bn_ ?_ _ | refine bd_ ?_ | refine ba_ ?_ _)); refine bp_ (cs := #[.int .i64 ((rd_T28 l0 x9_1).f0), .string (⟨#[]⟩ : ByteArray), .string (⟨#[]⟩ : ByteArray), .string (⟨#[]⟩ : ByteArray), .int .i64 0, .int .i64 0]) ?_ 1 _ rfl; (with_reducible repeat (first | refine bn_ ?_ _ | refine bd_ ?_ | refine ba_ ?_ _)); refine bp_ (cs := #[.int .i64 0, .string (⟨#[]⟩ : ByteArray), .string (⟨#[]⟩ : ByteArray), .string (⟨#[]⟩ : ByteArray), .int .i64 0, .int .i64 0]) ?_ 0 _ rfl; (with_reducible repeat (first | refine bn_ ?_ _ | refine bd_ ?_ | refine ba_ ?_ _)); exact BK306.out) hb); have n3_ := A_ (bs_ bw_ hb); clear HO_4; clear BK302; clear BK306; clear HB; have HO_4 := n0_; have BK302 := n1_; have BK306 := n2_; have HB := n3_; clear n0_ n1_ n2_ n3_; (try clear hb); (try clear hb2); (try clear hk); (try clear hi)) | ((with_reducible refine gate_builtin (b := .append) (xs := #[.tmp 13, .tmp 16]) rfl ?_); at_builtin; refine Kd.R_append k35 (w0 := w) w.heap.size rfl (.tmp 13) (.tmp 16) 57 35 (.agg #[(.int .i64 0), (.int .u64 0)]) 16 rfl Tryd.underlying57 info35 rfl (by decide) (by omega) u4 x4_1 (⟨t218, t219⟩ : S35) [.int .i64 t218, .int .u64 t219] (fun k_ => k_ ≠ gb302) (fun _ => False) rfl rfl ?aP (fun _ hk => hk.elim) ?aF ?aO ?aB ?aS ?aL ?_; (case aP => exact k35_mkM _ _ _ (⟨t218, t219⟩ : S35)); (case aB => exact bw_); (case aF => exact (fun k_ hk => Kd.freshB (g := gb302) (o := .cells #[.int .i64 0, .int .u64 0] 35 (0, 0)) bk_ k_ hk)); (case aO => exact (by (with_reducible repeat (first | apply Kd.R_alloc | apply Kd.R_drewN | apply Kd.R_drew)); exact HO_4.out)); (case aS => exact (bz_ bw_)); (case aL => have := LMc7.out; omega); intro v221 w12 ho hb hg hat; rw [← Ny220.out] at ho; have n0_ := A_ (blk_grown (g := gb302) (o := .cells #[.int .i64 0, .int .u64 0] 35 (0, 0)) bk_ hg (Kd.R_away HO_4.out (fun _ hk => hk))); have n1_ := A_ (blk_grown (g := gb306) (o := .cells #[.int .i64 ((rd_T28 l0 x9_1).f0), .string ((rd_T28 l0 x9_1).f1), .string ((rd_T28 l0 x9_1).f2), .string ((rd_T28 l0 x9_1).f3), .int .i64 ((rd_T28 l0 x9_1).f4), .int .i64 ((rd_T28 l0 x9_1).f5)] 28 (0, 0)) bk_ hg (Kd.R_ne HO_4.out BK306.out (by decide))); have n2_ := A_ (hb); have n3_ := A_ (ho); clear BK302; clear BK306; clear HB; clear HO_4; have BK302 := n0_; have BK306 := n1_; have HB := n2_; have HO222 := n3_; clear n0_ n1_ n2_ n3_; clear ho hb hg hat))
       go_roundg k1
       case measure => have := HK1.out; omega
       case rel => exact ⟨(y220), (wrap64 (x9_1 + 1)), (by first | rfl | (simp; done) | (simp [*]; done)), H', ⟨by have := HK1.out; omega⟩, ⟨by (with_reducible repeat (first | apply Kd.R_alloc | apply Kd.R_drewN | apply Kd.R_drew)); exact HO222.out⟩, ⟨bk_⟩, ⟨bw_⟩⟩
      ·
       rw [if_neg c7] at H
       exact absurd H (by simp)
     ·
      rw [if_neg c5] at H
      exact absurd H (by simp)
    ·
     rw [if_neg c4] at H
     exact absurd H (by simp)
   ·
    rw [if_neg c3] at H
    have c3b0 : decide (x9_1 < (l0.length : Int)) = false := decide_eq_false c3
    clear c3
    replace H := os_ H
    obtain ⟨⟨t223, t224, t225⟩, A130, H⟩ := H
    replace H : (some (t223, t224, t225)) = some (r1, r2, r3) := H
    have A13 := A_ A130
    clear A130
    simp only [Option.some.injEq, Prod.mk.injEq] at H
    obtain ⟨rfl, rfl, rfl⟩ := H
    obtain ⟨Ao14, co14, eo14⟩ := Kd.R_slice HO_4.out
    subst eo14
    go_wp2_with (first | ((with_reducible refine gate_callee (f := 25) rfl ?_); refine goesL_ (some 20) rfl rfl Tryd.func25 (by kernel_rfl) rfl #[.slice Ao14 x4_1.length co14] rfl (by (try simp only [List.map_toArray, List.map_cons, List.map_nil]); first | done | rfl | (simp only [List.length_drop, List.length_take]; rfl)) ?_; (with_reducible refine (fixed_Plus.calls _ _ x4_1 t223 t224 t225 _ ?side1 ?side2 A13.out).mono ?_); (case side1 => repeat (first | exact (Kd.R_reads' HO_4.out).2.2 | (with_reducible refine ca_ ?_ _) | (with_reducible refine cn_ ?_ _) | (with_reducible refine cd_ ?_))); (case side2 => exact (Kd.R_reads' HO_4.out).2.1); rintro e w15 ⟨rfl, hb⟩; refine ⟨_, rfl, ?_⟩; have n0_ := A_ (Kd.R_below (by (with_reducible repeat (first | apply Kd.R_alloc | apply Kd.R_drewN | apply Kd.R_drew)); exact HO_4.out) hb); have n1_ := A_ (kb_ BK302 hb); have n2_ := A_ (bs_ bw_ hb); clear HO_4; clear BK302; clear HB; have HO_4 := n0_; have BK302 := n1_; have HB := n2_; clear n0_ n1_ n2_; (try clear hb); (try clear hb2); (try clear hk); (try clear hi); have hcz16_0 : w15.cell? ⟨gb302, 0, none⟩ = some (.int .i64 0) := (bc_ BK302.out 0).trans rfl; have hcz16_1 : w15.cell? ⟨gb302, 1, none⟩ = some (.int .u64 0) := (bc_ BK302.out 1).trans rfl; have hfz16_0 := bf_ BK302.out 0; have hfz16_1 := bf_ BK302.out 1))
    refine bodyPost_ret (results_ct rfl _ _ gb302 35 #[.int .i64 t223, .int .u64 t224] (0, 0) _ rfl (by (with_reducible repeat (first | refine bn_ ?_ _ | refine bd_ ?_ | refine ba_ ?_ _)); refine bp_ (cs := #[.int .i64 t223, .int .u64 0]) ?_ 1 _ rfl; (with_reducible repeat (first | refine bn_ ?_ _ | refine bd_ ?_ | refine ba_ ?_ _)); refine bp_ (cs := #[.int .i64 0, .int .u64 0]) ?_ 0 _ rfl; (with_reducible repeat (first | refine bn_ ?_ _ | refine bd_ ?_ | refine ba_ ?_ _)); exact BK302.out) Tryd.underlying35 rfl (by kernel_rfl)) rfl ?_
    exact ⟨by first | rfl | (simp [errW_none, errW_some] <;> rfl) | (simp [*, errW_none, errW_some] <;> rfl), bw_⟩
end Go.Proofs.YtjbbigodkhnokaaDoor.Tr
end
