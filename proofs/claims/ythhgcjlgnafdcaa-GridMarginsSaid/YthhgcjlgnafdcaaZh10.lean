/- Texts of this seat, put together (Zh10). -/
import Derived.Test.YthhgcjlgnafdcaaZh2
import Derived.Test.YthhgcjlgnafdcaaZh6
import Derived.Test.YthhgcjlgnafdcaaZh8
section
namespace Go.Proofs.Ythhgcjlgnafdcaa.Px
open Go.RowKit Go.Proofs.YthhgcjlgnafdcaaW.PrintWords Go.Proofs.YthhgcjlgnafdcaaW.PrintLast Go.Proofs.YthhgcjlgnafdcaaW.PrintMore
attribute [local go_sem] max2_int min2_int max_two min_two max_three min_three max_four min_four   -- for this text's walks alone
set_option linter.unusedVariables false
set_option linter.unusedSimpArgs false
attribute [local go_sem] run_add64_any
def clevisref02_Isin.j0 : Nat → ByteArray → Bool → Option (Int)
 | 0, _, _ => none
 | k + 1, x0, x17 => if x17 = true then (some 3) else (if 0 ≤ 11 then (if 11 ≤ (x0.size : Int) then ((clevisref02_Digit.f k (x0.extract 0 11)).bind fun t124 => (if 11 < (x0.size : Int) then (if t124 = (wrap64 ((wrap64 (bt x0 11)) - 48)) then (some 0) else (some 11)) else (none))) else (none)) else (none))
def clevisref02_Isin.f (k : Nat) (a0 : ByteArray) : Option (Int) := if (a0.size : Int) = 12 then (if 11 < (a0.size : Int) then ((clevisref02_digit.f (bt a0 11)).bind fun t122 => (if t122 = true then (if 0 ≤ 11 then (if 11 ≤ (a0.size : Int) then ((clevisref02_Digit.f k (a0.extract 0 11)).bind fun t123 => (clevisref02_Isin.j0 k a0 (decide (t123 < 0)))) else (none)) else (none)) else (clevisref02_Isin.j0 k a0 true))) else (none)) else (clevisref02_Isin.j0 k a0 true)
def clevisref02_Isin.T3 : Bool × List (List Nat × List Nat) := (true, [([], []), ([0], [0]), ([1], [1]), ([], []), ([3], [3]), ([4], [4]), ([5], [5]), ([2, 6], [2, 6])])
def clevisref02_Isin.B3 : List Nat := [0, 1, 3, 0, 8, 24, 56, 127]
theorem clevisref02_Isin.tab3 : rtab .any (opsOf Try.f73 3) = clevisref02_Isin.T3 := by kernel_rfl
theorem clevisref02_Isin.bits3 : waitsOk clevisref02_Isin.T3.2 clevisref02_Isin.B3 = true := by kernel_rfl
set_option maxHeartbeats 8000000 in
set_option maxRecDepth 100000 in
theorem clevisref02_Isin.calls (k : Nat) (a0 : ByteArray) (r : Int) (w : World) (h : clevisref02_Isin.f k a0 = some r) :
  Calls Try.prog 73 #[.string a0] w fun e w' => e = .returned (.int .i64 r) ∧ Below w.heap.size w w' := by
 have HB := A_ (Below.refl w.heap.size w)
 have H : (if (a0.size : Int) = 12 then (if 11 < (a0.size : Int) then ((clevisref02_digit.f (bt a0 11)).bind fun t122 => (if t122 = true then (if 0 ≤ 11 then (if 11 ≤ (a0.size : Int) then ((clevisref02_Digit.f k (a0.extract 0 11)).bind fun t123 => (clevisref02_Isin.j0 k a0 (decide (t123 < 0)))) else (none)) else (none)) else (clevisref02_Isin.j0 k a0 true))) else (none)) else (clevisref02_Isin.j0 k a0 true)) = some r := h
 clear h
 have HC2 := A_ H
 clear H
 go_enter Try.func73, Try.ntmps73
 go_upto_region 1 with (fail)
 go_cut [17] (fun v17 wc => ∃ (kq : Nat) (x17_1 : Bool), v17 = .bool x17_1 ∧ Aside0 (clevisref02_Isin.j0 kq a0 x17_1 = some r) ∧ Aside0 (kq ≤ k) ∧ Aside0 (Below w.heap.size w wc))
 case first =>
  have H := HC2.out
  clear HC2
  by_cases c3 : (a0.size : Int) = 12
  ·
   rw [if_pos c3] at H
   have c3b0 : ((a0.size : Int) == 12) = true := q1_ c3
   have c3b1 : ((a0.size : Int) != 12) = false := q3_ c3
   clear c3
   (first | rw [c3b0] | (simp only [i64_w, i32_w]; rw [c3b0]) | skip)
   by_cases c4 : 11 < (a0.size : Int)
   ·
    rw [if_pos c4] at H
    have c4b0 : decide (11 < (a0.size : Int)) = true := decide_eq_true c4
    have c4b1 : decide (11 < a0.size) = true := decide_eq_true (by omega)
    clear c4
    replace H := os_ H
    obtain ⟨t122, A60, H⟩ := H
    replace H : (if t122 = true then (if 0 ≤ 11 then (if 11 ≤ (a0.size : Int) then ((clevisref02_Digit.f k (a0.extract 0 11)).bind fun t123 => (clevisref02_Isin.j0 k a0 (decide (t123 < 0)))) else (none)) else (none)) else (clevisref02_Isin.j0 k a0 true)) = some r := H
    have A6 := A_ A60
    clear A60
    by_cases c7 : t122 = true
    ·
     subst c7
     have H1 : (if 0 ≤ 11 then (if 11 ≤ (a0.size : Int) then ((clevisref02_Digit.f k (a0.extract 0 11)).bind fun t123 => (clevisref02_Isin.j0 k a0 (decide (t123 < 0)))) else (none)) else (none)) = some r := by rw [if_pos rfl] at H; exact H
     clear H
     have H := H1
     clear H1
     by_cases c8 : 0 ≤ 11
     ·
      rw [if_pos c8] at H
      have c8b0 := eq_true c8
      have c8b1 : decide (0 ≤ 11) = true := decide_eq_true c8
      clear c8
      by_cases c9 : 11 ≤ (a0.size : Int)
      ·
       rw [if_pos c9] at H
       have c9b0 := eq_true c9
       have c9b1 : decide (11 ≤ (a0.size : Int)) = true := decide_eq_true c9
       clear c9
       replace H := os_ H
       obtain ⟨t123, A100, H⟩ := H
       replace H : (clevisref02_Isin.j0 k a0 (decide (t123 < 0))) = some r := H
       have A10 := A_ A100
       clear A100
       have H' := A_ H
       clear H
       have p5 : 0 ≤ (11 : Int) := (by omega)
       have q5 : 11 < a0.size := (by have : (11 : Int) < (a0.size : Int) := od_ (by first | (with_reducible assumption) | assumption); omega)
       have hx5 : ∀ h : 11 < a0.size, ((a0[11]'h).toNat : Int) = bt a0 11 := bt_at a0 11
       clear p5
       have qi5 : (11 < (a0.size : Int)) = True := eq_true (od_ (by first | (with_reducible assumption) | assumption))
       replace q5 := eq_true q5
       go_wp2_with (first | (go_at_call 113; (with_reducible refine (clevisref02_digit.calls (bt a0 11) true _ A6.out).mono ?_); rintro e w' ⟨rfl, ⟨nd, rfl⟩⟩) | (go_at_call 114; (with_reducible refine (clevisref02_Digit.calls k (a0.extract 0 11) t123 _ A10.out).mono ?_); rintro e w11 ⟨rfl, hb⟩; have n0_ := A_ (bs_ bw_ hb); clear HB; have HB := n0_; clear n0_; (try clear hb); (try clear hb2); (try clear hk); (try clear hi)))
       go_meet
       case rel => exact ⟨_, (decide (t123 < 0)), (by first | rfl | (simp; done) | (simp [*]; done)), H', ⟨by first | omega | exact Nat.le_refl _⟩, ⟨bw_⟩⟩
      ·
       rw [if_neg c9] at H
       exact absurd H (by simp)
     ·
      rw [if_neg c8] at H
      exact absurd H (by simp)
    ·
     replace c7 := Bool.eq_false_iff.mpr c7
     subst c7
     have H1 : (clevisref02_Isin.j0 k a0 true) = some r := by rw [if_neg (show ¬ (false = true) by decide)] at H; exact H
     clear H
     have H := H1
     clear H1
     have H' := A_ H
     clear H
     have p5 : 0 ≤ (11 : Int) := (by omega)
     have q5 : 11 < a0.size := (by have : (11 : Int) < (a0.size : Int) := od_ (by first | (with_reducible assumption) | assumption); omega)
     have hx5 : ∀ h : 11 < a0.size, ((a0[11]'h).toNat : Int) = bt a0 11 := bt_at a0 11
     clear p5
     have qi5 : (11 < (a0.size : Int)) = True := eq_true (od_ (by first | (with_reducible assumption) | assumption))
     replace q5 := eq_true q5
     go_wp2_with (first | (go_at_call 113; (with_reducible refine (clevisref02_digit.calls (bt a0 11) false _ A6.out).mono ?_); rintro e w' ⟨rfl, ⟨nd, rfl⟩⟩))
     go_meet
     case rel => exact ⟨_, (true), (by first | rfl | (simp; done) | (simp [*]; done)), H', ⟨by first | omega | exact Nat.le_refl _⟩, ⟨bw_⟩⟩
   ·
    rw [if_neg c4] at H
    exact absurd H (by simp)
  ·
   rw [if_neg c3] at H
   have c3b0 : ((a0.size : Int) == 12) = false := q4_ c3
   have c3b1 : ((a0.size : Int) != 12) = true := q2_ c3
   (first | rw [c3b0] | (simp only [i64_w, i32_w]; rw [c3b0]) | skip)
   have H' := A_ H
   clear H
   go_wp2
   go_meet
   case rel => exact ⟨_, (true), (by first | rfl | (simp; done) | (simp [*]; done)), H', ⟨by first | omega | exact Nat.le_refl _⟩, ⟨bw_⟩⟩
 case rest =>
  clear HC2
  try clear p2
  try clear c3
  try clear c3b0
  try clear c3b1
  try clear c4
  try clear c4b0
  try clear c4b1
  try clear p5
  try clear q5
  try clear hx5
  try clear qi5
  try clear c7
  try clear c8
  try clear c8b0
  try clear c8b1
  try clear c9
  try clear c9b0
  try clear c9b1
  try clear p5
  try clear q5
  obtain ⟨kq, x17_1, rfl, HA, HJ1, HB⟩ := hcut
  cases kq with
  | zero => exact absurd HA.out (by simp [clevisref02_Isin.j0])
  | succ kj1 =>
   have H := HA.out
   clear HA
   simp only [clevisref02_Isin.j0] at H
   by_cases c12 : x17_1 = true
   ·
    subst c12
    have H1 : (some 3) = some r := by rw [if_pos rfl] at H; exact H
    clear H
    have H := H1
    clear H1
    obtain rfl := Option.some.inj H
    go_wp2
    go_ret
    exact ⟨by first | rfl | (simp [errW_none, errW_some] <;> rfl) | (simp [*, errW_none, errW_some] <;> rfl), bw_⟩
   ·
    replace c12 := Bool.eq_false_iff.mpr c12
    subst c12
    have H1 : (if 0 ≤ 11 then (if 11 ≤ (a0.size : Int) then ((clevisref02_Digit.f kj1 (a0.extract 0 11)).bind fun t124 => (if 11 < (a0.size : Int) then (if t124 = (wrap64 ((wrap64 (bt a0 11)) - 48)) then (some 0) else (some 11)) else (none))) else (none)) else (none)) = some r := by rw [if_neg (show ¬ (false = true) by decide)] at H; exact H
    clear H
    have H := H1
    clear H1
    by_cases c13 : 0 ≤ 11
    ·
     rw [if_pos c13] at H
     have c13b0 := eq_true c13
     have c13b1 : decide (0 ≤ 11) = true := decide_eq_true c13
     clear c13
     by_cases c14 : 11 ≤ (a0.size : Int)
     ·
      rw [if_pos c14] at H
      have c14b0 := eq_true c14
      have c14b1 : decide (11 ≤ (a0.size : Int)) = true := decide_eq_true c14
      clear c14
      replace H := os_ H
      obtain ⟨t124, A150, H⟩ := H
      replace H : (if 11 < (a0.size : Int) then (if t124 = (wrap64 ((wrap64 (bt a0 11)) - 48)) then (some 0) else (some 11)) else (none)) = some r := H
      have A15 := A_ A150
      clear A150
      by_cases c16 : 11 < (a0.size : Int)
      ·
       rw [if_pos c16] at H
       have c16b0 : decide (11 < (a0.size : Int)) = true := decide_eq_true c16
       have c16b1 : decide (11 < a0.size) = true := decide_eq_true (by omega)
       clear c16
       by_cases c18 : t124 = (wrap64 ((wrap64 (bt a0 11)) - 48))
       ·
        rw [if_pos c18] at H
        have c18b0 : (t124 == (wrap64 ((wrap64 (bt a0 11)) - 48))) = true := q1_ c18
        have c18b1 : (t124 != (wrap64 ((wrap64 (bt a0 11)) - 48))) = false := q3_ c18
        clear c18
        obtain rfl := Option.some.inj H
        try go_wp2
        have n0_ := A_ (b1_ HB.out)
        clear HB
        have HB := n0_
        clear n0_
        have p17 : 0 ≤ (11 : Int) := (by omega)
        have q17 : 11 < a0.size := (by have : (11 : Int) < (a0.size : Int) := od_ (by first | (with_reducible assumption) | assumption); omega)
        have hx17 : ∀ h : 11 < a0.size, ((a0[11]'h).toNat : Int) = bt a0 11 := bt_at a0 11
        clear p17
        have qi17 : (11 < (a0.size : Int)) = True := eq_true (od_ (by first | (with_reducible assumption) | assumption))
        replace q17 := eq_true q17
        refine start_ (n := 8) (S := fun w' => True) (ds := []) #[false, false, false, false, false, false, false, false] (by kernel_rfl) rfl rfl trivial (fun hHeld => ?_); refine with_tabW clevisref02_Isin.tab3 clevisref02_Isin.bits3 (fun HT_ HW_ => ?_)
        generalize wc.drew = w19 at HB hHeld ⊢
        refine pure_ (i := 0) (N := some 18) (v := ?_) (a' := ?_) #[true, false, false, false, false, false, false, false] rfl rfl (any_of HT_.out (by kernel_rfl)) (fun _ _ _ h => h) (Or.inl ⟨by rfl, ?_⟩) ?_ ?_
        rotate_left
        ·
         intro w'
         go_simp
         with_reducible rfl
        rotate_left
        ·
         simp only [Act.put, sA_, sZ_, sS_, i64_w, i32_w]
         rfl
        refine pure_ (i := 1) (N := some 19) (v := ?_) (a' := ?_) #[true, true, false, false, false, false, false, false] rfl rfl (any_of HT_.out (by kernel_rfl)) (fun _ _ _ h => h) (Or.inl ⟨by rfl, ?_⟩) ?_ ?_
        rotate_left
        ·
         intro w'
         go_simp
         with_reducible rfl
        rotate_left
        ·
         simp only [Act.put, sA_, sZ_, sS_, i64_w, i32_w]
         rfl
        refine pure_ (i := 3) (N := some 21) (v := ?_) (a' := ?_) #[true, true, false, true, false, false, false, false] rfl rfl (any_of HT_.out (by kernel_rfl)) (fun _ _ _ h => h) (Or.inl ⟨by rfl, ?_⟩) ?_ ?_
        rotate_left
        ·
         intro w'
         go_simp
         with_reducible rfl
        rotate_left
        ·
         simp only [Act.put, sA_, sZ_, sS_, i64_w, i32_w]
         rfl
        refine take_ (i := 4) (N := some 22) (v := ?_) (a' := ?_) #[true, true, false, true, true, false, false, false] rfl rfl (take_ofW HT_.out HW_.out (by kernel_rfl)) (fun _ _ _ h => h) (Or.inl ⟨by rfl, ?_⟩) hHeld ?_ ?_
        rotate_left
        ·
         intro w' _
         go_simp
         with_reducible rfl
        rotate_left
        ·
         simp only [Act.put, sA_, sZ_, sS_, i64_w, i32_w]
         rfl
        refine pure_ (i := 5) (N := some 23) (v := ?_) (a' := ?_) #[true, true, false, true, true, true, false, false] rfl rfl (any_of HT_.out (by kernel_rfl)) (fun _ _ _ h => h) (Or.inl ⟨by rfl, ?_⟩) ?_ ?_
        rotate_left
        ·
         intro w'
         go_simp
         with_reducible rfl
        rotate_left
        ·
         simp only [Act.put, sA_, sZ_, sS_, i64_w, i32_w]
         rfl
        refine pure_ (i := 6) (N := some 24) (v := ?_) (a' := ?_) #[true, true, false, true, true, true, true, false] rfl rfl (any_of HT_.out (by kernel_rfl)) (fun _ _ _ h => h) (Or.inl ⟨by rfl, ?_⟩) ?_ ?_
        rotate_left
        ·
         intro w'
         go_simp
         with_reducible rfl
        rotate_left
        ·
         simp only [Act.put, sA_, sZ_, sS_, i64_w, i32_w]
         rfl
        refine one_ (i := 2) (N := some 20) #[true, true, true, true, true, true, true, false] rfl rfl (one_of HT_.out (by kernel_rfl)) (by decide) (fun K hK => ?_)
        refine goes_ Try.func114 (by kernel_rfl) rfl #[.string (a0.extract 0 11)] (by rfl) rfl rfl (by (try simp only [List.map_toArray, List.map_cons, List.map_nil]); first | done | rfl | (simp only [List.length_drop, List.length_take]; rfl)) ?_
        with_reducible refine (clevisref02_Digit.calls kj1 (a0.extract 0 11) t124 _ A15.out).mono ?_
        rintro e w20 ⟨rfl, hb⟩
        refine ⟨_, rfl, ?_⟩
        have n0_ := A_ (bs_ bw_ hb)
        clear HB
        have HB := n0_
        clear n0_
        (try clear hb)
        (try clear hb2)
        (try clear hk)
        (try clear hi)
        refine hK.out _ _ trivial (fun hHeld => ?_)
        clear hK K
        refine norm_ (a' := ?_) ?_ ?_
        rotate_left
        ·
         show Act.put _ (some 20) _ = _
         simp only [Act.put, sA_, sZ_, sS_, i64_w, i32_w]
         rfl
        refine pure_ (i := 7) (N := some 25) (v := ?_) (a' := ?_) #[true, true, true, true, true, true, true, true] rfl rfl (any_of HT_.out (by kernel_rfl)) (fun _ _ _ h => h) (Or.inl ⟨by rfl, ?_⟩) ?_ ?_
        rotate_left
        ·
         intro w'
         go_simp
         with_reducible rfl
        rotate_left
        ·
         simp only [Act.put, sA_, sZ_, sS_, i64_w, i32_w]
         rfl
        refine done_ (done_of HT_.out (by kernel_rfl)) ?_
        try go_wp2
        go_ret
        exact ⟨by first | rfl | (simp [errW_none, errW_some] <;> rfl) | (simp [*, errW_none, errW_some] <;> rfl), bw_⟩
       ·
        rw [if_neg c18] at H
        have c18b0 : (t124 == (wrap64 ((wrap64 (bt a0 11)) - 48))) = false := q4_ c18
        have c18b1 : (t124 != (wrap64 ((wrap64 (bt a0 11)) - 48))) = true := q2_ c18
        obtain rfl := Option.some.inj H
        try go_wp2
        have n0_ := A_ (b1_ HB.out)
        clear HB
        have HB := n0_
        clear n0_
        have p17 : 0 ≤ (11 : Int) := (by omega)
        have q17 : 11 < a0.size := (by have : (11 : Int) < (a0.size : Int) := od_ (by first | (with_reducible assumption) | assumption); omega)
        have hx17 : ∀ h : 11 < a0.size, ((a0[11]'h).toNat : Int) = bt a0 11 := bt_at a0 11
        clear p17
        have qi17 : (11 < (a0.size : Int)) = True := eq_true (od_ (by first | (with_reducible assumption) | assumption))
        replace q17 := eq_true q17
        refine start_ (n := 8) (S := fun w' => True) (ds := []) #[false, false, false, false, false, false, false, false] (by kernel_rfl) rfl rfl trivial (fun hHeld => ?_); refine with_tabW clevisref02_Isin.tab3 clevisref02_Isin.bits3 (fun HT_ HW_ => ?_)
        generalize wc.drew = w21 at HB hHeld ⊢
        refine pure_ (i := 0) (N := some 18) (v := ?_) (a' := ?_) #[true, false, false, false, false, false, false, false] rfl rfl (any_of HT_.out (by kernel_rfl)) (fun _ _ _ h => h) (Or.inl ⟨by rfl, ?_⟩) ?_ ?_
        rotate_left
        ·
         intro w'
         go_simp
         with_reducible rfl
        rotate_left
        ·
         simp only [Act.put, sA_, sZ_, sS_, i64_w, i32_w]
         rfl
        refine pure_ (i := 1) (N := some 19) (v := ?_) (a' := ?_) #[true, true, false, false, false, false, false, false] rfl rfl (any_of HT_.out (by kernel_rfl)) (fun _ _ _ h => h) (Or.inl ⟨by rfl, ?_⟩) ?_ ?_
        rotate_left
        ·
         intro w'
         go_simp
         with_reducible rfl
        rotate_left
        ·
         simp only [Act.put, sA_, sZ_, sS_, i64_w, i32_w]
         rfl
        refine pure_ (i := 3) (N := some 21) (v := ?_) (a' := ?_) #[true, true, false, true, false, false, false, false] rfl rfl (any_of HT_.out (by kernel_rfl)) (fun _ _ _ h => h) (Or.inl ⟨by rfl, ?_⟩) ?_ ?_
        rotate_left
        ·
         intro w'
         go_simp
         with_reducible rfl
        rotate_left
        ·
         simp only [Act.put, sA_, sZ_, sS_, i64_w, i32_w]
         rfl
        refine take_ (i := 4) (N := some 22) (v := ?_) (a' := ?_) #[true, true, false, true, true, false, false, false] rfl rfl (take_ofW HT_.out HW_.out (by kernel_rfl)) (fun _ _ _ h => h) (Or.inl ⟨by rfl, ?_⟩) hHeld ?_ ?_
        rotate_left
        ·
         intro w' _
         go_simp
         with_reducible rfl
        rotate_left
        ·
         simp only [Act.put, sA_, sZ_, sS_, i64_w, i32_w]
         rfl
        refine pure_ (i := 5) (N := some 23) (v := ?_) (a' := ?_) #[true, true, false, true, true, true, false, false] rfl rfl (any_of HT_.out (by kernel_rfl)) (fun _ _ _ h => h) (Or.inl ⟨by rfl, ?_⟩) ?_ ?_
        rotate_left
        ·
         intro w'
         go_simp
         with_reducible rfl
        rotate_left
        ·
         simp only [Act.put, sA_, sZ_, sS_, i64_w, i32_w]
         rfl
        refine pure_ (i := 6) (N := some 24) (v := ?_) (a' := ?_) #[true, true, false, true, true, true, true, false] rfl rfl (any_of HT_.out (by kernel_rfl)) (fun _ _ _ h => h) (Or.inl ⟨by rfl, ?_⟩) ?_ ?_
        rotate_left
        ·
         intro w'
         go_simp
         with_reducible rfl
        rotate_left
        ·
         simp only [Act.put, sA_, sZ_, sS_, i64_w, i32_w]
         rfl
        refine one_ (i := 2) (N := some 20) #[true, true, true, true, true, true, true, false] rfl rfl (one_of HT_.out (by kernel_rfl)) (by decide) (fun K hK => ?_)
        refine goes_ Try.func114 (by kernel_rfl) rfl #[.string (a0.extract 0 11)] (by rfl) rfl rfl (by (try simp only [List.map_toArray, List.map_cons, List.map_nil]); first | done | rfl | (simp only [List.length_drop, List.length_take]; rfl)) ?_
        with_reducible refine (clevisref02_Digit.calls kj1 (a0.extract 0 11) t124 _ A15.out).mono ?_
        rintro e w22 ⟨rfl, hb⟩
        refine ⟨_, rfl, ?_⟩
        have n0_ := A_ (bs_ bw_ hb)
        clear HB
        have HB := n0_
        clear n0_
        (try clear hb)
        (try clear hb2)
        (try clear hk)
        (try clear hi)
        refine hK.out _ _ trivial (fun hHeld => ?_)
        clear hK K
        refine norm_ (a' := ?_) ?_ ?_
        rotate_left
        ·
         show Act.put _ (some 20) _ = _
         simp only [Act.put, sA_, sZ_, sS_, i64_w, i32_w]
         rfl
        refine pure_ (i := 7) (N := some 25) (v := ?_) (a' := ?_) #[true, true, true, true, true, true, true, true] rfl rfl (any_of HT_.out (by kernel_rfl)) (fun _ _ _ h => h) (Or.inl ⟨by rfl, ?_⟩) ?_ ?_
        rotate_left
        ·
         intro w'
         go_simp
         with_reducible rfl
        rotate_left
        ·
         simp only [Act.put, sA_, sZ_, sS_, i64_w, i32_w]
         rfl
        refine done_ (done_of HT_.out (by kernel_rfl)) ?_
        try go_wp2
        go_ret
        exact ⟨by first | rfl | (simp [errW_none, errW_some] <;> rfl) | (simp [*, errW_none, errW_some] <;> rfl), bw_⟩
      ·
       rw [if_neg c16] at H
       exact absurd H (by simp)
     ·
      rw [if_neg c14] at H
      exact absurd H (by simp)
    ·
     rw [if_neg c13] at H
     exact absurd H (by simp)
end Go.Proofs.Ythhgcjlgnafdcaa.Px
end
section
namespace Go.Proofs.Ythhgcjlgnafdcaa.Px
open Go.RowKit Go.Proofs.YthhgcjlgnafdcaaW.PrintWords Go.Proofs.YthhgcjlgnafdcaaW.PrintLast Go.Proofs.YthhgcjlgnafdcaaW.PrintMore
attribute [local go_sem] max2_int min2_int max_two min_two max_three min_three max_four min_four   -- for this text's walks alone
set_option linter.unusedVariables false
set_option linter.unusedSimpArgs false
attribute [local go_sem] run_add64_any
def ident_body.l0 : Nat → List Int → Int → Int → Option (Bool)
 | 0, _, _, _ => none
 | k + 1, x9, x10, x11 => if x11 < x10 then (if 0 ≤ x11 then (if x11 < (x9.length : Int) then ((ident_great.f (rd x9 x11)).bind fun t105 => (if t105 = true then (ident_body.l0 k x9 x10 (wrap64 (x11 + 1))) else (if x11 < 2 then (some false) else ((ident_digit.f (rd x9 x11)).bind fun t106 => (if t106 = true then (ident_body.l0 k x9 x10 (wrap64 (x11 + 1))) else (some false)))))) else (none)) else (none)) else (some true)
def ident_body.f (k : Nat) (a0 : ByteArray) : Option (Bool) := if (a0.size : Int) = 11 then (if a0.size ≤ 9223372036854775807 then ((some (bytesOf a0 : List Int)).bind fun y101 => (ident_body.l0 k y101 (y101.length : Int) 0)) else (none)) else (some false)
set_option maxHeartbeats 8000000 in
set_option maxRecDepth 100000 in
theorem ident_body.calls (k : Nat) (a0 : ByteArray) (r : Bool) (w : World) (h : ident_body.f k a0 = some r) :
  Calls Try.prog 127 #[.string a0] w fun e w' => e = .returned (.bool r) ∧ Below w.heap.size w w' := by
 have HB := A_ (Below.refl w.heap.size w)
 have H : (if (a0.size : Int) = 11 then (if a0.size ≤ 9223372036854775807 then ((some (bytesOf a0 : List Int)).bind fun y101 => (ident_body.l0 k y101 (y101.length : Int) 0)) else (none)) else (some false)) = some r := h
 clear h
 by_cases c2 : (a0.size : Int) = 11
 ·
  rw [if_pos c2] at H
  have c2b0 : ((a0.size : Int) == 11) = true := q1_ c2
  have c2b1 : ((a0.size : Int) != 11) = false := q3_ c2
  clear c2
  by_cases c3 : a0.size ≤ 9223372036854775807
  ·
   rw [if_pos c3] at H
   have c3b0 := eq_true c3
   have c3b1 : decide (a0.size ≤ 9223372036854775807) = true := decide_eq_true c3
   try have c3b2 : (9223372036854775807 < a0.size) = False := eq_false (Nat.not_lt.2 c3)
   clear c3
   obtain ⟨y101, hy101⟩ : ∃ y_ : List Int, y_ = (bytesOf a0) := ⟨_, rfl⟩
   replace H : (ident_body.l0 k y101 (y101.length : Int) 0) = some r := by first | (rw [hy101]; with_reducible exact H) | (have H2_ := (Option.bind_some _ _).symm.trans H; rw [hy101]; with_reducible exact H2_) | (have H2_ := (Option.bind_some _ _).symm.trans H; with_reducible exact H2_) | with_reducible exact H | (rw [hy101]; exact H) | exact H
   have Ny101 := A_ hy101
   clear hy101
   have H' := A_ H
   clear H
   go_enter Try.func127, Try.ntmps127
   go_wp2_with (first | ((with_reducible refine gate_dst (N := 9) rfl ?_); refine conv_event _ 5 ?hg (N := 9) ?hd a0 (od_ (by first | (with_reducible assumption) | assumption)) ?hr (Below.refl _ _) (Nat.le_refl _) ?_; (case hd => rfl); (case hg => rfl); (case hr => have kb_ := fun W_ => print_bytes (P := Try.prog) 9 217 5 Try.underlying9 Try.underlying217 Try.underlying5 a0 W_; first | (go_simp; done) | (go_simp; rfl)); intro v102 w4 ho5 hb hg_ hnew_; clear hg_ hnew_; (first | rw [← Ny101.out] at ho5 | (simp only [Int.reduceToNat] at ho5; rw [← Ny101.out] at ho5)); have n0_ := A_ (Kd.V_lower (vm_ (ok' := fun k_ => True) ho5 (fun k_ hk_ => trivial)) (bz_ bw_)); have n1_ := A_ (bs_ bw_ hb); clear HB; have HO103 := n0_; have HB := n1_; clear n0_ n1_; clear hb ho5; obtain ⟨Ao6, co6, eo6⟩ := Kd.V_slice HO103.out; subst eo6))
   (try simp only [Act.put, sA_, sZ_, sS_])
   go_loopg [11] k (fun kq v11 w' => ∃ (x11_1 : Int), v11 = .int .i64 x11_1 ∧ Aside0 (ident_body.l0 kq y101 (y101.length : Int) x11_1 = some r) ∧ Aside0 (kq ≤ k) ∧ Aside0 (Kd.V (Kd.int .u8) 5 w' w.heap.size (fun _ => True) (.slice Ao6 y101.length co6) y101) ∧ Aside0 (Below w.heap.size w w'))
   case atStart => exact ⟨(0), (by first | rfl | (simp; done) | (simp [*]; done)), H', ⟨Nat.le_refl _⟩, ⟨by (with_reducible repeat (first | apply va_ | apply vn_ | apply vd_)); exact HO103.out⟩, ⟨bw_⟩⟩
   case round =>
    clear H'
    try clear c1
    try clear c2
    try clear c2b0
    try clear c2b1
    try clear p2
    try clear c3
    try clear c3b0
    try clear c3b1
    try clear c3b2
    obtain ⟨x11_1, rfl, HA, HK1, HO_9, HB⟩ := hrel
    cases gk with
    | zero => exact absurd HA.out (by simp [ident_body.l0])
    | succ k1 =>
     have H := HA.out
     clear HA
     simp only [ident_body.l0] at H
     by_cases c7 : x11_1 < (y101.length : Int)
     ·
      rw [if_pos c7] at H
      have c7b0 : decide (x11_1 < (y101.length : Int)) = true := decide_eq_true c7
      clear c7
      by_cases c8 : 0 ≤ x11_1
      ·
       rw [if_pos c8] at H
       have c8b0 : decide (0 ≤ x11_1) = true := decide_eq_true c8
       clear c8
       by_cases c9 : x11_1 < (y101.length : Int)
       ·
        rw [if_pos c9] at H
        have c9b0 : decide (x11_1 < (y101.length : Int)) = true := decide_eq_true c9
        clear c9
        replace H := os_ H
        obtain ⟨t105, A100, H⟩ := H
        replace H : (if t105 = true then (ident_body.l0 k1 y101 (y101.length : Int) (wrap64 (x11_1 + 1))) else (if x11_1 < 2 then (some false) else ((ident_digit.f (rd y101 x11_1)).bind fun t106 => (if t106 = true then (ident_body.l0 k1 y101 (y101.length : Int) (wrap64 (x11_1 + 1))) else (some false))))) = some r := H
        have A10 := A_ A100
        clear A100
        by_cases c11 : t105 = true
        ·
         subst c11
         have H1 : (ident_body.l0 k1 y101 (y101.length : Int) (wrap64 (x11_1 + 1))) = some r := by rw [if_pos rfl] at H; exact H
         clear H
         have H := H1
         clear H1
         have H' := A_ H
         clear H
         have p104 : 0 ≤ (x11_1 : Int) := od_ (by first | (with_reducible assumption) | assumption)
         have q104 : x11_1 < (y101.length : Int) := od_ (by first | (with_reducible assumption) | assumption)
         obtain ⟨ad104, e104, hx104_0⟩ := Kd.at_int (Kd.V_reads' HO_9.out).2.2 x11_1 p104 q104
         cases e104
         replace p104 := eq_true p104
         replace q104 := eq_true q104
         go_wp2_with (first | ((with_reducible refine gate_callee (f := 135) rfl ?_); refine goesL_ (some 17) rfl rfl Try.func135 (by kernel_rfl) rfl #[.int .u8 (rd y101 x11_1)] rfl (by (try simp only [List.map_toArray, List.map_cons, List.map_nil]); first | done | rfl | (simp only [List.length_drop, List.length_take]; rfl)) ?_; (with_reducible refine (ident_great.calls (rd y101 x11_1) true _ A10.out).mono ?_); rintro e w' ⟨rfl, ⟨nd, rfl⟩⟩; refine ⟨_, rfl, ?_⟩))
         go_roundg k1
         case measure => have := HK1.out; omega
         case rel => exact ⟨(wrap64 (x11_1 + 1)), (by first | rfl | (simp; done) | (simp [*]; done)), H', ⟨by have := HK1.out; omega⟩, ⟨by (with_reducible repeat (first | apply va_ | apply vn_ | apply vd_)); exact HO_9.out⟩, ⟨bw_⟩⟩
        ·
         replace c11 := Bool.eq_false_iff.mpr c11
         subst c11
         have H1 : (if x11_1 < 2 then (some false) else ((ident_digit.f (rd y101 x11_1)).bind fun t106 => (if t106 = true then (ident_body.l0 k1 y101 (y101.length : Int) (wrap64 (x11_1 + 1))) else (some false)))) = some r := by rw [if_neg (show ¬ (false = true) by decide)] at H; exact H
         clear H
         have H := H1
         clear H1
         by_cases c12 : x11_1 < 2
         ·
          rw [if_pos c12] at H
          have c12b0 : decide (x11_1 < 2) = true := decide_eq_true c12
          clear c12
          obtain rfl := Option.some.inj H
          have p104 : 0 ≤ (x11_1 : Int) := od_ (by first | (with_reducible assumption) | assumption)
          have q104 : x11_1 < (y101.length : Int) := od_ (by first | (with_reducible assumption) | assumption)
          obtain ⟨ad104, e104, hx104_0⟩ := Kd.at_int (Kd.V_reads' HO_9.out).2.2 x11_1 p104 q104
          cases e104
          replace p104 := eq_true p104
          replace q104 := eq_true q104
          go_wp2_with (first | ((with_reducible refine gate_callee (f := 135) rfl ?_); refine goesL_ (some 17) rfl rfl Try.func135 (by kernel_rfl) rfl #[.int .u8 (rd y101 x11_1)] rfl (by (try simp only [List.map_toArray, List.map_cons, List.map_nil]); first | done | rfl | (simp only [List.length_drop, List.length_take]; rfl)) ?_; (with_reducible refine (ident_great.calls (rd y101 x11_1) false _ A10.out).mono ?_); rintro e w' ⟨rfl, ⟨nd, rfl⟩⟩; refine ⟨_, rfl, ?_⟩))
          go_ret
          exact ⟨by first | rfl | (simp [errW_none, errW_some] <;> rfl) | (simp [*, errW_none, errW_some] <;> rfl), bw_⟩
         ·
          rw [if_neg c12] at H
          have c12b0 : decide (x11_1 < 2) = false := decide_eq_false c12
          clear c12
          replace H := os_ H
          obtain ⟨t106, A130, H⟩ := H
          replace H : (if t106 = true then (ident_body.l0 k1 y101 (y101.length : Int) (wrap64 (x11_1 + 1))) else (some false)) = some r := H
          have A13 := A_ A130
          clear A130
          by_cases c14 : t106 = true
          ·
           subst c14
           have H1 : (ident_body.l0 k1 y101 (y101.length : Int) (wrap64 (x11_1 + 1))) = some r := by rw [if_pos rfl] at H; exact H
           clear H
           have H := H1
           clear H1
           have H' := A_ H
           clear H
           have p104 : 0 ≤ (x11_1 : Int) := od_ (by first | (with_reducible assumption) | assumption)
           have q104 : x11_1 < (y101.length : Int) := od_ (by first | (with_reducible assumption) | assumption)
           obtain ⟨ad104, e104, hx104_0⟩ := Kd.at_int (Kd.V_reads' HO_9.out).2.2 x11_1 p104 q104
           cases e104
           replace p104 := eq_true p104
           replace q104 := eq_true q104
           go_wp2_with (first | ((with_reducible refine gate_callee (f := 135) rfl ?_); refine goesL_ (some 17) rfl rfl Try.func135 (by kernel_rfl) rfl #[.int .u8 (rd y101 x11_1)] rfl (by (try simp only [List.map_toArray, List.map_cons, List.map_nil]); first | done | rfl | (simp only [List.length_drop, List.length_take]; rfl)) ?_; (with_reducible refine (ident_great.calls (rd y101 x11_1) false _ A10.out).mono ?_); rintro e w' ⟨rfl, ⟨nd, rfl⟩⟩; refine ⟨_, rfl, ?_⟩) | (go_at_call 109; (with_reducible refine (ident_digit.calls (rd y101 x11_1) true _ A13.out).mono ?_); rintro e w' ⟨rfl, ⟨nd, rfl⟩⟩))
           go_roundg k1
           case measure => have := HK1.out; omega
           case rel => exact ⟨(wrap64 (x11_1 + 1)), (by first | rfl | (simp; done) | (simp [*]; done)), H', ⟨by have := HK1.out; omega⟩, ⟨by (with_reducible repeat (first | apply va_ | apply vn_ | apply vd_)); exact HO_9.out⟩, ⟨bw_⟩⟩
          ·
           replace c14 := Bool.eq_false_iff.mpr c14
           subst c14
           have H1 : (some false) = some r := by rw [if_neg (show ¬ (false = true) by decide)] at H; exact H
           clear H
           have H := H1
           clear H1
           obtain rfl := Option.some.inj H
           have p104 : 0 ≤ (x11_1 : Int) := od_ (by first | (with_reducible assumption) | assumption)
           have q104 : x11_1 < (y101.length : Int) := od_ (by first | (with_reducible assumption) | assumption)
           obtain ⟨ad104, e104, hx104_0⟩ := Kd.at_int (Kd.V_reads' HO_9.out).2.2 x11_1 p104 q104
           cases e104
           replace p104 := eq_true p104
           replace q104 := eq_true q104
           go_wp2_with (first | ((with_reducible refine gate_callee (f := 135) rfl ?_); refine goesL_ (some 17) rfl rfl Try.func135 (by kernel_rfl) rfl #[.int .u8 (rd y101 x11_1)] rfl (by (try simp only [List.map_toArray, List.map_cons, List.map_nil]); first | done | rfl | (simp only [List.length_drop, List.length_take]; rfl)) ?_; (with_reducible refine (ident_great.calls (rd y101 x11_1) false _ A10.out).mono ?_); rintro e w' ⟨rfl, ⟨nd, rfl⟩⟩; refine ⟨_, rfl, ?_⟩) | (go_at_call 109; (with_reducible refine (ident_digit.calls (rd y101 x11_1) false _ A13.out).mono ?_); rintro e w' ⟨rfl, ⟨nd, rfl⟩⟩))
           go_ret
           exact ⟨by first | rfl | (simp [errW_none, errW_some] <;> rfl) | (simp [*, errW_none, errW_some] <;> rfl), bw_⟩
       ·
        rw [if_neg c9] at H
        exact absurd H (by simp)
      ·
       rw [if_neg c8] at H
       exact absurd H (by simp)
     ·
      rw [if_neg c7] at H
      have c7b0 : decide (x11_1 < (y101.length : Int)) = false := decide_eq_false c7
      clear c7
      obtain rfl := Option.some.inj H
      go_wp2
      go_ret
      exact ⟨by first | rfl | (simp [errW_none, errW_some] <;> rfl) | (simp [*, errW_none, errW_some] <;> rfl), bw_⟩
  ·
   rw [if_neg c3] at H
   exact absurd H (by simp)
 ·
  rw [if_neg c2] at H
  have c2b0 : ((a0.size : Int) == 11) = false := q4_ c2
  have c2b1 : ((a0.size : Int) != 11) = true := q2_ c2
  obtain rfl := Option.some.inj H
  go_enter Try.func127, Try.ntmps127
  go_wp2
  go_ret
  exact ⟨by first | rfl | (simp [errW_none, errW_some] <;> rfl) | (simp [*, errW_none, errW_some] <;> rfl), bw_⟩
end Go.Proofs.Ythhgcjlgnafdcaa.Px
end
section
namespace Go.Proofs.Ythhgcjlgnafdcaa.Px
open Go.RowKit Go.Proofs.YthhgcjlgnafdcaaW.PrintWords Go.Proofs.YthhgcjlgnafdcaaW.PrintLast Go.Proofs.YthhgcjlgnafdcaaW.PrintMore
attribute [local go_sem] max2_int min2_int max_two min_two max_three min_three max_four min_four   -- for this text's walks alone
set_option linter.unusedVariables false
set_option linter.unusedSimpArgs false
attribute [local go_sem] run_add64_any
def ident_Digit.f (a0 : ByteArray) : Option (Int × Int) := (ident_body.f 20 a0).bind fun b => if b = true then some (Ja.ckB (Ja.sumW (Ja.D a0 a0.size)), 0) else some (0, 3)
theorem ident_Digit.size {a0 : ByteArray} (h : ident_body.f 20 a0 = some true) : a0.size = 11 := by
 unfold ident_body.f at h
 by_cases e : (a0.size : Int) = 11
 ·
  omega
 ·
  rw [if_neg e] at h
  exact absurd h (by simp)
theorem ident_Digit.calls (a0 : ByteArray) (r1 : Int) (r2 : Int) (w : World) (h : ident_Digit.f a0 = some (r1, r2)) :
  Calls Try.prog 110 #[.string a0] w fun e w' => e = .returned (.tuple #[.int .u8 r1, .int .i64 r2]) ∧ Below w.heap.size w w' := by
 unfold ident_Digit.f at h
 obtain ⟨b, hb, h⟩ := os_ h
 cases b with
 | true =>
  rw [if_pos rfl] at h
  simp only [Option.some.injEq, Prod.mk.injEq] at h
  obtain ⟨rfl, rfl⟩ := h
  exact Ja.digit_ok a0 (by have := ident_Digit.size hb; omega) (fun w => ident_body.calls 20 a0 true w hb) w
 | false =>
  simp only [Bool.false_eq_true, if_false, Option.some.injEq, Prod.mk.injEq] at h
  obtain ⟨rfl, rfl⟩ := h
  exact Ja.digit_bad a0 (fun w => ident_body.calls 20 a0 false w hb) w
end Go.Proofs.Ythhgcjlgnafdcaa.Px
end
section
namespace Go.Proofs.Ythhgcjlgnafdcaa.Px
open Go.RowKit Go.Proofs.YthhgcjlgnafdcaaW.PrintWords Go.Proofs.YthhgcjlgnafdcaaW.PrintLast Go.Proofs.YthhgcjlgnafdcaaW.PrintMore
attribute [local go_sem] max2_int min2_int max_two min_two max_three min_three max_four min_four   -- for this text's walks alone
set_option linter.unusedVariables false
set_option linter.unusedSimpArgs false
attribute [local go_sem] run_add64_any
def ident_Isin.j0 : Nat → ByteArray → Bool → Option (Int)
 | 0, _, _ => none
 | k + 1, x0, x13 => if x13 = true then (some 3) else (if 0 ≤ 11 then (if 11 ≤ (x0.size : Int) then ((ident_Digit.f (x0.extract 0 11)).bind fun bt108 => (if bt108.2 = 0 then (if 11 < (x0.size : Int) then (if bt108.1 = (bt x0 11) then (some 0) else (some 11)) else (none)) else (some bt108.2))) else (none)) else (none))
def ident_Isin.f (k : Nat) (a0 : ByteArray) : Option (Int) := if (a0.size : Int) = 12 then (if 11 < (a0.size : Int) then ((ident_digit.f (bt a0 11)).bind fun t107 => (ident_Isin.j0 k a0 (!t107))) else (none)) else (ident_Isin.j0 k a0 true)
set_option maxHeartbeats 8000000 in
set_option maxRecDepth 100000 in
theorem ident_Isin.calls (k : Nat) (a0 : ByteArray) (r : Int) (w : World) (h : ident_Isin.f k a0 = some r) :
  Calls Try.prog 70 #[.string a0] w fun e w' => e = .returned (.int .i64 r) ∧ Below w.heap.size w w' := by
 have HB := A_ (Below.refl w.heap.size w)
 have H : (if (a0.size : Int) = 12 then (if 11 < (a0.size : Int) then ((ident_digit.f (bt a0 11)).bind fun t107 => (ident_Isin.j0 k a0 (!t107))) else (none)) else (ident_Isin.j0 k a0 true)) = some r := h
 clear h
 have HC2 := A_ H
 clear H
 go_enter Try.func70, Try.ntmps70
 go_upto_region 1 with (fail)
 go_cut [13] (fun v13 wc => ∃ (kq : Nat) (x13_1 : Bool), v13 = .bool x13_1 ∧ Aside0 (ident_Isin.j0 kq a0 x13_1 = some r) ∧ Aside0 (kq ≤ k) ∧ Aside0 (Below w.heap.size w wc))
 case first =>
  have H := HC2.out
  clear HC2
  by_cases c3 : (a0.size : Int) = 12
  ·
   rw [if_pos c3] at H
   have c3b0 : ((a0.size : Int) == 12) = true := q1_ c3
   have c3b1 : ((a0.size : Int) != 12) = false := q3_ c3
   clear c3
   (first | rw [c3b0] | (simp only [i64_w, i32_w]; rw [c3b0]) | skip)
   by_cases c4 : 11 < (a0.size : Int)
   ·
    rw [if_pos c4] at H
    have c4b0 : decide (11 < (a0.size : Int)) = true := decide_eq_true c4
    have c4b1 : decide (11 < a0.size) = true := decide_eq_true (by omega)
    clear c4
    replace H := os_ H
    obtain ⟨t107, A60, H⟩ := H
    replace H : (ident_Isin.j0 k a0 (!t107)) = some r := H
    have A6 := A_ A60
    clear A60
    have H' := A_ H
    clear H
    have p5 : 0 ≤ (11 : Int) := (by omega)
    have q5 : 11 < a0.size := (by have : (11 : Int) < (a0.size : Int) := od_ (by first | (with_reducible assumption) | assumption); omega)
    have hx5 : ∀ h : 11 < a0.size, ((a0[11]'h).toNat : Int) = bt a0 11 := bt_at a0 11
    clear p5
    have qi5 : (11 < (a0.size : Int)) = True := eq_true (od_ (by first | (with_reducible assumption) | assumption))
    replace q5 := eq_true q5
    go_wp2_with (first | (go_at_call 109; (with_reducible refine (ident_digit.calls (bt a0 11) t107 _ A6.out).mono ?_); rintro e w' ⟨rfl, ⟨nd, rfl⟩⟩))
    go_meet
    case rel => exact ⟨_, (!t107), (by first | rfl | (simp; done) | (simp [*]; done)), H', ⟨by first | omega | exact Nat.le_refl _⟩, ⟨bw_⟩⟩
   ·
    rw [if_neg c4] at H
    exact absurd H (by simp)
  ·
   rw [if_neg c3] at H
   have c3b0 : ((a0.size : Int) == 12) = false := q4_ c3
   have c3b1 : ((a0.size : Int) != 12) = true := q2_ c3
   (first | rw [c3b0] | (simp only [i64_w, i32_w]; rw [c3b0]) | skip)
   have H' := A_ H
   clear H
   go_wp2
   go_meet
   case rel => exact ⟨_, (true), (by first | rfl | (simp; done) | (simp [*]; done)), H', ⟨by first | omega | exact Nat.le_refl _⟩, ⟨bw_⟩⟩
 case rest =>
  clear HC2
  try clear p2
  try clear c3
  try clear c3b0
  try clear c3b1
  try clear c4
  try clear c4b0
  try clear c4b1
  try clear p5
  try clear q5
  try clear hx5
  try clear qi5
  try clear p5
  try clear q5
  obtain ⟨kq, x13_1, rfl, HA, HJ1, HB⟩ := hcut
  cases kq with
  | zero => exact absurd HA.out (by simp [ident_Isin.j0])
  | succ kj1 =>
   have H := HA.out
   clear HA
   simp only [ident_Isin.j0] at H
   by_cases c7 : x13_1 = true
   ·
    subst c7
    have H1 : (some 3) = some r := by rw [if_pos rfl] at H; exact H
    clear H
    have H := H1
    clear H1
    obtain rfl := Option.some.inj H
    go_wp2
    go_ret
    exact ⟨by first | rfl | (simp [errW_none, errW_some] <;> rfl) | (simp [*, errW_none, errW_some] <;> rfl), bw_⟩
   ·
    replace c7 := Bool.eq_false_iff.mpr c7
    subst c7
    have H1 : (if 0 ≤ 11 then (if 11 ≤ (a0.size : Int) then ((ident_Digit.f (a0.extract 0 11)).bind fun bt108 => (if bt108.2 = 0 then (if 11 < (a0.size : Int) then (if bt108.1 = (bt a0 11) then (some 0) else (some 11)) else (none)) else (some bt108.2))) else (none)) else (none)) = some r := by rw [if_neg (show ¬ (false = true) by decide)] at H; exact H
    clear H
    have H := H1
    clear H1
    by_cases c8 : 0 ≤ 11
    ·
     rw [if_pos c8] at H
     have c8b0 := eq_true c8
     have c8b1 : decide (0 ≤ 11) = true := decide_eq_true c8
     clear c8
     by_cases c9 : 11 ≤ (a0.size : Int)
     ·
      rw [if_pos c9] at H
      have c9b0 := eq_true c9
      have c9b1 : decide (11 ≤ (a0.size : Int)) = true := decide_eq_true c9
      clear c9
      replace H := os_ H
      obtain ⟨⟨t108, t109⟩, A100, H⟩ := H
      replace H : (if t109 = 0 then (if 11 < (a0.size : Int) then (if t108 = (bt a0 11) then (some 0) else (some 11)) else (none)) else (some t109)) = some r := H
      have A10 := A_ A100
      clear A100
      by_cases c11 : t109 = 0
      ·
       rw [if_pos c11] at H
       have c11b0 : (t109 == 0) = true := q1_ c11
       have c11b1 : (t109 != 0) = false := q3_ c11
       clear c11
       by_cases c12 : 11 < (a0.size : Int)
       ·
        rw [if_pos c12] at H
        have c12b0 : decide (11 < (a0.size : Int)) = true := decide_eq_true c12
        have c12b1 : decide (11 < a0.size) = true := decide_eq_true (by omega)
        clear c12
        by_cases c14 : t108 = (bt a0 11)
        ·
         rw [if_pos c14] at H
         have c14b0 : (t108 == (bt a0 11)) = true := q1_ c14
         have c14b1 : (t108 != (bt a0 11)) = false := q3_ c14
         clear c14
         obtain rfl := Option.some.inj H
         go_wp2_with (first | ((with_reducible refine gate_callee (f := 110) rfl ?_); refine goesL_ (some 17) rfl rfl Try.func110 (by kernel_rfl) rfl #[.string (a0.extract 0 11)] rfl (by (try simp only [List.map_toArray, List.map_cons, List.map_nil]); first | done | rfl | (simp only [List.length_drop, List.length_take]; rfl)) ?_; (with_reducible refine (ident_Digit.calls (a0.extract 0 11) t108 t109 _ A10.out).mono ?_); rintro e w15 ⟨rfl, hb⟩; refine ⟨_, rfl, ?_⟩; have n0_ := A_ (bs_ bw_ hb); clear HB; have HB := n0_; clear n0_; (try clear hb); (try clear hb2); (try clear hk); (try clear hi); have p13 : 0 ≤ (11 : Int) := (by omega); have q13 : 11 < a0.size := (by have : (11 : Int) < (a0.size : Int) := od_ (by first | (with_reducible assumption) | assumption); omega); have hx13 : ∀ h : 11 < a0.size, ((a0[11]'h).toNat : Int) = bt a0 11 := bt_at a0 11; clear p13; have qi13 : (11 < (a0.size : Int)) = True := eq_true (od_ (by first | (with_reducible assumption) | assumption)); replace q13 := eq_true q13))
         go_ret
         exact ⟨by first | rfl | (simp [errW_none, errW_some] <;> rfl) | (simp [*, errW_none, errW_some] <;> rfl), bw_⟩
        ·
         rw [if_neg c14] at H
         have c14b0 : (t108 == (bt a0 11)) = false := q4_ c14
         have c14b1 : (t108 != (bt a0 11)) = true := q2_ c14
         obtain rfl := Option.some.inj H
         go_wp2_with (first | ((with_reducible refine gate_callee (f := 110) rfl ?_); refine goesL_ (some 17) rfl rfl Try.func110 (by kernel_rfl) rfl #[.string (a0.extract 0 11)] rfl (by (try simp only [List.map_toArray, List.map_cons, List.map_nil]); first | done | rfl | (simp only [List.length_drop, List.length_take]; rfl)) ?_; (with_reducible refine (ident_Digit.calls (a0.extract 0 11) t108 t109 _ A10.out).mono ?_); rintro e w16 ⟨rfl, hb⟩; refine ⟨_, rfl, ?_⟩; have n0_ := A_ (bs_ bw_ hb); clear HB; have HB := n0_; clear n0_; (try clear hb); (try clear hb2); (try clear hk); (try clear hi); have p13 : 0 ≤ (11 : Int) := (by omega); have q13 : 11 < a0.size := (by have : (11 : Int) < (a0.size : Int) := od_ (by first | (with_reducible assumption) | assumption); omega); have hx13 : ∀ h : 11 < a0.size, ((a0[11]'h).toNat : Int) = bt a0 11 := bt_at a0 11; clear p13; have qi13 : (11 < (a0.size : Int)) = True := eq_true (od_ (by first | (with_reducible assumption) | assumption)); replace q13 := eq_true q13))
         go_ret
         exact ⟨by first | rfl | (simp [errW_none, errW_some] <;> rfl) | (simp [*, errW_none, errW_some] <;> rfl), bw_⟩
       ·
        rw [if_neg c12] at H
        exact absurd H (by simp)
      ·
       rw [if_neg c11] at H
       have c11b0 : (t109 == 0) = false := q4_ c11
       have c11b1 : (t109 != 0) = true := q2_ c11
       obtain rfl := Option.some.inj H
       go_wp2_with (first | ((with_reducible refine gate_callee (f := 110) rfl ?_); refine goesL_ (some 17) rfl rfl Try.func110 (by kernel_rfl) rfl #[.string (a0.extract 0 11)] rfl (by (try simp only [List.map_toArray, List.map_cons, List.map_nil]); first | done | rfl | (simp only [List.length_drop, List.length_take]; rfl)) ?_; (with_reducible refine (ident_Digit.calls (a0.extract 0 11) t108 t109 _ A10.out).mono ?_); rintro e w17 ⟨rfl, hb⟩; refine ⟨_, rfl, ?_⟩; have n0_ := A_ (bs_ bw_ hb); clear HB; have HB := n0_; clear n0_; (try clear hb); (try clear hb2); (try clear hk); (try clear hi)))
       go_ret
       exact ⟨by first | rfl | (simp [errW_none, errW_some] <;> rfl) | (simp [*, errW_none, errW_some] <;> rfl), bw_⟩
     ·
      rw [if_neg c9] at H
      exact absurd H (by simp)
    ·
     rw [if_neg c8] at H
     exact absurd H (by simp)
end Go.Proofs.Ythhgcjlgnafdcaa.Px
end
section
namespace Go.Proofs.Ythhgcjlgnafdcaa.Ip
set_option linter.unusedSimpArgs false
set_option linter.unusedVariables false
open Go Go.RowKit Go.Proofs.YthhgcjlgnafdcaaW.PrintWords Go.Proofs.YthhgcjlgnafdcaaW.PrintLast Go.Proofs.YthhgcjlgnafdcaaW.PrintMore Go.Proofs.Ythhgcjlgnafdcaa.Ja Go.Proofs.Ythhgcjlgnafdcaa.Jb Go.Proofs.Ythhgcjlgnafdcaa.Px
theorem great_f (c : Int) : ident_great.f c = some (isG c) := by
  unfold ident_great.f isG
  by_cases h : c ≥ 65
  · rw [if_pos h]; simp [h]
  · rw [if_neg h]; simp; omega
theorem digit_f (c : Int) : ident_digit.f c = some (isD c) := by
  unfold ident_digit.f isD
  by_cases h : c ≥ 48
  · rw [if_pos h]; simp [h]
  · rw [if_neg h]; simp; omega
theorem letter_f (c : Int) : clevisref02_letter.f c 65 = some (isG c) := by
  unfold clevisref02_letter.f isG
  by_cases h : c ≥ 65
  · rw [if_pos h]; simp [h]
  · rw [if_neg h]; simp; omega
theorem rdigit_f (c : Int) : clevisref02_digit.f c = some (isD c) := by
  unfold clevisref02_digit.f isD
  by_cases h : c ≥ 48
  · rw [if_pos h]; simp [h]
  · rw [if_neg h]; simp; omega
def allOk (s : ByteArray) : Nat → Nat → Bool
  | _, 0 => true
  | i, n + 1 => okAt i (bt s i) && allOk s (i + 1) n
theorem rd_bytes (s : ByteArray) (i : Nat) : rd (bytesOf s) i = bt s i := by
  simp only [rd, bytesOf, bt, Int.toNat_natCast]
  by_cases h : i < s.size
  · rw [dif_pos h, List.getD_eq_getElem?_getD, List.getElem?_map]
    have h' : i < s.data.toList.length := by simpa using h
    rw [List.getElem?_eq_getElem h']
    rfl
  · rw [dif_neg h, List.getD_eq_getElem?_getD, List.getElem?_map]
    have h' : s.data.toList.length ≤ i := by simpa using h
    rw [List.getElem?_eq_none h']
    rfl
theorem bytes_length (s : ByteArray) : (bytesOf s).length = s.size := by simp [bytesOf]
theorem body_l0 (s : ByteArray) (h11 : s.size = 11) (k : Nat) : ∀ n i : Nat, i + n = 11 → ident_body.l0 (n + 1 + k) (bytesOf s) 11 i = some (allOk s i n)
  | 0, i, h => by
    rw [show 0 + 1 + k = k + 1 by omega, ident_body.l0, if_neg (by omega)]
    rfl
  | n + 1, i, h => by
    have hw : wrap64 ((i : Int) + 1) = ((i + 1 : Nat) : Int) := by unfold wrap64; omega
    have ih := body_l0 s h11 k n (i + 1) (by omega)
    rw [show n + 1 + 1 + k = (n + 1 + k) + 1 by omega, ident_body.l0, if_pos (by omega), if_pos (by omega), if_pos (by rw [bytes_length]; omega)]
    simp only [rd_bytes, great_f, digit_f, Option.bind_some, hw, ih, allOk, okAt]
    cases isG (bt s i) <;> cases isD (bt s i) <;> by_cases h2 : (i : Int) < 2 <;> simp [h2] <;> omega
theorem body_f (s : ByteArray) (h11 : s.size = 11) : ident_body.f 20 s = some (allOk s 0 11) := by
  have h := body_l0 s h11 8 11 0 (by omega)
  unfold ident_body.f
  rw [if_pos (by omega), if_pos (by omega)]
  simp only [Option.bind_some, bytes_length, h11]
  exact h
theorem body_f' (s : ByteArray) (h : s.size ≠ 11) : ident_body.f 20 s = some false := by
  unfold ident_body.f
  rw [if_neg (by omega)]
theorem ref_l2 (f : Int) (h0 : 0 ≤ f) (h1 : f ≤ 1000) (k : Nat) (r : Nat) (hr : (r : Int) = (10 - f % 10) % 10) : ∀ n c : Nat, c + n = r → clevisref02_Digit.l2 (n + 1 + k) f c = some (r : Int)
  | 0, c, h => by
    rw [show 0 + 1 + k = k + 1 by omega, clevisref02_Digit.l2, if_pos (by omega), w64 (by omega), Int.tmod_eq_emod_of_nonneg (by omega), if_pos (by omega)]
    simp; omega
  | n + 1, c, h => by
    have hw : wrap64 ((c : Int) + 1) = ((c + 1 : Nat) : Int) := by unfold wrap64; omega
    rw [show n + 1 + 1 + k = (n + 1 + k) + 1 by omega, clevisref02_Digit.l2, if_pos (by omega), w64 (n := f + c) (by omega), Int.tmod_eq_emod_of_nonneg (by omega), if_neg (by omega), hw]
    exact ref_l2 f h0 h1 k r hr n (c + 1) (by omega)
theorem rd_nat (xs : List Int) (i : Nat) (h : i < xs.length) : rd xs i = xs[i] := by simp [rd, List.getD_eq_getElem?_getD, List.getElem?_eq_getElem h]
theorem F_range : ∀ xs : List Int, dig xs → 0 ≤ F xs ∧ F xs ≤ 9 * xs.length
  | [], _ => by simp [F]
  | x :: xs, h => by
    have h1 := wt_range (j := xs.length) (h x (by simp))
    have h2 := F_range xs (fun y hy => h y (by simp [hy]))
    simp only [F, List.length_cons]
    omega
theorem ref_l1 (xs : List Int) (hd : dig xs) (hl : xs.length ≤ 50) (k : Nat) : ∀ (n i : Nat) (sum : Int), i + n = xs.length → 0 ≤ sum → sum ≤ 9 * i → clevisref02_Digit.l1 (n + 1 + k) xs sum i = clevisref02_Digit.l2 k (sum + F (xs.drop i)) 0
  | 0, i, sum, h, _, _ => by
    rw [show 0 + 1 + k = k + 1 by omega, clevisref02_Digit.l1, if_neg (by omega), List.drop_of_length_le (by omega)]
    simp [F]
  | n + 1, i, sum, h, h0, h1 => by
    have hi : i < xs.length := by omega
    have hw : wrap64 ((i : Int) + 1) = ((i + 1 : Nat) : Int) := by unfold wrap64; omega
    have hx := hd xs[i] (List.getElem_mem hi)
    have hwt := wt_range (j := (xs.drop (i + 1)).length) hx
    have ih := ref_l1 xs hd hl k n (i + 1) (sum + wt (xs.drop (i + 1)).length xs[i]) (by omega) (by omega) (by push_cast; omega)
    have hF : F (xs.drop i) = wt (xs.drop (i + 1)).length xs[i] + F (xs.drop (i + 1)) := by rw [List.drop_eq_getElem_cons hi, F]
    rw [show n + 1 + 1 + k = (n + 1 + k) + 1 by omega, clevisref02_Digit.l1, if_pos (by omega), if_pos (by omega)]
    rw [w64 (n := (xs.length : Int) - i) (by omega), Int.tmod_eq_emod_of_nonneg (by omega), rd_nat xs i hi, w64 (n := 2 * xs[i]) (by omega), w64 (n := 2 * xs[i] - 9) (by omega), hw]
    rw [hF, ← Int.add_assoc, ← ih]
    have hln : (xs.drop (i + 1)).length = xs.length - (i + 1) := List.length_drop
    rw [hln] at hwt ⊢
    unfold wt at hwt ⊢
    by_cases hp : ((xs.length : Int) - i) % 2 = 1
    · rw [if_pos hp]
      have hp2 : (xs.length - (i + 1)) % 2 = 0 := by omega
      rw [if_pos hp2] at hwt ⊢
      by_cases h9 : 2 * xs[i] > 9
      · rw [if_pos h9]
        rw [if_pos h9] at hwt ⊢
        rw [w64 (by omega)]
      · rw [if_neg h9]
        rw [if_neg h9] at hwt ⊢
        rw [w64 (by omega)]
    · rw [if_neg hp]
      have hp2 : ¬ (xs.length - (i + 1)) % 2 = 0 := by omega
      rw [if_neg hp2] at hwt ⊢
      rw [w64 (by omega)]
theorem ref_l0 (s : ByteArray) (h11 : s.size = 11) (k : Nat) : ∀ (n i : Nat) (acc : List Int), i + n = 11 → acc.length ≤ 2 * i → clevisref02_Digit.l0 (n + 1 + k) s acc i = if allOk s i n = true then clevisref02_Digit.l1 k (acc ++ row s i n) 0 0 else some (-1)
  | 0, i, acc, h, _ => by
    rw [show 0 + 1 + k = k + 1 by omega, clevisref02_Digit.l0, if_neg (by omega)]
    simp [allOk, row]
  | n + 1, i, acc, h, ha => by
    have hw : wrap64 ((i : Int) + 1) = ((i + 1 : Nat) : Int) := by unfold wrap64; omega
    have hr := bt_range s i
    have ih := fun acc' => ref_l0 s h11 k n (i + 1) acc' (by omega)
    rw [show n + 1 + 1 + k = (n + 1 + k) + 1 by omega, clevisref02_Digit.l0, if_pos (by omega), if_pos (by omega), if_pos (by omega)]
    simp only [letter_f, rdigit_f, Option.bind_some, hw, row]
    by_cases hg : isG (bt s i) = true
    · have h1 : 65 ≤ bt s i ∧ bt s i ≤ 90 := by simpa [isG] using hg
      have he : ed (bt s i) = [(bt s i - 55) / 10, (bt s i - 55) % 10] := by unfold ed; rw [if_pos hg]
      have hA : allOk s i (n + 1) = allOk s (i + 1) n := by simp [allOk, okAt, hg]
      rw [if_pos hg, w64 (n := bt s i) (by omega), w64 (n := bt s i - 55) (by omega), Int.tdiv_eq_ediv_of_nonneg (by omega), Int.tmod_eq_emod_of_nonneg (by omega), w64 (by omega), if_pos (by simp; omega), ih _ (by simp; omega), he, hA, List.append_assoc]
    · rw [if_neg hg]
      by_cases hd : isD (bt s i) = true
      · have h1 : 48 ≤ bt s i ∧ bt s i ≤ 57 := by simpa [isD] using hd
        have he : ed (bt s i) = [bt s i - 48] := by unfold ed; rw [if_neg hg]
        rw [if_pos hd]
        by_cases h2 : 2 ≤ i
        · have hA : allOk s i (n + 1) = allOk s (i + 1) n := by simp [allOk, okAt, hd, h2]
          rw [if_pos (by omega), if_pos (by omega), w64 (n := bt s i) (by omega), w64 (by omega), ih _ (by simp; omega), he, hA, List.append_assoc]
        · have hA : allOk s i (n + 1) = false := by simp [allOk, okAt, hg, h2]
          rw [if_neg (by omega), hA]
          simp
      · have hA : allOk s i (n + 1) = false := by simp [allOk, okAt, hg, hd]
        rw [if_neg hd, hA]
        simp
def okS (s : ByteArray) : Bool := decide (s.size = 11) && allOk s 0 11
def chk (s : ByteArray) : Int := (10 - F (row s 0 11) % 10) % 10
theorem allOk_at (s : ByteArray) : ∀ n i, allOk s i n = true → ∀ j, i ≤ j → j < i + n → okAt j (bt s j) = true
  | 0, i, _, j, h1, h2 => by omega
  | n + 1, i, h, j, h1, h2 => by
    simp only [allOk, Bool.and_eq_true] at h
    by_cases e : j = i
    · subst e; exact h.1
    · exact allOk_at s n (i + 1) h.2 j (by omega) (by omega)
theorem chk_range (s : ByteArray) : 0 ≤ chk s ∧ chk s ≤ 9 := by unfold chk; omega
theorem iDigit (s : ByteArray) : ident_Digit.f s = some (if okS s = true then (48 + chk s, 0) else (0, 3)) := by
  unfold ident_Digit.f
  by_cases h : s.size = 11
  · rw [body_f s h]
    cases hk : allOk s 0 11 with
    | true =>
      have e : okS s = true := by simp [okS, h, hk]
      simp only [Option.bind_some, e, if_true]
      rw [ckB_row s h (fun i hi => allOk_at s 11 0 hk i (Nat.zero_le _) (by omega))]
      rfl
    | false =>
      have e : okS s = false := by simp [okS, h, hk]
      simp [e]
  · rw [body_f' s h]
    have e : okS s = false := by simp [okS, h]
    simp [e]
theorem rDigit60 (s : ByteArray) : clevisref02_Digit.f 60 s = some (if okS s = true then chk s else -1) := by
  unfold clevisref02_Digit.f
  by_cases h : s.size = 11
  · rw [if_pos (by omega)]
    have h0 := ref_l0 s h 48 11 0 [] (by omega) (by simp)
    rw [show 11 + 1 + 48 = 60 by omega] at h0
    refine h0.trans ?_
    cases hk : allOk s 0 11 with
    | true =>
      have e : okS s = true := by simp [okS, h, hk]
      have hd := row_dig s (fun i hi => allOk_at s 11 0 hk i (Nat.zero_le _) (by omega)) 11 0 (by omega)
      have hl := row_length s 11 0
      have hF := F_range _ hd
      have h1 := ref_l1 (row s 0 11) hd (by omega) (47 - (row s 0 11).length) (row s 0 11).length 0 0 (by omega) (Int.le_refl _) (by omega)
      rw [show (row s 0 11).length + 1 + (47 - (row s 0 11).length) = 48 by omega] at h1
      simp only [if_true, List.nil_append, e]
      refine h1.trans ?_
      simp only [List.drop_zero, Int.zero_add]
      obtain ⟨r, hr⟩ := Int.eq_ofNat_of_zero_le (chk_range s).1
      have hr9 := (chk_range s).2
      rw [hr] at hr9 ⊢
      have h2 := ref_l2 (F (row s 0 11)) hF.1 (by omega) (47 - (row s 0 11).length - r - 1) r (by rw [← hr]; rfl) r 0 (by omega)
      rw [show r + 1 + (47 - (row s 0 11).length - r - 1) = 47 - (row s 0 11).length by omega] at h2
      exact h2
    | false =>
      have e : okS s = false := by simp [okS, h, hk]
      simp [e]
  · rw [if_neg (by omega)]
    have e : okS s = false := by simp [okS, h]
    simp [e]
theorem rDigit (s : ByteArray) (k : Nat) (hk : 60 ≤ k) : clevisref02_Digit.f k s = some (if okS s = true then chk s else -1) :=
  at_rounds (g := fun k => clevisref02_Digit.f k s) (fun k => clevisref02_Digit.mono s k) hk (rDigit60 s)
def isinE (s : ByteArray) : Int := if s.size = 12 ∧ isD (bt s 11) = true ∧ okS (s.extract 0 11) = true then (if 48 + chk (s.extract 0 11) = bt s 11 then 0 else 11) else 3
theorem iIsin (s : ByteArray) (k : Nat) : ident_Isin.f (k + 1) s = some (isinE s) := by
  unfold ident_Isin.f isinE
  by_cases h : s.size = 12
  · rw [if_pos (by omega), if_pos (by omega), digit_f]
    simp only [Option.bind_some, ident_Isin.j0]
    cases hd : isD (bt s 11) with
    | true =>
      simp only [Bool.not_true, Bool.false_eq_true, if_false]
      rw [if_pos (by omega), if_pos (by omega), iDigit]
      cases ho : okS (s.extract 0 11) with
      | true =>
        simp only [Option.bind_some, if_true, h, and_self]
        rw [if_pos (by omega)]
        split <;> rfl
      | false => simp
    | false => simp
  · rw [if_neg (by omega)]
    simp [ident_Isin.j0, h]
theorem rIsin (s : ByteArray) (k : Nat) (hk : 61 ≤ k) : clevisref02_Isin.f k s = some (isinE s) := by
  obtain ⟨k, rfl⟩ : ∃ j, k = j + 1 := ⟨k - 1, by omega⟩
  unfold clevisref02_Isin.f isinE
  by_cases h : s.size = 12
  · have hr := bt_range s 11
    rw [if_pos (by omega), if_pos (by omega), rdigit_f]
    simp only [Option.bind_some, clevisref02_Isin.j0]
    cases hd : isD (bt s 11) with
    | true =>
      simp only [if_true]
      rw [if_pos (by omega), if_pos (by omega), rDigit _ _ (by omega), rDigit _ _ (by omega)]
      have hc := chk_range (s.extract 0 11)
      cases ho : okS (s.extract 0 11) with
      | true =>
        have e : decide (chk (s.extract 0 11) < 0) = false := by simp; omega
        simp only [Option.bind_some, if_true, h, and_self, e, Bool.false_eq_true, if_false]
        rw [if_pos (by omega), if_pos (by omega), if_pos (by omega), w64 (n := bt s 11) (by omega), w64 (by omega)]
        by_cases q : 48 + chk (s.extract 0 11) = bt s 11
        · rw [if_pos q, if_pos (by omega)]
        · rw [if_neg q, if_neg (by omega)]
      | false => simp
    | false => simp
  · rw [if_neg (by omega)]
    simp [clevisref02_Isin.j0, h]
end Go.Proofs.Ythhgcjlgnafdcaa.Ip
end
