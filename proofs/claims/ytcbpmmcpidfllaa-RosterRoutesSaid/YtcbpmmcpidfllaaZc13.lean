/- Texts of this seat, put together (Zc13). -/
import Derived.Test.YtcbpmmcpidfllaaZc2
import Derived.Test.YtcbpmmcpidfllaaZc11
section
namespace Go.Proofs.Ytcbpmmcpidfllaa.Ro
open Go.RowKit Go.Proofs.YtcbpmmcpidfllaaW.PrintWords Go.Proofs.YtcbpmmcpidfllaaW.PrintLast Go.Proofs.YtcbpmmcpidfllaaW.PrintMore
attribute [local go_sem] max2_int min2_int max_two min_two max_three min_three max_four min_four   -- for this text's walks alone
set_option linter.unusedVariables false
set_option linter.unusedSimpArgs false
mutual
def clevisref08_Check.j0 : Nat → Bool → Int → List ByteArray → List (S63) → Option (Int)
 | 0, _, _, _, _ => none
 | k + 1, x17, x302000, x302001, x302002 => if x17 = true then (some 1) else (if (x302001.length : Int) > 32 then (clevisref08_Check.j1 k true x302000 x302001 x302002) else (clevisref08_Check.j1 k (decide ((x302002.length : Int) > 64)) x302000 x302001 x302002))
def clevisref08_Check.j1 : Nat → Bool → Int → List ByteArray → List (S63) → Option (Int)
 | 0, _, _, _, _ => none
 | k + 1, x27, x302000, x302001, x302002 => if x27 = true then (some 2) else (clevisref08_Check.l0 k 0 x302000 x302001 x302002)
def clevisref08_Check.l0 : Nat → Int → Int → List ByteArray → List (S63) → Option (Int)
 | 0, _, _, _, _ => none
 | k + 1, x3, x302000, x302001, x302002 => if x3 < (x302001.length : Int) then (if 0 ≤ x3 then ((clevisref02_Isin.f k (rdOf ByteArray.empty x302001 x3)).bind fun t147 => (if t147 = 0 then (clevisref08_Check.l1 k x3 0 x302000 x302001 x302002) else (some t147))) else (none)) else (clevisref08_Check.l2 k 0 x302000 x302001 x302002)
def clevisref08_Check.l1 : Nat → Int → Int → Int → List ByteArray → List (S63) → Option (Int)
 | 0, _, _, _, _, _ => none
 | k + 1, x3, x5, x302000, x302001, x302002 => if x5 < x3 then (if 0 ≤ x5 then (if x5 < (x302001.length : Int) then (if 0 ≤ x3 then (if x3 < (x302001.length : Int) then (if (rdOf ByteArray.empty x302001 x5).toList = (rdOf ByteArray.empty x302001 x3).toList then (some 6) else (clevisref08_Check.l1 k x3 (wrap64 (x5 + 1)) x302000 x302001 x302002)) else (none)) else (none)) else (none)) else (none)) else (clevisref08_Check.l0 k (wrap64 (x3 + 1)) x302000 x302001 x302002)
def clevisref08_Check.l2 : Nat → Int → Int → List ByteArray → List (S63) → Option (Int)
 | 0, _, _, _, _ => none
 | k + 1, x6, x302000, x302001, x302002 => if x6 < (x302002.length : Int) then (if 0 ≤ x6 then ((clevisref02_Member.f k ((rd_T63 x302002 x6).f0)).bind fun t151 => (if t151 = 0 then (clevisref08_Check.l3 k x6 0 x302000 x302001 x302002 ((rd_T63 x302002 x6).f0) ((rd_T63 x302002 x6).f1)) else (some t151))) else (none)) else (some 0)
def clevisref08_Check.l3 : Nat → Int → Int → Int → List ByteArray → List (S63) → ByteArray → Int → Option (Int)
 | 0, _, _, _, _, _, _, _ => none
 | k + 1, x6, x9, x302000, x302001, x302002, x308000, x308001 => if x9 < x6 then (if 0 ≤ x9 then (if x9 < (x302002.length : Int) then (if ((rd_T63 x302002 x9).f0).toList = x308000.toList then (some 6) else (clevisref08_Check.l3 k x6 (wrap64 (x9 + 1)) x302000 x302001 x302002 x308000 x308001)) else (none)) else (none)) else (if x308001 < 0 then (some 5) else (if x308001 ≥ x302000 then (some 5) else (clevisref08_Check.l2 k (wrap64 (x6 + 1)) x302000 x302001 x302002)))
end
def clevisref08_Check.f (k : Nat) (a0_0 : Int) (l0_1 : List ByteArray) (l0_2 : List (S63)) : Option (Int) := if a0_0 < 1 then (clevisref08_Check.j0 k true a0_0 l0_1 l0_2) else (clevisref08_Check.j0 k (decide (a0_0 > 3)) a0_0 l0_1 l0_2)
set_option maxHeartbeats 8000000 in
set_option maxRecDepth 100000 in
theorem clevisref08_Check.calls (k : Nat) (a0_0 : Int) (A0_1 : Option Addr) (c0_1 : Nat) (l0_1 : List ByteArray) (A0_2 : Option Addr) (c0_2 : Nat) (l0_2 : List (S63)) (r : Int) (w : World) (hr0_1 : Kd.C Kd.string w A0_1 l0_1.length l0_1) (hc0_1 : l0_1.length ≤ c0_1) (hr0_2 : Kd.C k63 w A0_2 l0_2.length l0_2) (hc0_2 : l0_2.length ≤ c0_2) (h : clevisref08_Check.f k a0_0 l0_1 l0_2 = some r) :
  Calls Try.prog 10 #[.agg #[.int .i64 a0_0, .slice A0_1 l0_1.length c0_1, .slice A0_2 l0_2.length c0_2]] w fun e w' => e = .returned (.int .i64 r) ∧ Below w.heap.size w w' := by
 have hu25 := Try.underlying25
 have hu63 := Try.underlying63
 have HR0_1 := A_ hr0_1
 have HC0_1 := A_ hc0_1
 clear hr0_1 hc0_1
 have HR0_2 := A_ hr0_2
 have HC0_2 := A_ hc0_2
 clear hr0_2 hc0_2
 have HB := A_ (Below.refl w.heap.size w)
 have H : (if a0_0 < 1 then (clevisref08_Check.j0 k true a0_0 l0_1 l0_2) else (clevisref08_Check.j0 k (decide (a0_0 > 3)) a0_0 l0_1 l0_2)) = some r := h
 clear h
 have HC2 := A_ H
 clear H
 go_enter Try.func10, Try.ntmps10
 go_upto_region 1 with (first | ((with_reducible refine gate_dst (N := 1) rfl ?_); (try (refine gate_guard (by rfl) ?_; dsimp only)); refine box_event ?hg (N := 1) ?hd (cs := #[.int .i64 a0_0, .slice A0_1 l0_1.length c0_1, .slice A0_2 l0_2.length c0_2]) (t := 25) ?hr ?_; (case hd => rfl); (case hg => rfl); (case hr => first | (go_simp; done) | (go_simp; rfl)); intro gb301 hg w3 hbox hb; have n0_ := A_ (bs_ bw_ hb); have n1_ := A_ (hbox); have n2_ := A_ ((by rw [hg]; exact (bz_ bw_) : w.heap.size ≤ gb301)); have n3_ := A_ ((by rw [hg]; exact (bz_ bw_) : w.heap.size ≤ gb301)); clear HB; have HB := n0_; have BK301 := n1_; have GW301 := n2_; have GE301 := n3_; clear n0_ n1_ n2_ n3_; clear hb hbox hg))
 repeat (go_quiet (first | ((with_reducible refine gate_dst (N := 1) rfl ?_); (try (refine gate_guard (by rfl) ?_; dsimp only)); refine box_event ?hg (N := 1) ?hd (cs := #[.int .i64 a0_0, .slice A0_1 l0_1.length c0_1, .slice A0_2 l0_2.length c0_2]) (t := 25) ?hr ?_; (case hd => rfl); (case hg => rfl); (case hr => first | (go_simp; done) | (go_simp; rfl)); intro gb301 hg w3 hbox hb; have n0_ := A_ (bs_ bw_ hb); have n1_ := A_ (hbox); have n2_ := A_ ((by rw [hg]; exact (bz_ bw_) : w.heap.size ≤ gb301)); have n3_ := A_ ((by rw [hg]; exact (bz_ bw_) : w.heap.size ≤ gb301)); clear HB; have HB := n0_; have BK301 := n1_; have GW301 := n2_; have GE301 := n3_; clear n0_ n1_ n2_ n3_; clear hb hbox hg)); go_upto_region 1 with (first | ((with_reducible refine gate_dst (N := 1) rfl ?_); (try (refine gate_guard (by rfl) ?_; dsimp only)); refine box_event ?hg (N := 1) ?hd (cs := #[.int .i64 a0_0, .slice A0_1 l0_1.length c0_1, .slice A0_2 l0_2.length c0_2]) (t := 25) ?hr ?_; (case hd => rfl); (case hg => rfl); (case hr => first | (go_simp; done) | (go_simp; rfl)); intro gb301 hg w3 hbox hb; have n0_ := A_ (bs_ bw_ hb); have n1_ := A_ (hbox); have n2_ := A_ ((by rw [hg]; exact (bz_ bw_) : w.heap.size ≤ gb301)); have n3_ := A_ ((by rw [hg]; exact (bz_ bw_) : w.heap.size ≤ gb301)); clear HB; have HB := n0_; have BK301 := n1_; have GW301 := n2_; have GE301 := n3_; clear n0_ n1_ n2_ n3_; clear hb hbox hg)))
 (try simp only [Act.put, sA_, sZ_, sS_])
 go_cut [17] (fun v17 wc => ∃ (kq : Nat) (x17_1 : Bool), v17 = .bool x17_1 ∧ Aside0 (clevisref08_Check.j0 kq x17_1 a0_0 l0_1 l0_2 = some r) ∧ Aside0 (kq ≤ k) ∧ Aside0 (wc.heap[gb301]? = some (.cells #[.int .i64 a0_0, (.slice A0_1 l0_1.length c0_1), (.slice A0_2 l0_2.length c0_2)] 25 (0, 0))) ∧ Aside0 (Below w.heap.size w wc))
 case first =>
  have H := HC2.out
  clear HC2
  by_cases c4 : a0_0 < 1
  ·
   rw [if_pos c4] at H
   have c4b0 : decide (a0_0 < 1) = true := decide_eq_true c4
   clear c4
   (first | rw [c4b0] | (simp only [i64_w, i32_w]; rw [c4b0]) | skip)
   have H' := A_ H
   clear H
   have hcz5_0 : w3.cell? ⟨gb301, 0, none⟩ = some (.int .i64 a0_0) := (bc_ BK301.out 0).trans rfl
   have hcz5_1 : w3.cell? ⟨gb301, 1, none⟩ = some (.slice A0_1 l0_1.length c0_1) := (bc_ BK301.out 1).trans rfl
   have hcz5_2 : w3.cell? ⟨gb301, 2, none⟩ = some (.slice A0_2 l0_2.length c0_2) := (bc_ BK301.out 2).trans rfl
   have hfz5_0 := bf_ BK301.out 0
   have hfz5_1 := bf_ BK301.out 1
   have hfz5_2 := bf_ BK301.out 2
   go_wp2
   repeat (go_quiet (fail); try go_wp2)
   go_meet
   case rel => exact ⟨_, (true), (by first | rfl | (simp; done) | (simp [*]; done)), H', ⟨by first | omega | exact Nat.le_refl _⟩, ⟨bk_⟩, ⟨bw_⟩⟩
  ·
   rw [if_neg c4] at H
   have c4b0 : decide (a0_0 < 1) = false := decide_eq_false c4
   clear c4
   (first | rw [c4b0] | (simp only [i64_w, i32_w]; rw [c4b0]) | skip)
   have H' := A_ H
   clear H
   have hcz6_0 : w3.cell? ⟨gb301, 0, none⟩ = some (.int .i64 a0_0) := (bc_ BK301.out 0).trans rfl
   have hcz6_1 : w3.cell? ⟨gb301, 1, none⟩ = some (.slice A0_1 l0_1.length c0_1) := (bc_ BK301.out 1).trans rfl
   have hcz6_2 : w3.cell? ⟨gb301, 2, none⟩ = some (.slice A0_2 l0_2.length c0_2) := (bc_ BK301.out 2).trans rfl
   have hfz6_0 := bf_ BK301.out 0
   have hfz6_1 := bf_ BK301.out 1
   have hfz6_2 := bf_ BK301.out 2
   go_wp2
   repeat (go_quiet (fail); try go_wp2)
   go_meet
   case rel => exact ⟨_, (decide (a0_0 > 3)), (by first | rfl | (simp; done) | (simp [*]; done)), H', ⟨by first | omega | exact Nat.le_refl _⟩, ⟨bk_⟩, ⟨bw_⟩⟩
 case rest =>
  clear HC2
  try clear c1
  try clear p2
  try clear c4
  try clear c4b0
  try clear hcz5_0
  try clear hcz5_1
  try clear hcz5_2
  try clear hcz6_0
  try clear hcz6_1
  try clear hcz6_2
  try clear hfz5_0
  try clear hfz5_1
  try clear hfz5_2
  try clear hfz6_0
  try clear hfz6_1
  try clear hfz6_2
  obtain ⟨kq, x17_1, rfl, HA, HJ1, BK301, HB⟩ := hcut
  cases kq with
  | zero => exact absurd HA.out (by simp [clevisref08_Check.j0])
  | succ kj1 =>
   have H := HA.out
   clear HA
   simp only [clevisref08_Check.j0] at H
   by_cases c7 : x17_1 = true
   ·
    subst c7
    have H1 : (some 1) = some r := by rw [if_pos rfl] at H; exact H
    clear H
    have H := H1
    clear H1
    obtain rfl := Option.some.inj H
    go_wp2
    repeat (go_quiet (fail); try go_wp2)
    go_ret
    exact ⟨by first | rfl | (simp [errW_none, errW_some] <;> rfl) | (simp [*, errW_none, errW_some] <;> rfl), bw_⟩
   ·
    replace c7 := Bool.eq_false_iff.mpr c7
    subst c7
    have H1 : (if (l0_1.length : Int) > 32 then (clevisref08_Check.j1 kj1 true a0_0 l0_1 l0_2) else (clevisref08_Check.j1 kj1 (decide ((l0_2.length : Int) > 64)) a0_0 l0_1 l0_2)) = some r := by rw [if_neg (show ¬ (false = true) by decide)] at H; exact H
    clear H
    have H := H1
    clear H1
    have HC8 := A_ H
    clear H
    go_upto_region 3 with (fail)
    repeat (go_quiet (fail); go_upto_region 3 with (fail))
    go_cut [27] (fun v27 wc => ∃ (kq : Nat) (x27_7 : Bool), v27 = .bool x27_7 ∧ Aside0 (clevisref08_Check.j1 kq x27_7 a0_0 l0_1 l0_2 = some r) ∧ Aside0 (kq ≤ kj1) ∧ Aside0 (wc.heap[gb301]? = some (.cells #[.int .i64 a0_0, (.slice A0_1 l0_1.length c0_1), (.slice A0_2 l0_2.length c0_2)] 25 (0, 0))) ∧ Aside0 (Below w.heap.size w wc))
    case first =>
     have H := HC8.out
     clear HC8
     by_cases c9 : (l0_1.length : Int) > 32
     ·
      rw [if_pos c9] at H
      have c9b0 : decide (32 < (l0_1.length : Int)) = true := decide_eq_true c9
      have c9b1 : decide (32 < l0_1.length) = true := decide_eq_true (by omega)
      clear c9
      (first | rw [c9b0] | (simp only [i64_w, i32_w]; rw [c9b0]) | skip)
      have H' := A_ H
      clear H
      have hcz10_0 : wc.cell? ⟨gb301, 0, none⟩ = some (.int .i64 a0_0) := (bc_ BK301.out 0).trans rfl
      have hcz10_1 : wc.cell? ⟨gb301, 1, none⟩ = some (.slice A0_1 l0_1.length c0_1) := (bc_ BK301.out 1).trans rfl
      have hcz10_2 : wc.cell? ⟨gb301, 2, none⟩ = some (.slice A0_2 l0_2.length c0_2) := (bc_ BK301.out 2).trans rfl
      have hfz10_0 := bf_ BK301.out 0
      have hfz10_1 := bf_ BK301.out 1
      have hfz10_2 := bf_ BK301.out 2
      go_wp2
      repeat (go_quiet (fail); try go_wp2)
      go_meet
      case rel => exact ⟨_, (true), (by first | rfl | (simp; done) | (simp [*]; done)), H', ⟨by have := HJ1.out; first | omega | exact Nat.le_refl _⟩, ⟨bk_⟩, ⟨bw_⟩⟩
     ·
      rw [if_neg c9] at H
      have c9b0 : decide (32 < (l0_1.length : Int)) = false := decide_eq_false c9
      have c9b1 : decide (32 < l0_1.length) = false := decide_eq_false (by omega)
      clear c9
      (first | rw [c9b0] | (simp only [i64_w, i32_w]; rw [c9b0]) | skip)
      have H' := A_ H
      clear H
      have hcz11_0 : wc.cell? ⟨gb301, 0, none⟩ = some (.int .i64 a0_0) := (bc_ BK301.out 0).trans rfl
      have hcz11_1 : wc.cell? ⟨gb301, 1, none⟩ = some (.slice A0_1 l0_1.length c0_1) := (bc_ BK301.out 1).trans rfl
      have hcz11_2 : wc.cell? ⟨gb301, 2, none⟩ = some (.slice A0_2 l0_2.length c0_2) := (bc_ BK301.out 2).trans rfl
      have hfz11_0 := bf_ BK301.out 0
      have hfz11_1 := bf_ BK301.out 1
      have hfz11_2 := bf_ BK301.out 2
      go_wp2
      repeat (go_quiet (fail); try go_wp2)
      go_meet
      case rel => exact ⟨_, (decide ((l0_2.length : Int) > 64)), (by first | rfl | (simp; done) | (simp [*]; done)), H', ⟨by have := HJ1.out; first | omega | exact Nat.le_refl _⟩, ⟨bk_⟩, ⟨bw_⟩⟩
    case rest =>
     clear HC8
     try clear c1
     try clear p2
     try clear c4
     try clear c4b0
     try clear c7
     try clear c9
     try clear c9b0
     try clear c9b1
     try clear c10
     try clear hcz10_0
     try clear hcz10_1
     try clear hcz10_2
     try clear hcz11_0
     try clear hcz11_1
     try clear hcz11_2
     try clear hcz5_0
     try clear hcz5_1
     try clear hcz5_2
     try clear hcz6_0
     try clear hcz6_1
     try clear hcz6_2
     try clear hfz10_0
     try clear hfz10_1
     try clear hfz10_2
     try clear hfz11_0
     try clear hfz11_1
     try clear hfz11_2
     try clear hfz5_0
     try clear hfz5_1
     try clear hfz5_2
     try clear hfz6_0
     try clear hfz6_1
     try clear hfz6_2
     try clear p2
     obtain ⟨kq, x27_7, rfl, HA, HJ7, BK301, HB⟩ := hcut
     cases kq with
     | zero => exact absurd HA.out (by simp [clevisref08_Check.j1])
     | succ kj7 =>
      have H := HA.out
      clear HA
      simp only [clevisref08_Check.j1] at H
      by_cases c12 : x27_7 = true
      ·
       subst c12
       have H1 : (some 2) = some r := by rw [if_pos rfl] at H; exact H
       clear H
       have H := H1
       clear H1
       obtain rfl := Option.some.inj H
       go_wp2
       repeat (go_quiet (fail); try go_wp2)
       go_ret
       exact ⟨by first | rfl | (simp [errW_none, errW_some] <;> rfl) | (simp [*, errW_none, errW_some] <;> rfl), bw_⟩
      ·
       replace c12 := Bool.eq_false_iff.mpr c12
       subst c12
       have H1 : (clevisref08_Check.l0 kj7 0 a0_0 l0_1 l0_2) = some r := by rw [if_neg (show ¬ (false = true) by decide)] at H; exact H
       clear H
       have H := H1
       clear H1
       have H' := A_ H
       clear H
       go_wp2
       repeat (go_quiet (fail); try go_wp2)
       (try simp only [Act.put, sA_, sZ_, sS_])
       go_loopg [3] kj7 (fun kq v3 w' => ∃ (x3_3 : Int), v3 = .int .i64 x3_3 ∧ Aside0 (clevisref08_Check.l0 kq x3_3 a0_0 l0_1 l0_2 = some r) ∧ Aside0 (kq ≤ kj7) ∧ Aside0 (w'.heap[gb301]? = some (.cells #[.int .i64 a0_0, (.slice A0_1 l0_1.length c0_1), (.slice A0_2 l0_2.length c0_2)] 25 (0, 0))) ∧ Aside0 (Below w.heap.size w w'))
       case atStart => exact ⟨(0), (by first | rfl | (simp; done) | (simp [*]; done)), H', ⟨Nat.le_refl _⟩, ⟨bk_⟩, ⟨bw_⟩⟩
       case round =>
        clear H'
        try clear c1
        try clear p2
        try clear c4
        try clear c4b0
        try clear c7
        try clear c9
        try clear c9b0
        try clear c9b1
        try clear c10
        try clear c12
        try clear hcz10_0
        try clear hcz10_1
        try clear hcz10_2
        try clear hcz11_0
        try clear hcz11_1
        try clear hcz11_2
        try clear hcz5_0
        try clear hcz5_1
        try clear hcz5_2
        try clear hcz6_0
        try clear hcz6_1
        try clear hcz6_2
        try clear hfz10_0
        try clear hfz10_1
        try clear hfz10_2
        try clear hfz11_0
        try clear hfz11_1
        try clear hfz11_2
        try clear hfz5_0
        try clear hfz5_1
        try clear hfz5_2
        try clear hfz6_0
        try clear hfz6_1
        try clear hfz6_2
        try clear p2
        obtain ⟨x3_3, rfl, HA, HK3, BK301, HB⟩ := hrel
        cases gk with
        | zero => exact absurd HA.out (by simp [clevisref08_Check.l0])
        | succ k3 =>
         have H := HA.out
         clear HA
         simp only [clevisref08_Check.l0] at H
         by_cases c13 : x3_3 < (l0_1.length : Int)
         ·
          rw [if_pos c13] at H
          have c13b0 : decide (x3_3 < (l0_1.length : Int)) = true := decide_eq_true c13
          clear c13
          by_cases c14 : 0 ≤ x3_3
          ·
           rw [if_pos c14] at H
           have c14b0 : decide (0 ≤ x3_3) = true := decide_eq_true c14
           clear c14
           replace H := os_ H
           obtain ⟨t147, A150, H⟩ := H
           replace H : (if t147 = 0 then (clevisref08_Check.l1 k3 x3_3 0 a0_0 l0_1 l0_2) else (some t147)) = some r := H
           have A15 := A_ A150
           clear A150
           by_cases c16 : t147 = 0
           ·
            rw [if_pos c16] at H
            have c16b0 : (t147 == 0) = true := q1_ c16
            have c16b1 : (t147 != 0) = false := q3_ c16
            clear c16
            have H' := A_ H
            clear H
            have hcz17_0 : wr.cell? ⟨gb301, 0, none⟩ = some (.int .i64 a0_0) := (bc_ BK301.out 0).trans rfl
            have hcz17_1 : wr.cell? ⟨gb301, 1, none⟩ = some (.slice A0_1 l0_1.length c0_1) := (bc_ BK301.out 1).trans rfl
            have hcz17_2 : wr.cell? ⟨gb301, 2, none⟩ = some (.slice A0_2 l0_2.length c0_2) := (bc_ BK301.out 2).trans rfl
            have hfz17_0 := bf_ BK301.out 0
            have hfz17_1 := bf_ BK301.out 1
            have hfz17_2 := bf_ BK301.out 2
            have p146 : 0 ≤ (x3_3 : Int) := od_ (by first | (with_reducible assumption) | assumption)
            have q146 : x3_3 < (l0_1.length : Int) := od_ (by first | (with_reducible assumption) | assumption)
            obtain ⟨ad146, e146, hx146_0⟩ := Kd.at_string HR0_1.out x3_3 p146 q146
            cases e146
            replace hx146_0 := (HB.out.cell (World.block_lt_of_cell? w _ hx146_0)).trans hx146_0
            replace p146 := eq_true p146
            replace q146 := eq_true q146
            go_wp2_with (first | (go_at_call 30; (with_reducible refine (clevisref02_Isin.calls k3 (rdOf ByteArray.empty l0_1 x3_3) t147 _ A15.out).mono ?_); rintro e w18 ⟨rfl, hb⟩; have n0_ := A_ (kb_ BK301 hb); have n1_ := A_ (bs_ bw_ hb); clear BK301; clear HB; have BK301 := n0_; have HB := n1_; clear n0_ n1_; (try clear hb); (try clear hb2); (try clear hk); (try clear hi)))
            repeat (go_quiet (first | (go_at_call 30; (with_reducible refine (clevisref02_Isin.calls k3 (rdOf ByteArray.empty l0_1 x3_3) t147 _ A15.out).mono ?_); rintro e w18 ⟨rfl, hb⟩; have n0_ := A_ (kb_ BK301 hb); have n1_ := A_ (bs_ bw_ hb); clear BK301; clear HB; have BK301 := n0_; have HB := n1_; clear n0_ n1_; (try clear hb); (try clear hb2); (try clear hk); (try clear hi))); try go_wp2_with (first | (go_at_call 30; (with_reducible refine (clevisref02_Isin.calls k3 (rdOf ByteArray.empty l0_1 x3_3) t147 _ A15.out).mono ?_); rintro e w18 ⟨rfl, hb⟩; have n0_ := A_ (kb_ BK301 hb); have n1_ := A_ (bs_ bw_ hb); clear BK301; clear HB; have BK301 := n0_; have HB := n1_; clear n0_ n1_; (try clear hb); (try clear hb2); (try clear hk); (try clear hi))))
            (try simp only [Act.put, sA_, sZ_, sS_])
            go_loopg [5] k3 (fun kq v5 w' => ∃ (x5_4 : Int), v5 = .int .i64 x5_4 ∧ Aside0 (clevisref08_Check.l1 kq x3_3 x5_4 a0_0 l0_1 l0_2 = some r) ∧ Aside0 (kq ≤ k3) ∧ Aside0 (w'.heap[gb301]? = some (.cells #[.int .i64 a0_0, (.slice (some ad146) l0_1.length c0_1), (.slice A0_2 l0_2.length c0_2)] 25 (0, 0))) ∧ Aside0 (Below w.heap.size w w'))
            case atStart => exact ⟨(0), (by first | rfl | (simp; done) | (simp [*]; done)), H', ⟨Nat.le_refl _⟩, ⟨bk_⟩, ⟨bw_⟩⟩
            case round =>
             clear H'
             try clear c1
             try clear p1
             try clear q1
             try clear hx1
             try clear p2
             try clear c4
             try clear c4b0
             try clear c7
             try clear c9
             try clear c9b0
             try clear c9b1
             try clear c10
             try clear c12
             try clear c13
             try clear c13b0
             try clear c14
             try clear c14b0
             try clear p14
             try clear q14
             try clear hx14
             try clear c16
             try clear c16b0
             try clear c16b1
             try clear hcz10_0
             try clear hcz10_1
             try clear hcz10_2
             try clear hcz11_0
             try clear hcz11_1
             try clear hcz11_2
             try clear hcz17_0
             try clear hcz17_1
             try clear hcz17_2
             try clear hcz5_0
             try clear hcz5_1
             try clear hcz5_2
             try clear hcz6_0
             try clear hcz6_1
             try clear hcz6_2
             try clear hfz10_0
             try clear hfz10_1
             try clear hfz10_2
             try clear hfz11_0
             try clear hfz11_1
             try clear hfz11_2
             try clear hfz17_0
             try clear hfz17_1
             try clear hfz17_2
             try clear hfz5_0
             try clear hfz5_1
             try clear hfz5_2
             try clear hfz6_0
             try clear hfz6_1
             try clear hfz6_2
             try clear hx146_0
             try clear p146
             try clear p2
             try clear q146
             obtain ⟨x5_4, rfl, HA, HK4, BK301, HB⟩ := hrel
             cases gk with
             | zero => exact absurd HA.out (by simp [clevisref08_Check.l1])
             | succ k4 =>
              have H := HA.out
              clear HA
              simp only [clevisref08_Check.l1] at H
              by_cases c19 : x5_4 < x3_3
              ·
               rw [if_pos c19] at H
               have c19b0 : decide (x5_4 < x3_3) = true := decide_eq_true c19
               clear c19
               by_cases c20 : 0 ≤ x5_4
               ·
                rw [if_pos c20] at H
                have c20b0 : decide (0 ≤ x5_4) = true := decide_eq_true c20
                clear c20
                by_cases c21 : x5_4 < (l0_1.length : Int)
                ·
                 rw [if_pos c21] at H
                 have c21b0 : decide (x5_4 < (l0_1.length : Int)) = true := decide_eq_true c21
                 clear c21
                 by_cases c22 : 0 ≤ x3_3
                 ·
                  rw [if_pos c22] at H
                  have c22b0 : decide (0 ≤ x3_3) = true := decide_eq_true c22
                  clear c22
                  by_cases c23 : x3_3 < (l0_1.length : Int)
                  ·
                   rw [if_pos c23] at H
                   have c23b0 : decide (x3_3 < (l0_1.length : Int)) = true := decide_eq_true c23
                   clear c23
                   by_cases c24 : (rdOf ByteArray.empty l0_1 x5_4).toList = (rdOf ByteArray.empty l0_1 x3_3).toList
                   ·
                    rw [if_pos c24] at H
                    have c24b0 : ((rdOf ByteArray.empty l0_1 x5_4).toList == (rdOf ByteArray.empty l0_1 x3_3).toList) = true := q1_ c24
                    have c24b1 : ((rdOf ByteArray.empty l0_1 x5_4).toList != (rdOf ByteArray.empty l0_1 x3_3).toList) = false := q3_ c24
                    clear c24
                    obtain rfl := Option.some.inj H
                    have hcz25_0 : wr.cell? ⟨gb301, 0, none⟩ = some (.int .i64 a0_0) := (bc_ BK301.out 0).trans rfl
                    have hcz25_1 : wr.cell? ⟨gb301, 1, none⟩ = some (.slice (some ad146) l0_1.length c0_1) := (bc_ BK301.out 1).trans rfl
                    have hcz25_2 : wr.cell? ⟨gb301, 2, none⟩ = some (.slice A0_2 l0_2.length c0_2) := (bc_ BK301.out 2).trans rfl
                    have hfz25_0 := bf_ BK301.out 0
                    have hfz25_1 := bf_ BK301.out 1
                    have hfz25_2 := bf_ BK301.out 2
                    have p148 : 0 ≤ (x5_4 : Int) := od_ (by first | (with_reducible assumption) | assumption)
                    have q148 : x5_4 < (l0_1.length : Int) := od_ (by first | (with_reducible assumption) | assumption)
                    obtain ⟨ad148, e148, hx148_0⟩ := Kd.at_string HR0_1.out x5_4 p148 q148
                    obtain rfl : ad146 = ad148 := (by injection e148)
                    replace hx148_0 := (HB.out.cell (World.block_lt_of_cell? w _ hx148_0)).trans hx148_0
                    replace p148 := eq_true p148
                    replace q148 := eq_true q148
                    have p149 : 0 ≤ (x3_3 : Int) := od_ (by first | (with_reducible assumption) | assumption)
                    have q149 : x3_3 < (l0_1.length : Int) := od_ (by first | (with_reducible assumption) | assumption)
                    obtain ⟨ad149, e149, hx149_0⟩ := Kd.at_string HR0_1.out x3_3 p149 q149
                    obtain rfl : ad146 = ad149 := (by injection e149)
                    replace hx149_0 := (HB.out.cell (World.block_lt_of_cell? w _ hx149_0)).trans hx149_0
                    replace p149 := eq_true p149
                    replace q149 := eq_true q149
                    go_wp2
                    repeat (go_quiet (fail); try go_wp2)
                    go_ret
                    exact ⟨by first | rfl | (simp [errW_none, errW_some] <;> rfl) | (simp [*, errW_none, errW_some] <;> rfl), bw_⟩
                   ·
                    rw [if_neg c24] at H
                    have c24b0 : ((rdOf ByteArray.empty l0_1 x5_4).toList == (rdOf ByteArray.empty l0_1 x3_3).toList) = false := q4_ c24
                    have c24b1 : ((rdOf ByteArray.empty l0_1 x5_4).toList != (rdOf ByteArray.empty l0_1 x3_3).toList) = true := q2_ c24
                    have H' := A_ H
                    clear H
                    have hcz26_0 : wr.cell? ⟨gb301, 0, none⟩ = some (.int .i64 a0_0) := (bc_ BK301.out 0).trans rfl
                    have hcz26_1 : wr.cell? ⟨gb301, 1, none⟩ = some (.slice (some ad146) l0_1.length c0_1) := (bc_ BK301.out 1).trans rfl
                    have hcz26_2 : wr.cell? ⟨gb301, 2, none⟩ = some (.slice A0_2 l0_2.length c0_2) := (bc_ BK301.out 2).trans rfl
                    have hfz26_0 := bf_ BK301.out 0
                    have hfz26_1 := bf_ BK301.out 1
                    have hfz26_2 := bf_ BK301.out 2
                    have p148 : 0 ≤ (x5_4 : Int) := od_ (by first | (with_reducible assumption) | assumption)
                    have q148 : x5_4 < (l0_1.length : Int) := od_ (by first | (with_reducible assumption) | assumption)
                    obtain ⟨ad148, e148, hx148_0⟩ := Kd.at_string HR0_1.out x5_4 p148 q148
                    obtain rfl : ad146 = ad148 := (by injection e148)
                    replace hx148_0 := (HB.out.cell (World.block_lt_of_cell? w _ hx148_0)).trans hx148_0
                    replace p148 := eq_true p148
                    replace q148 := eq_true q148
                    have p149 : 0 ≤ (x3_3 : Int) := od_ (by first | (with_reducible assumption) | assumption)
                    have q149 : x3_3 < (l0_1.length : Int) := od_ (by first | (with_reducible assumption) | assumption)
                    obtain ⟨ad149, e149, hx149_0⟩ := Kd.at_string HR0_1.out x3_3 p149 q149
                    obtain rfl : ad146 = ad149 := (by injection e149)
                    replace hx149_0 := (HB.out.cell (World.block_lt_of_cell? w _ hx149_0)).trans hx149_0
                    replace p149 := eq_true p149
                    replace q149 := eq_true q149
                    go_wp2
                    repeat (go_quiet (fail); try go_wp2)
                    go_roundg k4
                    case measure => have := HJ1.out; have := HJ7.out; have := HK3.out; have := HK4.out; omega
                    case rel => exact ⟨(wrap64 (x5_4 + 1)), (by first | rfl | (simp; done) | (simp [*]; done)), H', ⟨by have := HJ1.out; have := HJ7.out; have := HK3.out; have := HK4.out; omega⟩, ⟨bk_⟩, ⟨bw_⟩⟩
                  ·
                   rw [if_neg c23] at H
                   exact absurd H (by simp)
                 ·
                  rw [if_neg c22] at H
                  exact absurd H (by simp)
                ·
                 rw [if_neg c21] at H
                 exact absurd H (by simp)
               ·
                rw [if_neg c20] at H
                exact absurd H (by simp)
              ·
               rw [if_neg c19] at H
               have c19b0 : decide (x5_4 < x3_3) = false := decide_eq_false c19
               clear c19
               have H' := A_ H
               clear H
               go_wp2
               repeat (go_quiet (fail); try go_wp2)
               go_roundg k4
               case measure => have := HJ1.out; have := HJ7.out; have := HK3.out; have := HK4.out; omega
               case rel => exact ⟨(wrap64 (x3_3 + 1)), (by first | rfl | (simp; done) | (simp [*]; done)), H', ⟨by have := HJ1.out; have := HJ7.out; have := HK3.out; have := HK4.out; omega⟩, ⟨bk_⟩, ⟨bw_⟩⟩
           ·
            rw [if_neg c16] at H
            have c16b0 : (t147 == 0) = false := q4_ c16
            have c16b1 : (t147 != 0) = true := q2_ c16
            obtain rfl := Option.some.inj H
            have hcz27_0 : wr.cell? ⟨gb301, 0, none⟩ = some (.int .i64 a0_0) := (bc_ BK301.out 0).trans rfl
            have hcz27_1 : wr.cell? ⟨gb301, 1, none⟩ = some (.slice A0_1 l0_1.length c0_1) := (bc_ BK301.out 1).trans rfl
            have hcz27_2 : wr.cell? ⟨gb301, 2, none⟩ = some (.slice A0_2 l0_2.length c0_2) := (bc_ BK301.out 2).trans rfl
            have hfz27_0 := bf_ BK301.out 0
            have hfz27_1 := bf_ BK301.out 1
            have hfz27_2 := bf_ BK301.out 2
            have p146 : 0 ≤ (x3_3 : Int) := od_ (by first | (with_reducible assumption) | assumption)
            have q146 : x3_3 < (l0_1.length : Int) := od_ (by first | (with_reducible assumption) | assumption)
            obtain ⟨ad146, e146, hx146_0⟩ := Kd.at_string HR0_1.out x3_3 p146 q146
            cases e146
            replace hx146_0 := (HB.out.cell (World.block_lt_of_cell? w _ hx146_0)).trans hx146_0
            replace p146 := eq_true p146
            replace q146 := eq_true q146
            go_wp2_with (first | (go_at_call 30; (with_reducible refine (clevisref02_Isin.calls k3 (rdOf ByteArray.empty l0_1 x3_3) t147 _ A15.out).mono ?_); rintro e w28 ⟨rfl, hb⟩; have n0_ := A_ (kb_ BK301 hb); have n1_ := A_ (bs_ bw_ hb); clear BK301; clear HB; have BK301 := n0_; have HB := n1_; clear n0_ n1_; (try clear hb); (try clear hb2); (try clear hk); (try clear hi)))
            repeat (go_quiet (first | (go_at_call 30; (with_reducible refine (clevisref02_Isin.calls k3 (rdOf ByteArray.empty l0_1 x3_3) t147 _ A15.out).mono ?_); rintro e w28 ⟨rfl, hb⟩; have n0_ := A_ (kb_ BK301 hb); have n1_ := A_ (bs_ bw_ hb); clear BK301; clear HB; have BK301 := n0_; have HB := n1_; clear n0_ n1_; (try clear hb); (try clear hb2); (try clear hk); (try clear hi))); try go_wp2_with (first | (go_at_call 30; (with_reducible refine (clevisref02_Isin.calls k3 (rdOf ByteArray.empty l0_1 x3_3) t147 _ A15.out).mono ?_); rintro e w28 ⟨rfl, hb⟩; have n0_ := A_ (kb_ BK301 hb); have n1_ := A_ (bs_ bw_ hb); clear BK301; clear HB; have BK301 := n0_; have HB := n1_; clear n0_ n1_; (try clear hb); (try clear hb2); (try clear hk); (try clear hi))))
            go_ret
            exact ⟨by first | rfl | (simp [errW_none, errW_some] <;> rfl) | (simp [*, errW_none, errW_some] <;> rfl), bw_⟩
          ·
           rw [if_neg c14] at H
           exact absurd H (by simp)
         ·
          rw [if_neg c13] at H
          have c13b0 : decide (x3_3 < (l0_1.length : Int)) = false := decide_eq_false c13
          clear c13
          have H' := A_ H
          clear H
          have hcz29_0 : wr.cell? ⟨gb301, 0, none⟩ = some (.int .i64 a0_0) := (bc_ BK301.out 0).trans rfl
          have hcz29_1 : wr.cell? ⟨gb301, 1, none⟩ = some (.slice A0_1 l0_1.length c0_1) := (bc_ BK301.out 1).trans rfl
          have hcz29_2 : wr.cell? ⟨gb301, 2, none⟩ = some (.slice A0_2 l0_2.length c0_2) := (bc_ BK301.out 2).trans rfl
          have hfz29_0 := bf_ BK301.out 0
          have hfz29_1 := bf_ BK301.out 1
          have hfz29_2 := bf_ BK301.out 2
          go_wp2
          repeat (go_quiet (fail); try go_wp2)
          (try simp only [Act.put, sA_, sZ_, sS_])
          go_loopg [6] k3 (fun kq v6 w' => ∃ (x6_4 : Int), v6 = .int .i64 x6_4 ∧ Aside0 (clevisref08_Check.l2 kq x6_4 a0_0 l0_1 l0_2 = some r) ∧ Aside0 (kq ≤ k3) ∧ Aside0 (w'.heap[gb301]? = some (.cells #[.int .i64 a0_0, (.slice A0_1 l0_1.length c0_1), (.slice A0_2 l0_2.length c0_2)] 25 (0, 0))) ∧ Aside0 (Below w.heap.size w w'))
          case atStart => exact ⟨(0), (by first | rfl | (simp; done) | (simp [*]; done)), H', ⟨Nat.le_refl _⟩, ⟨bk_⟩, ⟨bw_⟩⟩
          case round =>
           clear H'
           try clear c1
           try clear p1
           try clear q1
           try clear hx1
           try clear c2
           try clear p2
           try clear c4
           try clear c4b0
           try clear p6
           try clear c7
           try clear c9
           try clear c9b0
           try clear c9b1
           try clear c10
           try clear c12
           try clear c13
           try clear c13b0
           try clear c14
           try clear c14b0
           try clear p14
           try clear q14
           try clear hx14
           try clear c16
           try clear c16b0
           try clear c16b1
           try clear c19
           try clear c19b0
           try clear c20
           try clear c20b0
           try clear c21
           try clear c21b0
           try clear c22
           try clear c22b0
           try clear c23
           try clear c23b0
           try clear c24
           try clear c24b0
           try clear c24b1
           try clear hcz10_0
           try clear hcz10_1
           try clear hcz10_2
           try clear hcz11_0
           try clear hcz11_1
           try clear hcz11_2
           try clear hcz17_0
           try clear hcz17_1
           try clear hcz17_2
           try clear hcz25_0
           try clear hcz25_1
           try clear hcz25_2
           try clear hcz26_0
           try clear hcz26_1
           try clear hcz26_2
           try clear hcz27_0
           try clear hcz27_1
           try clear hcz27_2
           try clear hcz29_0
           try clear hcz29_1
           try clear hcz29_2
           try clear hcz5_0
           try clear hcz5_1
           try clear hcz5_2
           try clear hcz6_0
           try clear hcz6_1
           try clear hcz6_2
           try clear hfz10_0
           try clear hfz10_1
           try clear hfz10_2
           try clear hfz11_0
           try clear hfz11_1
           try clear hfz11_2
           try clear hfz17_0
           try clear hfz17_1
           try clear hfz17_2
           try clear hfz25_0
           try clear hfz25_1
           try clear hfz25_2
           try clear hfz26_0
           try clear hfz26_1
           try clear hfz26_2
           try clear hfz27_0
           try clear hfz27_1
           try clear hfz27_2
           try clear hfz29_0
           try clear hfz29_1
           try clear hfz29_2
           try clear hfz5_0
           try clear hfz5_1
           try clear hfz5_2
           try clear hfz6_0
           try clear hfz6_1
           try clear hfz6_2
           try clear hx146_0
           try clear hx148_0
           try clear hx149_0
           try clear p1
           try clear p14
           try clear p146
           try clear p148
           try clear p149
           try clear p2
           try clear q1
           try clear q14
           try clear q146
           try clear q148
           try clear q149
           obtain ⟨x6_4, rfl, HA, HK4, BK301, HB⟩ := hrel
           cases gk with
           | zero => exact absurd HA.out (by simp [clevisref08_Check.l2])
           | succ k4 =>
            have H := HA.out
            clear HA
            simp only [clevisref08_Check.l2] at H
            by_cases c30 : x6_4 < (l0_2.length : Int)
            ·
             rw [if_pos c30] at H
             have c30b0 : decide (x6_4 < (l0_2.length : Int)) = true := decide_eq_true c30
             clear c30
             by_cases c31 : 0 ≤ x6_4
             ·
              rw [if_pos c31] at H
              have c31b0 : decide (0 ≤ x6_4) = true := decide_eq_true c31
              clear c31
              replace H := os_ H
              obtain ⟨t151, A320, H⟩ := H
              replace H : (if t151 = 0 then (clevisref08_Check.l3 k4 x6_4 0 a0_0 l0_1 l0_2 ((rd_T63 l0_2 x6_4).f0) ((rd_T63 l0_2 x6_4).f1)) else (some t151)) = some r := H
              have A32 := A_ A320
              clear A320
              by_cases c33 : t151 = 0
              ·
               rw [if_pos c33] at H
               have c33b0 : (t151 == 0) = true := q1_ c33
               have c33b1 : (t151 != 0) = false := q3_ c33
               clear c33
               have H' := A_ H
               clear H
               have hcz34_0 : wr.cell? ⟨gb301, 0, none⟩ = some (.int .i64 a0_0) := (bc_ BK301.out 0).trans rfl
               have hcz34_1 : wr.cell? ⟨gb301, 1, none⟩ = some (.slice A0_1 l0_1.length c0_1) := (bc_ BK301.out 1).trans rfl
               have hcz34_2 : wr.cell? ⟨gb301, 2, none⟩ = some (.slice A0_2 l0_2.length c0_2) := (bc_ BK301.out 2).trans rfl
               have hfz34_0 := bf_ BK301.out 0
               have hfz34_1 := bf_ BK301.out 1
               have hfz34_2 := bf_ BK301.out 2
               have p150 : 0 ≤ (x6_4 : Int) := od_ (by first | (with_reducible assumption) | assumption)
               have q150 : x6_4 < (l0_2.length : Int) := od_ (by first | (with_reducible assumption) | assumption)
               obtain ⟨ad150, e150, hx150_0, hx150_1⟩ := at_T63 HR0_2.out x6_4 p150 q150
               cases e150
               replace hx150_0 := (HB.out.cell (World.block_lt_of_cell? w _ hx150_0)).trans hx150_0
               replace hx150_1 := (HB.out.cell (World.block_lt_of_cell? w _ hx150_1)).trans hx150_1
               replace p150 := eq_true p150
               replace q150 := eq_true q150
               go_wp2_with (first | ((with_reducible refine gate_dst (N := 7) rfl ?_); (try (refine gate_guard (by rfl) ?_; dsimp only)); refine box_event ?hg (N := 7) ?hd (cs := #[.string (⟨#[]⟩ : ByteArray), .int .i64 0]) (t := 63) ?hr ?_; (case hd => rfl); (case hg => rfl); (case hr => first | (go_simp; done) | (go_simp; rfl)); intro gb307 hg w35 hbox hb; have n0_ := A_ (kb_ BK301 hb); have n1_ := A_ (bs_ bw_ hb); have n2_ := A_ (hbox); have n3_ := A_ ((by rw [hg]; exact (bz_ bw_) : w.heap.size ≤ gb307)); have n4_ := A_ ((by rw [hg]; exact (bz_ bw_) : w.heap.size ≤ gb307)); have n5_ := A_ ((by rw [hg]; exact nl_ (lt_ BK301) : gb301 ≠ gb307)); have n6_ := A_ ((by rw [hg]; exact ng_ (lt_ BK301) : gb307 ≠ gb301)); clear BK301; clear HB; have BK301 := n0_; have HB := n1_; have BK307 := n2_; have GW307 := n3_; have GE307 := n4_; have NB301_307 := n5_; have NB307_301 := n6_; clear n0_ n1_ n2_ n3_ n4_ n5_ n6_; clear hb hbox hg; have hnb36 := NB307_301.out; have hnc36 := NB301_307.out; have hcz37_0 : w35.cell? ⟨gb307, 0, none⟩ = some (.string (⟨#[]⟩ : ByteArray)) := (bc_ BK307.out 0).trans rfl; have hcz37_1 : w35.cell? ⟨gb307, 1, none⟩ = some (.int .i64 0) := (bc_ BK307.out 1).trans rfl; have hfz37_0 := bf_ BK307.out 0; have hfz37_1 := bf_ BK307.out 1) | (go_at_call 31; (with_reducible refine (clevisref02_Member.calls k4 ((rd_T63 l0_2 x6_4).f0) t151 _ A32.out).mono ?_); rintro e w' ⟨rfl, ⟨nd, rfl⟩⟩; (try first | exact ⟨rfl, _, dd_ _ _ _⟩ | exact ⟨rfl, _, Eq.trans (dd_ _ _ _) (congrArg (World.drewN _) (Nat.add_assoc _ _ _))⟩)))
               repeat (go_quiet (first | ((with_reducible refine gate_dst (N := 7) rfl ?_); (try (refine gate_guard (by rfl) ?_; dsimp only)); refine box_event ?hg (N := 7) ?hd (cs := #[.string (⟨#[]⟩ : ByteArray), .int .i64 0]) (t := 63) ?hr ?_; (case hd => rfl); (case hg => rfl); (case hr => first | (go_simp; done) | (go_simp; rfl)); intro gb307 hg w35 hbox hb; have n0_ := A_ (kb_ BK301 hb); have n1_ := A_ (bs_ bw_ hb); have n2_ := A_ (hbox); have n3_ := A_ ((by rw [hg]; exact (bz_ bw_) : w.heap.size ≤ gb307)); have n4_ := A_ ((by rw [hg]; exact (bz_ bw_) : w.heap.size ≤ gb307)); have n5_ := A_ ((by rw [hg]; exact nl_ (lt_ BK301) : gb301 ≠ gb307)); have n6_ := A_ ((by rw [hg]; exact ng_ (lt_ BK301) : gb307 ≠ gb301)); clear BK301; clear HB; have BK301 := n0_; have HB := n1_; have BK307 := n2_; have GW307 := n3_; have GE307 := n4_; have NB301_307 := n5_; have NB307_301 := n6_; clear n0_ n1_ n2_ n3_ n4_ n5_ n6_; clear hb hbox hg; have hnb36 := NB307_301.out; have hnc36 := NB301_307.out; have hcz37_0 : w35.cell? ⟨gb307, 0, none⟩ = some (.string (⟨#[]⟩ : ByteArray)) := (bc_ BK307.out 0).trans rfl; have hcz37_1 : w35.cell? ⟨gb307, 1, none⟩ = some (.int .i64 0) := (bc_ BK307.out 1).trans rfl; have hfz37_0 := bf_ BK307.out 0; have hfz37_1 := bf_ BK307.out 1) | (go_at_call 31; (with_reducible refine (clevisref02_Member.calls k4 ((rd_T63 l0_2 x6_4).f0) t151 _ A32.out).mono ?_); rintro e w' ⟨rfl, ⟨nd, rfl⟩⟩; (try first | exact ⟨rfl, _, dd_ _ _ _⟩ | exact ⟨rfl, _, Eq.trans (dd_ _ _ _) (congrArg (World.drewN _) (Nat.add_assoc _ _ _))⟩))); try go_wp2_with (first | ((with_reducible refine gate_dst (N := 7) rfl ?_); (try (refine gate_guard (by rfl) ?_; dsimp only)); refine box_event ?hg (N := 7) ?hd (cs := #[.string (⟨#[]⟩ : ByteArray), .int .i64 0]) (t := 63) ?hr ?_; (case hd => rfl); (case hg => rfl); (case hr => first | (go_simp; done) | (go_simp; rfl)); intro gb307 hg w35 hbox hb; have n0_ := A_ (kb_ BK301 hb); have n1_ := A_ (bs_ bw_ hb); have n2_ := A_ (hbox); have n3_ := A_ ((by rw [hg]; exact (bz_ bw_) : w.heap.size ≤ gb307)); have n4_ := A_ ((by rw [hg]; exact (bz_ bw_) : w.heap.size ≤ gb307)); have n5_ := A_ ((by rw [hg]; exact nl_ (lt_ BK301) : gb301 ≠ gb307)); have n6_ := A_ ((by rw [hg]; exact ng_ (lt_ BK301) : gb307 ≠ gb301)); clear BK301; clear HB; have BK301 := n0_; have HB := n1_; have BK307 := n2_; have GW307 := n3_; have GE307 := n4_; have NB301_307 := n5_; have NB307_301 := n6_; clear n0_ n1_ n2_ n3_ n4_ n5_ n6_; clear hb hbox hg; have hnb36 := NB307_301.out; have hnc36 := NB301_307.out; have hcz37_0 : w35.cell? ⟨gb307, 0, none⟩ = some (.string (⟨#[]⟩ : ByteArray)) := (bc_ BK307.out 0).trans rfl; have hcz37_1 : w35.cell? ⟨gb307, 1, none⟩ = some (.int .i64 0) := (bc_ BK307.out 1).trans rfl; have hfz37_0 := bf_ BK307.out 0; have hfz37_1 := bf_ BK307.out 1) | (go_at_call 31; (with_reducible refine (clevisref02_Member.calls k4 ((rd_T63 l0_2 x6_4).f0) t151 _ A32.out).mono ?_); rintro e w' ⟨rfl, ⟨nd, rfl⟩⟩; (try first | exact ⟨rfl, _, dd_ _ _ _⟩ | exact ⟨rfl, _, Eq.trans (dd_ _ _ _) (congrArg (World.drewN _) (Nat.add_assoc _ _ _))⟩))))
               (try simp only [Act.put, sA_, sZ_, sS_])
               go_loopg [9] k4 (fun kq v9 w' => ∃ (x9_5 : Int), v9 = .int .i64 x9_5 ∧ Aside0 (clevisref08_Check.l3 kq x6_4 x9_5 a0_0 l0_1 l0_2 ((rd_T63 l0_2 x6_4).f0) ((rd_T63 l0_2 x6_4).f1) = some r) ∧ Aside0 (kq ≤ k4) ∧ Aside0 (w'.heap[gb301]? = some (.cells #[.int .i64 a0_0, (.slice A0_1 l0_1.length c0_1), (.slice (some ad150) l0_2.length c0_2)] 25 (0, 0))) ∧ Aside0 (w'.heap[gb307]? = some (.cells #[.string ((rd_T63 l0_2 x6_4).f0), .int .i64 ((rd_T63 l0_2 x6_4).f1)] 63 (0, 0))) ∧ Aside0 (Below w.heap.size w w'))
               case atStart => exact ⟨(0), (by first | rfl | (simp; done) | (simp [*]; done)), H', ⟨Nat.le_refl _⟩, ⟨bk_⟩, ⟨by (with_reducible repeat (first | refine bn_ ?_ _ | refine bd_ ?_ | refine ba_ ?_ _)); refine bp_ (cs := #[.string ((rd_T63 l0_2 x6_4).f0), .int .i64 0]) ?_ 1 _ rfl; (with_reducible repeat (first | refine bn_ ?_ _ | refine bd_ ?_ | refine ba_ ?_ _)); refine bp_ (cs := #[.string (⟨#[]⟩ : ByteArray), .int .i64 0]) ?_ 0 _ rfl; (with_reducible repeat (first | refine bn_ ?_ _ | refine bd_ ?_ | refine ba_ ?_ _)); exact BK307.out⟩, ⟨bw_⟩⟩
               case round =>
                clear H'
                try clear c1
                try clear p1
                try clear q1
                try clear hx1
                try clear c2
                try clear p2
                try clear c3
                try clear c4
                try clear c4b0
                try clear p6
                try clear c7
                try clear c9
                try clear c9b0
                try clear c9b1
                try clear c10
                try clear c12
                try clear c13
                try clear c13b0
                try clear c14
                try clear c14b0
                try clear p14
                try clear q14
                try clear hx14
                try clear p15
                try clear q15
                try clear hx15
                try clear c16
                try clear c16b0
                try clear c16b1
                try clear c19
                try clear c19b0
                try clear c20
                try clear c20b0
                try clear c21
                try clear c21b0
                try clear c22
                try clear c22b0
                try clear c23
                try clear c23b0
                try clear c24
                try clear c24b0
                try clear c24b1
                try clear c30
                try clear c30b0
                try clear c31
                try clear c31b0
                try clear c33
                try clear c33b0
                try clear c33b1
                try clear c36
                try clear hcz10_0
                try clear hcz10_1
                try clear hcz10_2
                try clear hcz11_0
                try clear hcz11_1
                try clear hcz11_2
                try clear hcz17_0
                try clear hcz17_1
                try clear hcz17_2
                try clear hcz25_0
                try clear hcz25_1
                try clear hcz25_2
                try clear hcz26_0
                try clear hcz26_1
                try clear hcz26_2
                try clear hcz27_0
                try clear hcz27_1
                try clear hcz27_2
                try clear hcz29_0
                try clear hcz29_1
                try clear hcz29_2
                try clear hcz34_0
                try clear hcz34_1
                try clear hcz34_2
                try clear hcz37_0
                try clear hcz37_1
                try clear hcz5_0
                try clear hcz5_1
                try clear hcz5_2
                try clear hcz6_0
                try clear hcz6_1
                try clear hcz6_2
                try clear hfz10_0
                try clear hfz10_1
                try clear hfz10_2
                try clear hfz11_0
                try clear hfz11_1
                try clear hfz11_2
                try clear hfz17_0
                try clear hfz17_1
                try clear hfz17_2
                try clear hfz25_0
                try clear hfz25_1
                try clear hfz25_2
                try clear hfz26_0
                try clear hfz26_1
                try clear hfz26_2
                try clear hfz27_0
                try clear hfz27_1
                try clear hfz27_2
                try clear hfz29_0
                try clear hfz29_1
                try clear hfz29_2
                try clear hfz34_0
                try clear hfz34_1
                try clear hfz34_2
                try clear hfz37_0
                try clear hfz37_1
                try clear hfz5_0
                try clear hfz5_1
                try clear hfz5_2
                try clear hfz6_0
                try clear hfz6_1
                try clear hfz6_2
                try clear hx146_0
                try clear hx148_0
                try clear hx149_0
                try clear hx150_0
                try clear hx150_1
                try clear p1
                try clear p14
                try clear p146
                try clear p148
                try clear p149
                try clear p150
                try clear p2
                try clear p6
                try clear q1
                try clear q14
                try clear q146
                try clear q148
                try clear q149
                try clear q150
                obtain ⟨x9_5, rfl, HA, HK5, BK301, BK307, HB⟩ := hrel
                cases gk with
                | zero => exact absurd HA.out (by simp [clevisref08_Check.l3])
                | succ k5 =>
                 have H := HA.out
                 clear HA
                 simp only [clevisref08_Check.l3] at H
                 by_cases c38 : x9_5 < x6_4
                 ·
                  rw [if_pos c38] at H
                  have c38b0 : decide (x9_5 < x6_4) = true := decide_eq_true c38
                  clear c38
                  by_cases c39 : 0 ≤ x9_5
                  ·
                   rw [if_pos c39] at H
                   have c39b0 : decide (0 ≤ x9_5) = true := decide_eq_true c39
                   clear c39
                   by_cases c40 : x9_5 < (l0_2.length : Int)
                   ·
                    rw [if_pos c40] at H
                    have c40b0 : decide (x9_5 < (l0_2.length : Int)) = true := decide_eq_true c40
                    clear c40
                    by_cases c41 : ((rd_T63 l0_2 x9_5).f0).toList = ((rd_T63 l0_2 x6_4).f0).toList
                    ·
                     rw [if_pos c41] at H
                     have c41b0 : (((rd_T63 l0_2 x9_5).f0).toList == ((rd_T63 l0_2 x6_4).f0).toList) = true := q1_ c41
                     have c41b1 : (((rd_T63 l0_2 x9_5).f0).toList != ((rd_T63 l0_2 x6_4).f0).toList) = false := q3_ c41
                     clear c41
                     obtain rfl := Option.some.inj H
                     have hnb42 := NB301_307.out
                     have hnc42 := NB307_301.out
                     have hcz43_0 : wr.cell? ⟨gb301, 0, none⟩ = some (.int .i64 a0_0) := (bc_ BK301.out 0).trans rfl
                     have hcz43_1 : wr.cell? ⟨gb301, 1, none⟩ = some (.slice A0_1 l0_1.length c0_1) := (bc_ BK301.out 1).trans rfl
                     have hcz43_2 : wr.cell? ⟨gb301, 2, none⟩ = some (.slice (some ad150) l0_2.length c0_2) := (bc_ BK301.out 2).trans rfl
                     have hfz43_0 := bf_ BK301.out 0
                     have hfz43_1 := bf_ BK301.out 1
                     have hfz43_2 := bf_ BK301.out 2
                     have p152 : 0 ≤ (x9_5 : Int) := od_ (by first | (with_reducible assumption) | assumption)
                     have q152 : x9_5 < (l0_2.length : Int) := od_ (by first | (with_reducible assumption) | assumption)
                     obtain ⟨ad152, e152, hx152_0, hx152_1⟩ := at_T63 HR0_2.out x9_5 p152 q152
                     obtain rfl : ad150 = ad152 := (by injection e152)
                     replace hx152_0 := (HB.out.cell (World.block_lt_of_cell? w _ hx152_0)).trans hx152_0
                     replace hx152_1 := (HB.out.cell (World.block_lt_of_cell? w _ hx152_1)).trans hx152_1
                     replace p152 := eq_true p152
                     replace q152 := eq_true q152
                     have hcz44_0 : wr.cell? ⟨gb307, 0, none⟩ = some (.string ((rd_T63 l0_2 x6_4).f0)) := (bc_ BK307.out 0).trans rfl
                     have hcz44_1 : wr.cell? ⟨gb307, 1, none⟩ = some (.int .i64 ((rd_T63 l0_2 x6_4).f1)) := (bc_ BK307.out 1).trans rfl
                     have hfz44_0 := bf_ BK307.out 0
                     have hfz44_1 := bf_ BK307.out 1
                     go_wp2
                     repeat (go_quiet (fail); try go_wp2)
                     go_ret
                     exact ⟨by first | rfl | (simp [errW_none, errW_some] <;> rfl) | (simp [*, errW_none, errW_some] <;> rfl), bw_⟩
                    ·
                     rw [if_neg c41] at H
                     have c41b0 : (((rd_T63 l0_2 x9_5).f0).toList == ((rd_T63 l0_2 x6_4).f0).toList) = false := q4_ c41
                     have c41b1 : (((rd_T63 l0_2 x9_5).f0).toList != ((rd_T63 l0_2 x6_4).f0).toList) = true := q2_ c41
                     have H' := A_ H
                     clear H
                     have hnb45 := NB301_307.out
                     have hnc45 := NB307_301.out
                     have hcz46_0 : wr.cell? ⟨gb301, 0, none⟩ = some (.int .i64 a0_0) := (bc_ BK301.out 0).trans rfl
                     have hcz46_1 : wr.cell? ⟨gb301, 1, none⟩ = some (.slice A0_1 l0_1.length c0_1) := (bc_ BK301.out 1).trans rfl
                     have hcz46_2 : wr.cell? ⟨gb301, 2, none⟩ = some (.slice (some ad150) l0_2.length c0_2) := (bc_ BK301.out 2).trans rfl
                     have hfz46_0 := bf_ BK301.out 0
                     have hfz46_1 := bf_ BK301.out 1
                     have hfz46_2 := bf_ BK301.out 2
                     have p152 : 0 ≤ (x9_5 : Int) := od_ (by first | (with_reducible assumption) | assumption)
                     have q152 : x9_5 < (l0_2.length : Int) := od_ (by first | (with_reducible assumption) | assumption)
                     obtain ⟨ad152, e152, hx152_0, hx152_1⟩ := at_T63 HR0_2.out x9_5 p152 q152
                     obtain rfl : ad150 = ad152 := (by injection e152)
                     replace hx152_0 := (HB.out.cell (World.block_lt_of_cell? w _ hx152_0)).trans hx152_0
                     replace hx152_1 := (HB.out.cell (World.block_lt_of_cell? w _ hx152_1)).trans hx152_1
                     replace p152 := eq_true p152
                     replace q152 := eq_true q152
                     have hcz47_0 : wr.cell? ⟨gb307, 0, none⟩ = some (.string ((rd_T63 l0_2 x6_4).f0)) := (bc_ BK307.out 0).trans rfl
                     have hcz47_1 : wr.cell? ⟨gb307, 1, none⟩ = some (.int .i64 ((rd_T63 l0_2 x6_4).f1)) := (bc_ BK307.out 1).trans rfl
                     have hfz47_0 := bf_ BK307.out 0
                     have hfz47_1 := bf_ BK307.out 1
                     go_wp2
                     repeat (go_quiet (fail); try go_wp2)
                     go_roundg k5
                     case measure => have := HJ1.out; have := HJ7.out; have := HK3.out; have := HK4.out; have := HK5.out; omega
                     case rel => exact ⟨(wrap64 (x9_5 + 1)), (by first | rfl | (simp; done) | (simp [*]; done)), H', ⟨by have := HJ1.out; have := HJ7.out; have := HK3.out; have := HK4.out; have := HK5.out; omega⟩, ⟨bk_⟩, ⟨bk_⟩, ⟨bw_⟩⟩
                   ·
                    rw [if_neg c40] at H
                    exact absurd H (by simp)
                  ·
                   rw [if_neg c39] at H
                   exact absurd H (by simp)
                 ·
                  rw [if_neg c38] at H
                  have c38b0 : decide (x9_5 < x6_4) = false := decide_eq_false c38
                  clear c38
                  by_cases c48 : ((rd_T63 l0_2 x6_4).f1) < 0
                  ·
                   rw [if_pos c48] at H
                   have c48b0 : decide (((rd_T63 l0_2 x6_4).f1) < 0) = true := decide_eq_true c48
                   clear c48
                   obtain rfl := Option.some.inj H
                   have hnb49 := NB307_301.out
                   have hnc49 := NB301_307.out
                   have hcz50_0 : wr.cell? ⟨gb307, 0, none⟩ = some (.string ((rd_T63 l0_2 x6_4).f0)) := (bc_ BK307.out 0).trans rfl
                   have hcz50_1 : wr.cell? ⟨gb307, 1, none⟩ = some (.int .i64 ((rd_T63 l0_2 x6_4).f1)) := (bc_ BK307.out 1).trans rfl
                   have hfz50_0 := bf_ BK307.out 0
                   have hfz50_1 := bf_ BK307.out 1
                   go_wp2
                   repeat (go_quiet (fail); try go_wp2)
                   go_ret
                   exact ⟨by first | rfl | (simp [errW_none, errW_some] <;> rfl) | (simp [*, errW_none, errW_some] <;> rfl), bw_⟩
                  ·
                   rw [if_neg c48] at H
                   have c48b0 : decide (((rd_T63 l0_2 x6_4).f1) < 0) = false := decide_eq_false c48
                   clear c48
                   by_cases c51 : ((rd_T63 l0_2 x6_4).f1) ≥ a0_0
                   ·
                    rw [if_pos c51] at H
                    have c51b0 : decide (a0_0 ≤ ((rd_T63 l0_2 x6_4).f1)) = true := decide_eq_true c51
                    clear c51
                    obtain rfl := Option.some.inj H
                    have hnb52 := NB307_301.out
                    have hnc52 := NB301_307.out
                    have hcz53_0 : wr.cell? ⟨gb307, 0, none⟩ = some (.string ((rd_T63 l0_2 x6_4).f0)) := (bc_ BK307.out 0).trans rfl
                    have hcz53_1 : wr.cell? ⟨gb307, 1, none⟩ = some (.int .i64 ((rd_T63 l0_2 x6_4).f1)) := (bc_ BK307.out 1).trans rfl
                    have hfz53_0 := bf_ BK307.out 0
                    have hfz53_1 := bf_ BK307.out 1
                    have hcz54_0 : wr.cell? ⟨gb301, 0, none⟩ = some (.int .i64 a0_0) := (bc_ BK301.out 0).trans rfl
                    have hcz54_1 : wr.cell? ⟨gb301, 1, none⟩ = some (.slice A0_1 l0_1.length c0_1) := (bc_ BK301.out 1).trans rfl
                    have hcz54_2 : wr.cell? ⟨gb301, 2, none⟩ = some (.slice (some ad150) l0_2.length c0_2) := (bc_ BK301.out 2).trans rfl
                    have hfz54_0 := bf_ BK301.out 0
                    have hfz54_1 := bf_ BK301.out 1
                    have hfz54_2 := bf_ BK301.out 2
                    go_wp2
                    repeat (go_quiet (fail); try go_wp2)
                    go_ret
                    exact ⟨by first | rfl | (simp [errW_none, errW_some] <;> rfl) | (simp [*, errW_none, errW_some] <;> rfl), bw_⟩
                   ·
                    rw [if_neg c51] at H
                    have c51b0 : decide (a0_0 ≤ ((rd_T63 l0_2 x6_4).f1)) = false := decide_eq_false c51
                    clear c51
                    have H' := A_ H
                    clear H
                    have hnb55 := NB307_301.out
                    have hnc55 := NB301_307.out
                    have hcz56_0 : wr.cell? ⟨gb307, 0, none⟩ = some (.string ((rd_T63 l0_2 x6_4).f0)) := (bc_ BK307.out 0).trans rfl
                    have hcz56_1 : wr.cell? ⟨gb307, 1, none⟩ = some (.int .i64 ((rd_T63 l0_2 x6_4).f1)) := (bc_ BK307.out 1).trans rfl
                    have hfz56_0 := bf_ BK307.out 0
                    have hfz56_1 := bf_ BK307.out 1
                    have hcz57_0 : wr.cell? ⟨gb301, 0, none⟩ = some (.int .i64 a0_0) := (bc_ BK301.out 0).trans rfl
                    have hcz57_1 : wr.cell? ⟨gb301, 1, none⟩ = some (.slice A0_1 l0_1.length c0_1) := (bc_ BK301.out 1).trans rfl
                    have hcz57_2 : wr.cell? ⟨gb301, 2, none⟩ = some (.slice (some ad150) l0_2.length c0_2) := (bc_ BK301.out 2).trans rfl
                    have hfz57_0 := bf_ BK301.out 0
                    have hfz57_1 := bf_ BK301.out 1
                    have hfz57_2 := bf_ BK301.out 2
                    go_wp2
                    repeat (go_quiet (fail); try go_wp2)
                    go_roundg k5
                    case measure => have := HJ1.out; have := HJ7.out; have := HK3.out; have := HK4.out; have := HK5.out; omega
                    case rel => exact ⟨(wrap64 (x6_4 + 1)), (by first | rfl | (simp; done) | (simp [*]; done)), H', ⟨by have := HJ1.out; have := HJ7.out; have := HK3.out; have := HK4.out; have := HK5.out; omega⟩, ⟨bk_⟩, ⟨bw_⟩⟩
              ·
               rw [if_neg c33] at H
               have c33b0 : (t151 == 0) = false := q4_ c33
               have c33b1 : (t151 != 0) = true := q2_ c33
               obtain rfl := Option.some.inj H
               have hcz58_0 : wr.cell? ⟨gb301, 0, none⟩ = some (.int .i64 a0_0) := (bc_ BK301.out 0).trans rfl
               have hcz58_1 : wr.cell? ⟨gb301, 1, none⟩ = some (.slice A0_1 l0_1.length c0_1) := (bc_ BK301.out 1).trans rfl
               have hcz58_2 : wr.cell? ⟨gb301, 2, none⟩ = some (.slice A0_2 l0_2.length c0_2) := (bc_ BK301.out 2).trans rfl
               have hfz58_0 := bf_ BK301.out 0
               have hfz58_1 := bf_ BK301.out 1
               have hfz58_2 := bf_ BK301.out 2
               have p150 : 0 ≤ (x6_4 : Int) := od_ (by first | (with_reducible assumption) | assumption)
               have q150 : x6_4 < (l0_2.length : Int) := od_ (by first | (with_reducible assumption) | assumption)
               obtain ⟨ad150, e150, hx150_0, hx150_1⟩ := at_T63 HR0_2.out x6_4 p150 q150
               cases e150
               replace hx150_0 := (HB.out.cell (World.block_lt_of_cell? w _ hx150_0)).trans hx150_0
               replace hx150_1 := (HB.out.cell (World.block_lt_of_cell? w _ hx150_1)).trans hx150_1
               replace p150 := eq_true p150
               replace q150 := eq_true q150
               go_wp2_with (first | ((with_reducible refine gate_dst (N := 7) rfl ?_); (try (refine gate_guard (by rfl) ?_; dsimp only)); refine box_event ?hg (N := 7) ?hd (cs := #[.string (⟨#[]⟩ : ByteArray), .int .i64 0]) (t := 63) ?hr ?_; (case hd => rfl); (case hg => rfl); (case hr => first | (go_simp; done) | (go_simp; rfl)); intro gb307 hg w59 hbox hb; have n0_ := A_ (kb_ BK301 hb); have n1_ := A_ (bs_ bw_ hb); have n2_ := A_ (hbox); have n3_ := A_ ((by rw [hg]; exact (bz_ bw_) : w.heap.size ≤ gb307)); have n4_ := A_ ((by rw [hg]; exact (bz_ bw_) : w.heap.size ≤ gb307)); have n5_ := A_ ((by rw [hg]; exact nl_ (lt_ BK301) : gb301 ≠ gb307)); have n6_ := A_ ((by rw [hg]; exact ng_ (lt_ BK301) : gb307 ≠ gb301)); clear BK301; clear HB; have BK301 := n0_; have HB := n1_; have BK307 := n2_; have GW307 := n3_; have GE307 := n4_; have NB301_307 := n5_; have NB307_301 := n6_; clear n0_ n1_ n2_ n3_ n4_ n5_ n6_; clear hb hbox hg; have hnb60 := NB307_301.out; have hnc60 := NB301_307.out; have hcz61_0 : w59.cell? ⟨gb307, 0, none⟩ = some (.string (⟨#[]⟩ : ByteArray)) := (bc_ BK307.out 0).trans rfl; have hcz61_1 : w59.cell? ⟨gb307, 1, none⟩ = some (.int .i64 0) := (bc_ BK307.out 1).trans rfl; have hfz61_0 := bf_ BK307.out 0; have hfz61_1 := bf_ BK307.out 1) | (go_at_call 31; (with_reducible refine (clevisref02_Member.calls k4 ((rd_T63 l0_2 x6_4).f0) t151 _ A32.out).mono ?_); rintro e w' ⟨rfl, ⟨nd, rfl⟩⟩; (try first | exact ⟨rfl, _, dd_ _ _ _⟩ | exact ⟨rfl, _, Eq.trans (dd_ _ _ _) (congrArg (World.drewN _) (Nat.add_assoc _ _ _))⟩)))
               repeat (go_quiet (first | ((with_reducible refine gate_dst (N := 7) rfl ?_); (try (refine gate_guard (by rfl) ?_; dsimp only)); refine box_event ?hg (N := 7) ?hd (cs := #[.string (⟨#[]⟩ : ByteArray), .int .i64 0]) (t := 63) ?hr ?_; (case hd => rfl); (case hg => rfl); (case hr => first | (go_simp; done) | (go_simp; rfl)); intro gb307 hg w59 hbox hb; have n0_ := A_ (kb_ BK301 hb); have n1_ := A_ (bs_ bw_ hb); have n2_ := A_ (hbox); have n3_ := A_ ((by rw [hg]; exact (bz_ bw_) : w.heap.size ≤ gb307)); have n4_ := A_ ((by rw [hg]; exact (bz_ bw_) : w.heap.size ≤ gb307)); have n5_ := A_ ((by rw [hg]; exact nl_ (lt_ BK301) : gb301 ≠ gb307)); have n6_ := A_ ((by rw [hg]; exact ng_ (lt_ BK301) : gb307 ≠ gb301)); clear BK301; clear HB; have BK301 := n0_; have HB := n1_; have BK307 := n2_; have GW307 := n3_; have GE307 := n4_; have NB301_307 := n5_; have NB307_301 := n6_; clear n0_ n1_ n2_ n3_ n4_ n5_ n6_; clear hb hbox hg; have hnb60 := NB307_301.out; have hnc60 := NB301_307.out; have hcz61_0 : w59.cell? ⟨gb307, 0, none⟩ = some (.string (⟨#[]⟩ : ByteArray)) := (bc_ BK307.out 0).trans rfl; have hcz61_1 : w59.cell? ⟨gb307, 1, none⟩ = some (.int .i64 0) := (bc_ BK307.out 1).trans rfl; have hfz61_0 := bf_ BK307.out 0; have hfz61_1 := bf_ BK307.out 1) | (go_at_call 31; (with_reducible refine (clevisref02_Member.calls k4 ((rd_T63 l0_2 x6_4).f0) t151 _ A32.out).mono ?_); rintro e w' ⟨rfl, ⟨nd, rfl⟩⟩; (try first | exact ⟨rfl, _, dd_ _ _ _⟩ | exact ⟨rfl, _, Eq.trans (dd_ _ _ _) (congrArg (World.drewN _) (Nat.add_assoc _ _ _))⟩))); try go_wp2_with (first | ((with_reducible refine gate_dst (N := 7) rfl ?_); (try (refine gate_guard (by rfl) ?_; dsimp only)); refine box_event ?hg (N := 7) ?hd (cs := #[.string (⟨#[]⟩ : ByteArray), .int .i64 0]) (t := 63) ?hr ?_; (case hd => rfl); (case hg => rfl); (case hr => first | (go_simp; done) | (go_simp; rfl)); intro gb307 hg w59 hbox hb; have n0_ := A_ (kb_ BK301 hb); have n1_ := A_ (bs_ bw_ hb); have n2_ := A_ (hbox); have n3_ := A_ ((by rw [hg]; exact (bz_ bw_) : w.heap.size ≤ gb307)); have n4_ := A_ ((by rw [hg]; exact (bz_ bw_) : w.heap.size ≤ gb307)); have n5_ := A_ ((by rw [hg]; exact nl_ (lt_ BK301) : gb301 ≠ gb307)); have n6_ := A_ ((by rw [hg]; exact ng_ (lt_ BK301) : gb307 ≠ gb301)); clear BK301; clear HB; have BK301 := n0_; have HB := n1_; have BK307 := n2_; have GW307 := n3_; have GE307 := n4_; have NB301_307 := n5_; have NB307_301 := n6_; clear n0_ n1_ n2_ n3_ n4_ n5_ n6_; clear hb hbox hg; have hnb60 := NB307_301.out; have hnc60 := NB301_307.out; have hcz61_0 : w59.cell? ⟨gb307, 0, none⟩ = some (.string (⟨#[]⟩ : ByteArray)) := (bc_ BK307.out 0).trans rfl; have hcz61_1 : w59.cell? ⟨gb307, 1, none⟩ = some (.int .i64 0) := (bc_ BK307.out 1).trans rfl; have hfz61_0 := bf_ BK307.out 0; have hfz61_1 := bf_ BK307.out 1) | (go_at_call 31; (with_reducible refine (clevisref02_Member.calls k4 ((rd_T63 l0_2 x6_4).f0) t151 _ A32.out).mono ?_); rintro e w' ⟨rfl, ⟨nd, rfl⟩⟩; (try first | exact ⟨rfl, _, dd_ _ _ _⟩ | exact ⟨rfl, _, Eq.trans (dd_ _ _ _) (congrArg (World.drewN _) (Nat.add_assoc _ _ _))⟩))))
               go_ret
               exact ⟨by first | rfl | (simp [errW_none, errW_some] <;> rfl) | (simp [*, errW_none, errW_some] <;> rfl), bw_⟩
             ·
              rw [if_neg c31] at H
              exact absurd H (by simp)
            ·
             rw [if_neg c30] at H
             have c30b0 : decide (x6_4 < (l0_2.length : Int)) = false := decide_eq_false c30
             clear c30
             obtain rfl := Option.some.inj H
             have hcz62_0 : wr.cell? ⟨gb301, 0, none⟩ = some (.int .i64 a0_0) := (bc_ BK301.out 0).trans rfl
             have hcz62_1 : wr.cell? ⟨gb301, 1, none⟩ = some (.slice A0_1 l0_1.length c0_1) := (bc_ BK301.out 1).trans rfl
             have hcz62_2 : wr.cell? ⟨gb301, 2, none⟩ = some (.slice A0_2 l0_2.length c0_2) := (bc_ BK301.out 2).trans rfl
             have hfz62_0 := bf_ BK301.out 0
             have hfz62_1 := bf_ BK301.out 1
             have hfz62_2 := bf_ BK301.out 2
             go_wp2
             repeat (go_quiet (fail); try go_wp2)
             go_ret
             exact ⟨by first | rfl | (simp [errW_none, errW_some] <;> rfl) | (simp [*, errW_none, errW_some] <;> rfl), bw_⟩
end Go.Proofs.Ytcbpmmcpidfllaa.Ro
end
