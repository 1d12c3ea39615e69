/- Texts of this seat, put together (Zh4). -/
import Derived.Test.YthhgcjlgnafdcaaProg
import Derived.Below
import Derived.Maps.AppendAt
import Derived.OwnWalk
import Derived.Tactics
import Derived.WalkKit
import Derived.KernelRfl
import Derived.RowKit3
import Derived.Deep.LoopGhost
import Derived.RowKit
import Derived.WalkSpells
import Derived.WalkLawsBesides
import Derived.Test.YthhgcjlgnafdcaaZh3
section
namespace Go.Proofs.Ythhgcjlgnafdcaa.Nu
set_option linter.unusedSimpArgs false
set_option linter.unusedVariables false
open Go Go.RowKit Go.Proofs.YthhgcjlgnafdcaaW.PrintWords Go.Proofs.YthhgcjlgnafdcaaW.PrintLast Go.Proofs.Ythhgcjlgnafdcaa.Hd
def Dg (x : Int) : Prop := 0 ≤ x ∧ x < 65536
def Ds (d : List Int) : Prop := ∀ x ∈ d, Dg x
def V : List Int → Int
  | [] => 0
  | x :: r => x + 65536 * V r
def B (n : Nat) : Int := match n with
  | 0 => 1
  | n + 1 => 65536 * B n
termination_by n
theorem B_zero : B 0 = 1 := by rw [B]
theorem B_succ (n : Nat) : B (n + 1) = 65536 * B n := by rw [B]
theorem B_pos : ∀ n, 0 < B n
  | 0 => by rw [B_zero]; omega
  | n + 1 => by have := B_pos n; rw [B_succ]; omega
theorem B_add (m : Nat) : ∀ n, B (m + n) = B m * B n
  | 0 => by rw [B_zero, Int.mul_one, Nat.add_zero]
  | n + 1 => by rw [show m + (n + 1) = (m + n) + 1 by omega, B_succ, B_succ, B_add m n, ← Int.mul_assoc, ← Int.mul_assoc, Int.mul_comm 65536 (B m)]
theorem B_mono {m n : Nat} (h : m ≤ n) : B m ≤ B n := by
  obtain ⟨k, rfl⟩ := Nat.exists_eq_add_of_le h
  have h1 := B_pos m
  have h2 := B_pos k
  rw [B_add]
  calc B m = B m * 1 := (Int.mul_one _).symm
    _ ≤ B m * B k := Int.mul_le_mul_of_nonneg_left (by omega) (by omega)
theorem Ds.nil : Ds [] := fun x h => by cases h
theorem Ds.tail {x : Int} {r : List Int} (h : Ds (x :: r)) : Ds r := fun y hy => h y (by simp [hy])
theorem Ds.head {x : Int} {r : List Int} (h : Ds (x :: r)) : Dg x := h x (by simp)
theorem Ds.append {a b : List Int} (ha : Ds a) (hb : Ds b) : Ds (a ++ b) := fun x hx => by
  rcases List.mem_append.1 hx with h | h
  · exact ha x h
  · exact hb x h
theorem Ds.snoc {a : List Int} {x : Int} (ha : Ds a) (hx : Dg x) : Ds (a ++ [x]) := ha.append fun y hy => by rw [List.mem_singleton.1 hy]; exact hx
theorem Ds.take {a : List Int} (ha : Ds a) (n : Nat) : Ds (a.take n) := fun x hx => ha x (List.mem_of_mem_take hx)
theorem Ds.drop {a : List Int} (ha : Ds a) (n : Nat) : Ds (a.drop n) := fun x hx => ha x (List.mem_of_mem_drop hx)
theorem Ds.at {a : List Int} (ha : Ds a) (i : Nat) : Dg (a.getD i 0) := by
  rw [List.getD_eq_getElem?_getD]
  cases he : a[i]? with
  | none => exact ⟨by simp, by simp⟩
  | some x => exact ha x (List.mem_of_getElem? he)
theorem V_nonneg : ∀ {d : List Int}, Ds d → 0 ≤ V d
  | [], _ => Int.le_refl _
  | x :: r, h => by
    have h1 := V_nonneg h.tail
    have h2 := h.head.1
    simp only [V]
    omega
theorem V_lt : ∀ {d : List Int}, Ds d → V d < B d.length
  | [], _ => by rw [List.length_nil, B_zero]; simp [V]
  | x :: r, h => by
    have h1 := V_lt h.tail
    have h2 := h.head.2
    rw [List.length_cons, B_succ]
    simp only [V]
    omega
theorem V_append (b : List Int) : ∀ a : List Int, V (a ++ b) = V a + B a.length * V b
  | [] => by simp [V, B_zero]
  | x :: r => by
    rw [List.cons_append, List.length_cons, B_succ]
    simp only [V]
    rw [V_append b r, Int.mul_add, Int.add_assoc, Int.mul_assoc]
theorem V_snoc (a : List Int) (x : Int) : V (a ++ [x]) = V a + B a.length * x := by
  rw [V_append]
  simp [V]
theorem V_take_succ (a : List Int) (i : Nat) : V (a.take (i + 1)) = V (a.take i) + B i * a.getD i 0 := by
  rcases Nat.lt_or_ge i a.length with h | h
  · rw [List.take_add_one, List.getElem?_eq_getElem h, List.getD_eq_getElem?_getD, List.getElem?_eq_getElem h]
    show V (a.take i ++ [a[i]]) = _
    rw [V_snoc, List.length_take, Nat.min_eq_left (by omega)]
    rfl
  · rw [List.take_of_length_le (by omega), List.take_of_length_le h, List.getD_eq_getElem?_getD, List.getElem?_eq_none h]
    simp
theorem take_lt {a : List Int} (ha : Ds a) (i : Nat) : V (a.take i) < B i := by
  have h := V_lt (ha.take i)
  exact Int.lt_of_lt_of_le h (B_mono (by rw [List.length_take]; omega))
def Top (d : List Int) : Prop := ∀ h : d ≠ [], d.getLast h ≠ 0
theorem top_ge {d : List Int} (hd : Ds d) (ht : Top d) (h : d ≠ []) : B (d.length - 1) ≤ V d := by
  have e : d = d.dropLast ++ [d.getLast h] := (List.dropLast_concat_getLast h).symm
  have hl : d.dropLast.length = d.length - 1 := List.length_dropLast
  have h1 := ht h
  have h2 := hd (d.getLast h) (List.getLast_mem h)
  have h3 := V_nonneg (d := d.dropLast) (fun x hx => hd x (List.dropLast_subset d hx))
  have h4 := V_snoc d.dropLast (d.getLast h)
  rw [← e, hl] at h4
  have h5 := B_pos (d.length - 1)
  unfold Dg at h2
  have h6 : B (d.length - 1) * 1 ≤ B (d.length - 1) * d.getLast h := Int.mul_le_mul_of_nonneg_left (by omega) (by omega)
  omega
def val (n : Bool) (d : List Int) : Int := if n = true then -V d else V d
structure Nm (v : Int) (n : Bool) (d : List Int) : Prop where
  ds : Ds d
  top : Top d
  neg : n = true → d ≠ []
  val : val n d = v
  len : d.length ≤ 1000000
theorem V_pos {d : List Int} (hd : Ds d) (ht : Top d) (h : d ≠ []) : 0 < V d := by
  have h1 := top_ge hd ht h
  have h2 := B_pos (d.length - 1)
  omega
theorem Nm.zero {v : Int} {n : Bool} {d : List Int} (h : Nm v n d) : n = true → v < 0 := fun hn => by
  have h1 := V_pos h.ds h.top (h.neg hn)
  have h2 := h.val
  unfold Nu.val at h2
  rw [if_pos hn] at h2
  omega
theorem Nm.pos {v : Int} {n : Bool} {d : List Int} (h : Nm v n d) : n = false → 0 ≤ v := fun hn => by
  have h1 := V_nonneg h.ds
  have h2 := h.val
  unfold Nu.val at h2
  rw [hn, if_neg (by simp)] at h2
  omega
def sgn (x y : Int) : Int := if x < y then -1 else if y < x then 1 else 0
theorem len_le {a b : List Int} (ha : Ds a) (hta : Top a) (hb : Ds b) (h : V a ≤ V b) : a.length ≤ b.length := by
  rcases Nat.lt_or_ge b.length a.length with q | q
  · have h1 : a ≠ [] := fun e => by rw [e] at q; simp at q
    have h2 := top_ge ha hta h1
    have h3 := V_lt hb
    have h4 : B b.length ≤ B (a.length - 1) := B_mono (by omega)
    omega
  · exact q
def digN (n : Nat) : List Int := if h : n = 0 then [] else ((n % 65536 : Nat) : Int) :: digN (n / 65536)
termination_by n
decreasing_by omega
def dig (x : Int) : List Int := digN x.natAbs
theorem Top.tail {x : Int} {r : List Int} (h : Top (x :: r)) : Top r := fun hr => by
  have := h (by simp)
  rwa [List.getLast_cons hr] at this
theorem dig_ds (n : Nat) : Ds (digN n) ∧ Top (digN n) ∧ V (digN n) = n := by
  induction n using Nat.strongRecOn with
  | ind n ih =>
  rw [digN]
  by_cases h : n = 0
  · rw [dif_pos h]
    exact ⟨Ds.nil, fun h => absurd rfl h, by show (0 : Int) = _; omega⟩
  · rw [dif_neg h]
    obtain ⟨i1, i2, i3⟩ := ih (n / 65536) (by omega)
    refine ⟨fun y hy => ?_, fun hne => ?_, ?_⟩
    · rcases List.mem_cons.1 hy with rfl | hy
      · exact ⟨by omega, by omega⟩
      · exact i1 y hy
    · by_cases hr : digN (n / 65536) = []
      · have : n / 65536 = 0 := by
          have h5 : V (digN (n / 65536)) = ((n / 65536 : Nat) : Int) := i3
          rw [hr] at h5
          have h6 : (0 : Int) = ((n / 65536 : Nat) : Int) := h5
          omega
        simp only [hr, List.getLast_singleton]
        omega
      · rw [List.getLast_cons hr]
        exact i2 hr
    · simp only [V]
      rw [i3]
      omega
theorem dig_nm (x : Int) : Ds (dig x) ∧ Top (dig x) ∧ V (dig x) = x.natAbs := dig_ds _
def neg (x : Int) : Bool := decide (x < 0)
theorem neg_yes {x : Int} (h : x < 0) : neg x = true := decide_eq_true h
theorem neg_no {x : Int} (h : ¬ x < 0) : neg x = false := decide_eq_false h
abbrev num (x : Int) (A : Option Addr) (c : Nat) : Value := .agg #[.bool (neg x), .slice A (dig x).length c]
def Cs (A : Option Addr) (l : List Int) (W : World) : Prop := Kd.C (Kd.int .i64) W A l.length l
theorem below_of {w W : World} (hW : ∀ k, k < w.heap.size → W.heap[k]? = w.heap[k]?) : Below w.heap.size w { w with heap := W.heap } := by
  refine ⟨rfl, rfl, rfl, ?_, hW⟩
  show w.heap.size ≤ W.heap.size
  rcases Nat.eq_zero_or_pos w.heap.size with h | h
  · omega
  · have h1 := hW (w.heap.size - 1) (by omega)
    rw [Array.getElem?_eq_getElem (show w.heap.size - 1 < w.heap.size by omega)] at h1
    obtain ⟨h2, _⟩ := Array.getElem?_eq_some_iff.1 h1
    omega
end Go.Proofs.Ythhgcjlgnafdcaa.Nu
end
section
namespace Go.Proofs.Ythhgcjlgnafdcaa.Nu
set_option linter.unusedSimpArgs false
set_option linter.unusedVariables false
open Go Go.RowKit Go.Proofs.YthhgcjlgnafdcaaW.PrintWords Go.Proofs.YthhgcjlgnafdcaaW.PrintLast Go.Proofs.Ythhgcjlgnafdcaa.Hd
section
variable {w : World} {ok ok' : Nat → Prop} {A A' : Option Addr} {c c' : Nat} {d d' : List Int}
theorem w64 {n : Int} (h0 : -9223372036854775808 ≤ n) (h1 : n ≤ 9223372036854775807) : wrap64 n = n := by unfold wrap64; omega
theorem lt_step {a b : List Int} (ha : Ds a) (hb : Ds b) (m : Nat) (h : a.getD m 0 < b.getD m 0) : V (a.take (m + 1)) < V (b.take (m + 1)) := by
  have h1 := take_lt ha m
  have h2 := V_nonneg (hb.take m)
  have h3 : B m * (a.getD m 0 + 1) ≤ B m * b.getD m 0 := Int.mul_le_mul_of_nonneg_left (by omega) (Int.le_of_lt (B_pos m))
  rw [Int.mul_add, Int.mul_one] at h3
  rw [V_take_succ, V_take_succ]
  omega
set_option maxRecDepth 100000 in
set_option maxHeartbeats 1000000 in
theorem size_c {x y : Int} (h : Held w ok (Cs A (dig x))) (hc : (dig x).length ≤ c) (h' : Held w ok' (Cs A' (dig y))) (hc' : (dig y).length ≤ c') (hl : (dig x).length ≤ 1000000) (hl' : (dig y).length ≤ 1000000) :
    Tells Try.prog 88 #[.slice A (dig x).length c, .slice A' (dig y).length c'] w (.int .i64 (sgn x.natAbs y.natAbs)) := by
  obtain ⟨d1, t1, v1⟩ := dig_nm x
  obtain ⟨d2, t2, v2⟩ := dig_nm y
  rw [← v1, ← v2]
  generalize dig x = a at *
  generalize dig y = b at *
  clear v1 v2
  unfold Tells
  go_enter Try.func88, Try.ntmps88
  rcases Nat.lt_trichotomy a.length b.length with q | q | q
  · have hs : sgn (V a) (V b) = -1 := by
      unfold sgn
      rw [if_pos]
      by_cases z : V a < V b
      · exact z
      · have := len_le d2 t2 d1 (by omega)
        omega
    rw [hs]
    have e1 : ((a.length : Int) != (b.length : Int)) = true := by simp; omega
    have e2 : decide ((a.length : Int) < (b.length : Int)) = true := by simp; omega
    go_wp2
    go_ret
    exact ⟨rfl, Below.refl _ _⟩
  · have e1 : ((a.length : Int) != (b.length : Int)) = false := by simp; omega
    have H := ((All.start w).arg h).arg h'
    have hs : Aside0 (sgn (V (a.take b.length)) (V (b.take b.length)) = sgn (V a) (V b)) := ⟨by rw [List.take_length, ← q, List.take_length]⟩
    go_wp2
    go_loopg [5] (b.length + 1) (fun kq v5 w' => ∃ k : Nat, v5 = .int .i64 ((k : Int) - 1) ∧ Aside0 (k ≤ b.length ∧ kq = k + 1 ∧ sgn (V (a.take k)) (V (b.take k)) = sgn (V a) (V b)) ∧ All w w' [(ok', Cs A' b), (ok, Cs A a)])
    case atStart => exact ⟨b.length, rfl, ⟨Nat.le_refl _, rfl, hs.out⟩, H⟩
    case round =>
      obtain ⟨k, rfl, hk, H⟩ := hrel
      rcases Nat.eq_zero_or_pos k with h0 | h0
      · subst h0
        have h3 := Aside0.mk hk.out.2.2
        go_wp2
        go_ret
        exact ⟨by rw [← h3.out]; rfl, H.old⟩
      · obtain ⟨m, rfl⟩ : ∃ m, k = m + 1 := ⟨k - 1, by omega⟩
        have hm : m < 1000000 := by have := hk.out.1; omega
        obtain ⟨ad, rfl, r0⟩ := Kd.at_int (H.at 1 rfl) (m : Int) (by omega) (by have := hk.out.1; omega)
        obtain ⟨ad', rfl, r1⟩ := Kd.at_int (H.at 0 rfl) (m : Int) (by omega) (by have := hk.out.1; omega)
        rw [Int.toNat_natCast] at r0 r1
        have e3 : rd a (m : Int) = a.getD m 0 := by unfold rd; rw [Int.toNat_natCast]
        have e4 : rd b (m : Int) = b.getD m 0 := by unfold rd; rw [Int.toNat_natCast]
        rw [e3] at r0
        rw [e4] at r1
        clear e3 e4
        have hg : Aside0 (m + 1 < gk) := ⟨by have := hk.out.2.1; omega⟩
        have b0 : (m : Int) < (a.length : Int) := by have := hk.out.1; omega
        have b1 : (m : Int) < (b.length : Int) := by have := hk.out.1; omega
        have b2 : (0 : Int) ≤ (m : Int) := by omega
        replace b0 := eq_true b0
        replace b1 := eq_true b1
        replace b2 := eq_true b2
        rcases Int.lt_trichotomy (a.getD m 0) (b.getD m 0) with z | z | z
        · have h3 : Aside0 (sgn (V a) (V b) = -1) := ⟨by rw [← hk.out.2.2]; unfold sgn; rw [if_pos (lt_step d1 d2 m z)]⟩
          have z1 : decide (a.getD m 0 < b.getD m 0) = true := decide_eq_true z
          generalize a.getD m 0 = p at *
          generalize b.getD m 0 = q at *
          go_wp2
          go_quiet (fail)
          go_wp2
          go_ret
          exact ⟨by rw [h3.out]; rfl, by first | exact (H.drewN _).old | exact ((H.drewN _).drewN _).old⟩
        · have h3 : Aside0 (sgn (V (a.take m)) (V (b.take m)) = sgn (V a) (V b)) := ⟨by rw [← hk.out.2.2, V_take_succ, V_take_succ, z]; unfold sgn; simp only [Int.add_lt_add_iff_right]⟩
          have hk1 := Aside0.mk hk.out.1
          rw [z] at r0
          generalize b.getD m 0 = q at *
          clear z hk
          have z1 : decide (q < q) = false := by simp
          go_wp2
          go_quiet (fail)
          go_wp2
          go_quiet (fail)
          go_wp2
          go_roundg (m + 1)
          case measure => exact hg.out
          case rel => exact ⟨m, by first | rfl | (simp; done), ⟨Nat.le_of_succ_le hk1.out, rfl, h3.out⟩, H.drewN _⟩
        · have h3 : Aside0 (sgn (V a) (V b) = 1) := ⟨by rw [← hk.out.2.2]; unfold sgn; have := lt_step d2 d1 m z; rw [if_neg (by omega), if_pos this]⟩
          have z1 : decide (a.getD m 0 < b.getD m 0) = false := decide_eq_false (by omega)
          have z2 : decide (b.getD m 0 < a.getD m 0) = true := decide_eq_true z
          generalize a.getD m 0 = p at *
          generalize b.getD m 0 = q at *
          go_wp2
          go_quiet (fail)
          go_wp2
          go_quiet (fail)
          go_wp2
          go_ret
          exact ⟨by rw [h3.out]; rfl, by first | exact (H.drewN _).old | exact ((H.drewN _).drewN _).old⟩
  · have hs : sgn (V a) (V b) = 1 := by
      have z : V b < V a := by
        by_cases z : V b < V a
        · exact z
        · have := len_le d1 t1 d2 (by omega)
          omega
      unfold sgn
      rw [if_neg (by omega), if_pos z]
    rw [hs]
    have e1 : ((a.length : Int) != (b.length : Int)) = true := by simp; omega
    have e2 : decide ((a.length : Int) < (b.length : Int)) = false := by simp; omega
    go_wp2
    go_ret
    exact ⟨rfl, Below.refl _ _⟩
set_option maxRecDepth 100000 in
set_option maxHeartbeats 1000000 in
theorem cmp_c {x y : Int} (h : Held w ok (Cs A (dig x))) (hc : (dig x).length ≤ c) (h' : Held w ok' (Cs A' (dig y))) (hc' : (dig y).length ≤ c') (hl : (dig x).length ≤ 1000000) (hl' : (dig y).length ≤ 1000000) :
    Tells Try.prog 50 #[num x A c, num y A' c'] w (.int .i64 (sgn x y)) := by
  have hu38 := Try.underlying52
  unfold num Tells
  go_enter Try.func50, Try.ntmps50
  by_cases q : x < 0 <;> by_cases q' : y < 0
  · have hs : wrap64 (-sgn x.natAbs y.natAbs) = sgn x y := by unfold wrap64 sgn; (repeat' split) <;> omega
    rw [neg_yes q, neg_yes q']
    go_wp2_with fail
    have H := (((All.start w).arg h).arg h').box w.heap.size 52 #[.bool true, .slice A (dig x).length c] |>.box (w.heap.size + 1) 52 #[.bool true, .slice A' (dig y).length c']
    refine (size_c (H.get 3 rfl) hc (H.get 2 rfl) hc' hl hl').on H fun w1 H => ?_
    have r := H.rd 1 rfl
    go_wp2
    go_ret
    exact ⟨by first | rfl | (rw [hs]; rfl), H.old⟩
  · have hs : sgn x y = -1 := by unfold sgn; rw [if_pos (by omega)]
    rw [neg_yes q, neg_no q', hs]
    go_wp2
    go_ret
    exact ⟨rfl, below_alloc (below_alloc (Below.refl _ _) _) _⟩
  · have hs : sgn x y = 1 := by unfold sgn; rw [if_neg (by omega), if_pos (by omega)]
    rw [neg_no q, neg_yes q', hs]
    go_wp2
    go_ret
    exact ⟨rfl, below_alloc (below_alloc (Below.refl _ _) _) _⟩
  · have hs : sgn x.natAbs y.natAbs = sgn x y := by unfold sgn; (repeat' split) <;> omega
    rw [neg_no q, neg_no q']
    go_wp2_with fail
    have H := (((All.start w).arg h).arg h').box w.heap.size 52 #[.bool false, .slice A (dig x).length c] |>.box (w.heap.size + 1) 52 #[.bool false, .slice A' (dig y).length c']
    refine (size_c (H.get 3 rfl) hc (H.get 2 rfl) hc' hl hl').on H fun w1 H => ?_
    have r := H.rd 1 rfl
    go_wp2
    go_ret
    exact ⟨by first | rfl | (rw [hs]; rfl), H.old⟩
def I64 (x : Int) : Prop := -9223372036854775808 ≤ x ∧ x ≤ 9223372036854775807
def U64 (x : Int) : Prop := 0 ≤ x ∧ x < 18446744073709551616
end
end Go.Proofs.Ythhgcjlgnafdcaa.Nu
end
section
namespace Go.Proofs.Ythhgcjlgnafdcaa.Nu
set_option linter.unusedSimpArgs false
set_option linter.unusedVariables false
open Go Go.RowKit Go.Proofs.YthhgcjlgnafdcaaW.PrintWords Go.Proofs.YthhgcjlgnafdcaaW.PrintLast Go.Proofs.Ythhgcjlgnafdcaa.Hd
section
variable {w : World}
def wd (hi lo : Int) : Int := hi * 18446744073709551616 + lo
end
end Go.Proofs.Ythhgcjlgnafdcaa.Nu
end
section
namespace Go.Proofs.Ythhgcjlgnafdcaa.Nu
set_option linter.unusedSimpArgs false
set_option linter.unusedVariables false
open Go Go.RowKit Go.Proofs.YthhgcjlgnafdcaaW.PrintWords Go.Proofs.YthhgcjlgnafdcaaW.PrintLast Go.Proofs.YthhgcjlgnafdcaaW.PrintMore Go.Proofs.Ythhgcjlgnafdcaa.Hd
section
variable {w : World} {ok ok' : Nat → Prop} {A A' : Option Addr} {c c' : Nat} {d d' : List Int}
end
end Go.Proofs.Ythhgcjlgnafdcaa.Nu
end
section
namespace Go.Proofs.Ythhgcjlgnafdcaa.Nu
set_option linter.unusedSimpArgs false
set_option linter.unusedVariables false
open Go Go.RowKit Go.Proofs.YthhgcjlgnafdcaaW.PrintWords Go.Proofs.YthhgcjlgnafdcaaW.PrintLast Go.Proofs.YthhgcjlgnafdcaaW.PrintMore Go.Proofs.Ythhgcjlgnafdcaa.Hd
section
variable {w : World} {ok ok' : Nat → Prop} {A A' : Option Addr} {c c' : Nat} {d d' : List Int}
theorem Ds.set {d : List Int} (h : Ds d) (i : Nat) {x : Int} (hx : Dg x) : Ds (d.set i x) := fun y hy => by
  rcases List.mem_or_eq_of_mem_set hy with q | q
  · exact h y q
  · rw [q]; exact hx
end
end Go.Proofs.Ythhgcjlgnafdcaa.Nu
end
