/- Texts of this seat, put together (Zg4). -/
import Derived.Test.YthhgcjlgnafdcaaProg
import Derived.Below
import Derived.Maps.AppendAt
import Derived.OwnWalk
import Derived.Tactics
import Derived.WalkKit
import Derived.KernelRfl
import Derived.RowKit3
import Derived.Deep.LoopGhost
import Derived.RowKit
import Derived.WalkSpells
import Derived.WalkLawsBesides
import Derived.Test.YthhgcjlgnafdcaaZg3
section
namespace Go.Proofs.Ythhgcjlgnafdcaa.Nu
set_option linter.unusedSimpArgs false
set_option linter.unusedVariables false
open Go Go.RowKit Go.Proofs.YthhgcjlgnafdcaaW.PrintWords Go.Proofs.YthhgcjlgnafdcaaW.PrintLast Go.Proofs.Ythhgcjlgnafdcaa.Hd
def Dg (x : Int) : Prop := 0 ≤ x ∧ x < 65536
def Ds (d : List Int) : Prop := ∀ x ∈ d, Dg x
def V : List Int → Int
  | [] => 0
  | x :: r => x + 65536 * V r
def B (n : Nat) : Int := match n with
  | 0 => 1
  | n + 1 => 65536 * B n
termination_by n
theorem B_zero : B 0 = 1 := by rw [B]
theorem B_succ (n : Nat) : B (n + 1) = 65536 * B n := by rw [B]
theorem B_pos : ∀ n, 0 < B n
  | 0 => by rw [B_zero]; omega
  | n + 1 => by have := B_pos n; rw [B_succ]; omega
theorem B_add (m : Nat) : ∀ n, B (m + n) = B m * B n
  | 0 => by rw [B_zero, Int.mul_one, Nat.add_zero]
  | n + 1 => by rw [show m + (n + 1) = (m + n) + 1 by omega, B_succ, B_succ, B_add m n, ← Int.mul_assoc, ← Int.mul_assoc, Int.mul_comm 65536 (B m)]
theorem B_mono {m n : Nat} (h : m ≤ n) : B m ≤ B n := by
  obtain ⟨k, rfl⟩ := Nat.exists_eq_add_of_le h
  have h1 := B_pos m
  have h2 := B_pos k
  rw [B_add]
  calc B m = B m * 1 := (Int.mul_one _).symm
    _ ≤ B m * B k := Int.mul_le_mul_of_nonneg_left (by omega) (by omega)
theorem Ds.nil : Ds [] := fun x h => by cases h
theorem Ds.tail {x : Int} {r : List Int} (h : Ds (x :: r)) : Ds r := fun y hy => h y (by simp [hy])
theorem Ds.head {x : Int} {r : List Int} (h : Ds (x :: r)) : Dg x := h x (by simp)
theorem Ds.append {a b : List Int} (ha : Ds a) (hb : Ds b) : Ds (a ++ b) := fun x hx => by
  rcases List.mem_append.1 hx with h | h
  · exact ha x h
  · exact hb x h
theorem Ds.snoc {a : List Int} {x : Int} (ha : Ds a) (hx : Dg x) : Ds (a ++ [x]) := ha.append fun y hy => by rw [List.mem_singleton.1 hy]; exact hx
theorem Ds.take {a : List Int} (ha : Ds a) (n : Nat) : Ds (a.take n) := fun x hx => ha x (List.mem_of_mem_take hx)
theorem Ds.drop {a : List Int} (ha : Ds a) (n : Nat) : Ds (a.drop n) := fun x hx => ha x (List.mem_of_mem_drop hx)
theorem Ds.at {a : List Int} (ha : Ds a) (i : Nat) : Dg (a.getD i 0) := by
  rw [List.getD_eq_getElem?_getD]
  cases he : a[i]? with
  | none => exact ⟨by simp, by simp⟩
  | some x => exact ha x (List.mem_of_getElem? he)
theorem V_nonneg : ∀ {d : List Int}, Ds d → 0 ≤ V d
  | [], _ => Int.le_refl _
  | x :: r, h => by
    have h1 := V_nonneg h.tail
    have h2 := h.head.1
    simp only [V]
    omega
theorem V_lt : ∀ {d : List Int}, Ds d → V d < B d.length
  | [], _ => by rw [List.length_nil, B_zero]; simp [V]
  | x :: r, h => by
    have h1 := V_lt h.tail
    have h2 := h.head.2
    rw [List.length_cons, B_succ]
    simp only [V]
    omega
theorem V_append (b : List Int) : ∀ a : List Int, V (a ++ b) = V a + B a.length * V b
  | [] => by simp [V, B_zero]
  | x :: r => by
    rw [List.cons_append, List.length_cons, B_succ]
    simp only [V]
    rw [V_append b r, Int.mul_add, Int.add_assoc, Int.mul_assoc]
theorem V_snoc (a : List Int) (x : Int) : V (a ++ [x]) = V a + B a.length * x := by
  rw [V_append]
  simp [V]
theorem V_take_succ (a : List Int) (i : Nat) : V (a.take (i + 1)) = V (a.take i) + B i * a.getD i 0 := by
  rcases Nat.lt_or_ge i a.length with h | h
  · rw [List.take_add_one, List.getElem?_eq_getElem h, List.getD_eq_getElem?_getD, List.getElem?_eq_getElem h]
    show V (a.take i ++ [a[i]]) = _
    rw [V_snoc, List.length_take, Nat.min_eq_left (by omega)]
    rfl
  · rw [List.take_of_length_le (by omega), List.take_of_length_le h, List.getD_eq_getElem?_getD, List.getElem?_eq_none h]
    simp
theorem take_lt {a : List Int} (ha : Ds a) (i : Nat) : V (a.take i) < B i := by
  have h := V_lt (ha.take i)
  exact Int.lt_of_lt_of_le h (B_mono (by rw [List.length_take]; omega))
def Top (d : List Int) : Prop := ∀ h : d ≠ [], d.getLast h ≠ 0
theorem top_ge {d : List Int} (hd : Ds d) (ht : Top d) (h : d ≠ []) : B (d.length - 1) ≤ V d := by
  have e : d = d.dropLast ++ [d.getLast h] := (List.dropLast_concat_getLast h).symm
  have hl : d.dropLast.length = d.length - 1 := List.length_dropLast
  have h1 := ht h
  have h2 := hd (d.getLast h) (List.getLast_mem h)
  have h3 := V_nonneg (d := d.dropLast) (fun x hx => hd x (List.dropLast_subset d hx))
  have h4 := V_snoc d.dropLast (d.getLast h)
  rw [← e, hl] at h4
  have h5 := B_pos (d.length - 1)
  unfold Dg at h2
  have h6 : B (d.length - 1) * 1 ≤ B (d.length - 1) * d.getLast h := Int.mul_le_mul_of_nonneg_left (by omega) (by omega)
  omega
def val (n : Bool) (d : List Int) : Int := if n = true then -V d else V d
structure Nm (v : Int) (n : Bool) (d : List Int) : Prop where
  ds : Ds d
  top : Top d
  neg : n = true → d ≠ []
  val : val n d = v
  len : d.length ≤ 1000000
theorem V_pos {d : List Int} (hd : Ds d) (ht : Top d) (h : d ≠ []) : 0 < V d := by
  have h1 := top_ge hd ht h
  have h2 := B_pos (d.length - 1)
  omega
theorem Nm.zero {v : Int} {n : Bool} {d : List Int} (h : Nm v n d) : n = true → v < 0 := fun hn => by
  have h1 := V_pos h.ds h.top (h.neg hn)
  have h2 := h.val
  unfold Nu.val at h2
  rw [if_pos hn] at h2
  omega
theorem Nm.pos {v : Int} {n : Bool} {d : List Int} (h : Nm v n d) : n = false → 0 ≤ v := fun hn => by
  have h1 := V_nonneg h.ds
  have h2 := h.val
  unfold Nu.val at h2
  rw [hn, if_neg (by simp)] at h2
  omega
def sgn (x y : Int) : Int := if x < y then -1 else if y < x then 1 else 0
theorem len_le {a b : List Int} (ha : Ds a) (hta : Top a) (hb : Ds b) (h : V a ≤ V b) : a.length ≤ b.length := by
  rcases Nat.lt_or_ge b.length a.length with q | q
  · have h1 : a ≠ [] := fun e => by rw [e] at q; simp at q
    have h2 := top_ge ha hta h1
    have h3 := V_lt hb
    have h4 : B b.length ≤ B (a.length - 1) := B_mono (by omega)
    omega
  · exact q
theorem len_of {d : List Int} {n : Nat} (hd : Ds d) (ht : Top d) (h : V d < B n) : d.length ≤ n := by
  rcases Nat.lt_or_ge n d.length with q | q
  · have h1 : d ≠ [] := fun e => by rw [e] at q; simp at q
    have h2 := top_ge hd ht h1
    have h3 : B n ≤ B (d.length - 1) := B_mono (by omega)
    omega
  · exact q
def digN (n : Nat) : List Int := if h : n = 0 then [] else ((n % 65536 : Nat) : Int) :: digN (n / 65536)
termination_by n
decreasing_by omega
def dig (x : Int) : List Int := digN x.natAbs
theorem Top.tail {x : Int} {r : List Int} (h : Top (x :: r)) : Top r := fun hr => by
  have := h (by simp)
  rwa [List.getLast_cons hr] at this
theorem digN_of : ∀ (d : List Int), Ds d → Top d → d = digN (V d).toNat
  | [], _, _ => by simp [V, digN]
  | x :: r, hd, ht => by
    have h1 := hd.head
    have h2 := V_nonneg hd.tail
    have h3 := V_pos hd ht (by simp)
    have ih := digN_of r hd.tail ht.tail
    unfold Dg at h1
    rw [digN, dif_neg (by omega)]
    simp only [V] at h3 ⊢
    have e1 : ((x + 65536 * V r).toNat % 65536 : Nat) = x.toNat := by omega
    have e2 : (x + 65536 * V r).toNat / 65536 = (V r).toNat := by omega
    rw [e1, e2, ← ih, Int.toNat_of_nonneg h1.1]
theorem dig_ds (n : Nat) : Ds (digN n) ∧ Top (digN n) ∧ V (digN n) = n := by
  induction n using Nat.strongRecOn with
  | ind n ih =>
  rw [digN]
  by_cases h : n = 0
  · rw [dif_pos h]
    exact ⟨Ds.nil, fun h => absurd rfl h, by show (0 : Int) = _; omega⟩
  · rw [dif_neg h]
    obtain ⟨i1, i2, i3⟩ := ih (n / 65536) (by omega)
    refine ⟨fun y hy => ?_, fun hne => ?_, ?_⟩
    · rcases List.mem_cons.1 hy with rfl | hy
      · exact ⟨by omega, by omega⟩
      · exact i1 y hy
    · by_cases hr : digN (n / 65536) = []
      · have : n / 65536 = 0 := by
          have h5 : V (digN (n / 65536)) = ((n / 65536 : Nat) : Int) := i3
          rw [hr] at h5
          have h6 : (0 : Int) = ((n / 65536 : Nat) : Int) := h5
          omega
        simp only [hr, List.getLast_singleton]
        omega
      · rw [List.getLast_cons hr]
        exact i2 hr
    · simp only [V]
      rw [i3]
      omega
theorem dig_nm (x : Int) : Ds (dig x) ∧ Top (dig x) ∧ V (dig x) = x.natAbs := dig_ds _
theorem dig_of {n : Bool} {d : List Int} (hd : Ds d) (ht : Top d) : d = dig (val n d) := by
  have h1 := V_nonneg hd
  rw [dig, digN_of d hd ht]
  congr 1
  rw [← digN_of d hd ht]
  unfold val
  split <;> omega
theorem dig_len {x : Int} {n : Nat} (h : (x.natAbs : Int) < B n) : (dig x).length ≤ n := len_of (dig_nm x).1 (dig_nm x).2.1 (by rw [(dig_nm x).2.2]; exact h)
def neg (x : Int) : Bool := decide (x < 0)
theorem neg_yes {x : Int} (h : x < 0) : neg x = true := decide_eq_true h
theorem neg_no {x : Int} (h : ¬ x < 0) : neg x = false := decide_eq_false h
abbrev num (x : Int) (A : Option Addr) (c : Nat) : Value := .agg #[.bool (neg x), .slice A (dig x).length c]
def Cs (A : Option Addr) (l : List Int) (W : World) : Prop := Kd.C (Kd.int .i64) W A l.length l
def Row (l : List Int) (v : Value) (W : World) : Prop := ∃ A c, v = .slice A l.length c ∧ l.length ≤ c ∧ Cs A l W
theorem row_open {l : List Int} {v : Value} {w : World} {ok : Nat → Prop} (h : Held w ok (Row l v)) : ∃ A c, v = .slice A l.length c ∧ l.length ≤ c ∧ Held w ok (Cs A l) := by
  obtain ⟨A, c, rfl, hc, _⟩ := h.now
  refine ⟨A, c, rfl, hc, h.imp fun W hW => ?_⟩
  obtain ⟨A', c', he, _, h'⟩ := hW
  injection he with h1 h2 h3
  rw [h1]
  exact h'
def Num (x : Int) (v : Value) (W : World) : Prop := ∃ A c, v = num x A c ∧ (dig x).length ≤ c ∧ Cs A (dig x) W
theorem num_open {x : Int} {v : Value} {w : World} {ok : Nat → Prop} (h : Held w ok (Num x v)) : ∃ A c, v = num x A c ∧ (dig x).length ≤ c ∧ Held w ok (Cs A (dig x)) := by
  obtain ⟨A, c, rfl, hc, _⟩ := h.now
  refine ⟨A, c, rfl, hc, h.imp fun W hW => ?_⟩
  obtain ⟨A', c', he, _, h'⟩ := hW
  simp only [num, Value.agg.injEq, Array.mk.injEq, List.cons.injEq, Value.slice.injEq, and_true, true_and] at he
  rw [he.1]
  exact h'
theorem num_mk {x : Int} {w : World} {ok : Nat → Prop} {A : Option Addr} {c : Nat} (hc : (dig x).length ≤ c) (h : Held w ok (Cs A (dig x))) : Held w ok (Num x (num x A c)) := h.imp fun W hW => ⟨A, c, rfl, hc, hW⟩
theorem dig_zero : dig 0 = [] := by unfold dig digN; simp
theorem below_of {w W : World} (hW : ∀ k, k < w.heap.size → W.heap[k]? = w.heap[k]?) : Below w.heap.size w { w with heap := W.heap } := by
  refine ⟨rfl, rfl, rfl, ?_, hW⟩
  show w.heap.size ≤ W.heap.size
  rcases Nat.eq_zero_or_pos w.heap.size with h | h
  · omega
  · have h1 := hW (w.heap.size - 1) (by omega)
    rw [Array.getElem?_eq_getElem (show w.heap.size - 1 < w.heap.size by omega)] at h1
    obtain ⟨h2, _⟩ := Array.getElem?_eq_some_iff.1 h1
    omega
end Go.Proofs.Ythhgcjlgnafdcaa.Nu
end
section
namespace Go.Proofs.Ythhgcjlgnafdcaa.Nu
set_option linter.unusedSimpArgs false
set_option linter.unusedVariables false
open Go Go.RowKit Go.Proofs.YthhgcjlgnafdcaaW.PrintWords Go.Proofs.YthhgcjlgnafdcaaW.PrintLast Go.Proofs.Ythhgcjlgnafdcaa.Hd
section
variable {w : World} {ok ok' : Nat → Prop} {A A' : Option Addr} {c c' : Nat} {d d' : List Int}
theorem w64 {n : Int} (h0 : -9223372036854775808 ≤ n) (h1 : n ≤ 9223372036854775807) : wrap64 n = n := by unfold wrap64; omega
theorem at_c (h : Held w ok (Cs A d)) (hc : d.length ≤ c) (i : Nat) (hi : i ≤ 1000000) {p : Int} (hp : d.getD i 0 = p) : Tells Try.prog 104 #[.slice A d.length c, .int .i64 (i : Int)] w (.int .i64 p) := by
  subst hp
  have hC := h.now
  unfold Tells
  go_enter Try.func104, Try.ntmps104
  by_cases hlt : (i : Int) < (d.length : Int)
  · obtain ⟨ad, rfl, r0⟩ := Kd.at_int hC (i : Int) (by omega) hlt
    have e : rd d (i : Int) = d.getD i 0 := by unfold rd; rw [Int.toNat_natCast]
    rw [e, Int.toNat_natCast] at r0
    go_wp2
    go_ret
    exact ⟨rfl, Below.refl _ _⟩
  · go_wp2
    go_ret
    exact ⟨by rw [List.getElem?_eq_none (by omega)]; rfl, Below.refl _ _⟩
theorem last_nz {d : List Int} {k : Nat} (hk : k ≤ d.length) (h : 0 < k → d.getD (k - 1) 0 ≠ 0) : Top (d.take k) := fun hne => by
  have h0 : 0 < k := by
    rcases Nat.eq_zero_or_pos k with e | e
    · subst e; simp at hne
    · exact e
  have h1 : (d.take k).getLast hne = d.getD (k - 1) 0 := by
    rw [List.getLast_eq_getElem, List.getElem_take, List.getD_eq_getElem?_getD, List.getElem?_eq_getElem (by omega)]
    simp only [List.length_take, Nat.min_eq_left hk]
    rfl
  rw [h1]
  exact h h0
set_option maxRecDepth 100000 in
set_option maxHeartbeats 1000000 in
theorem clean_c {n : Bool} (h : Held w ok (Cs A d)) (hc : d.length ≤ c) (hd : Ds d) (hl : d.length ≤ 1000000) : Calls Try.prog 105 #[.agg #[.bool n, .slice A d.length c]] w fun e w' => e = .returned (num (val n d) A c) ∧ Below w.heap.size w w' ∧ Held w' ok (Cs A (dig (val n d))) ∧ (dig (val n d)).length ≤ d.length := by
  have hu38 := Try.underlying52
  have hC := h.now
  go_enter Try.func105, Try.ntmps105
  go_wp2_with fail
  have H := (((All.start w).arg h).box w.heap.size 52 #[.bool n, .slice A d.length c]).box (w.heap.size + 1) 52 #[.bool false, .slice none 0 0]
  clear hC
  go_loopg [] (d.length + 1) (fun kq w' => ∃ k, Aside0 (k ≤ d.length ∧ kq = k + 1 ∧ V (d.take k) = V d) ∧ All w w' [bx (w.heap.size + 1) 52 #[.bool false, .slice none 0 0], bx w.heap.size 52 #[.bool n, .slice A k c], (ok, Cs A d)])
  case atStart => exact ⟨d.length, ⟨Nat.le_refl _, rfl, by rw [List.take_length]⟩, H⟩
  case round =>
    obtain ⟨k, hk, H⟩ := hrel
    have r := H.rd 1 rfl
    have z := H.fz 1 rfl
    have r2 := H.rd 0 rfl
    have z2 := H.fz 0 rfl
    have fin : (0 < k → d.getD (k - 1) 0 ≠ 0) → Aside0 (num (val n d) A c = .agg #[.bool (if k = 0 then false else n), .slice A k c]) ∧ Aside0 (d.take k = dig (val n d)) := fun hz => by
      have ht := last_nz hk.out.1 hz
      have e := dig_of (n := n) (hd.take k) ht
      have e2 : val n (d.take k) = val n d := by unfold val; rw [hk.out.2.2]
      rw [e2] at e
      refine ⟨⟨?_⟩, ⟨e⟩⟩
      unfold num
      rw [← e, List.length_take, Nat.min_eq_left hk.out.1]
      congr 4
      have h2 := hk.out.2.2
      by_cases h0 : k = 0
      · subst h0
        have h3 : V d = 0 := h2.symm
        rw [if_pos rfl]
        refine neg_no ?_
        unfold val; split <;> omega
      · have h3 := V_pos (hd.take k) ht (by intro h; have := congrArg List.length h; rw [List.length_take, Nat.min_eq_left hk.out.1] at this; exact h0 (by simpa using this))
        rw [if_neg h0]
        unfold val
        cases n
        · exact neg_no (by simp; omega)
        · exact neg_yes (by simp; omega)
    rcases Nat.eq_zero_or_pos k with h0 | h0
    · subst h0
      obtain ⟨f1, f2⟩ := fin (fun h => absurd h (Nat.lt_irrefl 0))
      clear hk fin
      go_wp2
      have H := ((H.set 1 rfl 0 (.bool false)).set 0 rfl 0 (.bool false)).set 0 rfl 1 (.slice A 0 c)
      exact H.ret 0 rfl rfl rfl hu38 rfl (by kernel_rfl) rfl ⟨by rw [f1.out]; rfl, H.old, by rw [← f2.out]; exact (H.get 2 rfl).imp fun W hW => Kd.C_take hW (Nat.zero_le _), by rw [← f2.out]; exact List.length_take_le' _ _⟩
    · obtain ⟨m, rfl⟩ : ∃ m, k = m + 1 := ⟨k - 1, by omega⟩
      have hm : m < 1000000 := by have := hk.out.1; omega
      obtain ⟨ad, rfl, r0⟩ := Kd.at_int (H.at 2 rfl) (m : Int) (by omega) (by have := hk.out.1; omega)
      rw [Int.toNat_natCast] at r0
      have rt := run_take (P := Try.prog) 50 3 rfl rfl rfl (some ad) (m + 1) c m (by omega) (by have := hk.out.1; omega)
      by_cases hz : rd d (m : Int) = 0
      · rw [hz] at r0
        have hk2 : Aside0 (m ≤ d.length ∧ m + 1 = m + 1 ∧ V (d.take m) = V d) := ⟨by have := hk.out.1; omega, rfl, by
          have h1 := V_take_succ d m
          have h2 := hk.out.2.2
          unfold rd at hz
          rw [Int.toNat_natCast] at hz
          rw [hz, Int.mul_zero] at h1
          omega⟩
        have hg : Aside0 (m + 1 < gk) := ⟨by have := hk.out.2.1; omega⟩
        clear fin hk
        go_wp2
        have H := H.set 1 rfl 1 (.slice (some ad) m c)
        go_roundg (m + 1)
        case measure => exact hg.out
        case rel => exact ⟨m, ⟨hk2.out.1, rfl, hk2.out.2.2⟩, H⟩
      · obtain ⟨f1, f2⟩ := fin (fun _ => by unfold rd at hz; rw [Int.toNat_natCast] at hz; exact hz)
        have hk1 := Aside0.mk hk.out.1
        clear hk fin
        go_wp2
        have H := (H.set 0 rfl 0 (.bool n)).set 0 rfl 1 (.slice (some ad) (m + 1) c)
        exact H.ret 0 rfl rfl rfl hu38 rfl (by kernel_rfl) rfl ⟨by rw [f1.out]; rfl, H.old, by rw [← f2.out]; exact (H.get 2 rfl).imp fun W hW => Kd.C_take hW hk1.out, by rw [← f2.out]; exact List.length_take_le' _ _⟩
theorem clean_n {n : Bool} {m : Nat} (hm : d.length = m) (h : Held w ok fun W => Kd.C (Kd.int .i64) W A m d) (hc : m ≤ c) (hd : Ds d) (hl : m ≤ 1000000) : Calls Try.prog 105 #[.agg #[.bool n, .slice A m c]] w fun e w' => e = .returned (num (val n d) A c) ∧ Below w.heap.size w w' ∧ Held w' ok (Cs A (dig (val n d))) ∧ (dig (val n d)).length ≤ m := by
  subst hm
  exact clean_c h hc hd hl
theorem lt_step {a b : List Int} (ha : Ds a) (hb : Ds b) (m : Nat) (h : a.getD m 0 < b.getD m 0) : V (a.take (m + 1)) < V (b.take (m + 1)) := by
  have h1 := take_lt ha m
  have h2 := V_nonneg (hb.take m)
  have h3 : B m * (a.getD m 0 + 1) ≤ B m * b.getD m 0 := Int.mul_le_mul_of_nonneg_left (by omega) (Int.le_of_lt (B_pos m))
  rw [Int.mul_add, Int.mul_one] at h3
  rw [V_take_succ, V_take_succ]
  omega
set_option maxRecDepth 100000 in
set_option maxHeartbeats 1000000 in
theorem size_c {x y : Int} (h : Held w ok (Cs A (dig x))) (hc : (dig x).length ≤ c) (h' : Held w ok' (Cs A' (dig y))) (hc' : (dig y).length ≤ c') (hl : (dig x).length ≤ 1000000) (hl' : (dig y).length ≤ 1000000) :
    Tells Try.prog 88 #[.slice A (dig x).length c, .slice A' (dig y).length c'] w (.int .i64 (sgn x.natAbs y.natAbs)) := by
  obtain ⟨d1, t1, v1⟩ := dig_nm x
  obtain ⟨d2, t2, v2⟩ := dig_nm y
  rw [← v1, ← v2]
  generalize dig x = a at *
  generalize dig y = b at *
  clear v1 v2
  unfold Tells
  go_enter Try.func88, Try.ntmps88
  rcases Nat.lt_trichotomy a.length b.length with q | q | q
  · have hs : sgn (V a) (V b) = -1 := by
      unfold sgn
      rw [if_pos]
      by_cases z : V a < V b
      · exact z
      · have := len_le d2 t2 d1 (by omega)
        omega
    rw [hs]
    have e1 : ((a.length : Int) != (b.length : Int)) = true := by simp; omega
    have e2 : decide ((a.length : Int) < (b.length : Int)) = true := by simp; omega
    go_wp2
    go_ret
    exact ⟨rfl, Below.refl _ _⟩
  · have e1 : ((a.length : Int) != (b.length : Int)) = false := by simp; omega
    have H := ((All.start w).arg h).arg h'
    have hs : Aside0 (sgn (V (a.take b.length)) (V (b.take b.length)) = sgn (V a) (V b)) := ⟨by rw [List.take_length, ← q, List.take_length]⟩
    go_wp2
    go_loopg [5] (b.length + 1) (fun kq v5 w' => ∃ k : Nat, v5 = .int .i64 ((k : Int) - 1) ∧ Aside0 (k ≤ b.length ∧ kq = k + 1 ∧ sgn (V (a.take k)) (V (b.take k)) = sgn (V a) (V b)) ∧ All w w' [(ok', Cs A' b), (ok, Cs A a)])
    case atStart => exact ⟨b.length, rfl, ⟨Nat.le_refl _, rfl, hs.out⟩, H⟩
    case round =>
      obtain ⟨k, rfl, hk, H⟩ := hrel
      rcases Nat.eq_zero_or_pos k with h0 | h0
      · subst h0
        have h3 := Aside0.mk hk.out.2.2
        go_wp2
        go_ret
        exact ⟨by rw [← h3.out]; rfl, H.old⟩
      · obtain ⟨m, rfl⟩ : ∃ m, k = m + 1 := ⟨k - 1, by omega⟩
        have hm : m < 1000000 := by have := hk.out.1; omega
        obtain ⟨ad, rfl, r0⟩ := Kd.at_int (H.at 1 rfl) (m : Int) (by omega) (by have := hk.out.1; omega)
        obtain ⟨ad', rfl, r1⟩ := Kd.at_int (H.at 0 rfl) (m : Int) (by omega) (by have := hk.out.1; omega)
        rw [Int.toNat_natCast] at r0 r1
        have e3 : rd a (m : Int) = a.getD m 0 := by unfold rd; rw [Int.toNat_natCast]
        have e4 : rd b (m : Int) = b.getD m 0 := by unfold rd; rw [Int.toNat_natCast]
        rw [e3] at r0
        rw [e4] at r1
        clear e3 e4
        have hg : Aside0 (m + 1 < gk) := ⟨by have := hk.out.2.1; omega⟩
        have b0 : (m : Int) < (a.length : Int) := by have := hk.out.1; omega
        have b1 : (m : Int) < (b.length : Int) := by have := hk.out.1; omega
        have b2 : (0 : Int) ≤ (m : Int) := by omega
        replace b0 := eq_true b0
        replace b1 := eq_true b1
        replace b2 := eq_true b2
        rcases Int.lt_trichotomy (a.getD m 0) (b.getD m 0) with z | z | z
        · have h3 : Aside0 (sgn (V a) (V b) = -1) := ⟨by rw [← hk.out.2.2]; unfold sgn; rw [if_pos (lt_step d1 d2 m z)]⟩
          have z1 : decide (a.getD m 0 < b.getD m 0) = true := decide_eq_true z
          generalize a.getD m 0 = p at *
          generalize b.getD m 0 = q at *
          go_wp2
          go_quiet (fail)
          go_wp2
          go_ret
          exact ⟨by rw [h3.out]; rfl, by first | exact (H.drewN _).old | exact ((H.drewN _).drewN _).old⟩
        · have h3 : Aside0 (sgn (V (a.take m)) (V (b.take m)) = sgn (V a) (V b)) := ⟨by rw [← hk.out.2.2, V_take_succ, V_take_succ, z]; unfold sgn; simp only [Int.add_lt_add_iff_right]⟩
          have hk1 := Aside0.mk hk.out.1
          rw [z] at r0
          generalize b.getD m 0 = q at *
          clear z hk
          have z1 : decide (q < q) = false := by simp
          go_wp2
          go_quiet (fail)
          go_wp2
          go_quiet (fail)
          go_wp2
          go_roundg (m + 1)
          case measure => exact hg.out
          case rel => exact ⟨m, by first | rfl | (simp; done), ⟨Nat.le_of_succ_le hk1.out, rfl, h3.out⟩, H.drewN _⟩
        · have h3 : Aside0 (sgn (V a) (V b) = 1) := ⟨by rw [← hk.out.2.2]; unfold sgn; have := lt_step d2 d1 m z; rw [if_neg (by omega), if_pos this]⟩
          have z1 : decide (a.getD m 0 < b.getD m 0) = false := decide_eq_false (by omega)
          have z2 : decide (b.getD m 0 < a.getD m 0) = true := decide_eq_true z
          generalize a.getD m 0 = p at *
          generalize b.getD m 0 = q at *
          go_wp2
          go_quiet (fail)
          go_wp2
          go_quiet (fail)
          go_wp2
          go_ret
          exact ⟨by rw [h3.out]; rfl, by first | exact (H.drewN _).old | exact ((H.drewN _).drewN _).old⟩
  · have hs : sgn (V a) (V b) = 1 := by
      have z : V b < V a := by
        by_cases z : V b < V a
        · exact z
        · have := len_le d1 t1 d2 (by omega)
          omega
      unfold sgn
      rw [if_neg (by omega), if_pos z]
    rw [hs]
    have e1 : ((a.length : Int) != (b.length : Int)) = true := by simp; omega
    have e2 : decide ((a.length : Int) < (b.length : Int)) = false := by simp; omega
    go_wp2
    go_ret
    exact ⟨rfl, Below.refl _ _⟩
set_option maxRecDepth 100000 in
set_option maxHeartbeats 1000000 in
theorem cmp_c {x y : Int} (h : Held w ok (Cs A (dig x))) (hc : (dig x).length ≤ c) (h' : Held w ok' (Cs A' (dig y))) (hc' : (dig y).length ≤ c') (hl : (dig x).length ≤ 1000000) (hl' : (dig y).length ≤ 1000000) :
    Tells Try.prog 50 #[num x A c, num y A' c'] w (.int .i64 (sgn x y)) := by
  have hu38 := Try.underlying52
  unfold num Tells
  go_enter Try.func50, Try.ntmps50
  by_cases q : x < 0 <;> by_cases q' : y < 0
  · have hs : wrap64 (-sgn x.natAbs y.natAbs) = sgn x y := by unfold wrap64 sgn; (repeat' split) <;> omega
    rw [neg_yes q, neg_yes q']
    go_wp2_with fail
    have H := (((All.start w).arg h).arg h').box w.heap.size 52 #[.bool true, .slice A (dig x).length c] |>.box (w.heap.size + 1) 52 #[.bool true, .slice A' (dig y).length c']
    refine (size_c (H.get 3 rfl) hc (H.get 2 rfl) hc' hl hl').on H fun w1 H => ?_
    have r := H.rd 1 rfl
    go_wp2
    go_ret
    exact ⟨by first | rfl | (rw [hs]; rfl), H.old⟩
  · have hs : sgn x y = -1 := by unfold sgn; rw [if_pos (by omega)]
    rw [neg_yes q, neg_no q', hs]
    go_wp2
    go_ret
    exact ⟨rfl, below_alloc (below_alloc (Below.refl _ _) _) _⟩
  · have hs : sgn x y = 1 := by unfold sgn; rw [if_neg (by omega), if_pos (by omega)]
    rw [neg_no q, neg_yes q', hs]
    go_wp2
    go_ret
    exact ⟨rfl, below_alloc (below_alloc (Below.refl _ _) _) _⟩
  · have hs : sgn x.natAbs y.natAbs = sgn x y := by unfold sgn; (repeat' split) <;> omega
    rw [neg_no q, neg_no q']
    go_wp2_with fail
    have H := (((All.start w).arg h).arg h').box w.heap.size 52 #[.bool false, .slice A (dig x).length c] |>.box (w.heap.size + 1) 52 #[.bool false, .slice A' (dig y).length c']
    refine (size_c (H.get 3 rfl) hc (H.get 2 rfl) hc' hl hl').on H fun w1 H => ?_
    have r := H.rd 1 rfl
    go_wp2
    go_ret
    exact ⟨by first | rfl | (rw [hs]; rfl), H.old⟩
theorem info_int : (Try.prog.info? 3).map (fun i => (i.zero, i.size, i.bytes)) = some (some (.int .i64 0), 1, 8) := by kernel_rfl
def wl : Nat → Int → List Int
  | 0, _ => []
  | k + 1, a => a % 65536 :: wl k (a / 65536)
theorem wl_len : ∀ (k : Nat) (a : Int), (wl k a).length = k
  | 0, _ => rfl
  | k + 1, a => by rw [wl, List.length_cons, wl_len]
set_option maxRecDepth 100000 in
set_option maxHeartbeats 1000000 in
theorem words_o {a : Int} (n : Nat) (hn : n ≤ 1000) (h0 : 0 ≤ a) (h1 : a < 18446744073709551616) : Calls Try.prog 107 #[.int .u64 a, .int .i64 (n : Int)] w fun e w' => ∃ A c, e = .returned (.slice A n c) ∧ Below w.heap.size w w' ∧ Held w' (Ob (.slice A n c)) (Ow w.heap.size 3 1 (.slice A n c) n (nums .i64 (wl n a))) := by
  have hu36 := Try.underlying50
  go_enter Try.func107, Try.ntmps107
  have H := (All.start w).row w.heap.size 3 1
  go_wp2
  go_loopg [0, 5, 6] (n + 1) (fun kq v0 v5 v6 w' => ∃ (k : Nat) (b : Int) (xs : List Int) (A : Option Addr) (c : Nat), v0 = .int .u64 b ∧ v5 = .slice A k c ∧ v6 = .int .i64 (k : Int) ∧ Aside0 (k ≤ n ∧ kq = n + 1 - k ∧ xs.length = k ∧ xs ++ wl (n - k) b = wl n a) ∧ 0 ≤ b ∧ b < 18446744073709551616 ∧ All w w' [ow w.heap.size 3 1 (.slice A k c) k (nums .i64 xs)])
  case atStart => exact ⟨0, a, [], none, 0, rfl, rfl, rfl, ⟨Nat.zero_le _, by omega, rfl, rfl⟩, h0, h1, H⟩
  case round =>
    obtain ⟨k, b, xs, A, c, rfl, rfl, rfl, hk, hb0, hb1, H⟩ := hrel
    have hz := H.old.size
    by_cases hlt : (k : Int) < (n : Int)
    · have e1 : b % 65536 ≤ 65535 := by omega
      have e2 : 0 ≤ b % 65536 := by omega
      go_wp2_with ((with_reducible refine gate_builtin (b := .append) rfl ?_); refine app_num (b % 65536) H 0 rfl (Nat.le_refl _) hz (by have := hk.out; omega) (.tmp 12) (.tmp 16) 50 info_int hu36 rfl rfl (by decide) rfl rfl ?_; intro A1 c1 w1 H z)
      have hg : n + 1 - (k + 1) < gk := by have := hk.out; omega
      go_roundg (n + 1 - (k + 1))
      case measure => exact hg
      case rel => exact ⟨k + 1, b / 65536, xs ++ [b % 65536], A1, c1, rfl, rfl, by first | rfl | (simp; done), ⟨by have := hk.out; omega, rfl, by rw [List.length_append, hk.out.2.2.1]; rfl, by
        have h2 := hk.out.2.2.2
        rw [show n - k = (n - (k + 1)) + 1 by have := hk.out; omega, wl] at h2
        rw [List.append_assoc]; exact h2⟩, by omega, by omega, H⟩
    · have hx : Aside0 (xs = wl n a) := ⟨by
        have h2 := hk.out.2.2.2
        rw [show n - k = 0 by have := hk.out; omega, wl, List.append_nil] at h2
        exact h2⟩
      have hkn : Aside0 (k = n) := ⟨by have := hk.out; omega⟩
      have h0 := Aside0.mk (H.get 0 rfl)
      go_wp2
      go_ret
      refine ⟨A, c, by rw [hkn.out]; rfl, H.old, ?_⟩
      have h2 := h0.out
      rw [hx.out, hkn.out] at h2
      exact h2
theorem words_c {a : Int} (n : Nat) (hn : n ≤ 1000) (h0 : 0 ≤ a) (h1 : a < 18446744073709551616) : Gives Try.prog 107 #[.int .u64 a, .int .i64 (n : Int)] w (Row (wl n a)) :=
  (words_o n hn h0 h1).mono fun e w' ⟨A, c, he, hb, h⟩ => by
    obtain ⟨hl, hc, hR⟩ := held_reads h
    exact ⟨_, he, hb, (hR.out h.now.base).imp fun W hW => ⟨A, c, by rw [hl], by rw [hl]; exact hc, by unfold Cs; rw [hl]; exact hW⟩⟩
theorem take_getD {l : List Int} {i : Nat} (h : i < l.length) : l.take (i + 1) = l.take i ++ [l.getD i 0] := by
  rw [List.take_succ_eq_append_getElem h, List.getD_eq_getElem?_getD, List.getElem?_eq_getElem h]; rfl
def tw (l : List Int) : Int := if 32768 ≤ l.getD (l.length - 1) 0 then V l - B l.length else V l
theorem neg_digit {d more : Int} (hd : Dg d) (h0 : 0 ≤ more) (h1 : more ≤ 1) (i : Nat) (l xs : List Int) (hx : xs.length = i) (hi : l.getD i 0 = d) (hv : V xs + B i * more = B i - V (l.take i)) :
    V (xs ++ [(65535 - d + more) % 65536]) + B (i + 1) * ((65535 - d + more) / 65536) = B (i + 1) - V (l.take (i + 1)) := by
  unfold Dg at hd
  rw [V_snoc, hx, V_take_succ, hi, B_succ]
  have e : B i * ((65535 - d + more) % 65536) + 65536 * B i * ((65535 - d + more) / 65536) = B i * (65535 - d + more) := by
    rw [Int.mul_comm 65536 (B i), Int.mul_assoc, ← Int.mul_add]
    congr 1
    omega
  have e2 : B i * (65535 - d + more) = 65535 * B i - B i * d + B i * more := by rw [Int.mul_add, Int.mul_sub, Int.mul_comm (B i) 65535]
  omega
set_option maxRecDepth 100000 in
set_option maxHeartbeats 2000000 in
theorem bits_c {l : List Int} (h : Held w ok (Cs A l)) (hc : l.length ≤ c) (hd : Ds l) (h0 : 0 < l.length) (hl : l.length ≤ 1000) : Gives Try.prog 106 #[.slice A l.length c] w (Num (tw l)) := by
  have hu36 := Try.underlying50
  have hu38 := Try.underlying52
  replace h := h.arg
  have H := ((All.start w).arg h).box w.heap.size 52 #[.bool false, .slice none 0 0]
  obtain ⟨ad, rfl, r0⟩ := Kd.at_int (H.at 1 rfl) ((l.length : Int) - 1) (by omega) (by omega)
  have e0 : rd l ((l.length : Int) - 1) = l.getD (l.length - 1) 0 := by unfold rd; rw [show ((l.length : Int) - 1).toNat = l.length - 1 by omega]
  rw [e0, show ((l.length : Int) - 1).toNat = l.length - 1 by omega] at r0
  obtain ⟨s, hs⟩ : ∃ s, s = decide (32768 ≤ l.getD (l.length - 1) 0) := ⟨_, rfl⟩
  have hs' : decide (32768 ≤ l.getD (l.length - 1) 0) = s := hs.symm
  have htw : Aside0 (tw l = if s = true then V l - B l.length else V l) := ⟨by unfold tw; rw [hs]; simp⟩
  clear hs
  generalize l.getD (l.length - 1) 0 = top at *
  unfold Gives
  go_enter Try.func106, Try.ntmps106
  go_wp2
  replace H := H.box (w.heap.size + 1) 52 #[.bool s, .slice none 0 0]
  go_loopg [4, 5, 6] (l.length + 1) (fun kq v4 v5 v6 w' => ∃ (i : Nat) (more : Int) (xs : List Int) (A : Option Addr) (c : Nat), v4 = .int .i64 more ∧ v5 = .int .i64 (i : Int) ∧ Aside0 (i ≤ l.length ∧ kq = l.length + 1 - i ∧ xs.length = i ∧ Ds xs) ∧ 0 ≤ more ∧ more ≤ 1 ∧ Aside0 (s = true → V xs + B i * more = B i - V (l.take i)) ∧ Aside0 (s = false → xs = l.take i) ∧
    All w w' [ow (w.heap.size + 2) 3 1 (.slice A i c) i (nums .i64 xs), bx (w.heap.size + 1) 52 #[.bool s, .slice A i c], bx w.heap.size 52 #[.bool false, .slice none 0 0], (In 0 w.heap.size, Cs (some ad) l)])
  case atStart => exact ⟨0, 1, [], none, 0, rfl, rfl, ⟨Nat.zero_le _, by omega, rfl, Ds.nil⟩, by omega, by omega, ⟨fun _ => by simp [V, B_zero]⟩, ⟨fun _ => rfl⟩, H.row _ _ _⟩
  case round =>
    obtain ⟨i, more, xs, A, c1, rfl, rfl, hk, m0, m1, ht, hf, H⟩ := hrel
    have hz := (H.get 1 rfl).lt _ rfl
    have r := H.rd 1 rfl
    have z := H.fz 1 rfl
    by_cases hlt : (i : Int) < (l.length : Int)
    · obtain ⟨ad2, e2, r2⟩ := Kd.at_int (H.at 3 rfl) (i : Int) (by omega) hlt
      obtain rfl : ad = ad2 := by injection e2
      have e3 : rd l (i : Int) = l.getD i 0 := by unfold rd; rw [Int.toNat_natCast]
      rw [e3, Int.toNat_natCast] at r2
      have hd' := hd.at i
      have hd2 := Aside0.mk hd'
      have d0 := hd'.1
      have d1 := hd'.2
      clear hd' e2 e3
      generalize hdi : l.getD i 0 = d at *
      replace hdi := Aside0.mk hdi
      have hg : l.length + 1 - (i + 1) < gk := by have := hk.out; omega
      have hi1 : Aside0 (i + 1 ≤ l.length ∧ xs.length = i ∧ Ds xs) := ⟨by omega, hk.out.2.2⟩
      have hsz : (i + 1) * 8 ≤ 140737488355328 := by have := hk.out; omega
      cases s
      · replace hf := Aside0.mk (hf.out rfl)
        go_wp2_with ((with_reducible refine gate_builtin (b := .append) rfl ?_); refine app_num d H 0 rfl (by simp) hz hsz (.tmp 36) (.tmp 38) 50 info_int hu36 rfl rfl (by decide) rfl rfl ?_; intro A1 c2 w1 H z; have r := H.rd 1 rfl; have z := H.fz 1 rfl)
        replace H := H.set 1 rfl 1 (.slice A1 (i + 1) c2)
        go_roundg (l.length + 1 - (i + 1))
        case measure => exact hg
        case rel => exact ⟨i + 1, more, xs ++ [d], A1, c2, rfl, by first | rfl | (simp; done), ⟨hi1.out.1, rfl, by rw [List.length_append, hi1.out.2.1]; rfl, hi1.out.2.2.snoc hd2.out⟩, m0, m1, ⟨fun h => by cases h⟩, ⟨fun _ => by rw [take_getD hi1.out.1, hdi.out, hf.out]⟩, H⟩
      · have hn := Aside0.mk (neg_digit hd2.out m0 m1 i l xs hi1.out.2.1 hdi.out (ht.out rfl))
        have q0 : 0 ≤ 65535 - d + more := by omega
        have q1 : 65535 - d + more ≤ 65536 := by omega
        go_wp2_with ((with_reducible refine gate_builtin (b := .append) rfl ?_); refine app_num ((65535 - d + more) % 65536) H 0 rfl (by simp) hz hsz (.tmp 36) (.tmp 38) 50 info_int hu36 rfl rfl (by decide) rfl rfl ?_; intro A1 c2 w1 H z; have r := H.rd 1 rfl; have z := H.fz 1 rfl)
        replace H := H.set 1 rfl 1 (.slice A1 (i + 1) c2)
        go_roundg (l.length + 1 - (i + 1))
        case measure => exact hg
        case rel => exact ⟨i + 1, (65535 - d + more) / 65536, xs ++ [(65535 - d + more) % 65536], A1, c2, rfl, by first | rfl | (simp; done), ⟨hi1.out.1, rfl, by rw [List.length_append, hi1.out.2.1]; rfl, hi1.out.2.2.snoc ⟨by omega, by omega⟩⟩, by omega, by omega, ⟨fun _ => hn.out⟩, ⟨fun h => by cases h⟩, H⟩
    · have hie : l.take i = l := List.take_of_length_le (by omega)
      have hil : i = l.length := by have := hk.out.1; omega
      have hn1 : i ≤ 1000 := by omega
      have hds := Aside0.mk hk.out.2.2.2
      obtain ⟨hlx, hcx, hR⟩ := held_reads (H.get 0 rfl)
      cases s
      · have hv : Aside0 (val false xs = tw l) := ⟨by rw [htw.out, if_neg (by simp), hf.out rfl, hie]; rfl⟩
        subst hlx
        replace hil := Aside0.mk hil
        clear hie
        go_wp2_with fail
        refine (clean_c hR hcx hds.out (by omega)).mono ?_
        rintro e w2 ⟨rfl, hb, hT, hL⟩
        rw [hv.out] at hT hL ⊢
        replace hL := Nat.le_trans hL hcx
        have hbs := (H.at 0 rfl).from (lo' := w.heap.size) (by simp)
        replace H := (H.grow hb).turn 0 rfl hT
        have r := H.rd 2 rfl
        have z := H.fz 2 rfl
        go_wp2
        replace H := (H.set 2 rfl 0 (.bool (neg (tw l)))).set 2 rfl 1 (.slice A (dig (tw l)).length c1)
        exact H.ret 2 rfl rfl rfl hu38 rfl (by kernel_rfl) rfl ⟨_, rfl, H.old, num_mk hL ((H.get 0 rfl).out hbs)⟩
      · by_cases hm : more = 0
        · have hv : Aside0 (val true xs = tw l) := ⟨by
            have h5 := ht.out rfl
            rw [hm, hie, hil, Int.mul_zero] at h5
            rw [htw.out, if_pos rfl]
            unfold val
            rw [if_pos rfl]
            omega⟩
          subst hm hlx
          replace hil := Aside0.mk hil
          clear hie
          go_wp2_with fail
          refine (clean_c hR hcx hds.out (by omega)).mono ?_
          rintro e w2 ⟨rfl, hb, hT, hL⟩
          rw [hv.out] at hT hL ⊢
          replace hL := Nat.le_trans hL hcx
          have hbs := (H.at 0 rfl).from (lo' := w.heap.size) (by simp)
          replace H := (H.grow hb).turn 0 rfl hT
          have r := H.rd 2 rfl
          have z := H.fz 2 rfl
          go_wp2
          replace H := (H.set 2 rfl 0 (.bool (neg (tw l)))).set 2 rfl 1 (.slice A (dig (tw l)).length c1)
          exact H.ret 2 rfl rfl rfl hu38 rfl (by kernel_rfl) rfl ⟨_, rfl, H.old, num_mk hL ((H.get 0 rfl).out hbs)⟩
        · have hm1 : more = 1 := by omega
          subst hm1
          have hv : Aside0 (val true (xs ++ [1]) = tw l) := ⟨by
            have h5 := ht.out rfl
            rw [hie, hil] at h5
            rw [htw.out, if_pos rfl]
            unfold val
            rw [if_pos rfl, V_snoc, hlx, hil]
            omega⟩
          have hsz : (i + 1) * 8 ≤ 140737488355328 := by omega
          replace hlx := Aside0.mk hlx
          replace hil := Aside0.mk hil
          clear hie
          go_wp2_with ((with_reducible refine gate_builtin (b := .append) rfl ?_); refine app_num 1 H 0 rfl (by simp) hz hsz (.tmp 48) (.tmp 50) 50 info_int hu36 rfl rfl (by decide) rfl rfl ?_; intro A1 c2 w1 H z; have r := H.rd 1 rfl; have z := H.fz 1 rfl)
          replace H := H.set 1 rfl 1 (.slice A1 (i + 1) c2)
          obtain ⟨hlx, hcx, hR⟩ := held_reads (H.get 0 rfl)
          replace hlx := Aside0.mk hlx
          refine (clean_n hlx.out hR hcx (hds.out.snoc ⟨by omega, by omega⟩) (by omega)).mono ?_
          rintro e w2 ⟨rfl, hb, hT, hL⟩
          rw [hv.out] at hT hL ⊢
          have hbs := (H.at 0 rfl).from (lo' := w.heap.size) (by simp)
          replace H := (H.grow hb).turn 0 rfl hT
          have r := H.rd 2 rfl
          have z := H.fz 2 rfl
          replace hL := Nat.le_trans hL hcx
          go_wp2
          replace H := (H.set 2 rfl 0 (.bool (neg (tw l)))).set 2 rfl 1 (.slice A1 (dig (tw l)).length c2)
          exact H.ret 2 rfl rfl rfl hu38 rfl (by kernel_rfl) rfl ⟨_, rfl, H.old, num_mk hL ((H.get 0 rfl).out hbs)⟩
theorem wl_ds : ∀ (k : Nat) (a : Int), Ds (wl k a)
  | 0, _ => Ds.nil
  | k + 1, a => fun x hx => by
    rw [wl] at hx
    rcases List.mem_cons.1 hx with rfl | hx
    · exact ⟨by omega, by omega⟩
    · exact wl_ds k _ x hx
theorem B4 : B 4 = 18446744073709551616 := by rw [B_succ, B_succ, B_succ, B_succ, B_zero]; rfl
def I64 (x : Int) : Prop := -9223372036854775808 ≤ x ∧ x ≤ 9223372036854775807
def U64 (x : Int) : Prop := 0 ≤ x ∧ x < 18446744073709551616
theorem wl4 (a : Int) : wl 4 a = [a % 65536, a / 65536 % 65536, a / 65536 / 65536 % 65536, a / 65536 / 65536 / 65536 % 65536] := rfl
theorem tw_narrow {a : Int} (ha : I64 a) : tw (wl 4 (IntKind.u64.wrap a)) = a := by
  unfold I64 at ha
  have e : IntKind.u64.wrap a = a % 18446744073709551616 := by unfold IntKind.wrap; simp [IntKind.signed, IntKind.bits]
  rw [e, wl4]
  generalize hx : a % 18446744073709551616 = x
  unfold tw
  rw [show [x % 65536, x / 65536 % 65536, x / 65536 / 65536 % 65536, x / 65536 / 65536 / 65536 % 65536].length = 4 from rfl, B4,
    show [x % 65536, x / 65536 % 65536, x / 65536 / 65536 % 65536, x / 65536 / 65536 / 65536 % 65536].getD (4 - 1) 0 = x / 65536 / 65536 / 65536 % 65536 from rfl]
  simp only [V]
  split <;> omega
set_option maxRecDepth 100000 in
theorem narrow_c {a : Int} (ha : I64 a) : Gives Try.prog 67 #[.int .i64 a] w (Num a) := by
  have hu38 := Try.underlying52
  have hu : U64 (IntKind.u64.wrap a) := by unfold U64 IntKind.wrap; simp [IntKind.signed, IntKind.bits]; omega
  have ht := Aside0.mk (tw_narrow ha)
  unfold Gives
  go_enter Try.func67, Try.ntmps67
  go_wp2_with fail
  have H := (All.start w).box w.heap.size 52 #[.bool false, .slice none 0 0]
  refine (words_c 4 (by omega) hu.1 hu.2).on H fun v w1 H z1 => ?_
  obtain ⟨A, c, rfl, hc, hR⟩ := row_open (H.get 0 rfl)
  have hl := wl_len 4 (IntKind.u64.wrap a)
  have hd := wl_ds 4 (IntKind.u64.wrap a)
  generalize wl 4 (IntKind.u64.wrap a) = l at *
  replace hl := Aside0.mk hl
  go_wp2_with fail
  refine (bits_c hR hc hd (by have := hl.out; omega) (by have := hl.out; omega)).on H fun v w2 H z2 => ?_
  rw [ht.out] at H
  obtain ⟨A2, c2, rfl, hc2, hR2⟩ := num_open (H.get 0 rfl)
  have r := H.rd 2 rfl
  have z := H.fz 2 rfl
  go_wp2
  replace H := (H.set 2 rfl 0 (.bool (neg a))).set 2 rfl 1 (.slice A2 (dig a).length c2)
  exact H.ret 2 rfl rfl rfl hu38 rfl (by kernel_rfl) rfl ⟨_, rfl, H.old, (H.get 0 rfl).out (in_le z2)⟩
set_option maxRecDepth 100000 in
set_option maxHeartbeats 1000000 in
theorem small_c {a : Int} (h0 : -1000000000 ≤ a) (h1 : a ≤ 1000000000) : Gives Try.prog 126 #[.int .i64 a] w (Num a) := by
  have hu38 := Try.underlying52
  unfold Gives
  by_cases q : a < 0
  · obtain ⟨b, rfl⟩ : ∃ b : Int, a = -b := ⟨-a, by omega⟩
    have q1 : decide (-b < 0) = true := decide_eq_true q
    have b0 : 0 ≤ b := by omega
    have b1 : b ≤ 1000000000 := by omega
    go_enter Try.func126, Try.ntmps126
    go_wp2_with fail
    have H := (((All.start w).box w.heap.size 52 #[.bool false, .slice none 0 0]).box (w.heap.size + 1) 52 #[.bool true, .slice (some ⟨w.heap.size + 1 + 1, 0, none⟩) 3 3]).lit .i64 (w.heap.size + 1 + 1) [b % 65536, b / 65536 % 65536, b / 65536 / 65536] 3
    have hv : Aside0 (val true [b % 65536, b / 65536 % 65536, b / 65536 / 65536] = -b) := ⟨by unfold val; simp [V]; omega⟩
    refine (clean_c (H.get 0 rfl) (by simp) (fun y hy => by simp at hy; unfold Dg; omega) (by simp)).mono ?_
    rintro e w2 ⟨rfl, hb, hT, hL⟩
    rw [hv.out] at hT hL ⊢
    replace H := (H.grow hb).turn 0 rfl hT
    have r := H.rd 2 rfl
    have z := H.fz 2 rfl
    go_wp2
    replace H := (H.set 2 rfl 0 (.bool (neg (-b)))).set 2 rfl 1 (.slice (some ⟨w.heap.size + 1 + 1, 0, none⟩) (dig (-b)).length 3)
    exact H.ret 2 rfl rfl rfl hu38 rfl (by kernel_rfl) rfl ⟨_, rfl, H.old, num_mk hL ((H.get 0 rfl).out (is_le (by omega)))⟩
  · have q1 : decide (a < 0) = false := decide_eq_false q
    have b0 : 0 ≤ a := by omega
    go_enter Try.func126, Try.ntmps126
    go_wp2_with fail
    have H := (((All.start w).box w.heap.size 52 #[.bool false, .slice none 0 0]).box (w.heap.size + 1) 52 #[.bool false, .slice (some ⟨w.heap.size + 1 + 1, 0, none⟩) 3 3]).lit .i64 (w.heap.size + 1 + 1) [a % 65536, a / 65536 % 65536, a / 65536 / 65536] 3
    have hv : Aside0 (val false [a % 65536, a / 65536 % 65536, a / 65536 / 65536] = a) := ⟨by unfold val; simp [V]; omega⟩
    refine (clean_c (H.get 0 rfl) (by simp) (fun y hy => by simp at hy; unfold Dg; omega) (by simp)).mono ?_
    rintro e w2 ⟨rfl, hb, hT, hL⟩
    rw [hv.out] at hT hL ⊢
    replace H := (H.grow hb).turn 0 rfl hT
    have r := H.rd 2 rfl
    have z := H.fz 2 rfl
    go_wp2
    replace H := (H.set 2 rfl 0 (.bool (neg (a)))).set 2 rfl 1 (.slice (some ⟨w.heap.size + 1 + 1, 0, none⟩) (dig (a)).length 3)
    exact H.ret 2 rfl rfl rfl hu38 rfl (by kernel_rfl) rfl ⟨_, rfl, H.old, num_mk hL ((H.get 0 rfl).out (is_le (by omega)))⟩
end
end Go.Proofs.Ythhgcjlgnafdcaa.Nu
end
section
namespace Go.Proofs.Ythhgcjlgnafdcaa.Nu
set_option linter.unusedSimpArgs false
set_option linter.unusedVariables false
open Go Go.RowKit Go.Proofs.YthhgcjlgnafdcaaW.PrintWords Go.Proofs.YthhgcjlgnafdcaaW.PrintLast Go.Proofs.Ythhgcjlgnafdcaa.Hd
section
variable {w : World}
def wd (hi lo : Int) : Int := hi * 18446744073709551616 + lo
theorem tw_wide {hi lo : Int} (h : I64 hi) (l : U64 lo) : tw (wl 4 lo ++ wl 4 (IntKind.u64.wrap hi)) = wd hi lo := by
  unfold I64 at h
  unfold U64 at l
  have e : IntKind.u64.wrap hi = hi % 18446744073709551616 := by unfold IntKind.wrap; simp [IntKind.signed, IntKind.bits]
  have h1 := tw_narrow (a := hi) h
  rw [e] at h1 ⊢
  generalize hx : hi % 18446744073709551616 = x at *
  have h2 : V (wl 4 lo) = lo := by rw [wl4]; simp only [V]; omega
  have h3 : (wl 4 lo ++ wl 4 x).length = 8 := by rw [List.length_append, wl_len, wl_len]
  have h4 : (wl 4 lo ++ wl 4 x).getD (8 - 1) 0 = (wl 4 x).getD (4 - 1) 0 := rfl
  have h5 : B 8 = B 4 * 18446744073709551616 := by rw [show 8 = 4 + 4 from rfl, B_add, B4]
  unfold tw at h1 ⊢
  rw [h3, h4, V_append, wl_len, h2, h5]
  rw [wl_len] at h1
  rw [B4] at h1 ⊢
  unfold wd
  split <;> rename_i c
  · rw [if_pos c] at h1; omega
  · rw [if_neg c] at h1; omega
set_option maxRecDepth 100000 in
set_option maxHeartbeats 1000000 in
theorem wide_c {hi lo : Int} (h : I64 hi) (l : U64 lo) : Gives Try.prog 69 #[.int .i64 hi, .int .u64 lo] w (Num (wd hi lo)) := by
  have hu38 := Try.underlying52
  have hu36 := Try.underlying50
  have hu : U64 (IntKind.u64.wrap hi) := by unfold U64 IntKind.wrap; simp [IntKind.signed, IntKind.bits]; omega
  have ht := Aside0.mk (tw_wide h l)
  unfold Gives
  go_enter Try.func69, Try.ntmps69
  go_wp2_with fail
  have H := (All.start w).box w.heap.size 52 #[.bool false, .slice none 0 0]
  refine (words_o 4 (by omega) l.1 l.2).mono ?_
  rintro e w1 ⟨A1, c1, rfl, hb1, h1⟩
  have hz1 : w.heap.size + 1 ≤ w1.heap.size := by have := hb1.size; simpa using this
  replace H := H.new hb1 h1 (fun k hk => h1.now.base k hk)
  go_wp2_with fail
  refine (words_c 4 (by omega) hu.1 hu.2).on H fun v w2 H z2 => ?_
  obtain ⟨A2, c2, rfl, hc2, hR⟩ := row_open (H.get 0 rfl)
  have hl1 := wl_len 4 lo
  have hl2 := wl_len 4 (IntKind.u64.wrap hi)
  have hd : Ds (wl 4 lo ++ wl 4 (IntKind.u64.wrap hi)) := (wl_ds 4 lo).append (wl_ds 4 _)
  have hR2 := hR.now
  unfold Cs at hR2
  rw [hl2] at hR2 ⊢
  have hz2 := (H.get 1 rfl).now
  generalize wl 4 (IntKind.u64.wrap hi) = l2 at *
  generalize wl 4 lo = l1 at *
  replace ht := Aside0.mk ht.out
  have hl : Aside0 (l1.length = 4 ∧ l2.length = 4) := ⟨hl1, hl2⟩
  clear hl1 hl2 hc2 hR
  have hsz : w.heap.size < w2.heap.size := (H.get 2 rfl).lt _ rfl
  have hdA := Aside0.mk hd
  clear hd
  go_wp2_with ((with_reducible refine gate_builtin (b := .append) rfl ?_); refine app_row l2 H 1 rfl hl.out.1 hR2 (by simp) (by simp; omega) (by decide) (.tmp 6) (.tmp 9) 50 info_int hu36 rfl rfl (by decide) rfl rfl ?_; intro A3 c3 w3 H z3)
  obtain ⟨hl3, hc3, hR3⟩ := held_reads (H.get 1 rfl)
  have hlo := (H.at 1 rfl).from (lo' := w.heap.size) (by simp)
  have h4 : (l1 ++ l2).length = 4 + 4 := by rw [List.length_append, hl.out.1, hl.out.2]
  have hR4 : Held w3 (Ob (.slice A3 (4 + 4) c3)) (Cs A3 (l1 ++ l2)) := hR3.imp fun W hW => by unfold Cs; rw [h4]; exact hW
  have hc4 : (l1 ++ l2).length ≤ c3 := by rw [h4]; exact hc3
  have hb := bits_c hR4 hc4 hdA.out (by rw [h4]; decide) (by rw [h4]; decide)
  rw [h4] at hb
  refine hb.on H fun v w4 H z4 => ?_
  rw [ht.out] at H
  obtain ⟨A5, c5, rfl, hc5, hR5⟩ := num_open (H.get 0 rfl)
  have r := H.rd 3 rfl
  have z := H.fz 3 rfl
  go_wp2
  replace H := (H.set 3 rfl 0 (.bool (neg (wd hi lo)))).set 3 rfl 1 (.slice A5 (dig (wd hi lo)).length c5)
  exact H.ret 3 rfl rfl rfl hu38 rfl (by kernel_rfl) rfl ⟨_, rfl, H.old, (H.get 0 rfl).out (in_le z4)⟩
set_option maxRecDepth 100000 in
set_option maxHeartbeats 1000000 in
theorem num_c {hi lo : Int} (h : I64 hi) (l : U64 lo) : Gives Try.prog 51 #[.agg #[.int .i64 hi, .int .u64 lo]] w (Num (wd hi lo)) := by
  have hu38 := Try.underlying52
  have hu35 := Try.underlying43
  unfold Gives
  go_enter Try.func51, Try.ntmps51
  go_wp2_with fail
  have H := ((All.start w).box w.heap.size 43 #[.int .i64 hi, .int .u64 lo]).box (w.heap.size + 1) 52 #[.bool false, .slice none 0 0]
  refine (wide_c h l).on H fun v w1 H z1 => ?_
  obtain ⟨A5, c5, rfl, hc5, hR5⟩ := num_open (H.get 0 rfl)
  have r := H.rd 1 rfl
  have z := H.fz 1 rfl
  go_wp2
  replace H := (H.set 1 rfl 0 (.bool (neg (wd hi lo)))).set 1 rfl 1 (.slice A5 (dig (wd hi lo)).length c5)
  exact H.ret 1 rfl rfl rfl hu38 rfl (by kernel_rfl) rfl ⟨_, rfl, H.old, (H.get 0 rfl).out (in_le z1)⟩
end
end Go.Proofs.Ythhgcjlgnafdcaa.Nu
end
section
namespace Go.Proofs.Ythhgcjlgnafdcaa.Nu
set_option linter.unusedSimpArgs false
set_option linter.unusedVariables false
open Go Go.RowKit Go.Proofs.YthhgcjlgnafdcaaW.PrintWords Go.Proofs.YthhgcjlgnafdcaaW.PrintLast Go.Proofs.YthhgcjlgnafdcaaW.PrintMore Go.Proofs.Ythhgcjlgnafdcaa.Hd
section
variable {w : World} {ok ok' : Nat → Prop} {A A' : Option Addr} {c c' : Nat} {d d' : List Int}
theorem add_digit {a b xs : List Int} {m : Int} (ha : Ds a) (hb : Ds b) (m0 : 0 ≤ m) (m1 : m ≤ 1) (i : Nat) (hx : xs.length = i) (hv : V xs + B i * m = V (a.take i) + V (b.take i)) :
    V (xs ++ [(a.getD i 0 + b.getD i 0 + m) % 65536]) + B (i + 1) * ((a.getD i 0 + b.getD i 0 + m) / 65536) = V (a.take (i + 1)) + V (b.take (i + 1)) := by
  rw [V_snoc, hx, V_take_succ, V_take_succ, B_succ]
  generalize a.getD i 0 = p at *
  generalize b.getD i 0 = q at *
  have e : B i * ((p + q + m) % 65536) + 65536 * B i * ((p + q + m) / 65536) = B i * (p + q + m) := by
    rw [Int.mul_comm 65536 (B i), Int.mul_assoc, ← Int.mul_add]
    congr 1
    omega
  rw [Int.mul_add, Int.mul_add] at e
  omega
theorem val_sub {x y : Int} (hs : neg x ≠ neg y) (hl : (y.natAbs : Int) ≤ x.natAbs) {u : Int} (hu : x + y = u) {d : List Int} (hd : V d = (x.natAbs : Int) - y.natAbs) : val (neg x) d = u := by
  unfold val
  by_cases h1 : x < 0 <;> by_cases h2 : y < 0
  · exact absurd ((neg_yes h1).trans (neg_yes h2).symm) hs
  · rw [neg_yes h1, if_pos rfl]; omega
  · rw [neg_no h1, if_neg (by simp)]; omega
  · exact absurd ((neg_no h1).trans (neg_no h2).symm) hs
theorem sub_digit {a b xs : List Int} {m s m' : Int} (i : Nat) (hx : xs.length = i) (hv : V xs - B i * m = V (a.take i) - V (b.take i)) (hs : s - 65536 * m' = a.getD i 0 - b.getD i 0 - m) :
    V (xs ++ [s]) - B (i + 1) * m' = V (a.take (i + 1)) - V (b.take (i + 1)) := by
  rw [V_snoc, hx, V_take_succ, V_take_succ, B_succ]
  generalize a.getD i 0 = p at *
  generalize b.getD i 0 = q at *
  have e : B i * (s - 65536 * m') = B i * (p - q - m) := by rw [hs]
  rw [Int.mul_sub, Int.mul_sub, Int.mul_sub, ← Int.mul_assoc, Int.mul_comm (B i) 65536] at e
  omega
set_option maxRecDepth 100000 in
set_option maxHeartbeats 2000000 in
theorem add_c {x y : Int} (h : Held w ok (Cs A (dig x))) (hc : (dig x).length ≤ c) (h' : Held w ok' (Cs A' (dig y))) (hc' : (dig y).length ≤ c') (hl : (dig x).length ≤ 900000) (hl' : (dig y).length ≤ 900000) :
    Gives Try.prog 65 #[num x A c, num y A' c'] w (Num (x + y)) := by
  have hu38 := Try.underlying52
  have hu36 := Try.underlying50
  obtain ⟨d1, t1, v1⟩ := dig_nm x
  obtain ⟨d2, t2, v2⟩ := dig_nm y
  replace v1 := Aside0.mk v1
  replace v2 := Aside0.mk v2
  unfold Gives num
  by_cases hs : neg x = neg y
  · obtain ⟨s, h1⟩ : ∃ s, neg x = s := ⟨_, rfl⟩
    have h2 : neg y = s := hs ▸ h1
    have hval : Aside0 (∀ d, V d = (x.natAbs : Int) + y.natAbs → val s d = x + y) := ⟨fun d hd => by
      unfold val
      cases s
      · rw [if_neg (by simp)]
        have q1 : ¬ x < 0 := of_decide_eq_false h1
        have q2 : ¬ y < 0 := of_decide_eq_false h2
        omega
      · rw [if_pos rfl]
        have q1 : x < 0 := of_decide_eq_true h1
        have q2 : y < 0 := of_decide_eq_true h2
        omega⟩
    rw [h1, h2]
    clear hs h1 h2
    generalize dig x = a at *
    generalize dig y = b at *
    go_enter Try.func65, Try.ntmps65
    have H := (((((All.start w).arg h).arg h').box w.heap.size 52 #[.bool s, .slice A a.length c]).box (w.heap.size + 1) 52 #[.bool s, .slice A' b.length c']).box (w.heap.size + 1 + 1) 52 #[.bool false, .slice none 0 0]
    replace H := H.box (w.heap.size + 1 + 1 + 1) 52 #[.bool s, .slice none 0 0]
    go_wp2
    go_loopg [6, 7, 8] (max a.length b.length + 1) (fun kq v6 v7 v8 w' => ∃ (i : Nat) (m : Int) (xs : List Int) (Ao : Option Addr) (co : Nat), v6 = .int .i64 m ∧ v7 = .int .i64 (i : Int) ∧ Aside0 (i ≤ max a.length b.length ∧ kq = max a.length b.length + 1 - i ∧ xs.length = i ∧ Ds xs) ∧ 0 ≤ m ∧ m ≤ 1 ∧ Aside0 (V xs + B i * m = V (a.take i) + V (b.take i)) ∧
      All w w' [ow (w.heap.size + 1 + 1 + 1 + 1) 3 1 (.slice Ao i co) i (nums .i64 xs), bx (w.heap.size + 1 + 1 + 1) 52 #[.bool s, .slice Ao i co], bx (w.heap.size + 1 + 1) 52 #[.bool false, .slice none 0 0], bx (w.heap.size + 1) 52 #[.bool s, .slice A' b.length c'], bx w.heap.size 52 #[.bool s, .slice A a.length c], (ok', Cs A' b), (ok, Cs A a)])
    case atStart => exact ⟨0, 0, [], none, 0, rfl, rfl, ⟨Nat.zero_le _, by omega, rfl, Ds.nil⟩, by omega, by omega, ⟨by simp [V]⟩, H.row _ _ _⟩
    case round =>
      obtain ⟨i, m, xs, Ao, co, rfl, rfl, hk, m0, m1, hv, H⟩ := hrel
      have hz := (H.get 1 rfl).lt _ rfl
      have r2 := H.rd 3 rfl
      have r3 := H.rd 4 rfl
      have hsz : (i + 1) * 8 ≤ 140737488355328 := by have := hk.out; omega
      have hi6 : Aside0 (i ≤ 900000) := ⟨by have := hk.out; omega⟩
      obtain ⟨p, hp⟩ : ∃ p, a.getD i 0 = p := ⟨_, rfl⟩
      obtain ⟨q, hq⟩ : ∃ q, b.getD i 0 = q := ⟨_, rfl⟩
      have p0 := d1.at i
      have q0 := d2.at i
      rw [hp] at p0
      rw [hq] at q0
      unfold Dg at p0 q0
      have hw1 : wrap64 (p + q) = p + q := w64 (by omega) (by omega)
      have hw2 : wrap64 (p + q + m) = p + q + m := w64 (by omega) (by omega)
      replace hp := Aside0.mk hp
      replace hq := Aside0.mk hq
      have p2 : 0 ≤ p + q + m := by omega
      by_cases hlt : i < max a.length b.length
      · have hd := Aside0.mk (add_digit d1 d2 m0 m1 i hk.out.2.2.1 hv.out)
        rw [hp.out, hq.out] at hd
        have hg : max a.length b.length + 1 - (i + 1) < gk := by have := hk.out; omega
        have hi1 : Aside0 (i + 1 ≤ max a.length b.length ∧ xs.length = i ∧ Ds xs) := ⟨hlt, hk.out.2.2⟩
        rcases (show (i : Int) < (a.length : Int) ∨ (¬ (i : Int) < (a.length : Int) ∧ (i : Int) < (b.length : Int)) by omega) with hla | ⟨hla, hlb⟩
        all_goals
          go_wp2
          refine plan_ (true, [([], []), ([0], [0]), ([], []), ([1, 2], [1, 2]), ([], []), ([4], [4]), ([], []), ([5, 6, 3], [5, 6]), ([3, 7], [3, 7]), ([], []), ([8, 9], [8, 9]), ([10, 7, 0, 1, 2, 3, 4, 5, 6, 7, 8, 9, 10], [10])]) [.p 0, .t 1, .p 2, .p 4, .t 5, .p 6, .p 9, .c 3, .c 7, .p 8, .p 10, .p 11] H (by kernel_rfl) (by kernel_rfl) rfl rfl (by kernel_rfl) (by intro c a w d v h; cases d <;> exact h) (fun w1 H => ?_)
          refine pl_P (h := ?_)
          refine pl_L 4 1 H rfl (h := ?_)
          repeat refine pl_P (h := ?_)
          refine pl_L 3 1 H rfl (h := ?_)
          repeat refine pl_P (h := ?_)
          refine pl_S (at_c (H.get 6 rfl) hc i (Nat.le_trans hi6.out (by decide)) hp.out) H Try.func104 (h := fun w2 H => ?_)
          refine pl_S (at_c (H.get 5 rfl) hc' i (Nat.le_trans hi6.out (by decide)) hq.out) H Try.func104 (h := fun w3 H => ?_)
          repeat refine pl_P (h := ?_)
          refine pl_done ?_
          have r5 := H.rd 1 rfl
          have hz := (H.get 1 rfl).lt _ rfl
          go_wp2_with ((with_reducible refine gate_builtin (b := .append) rfl ?_); refine app_num ((p + q + m) % 65536) H 0 rfl (by omega) hz hsz (.tmp 47) (.tmp 50) 50 info_int hu36 rfl rfl (by decide) rfl rfl ?_; intro A1 c1 w4 H z; have r := H.rd 1 rfl; have z := H.fz 1 rfl)
          replace H := H.set 1 rfl 1 (.slice A1 (i + 1) c1)
          go_roundg (max a.length b.length + 1 - (i + 1))
          case measure => exact hg
          case rel => exact ⟨i + 1, (p + q + m) / 65536, xs ++ [(p + q + m) % 65536], A1, c1, rfl, by first | rfl | (simp; done), ⟨hi1.out.1, rfl, by rw [List.length_append, hi1.out.2.1]; rfl, hi1.out.2.2.snoc ⟨by omega, by omega⟩⟩, by omega, by omega, hd, H⟩
      · have hla : ¬ (i : Int) < (a.length : Int) := by omega
        have hlb : ¬ (i : Int) < (b.length : Int) := by omega
        have e : i = max a.length b.length := by have := hk.out; omega
        have hv2 : Aside0 (val s (xs ++ [m]) = x + y) := ⟨hval.out _ (by
          have := hv.out
          rw [List.take_of_length_le (by omega), List.take_of_length_le (by omega), v1.out, v2.out] at this
          rw [V_snoc, hk.out.2.2.1]
          exact this)⟩
        have hds := Aside0.mk (hk.out.2.2.2.snoc (x := m) ⟨m0, by omega⟩)
        replace e := Aside0.mk e
        have r5 := H.rd 1 rfl
        go_wp2_with ((with_reducible refine gate_builtin (b := .append) rfl ?_); refine app_num m H 0 rfl (by omega) hz hsz (.tmp 56) (.tmp 58) 50 info_int hu36 rfl rfl (by decide) rfl rfl ?_; intro A1 c1 w4 H z; have r := H.rd 1 rfl; have z := H.fz 1 rfl)
        replace H := H.set 1 rfl 1 (.slice A1 (i + 1) c1)
        obtain ⟨hlx, hcx, hR⟩ := held_reads (H.get 0 rfl)
        replace hlx := Aside0.mk hlx
        refine (clean_n hlx.out hR hcx hds.out (by have := hi6.out; omega)).mono ?_
        rintro e w5 ⟨rfl, hb, hT, hL⟩
        rw [hv2.out] at hT hL ⊢
        have hbs := (H.at 0 rfl).from (lo' := w.heap.size) (by first | omega | exact Nat.le_trans hw0.out (Nat.le_succ _))
        replace H := (H.grow hb).turn 0 rfl hT
        have r := H.rd 2 rfl
        have z := H.fz 2 rfl
        replace hL := Nat.le_trans hL hcx
        go_wp2
        replace H := (H.set 2 rfl 0 (.bool (neg (x + y)))).set 2 rfl 1 (.slice A1 (dig (x + y)).length c1)
        exact H.ret 2 rfl rfl rfl hu38 rfl (by kernel_rfl) rfl ⟨_, rfl, H.old, num_mk hL ((H.get 0 rfl).out hbs)⟩
  · obtain ⟨u, hu⟩ : ∃ u, x + y = u := ⟨_, rfl⟩
    rw [hu]
    have hu := Aside0.mk hu
    have e1 : (neg x == neg y) = false := by simpa using hs
    have hs2 := Aside0.mk hs
    by_cases hlt : (x.natAbs : Int) < y.natAbs
    all_goals first
      | (have hh : (x.natAbs : Int) < y.natAbs := hlt
         have H := (((((All.start w).arg h).arg h').box w.heap.size 52 #[.bool (neg x), .slice A (dig x).length c]).box (w.heap.size + 1) 52 #[.bool (neg y), .slice A' (dig y).length c']).box (w.heap.size + 1 + 1) 52 #[.bool false, .slice none 0 0]
         go_enter Try.func65, Try.ntmps65
         go_wp2_with fail
         refine (size_c (H.get 4 rfl) hc (H.get 3 rfl) hc' (by omega) (by omega)).on H fun w1 H => ?_
         have r1 := H.rd 1 rfl
         have z1 := H.fz 1 rfl
         have r2 := H.rd 2 rfl
         have z2 := H.fz 2 rfl
         have hw0 := Aside0.mk H.old.size
         have e2 : sgn x.natAbs y.natAbs = -1 := by unfold sgn; rw [if_pos hlt]
         rw [e2]
         go_wp2
         replace H := (((H.set 2 rfl 0 (.bool (neg y))).set 2 rfl 1 (.slice A' (dig y).length c')).set 1 rfl 0 (.bool (neg x))).set 1 rfl 1 (.slice A (dig x).length c)
         replace H := H.box w1.heap.size 52 #[.bool (neg y), .slice none 0 0]
         replace hlt := Aside0.mk (Int.le_of_lt hlt)
         have hval : Aside0 (∀ d, V d = (y.natAbs : Int) - x.natAbs → val (neg y) d = u) := ⟨fun d hd => by rw [← hu.out]; exact val_sub (fun h => hs2.out h.symm) hlt.out (by omega) hd⟩
         clear r1 z1 r2 z2 e2 hs e1
         obtain ⟨p, rfl⟩ : ∃ p, p = y := ⟨_, rfl⟩
         obtain ⟨q, rfl⟩ : ∃ q, q = x := ⟨_, rfl⟩
         obtain ⟨Ap, rfl⟩ : ∃ p, p = A' := ⟨_, rfl⟩
         obtain ⟨Aq, rfl⟩ : ∃ p, p = A := ⟨_, rfl⟩
         obtain ⟨cp, rfl⟩ : ∃ p, p = c' := ⟨_, rfl⟩
         obtain ⟨cq, rfl⟩ : ∃ p, p = c := ⟨_, rfl⟩
         obtain ⟨o1, rfl⟩ : ∃ p, p = ok' := ⟨_, rfl⟩
         obtain ⟨o2, rfl⟩ : ∃ p, p = ok := ⟨_, rfl⟩
         have dp := d2
         have tp := t2
         have vp := v2
         have dq := d1
         have tq := t1
         have vq := v1
         have gp := hl'
         have gq := hl
         have kp := hc'
         have kq := hc)
      | (have hh : ¬ (x.natAbs : Int) < y.natAbs := hlt
         have H := (((((All.start w).arg h').arg h).box w.heap.size 52 #[.bool (neg x), .slice A (dig x).length c]).box (w.heap.size + 1) 52 #[.bool (neg y), .slice A' (dig y).length c']).box (w.heap.size + 1 + 1) 52 #[.bool false, .slice none 0 0]
         go_enter Try.func65, Try.ntmps65
         go_wp2_with fail
         refine (size_c (H.get 3 rfl) hc (H.get 4 rfl) hc' (by omega) (by omega)).on H fun w1 H => ?_
         have r1 := H.rd 1 rfl
         have z1 := H.fz 1 rfl
         have r2 := H.rd 2 rfl
         have z2 := H.fz 2 rfl
         have hw0 := Aside0.mk H.old.size
         have e2 : decide (sgn x.natAbs y.natAbs < 0) = false := by unfold sgn; rw [if_neg (by omega)]; split <;> simp
         go_wp2
         replace H := H.box w1.heap.size 52 #[.bool (neg x), .slice none 0 0]
         replace hlt : Aside0 ((y.natAbs : Int) ≤ x.natAbs) := ⟨by omega⟩
         have hval : Aside0 (∀ d, V d = (x.natAbs : Int) - y.natAbs → val (neg x) d = u) := ⟨fun d hd => by rw [← hu.out]; exact val_sub hs2.out hlt.out rfl hd⟩
         clear r1 z1 r2 z2 e2 hs e1
         obtain ⟨p, rfl⟩ : ∃ p, p = x := ⟨_, rfl⟩
         obtain ⟨q, rfl⟩ : ∃ q, q = y := ⟨_, rfl⟩
         obtain ⟨Ap, rfl⟩ : ∃ p, p = A := ⟨_, rfl⟩
         obtain ⟨Aq, rfl⟩ : ∃ p, p = A' := ⟨_, rfl⟩
         obtain ⟨cp, rfl⟩ : ∃ p, p = c := ⟨_, rfl⟩
         obtain ⟨cq, rfl⟩ : ∃ p, p = c' := ⟨_, rfl⟩
         obtain ⟨o1, rfl⟩ : ∃ p, p = ok := ⟨_, rfl⟩
         obtain ⟨o2, rfl⟩ : ∃ p, p = ok' := ⟨_, rfl⟩
         have dp := d1
         have tp := t1
         have vp := v1
         have dq := d2
         have tq := t2
         have vq := v2
         have gp := hl
         have gq := hl'
         have kp := hc
         have kq := hc')
    all_goals
      clear d1 d2 t1 t2 v1 v2 hl hl' hc hc' h h'
      have hlq : Aside0 ((dig q).length ≤ (dig p).length) := ⟨len_le dq tq dp (by rw [vq.out, vp.out]; exact hlt.out)⟩
      go_loopg [10, 11, 12] ((dig p).length + 1) (fun kq v6 v7 v8 w' => ∃ (i : Nat) (m : Int) (xs : List Int) (Ao : Option Addr) (co : Nat), v6 = .int .i64 m ∧ v7 = .int .i64 (i : Int) ∧ Aside0 (i ≤ (dig p).length ∧ kq = (dig p).length + 1 - i ∧ xs.length = i ∧ Ds xs) ∧ 0 ≤ m ∧ m ≤ 1 ∧ Aside0 (V xs - B i * m = V ((dig p).take i) - V ((dig q).take i)) ∧
        All w w' [ow (w1.heap.size + 1) 3 1 (.slice Ao i co) i (nums .i64 xs), bx w1.heap.size 52 #[.bool (neg p), .slice Ao i co], bx (w.heap.size + 1 + 1) 52 #[.bool false, .slice none 0 0], bx (w.heap.size + 1) 52 #[.bool (neg q), .slice Aq (dig q).length cq], bx w.heap.size 52 #[.bool (neg p), .slice Ap (dig p).length cp], (o1, Cs Ap (dig p)), (o2, Cs Aq (dig q))])
      case atStart => exact ⟨0, 0, [], none, 0, rfl, rfl, ⟨Nat.zero_le _, by omega, rfl, Ds.nil⟩, by omega, by omega, ⟨by simp [V]⟩, H.row _ _ _⟩
      case round =>
        obtain ⟨i, m, xs, Ao, co, rfl, rfl, hk, m0, m1, hv, H⟩ := hrel
        have hz := (H.get 1 rfl).lt _ rfl
        have r2 := H.rd 3 rfl
        have r3 := H.rd 4 rfl
        have hsz : (i + 1) * 8 ≤ 140737488355328 := by have := hk.out; omega
        have hi6 : Aside0 (i ≤ 900000) := ⟨by have := hk.out; omega⟩
        obtain ⟨a, hp⟩ : ∃ a, (dig p).getD i 0 = a := ⟨_, rfl⟩
        obtain ⟨b, hq⟩ : ∃ b, (dig q).getD i 0 = b := ⟨_, rfl⟩
        have p0 := dp.at i
        have q0 := dq.at i
        rw [hp] at p0
        rw [hq] at q0
        unfold Dg at p0 q0
        have hw1 : wrap64 (a - b) = a - b := w64 (by omega) (by omega)
        have hw2 : wrap64 (a - b - m) = a - b - m := w64 (by omega) (by omega)
        replace hp := Aside0.mk hp
        replace hq := Aside0.mk hq
        by_cases hlt : (i : Int) < ((dig p).length : Int)
        · have hg : (dig p).length + 1 - (i + 1) < gk := by have := hk.out; omega
          have hi1 : Aside0 (i + 1 ≤ (dig p).length ∧ xs.length = i ∧ Ds xs) := ⟨by omega, hk.out.2.2⟩
          have hd := Aside0.mk (fun s m' (hs : s - 65536 * m' = a - b - m) => sub_digit i hk.out.2.2.1 hv.out (by rw [hp.out, hq.out]; exact hs))
          go_wp2
          refine plan_ (true, [([], []), ([0], [0]), ([], []), ([1, 2], [1, 2]), ([], []), ([4], [4]), ([], []), ([5, 6, 3], [5, 6]), ([3, 7], [3, 7]), ([], []), ([8, 9], [8, 9]), ([10, 7, 0, 1, 2, 3, 4, 5, 6, 7, 8, 9, 10], [10])]) [.p 0, .t 1, .p 2, .p 4, .t 5, .p 6, .p 9, .c 3, .c 7, .p 8, .p 10, .p 11] H (by kernel_rfl) (by kernel_rfl) rfl rfl (by kernel_rfl) (by intro c a w d v h; cases d <;> exact h) (fun w1 H => ?_)
          refine pl_P (h := ?_)
          refine pl_L 4 1 H rfl (h := ?_)
          repeat refine pl_P (h := ?_)
          refine pl_L 3 1 H rfl (h := ?_)
          repeat refine pl_P (h := ?_)
          refine pl_S (at_c (H.get 5 rfl) kp i (Nat.le_trans hi6.out (by decide)) hp.out) H Try.func104 (h := fun w2 H => ?_)
          refine pl_S (at_c (H.get 6 rfl) kq i (Nat.le_trans hi6.out (by decide)) hq.out) H Try.func104 (h := fun w3 H => ?_)
          repeat refine pl_P (h := ?_)
          refine pl_done ?_
          have r5 := H.rd 1 rfl
          have hz := (H.get 1 rfl).lt _ rfl
          by_cases hn : a - b - m < 0
          · have hsd : Aside0 (Dg (a - b - m + 65536)) := ⟨by unfold Dg; omega⟩
            replace hd := Aside0.mk (hd.out (a - b - m + 65536) 1 (by omega))
            go_wp2_with ((with_reducible refine gate_builtin (b := .append) rfl ?_); refine app_num (a - b - m + 65536) H 0 rfl (Nat.le_trans hw0.out (Nat.le_succ _)) hz hsz (.tmp 97) (.tmp 99) 50 info_int hu36 rfl rfl (by decide) rfl rfl ?_; intro A1 c1 w4 H z; have r := H.rd 1 rfl; have z := H.fz 1 rfl)
            replace H := H.set 1 rfl 1 (.slice A1 (i + 1) c1) hw0.out
            go_roundg ((dig p).length + 1 - (i + 1))
            case measure => exact hg
            case rel => exact ⟨i + 1, 1, xs ++ [a - b - m + 65536], A1, c1, rfl, by first | rfl | (simp; done), ⟨hi1.out.1, rfl, by rw [List.length_append, hi1.out.2.1]; rfl, hi1.out.2.2.snoc hsd.out⟩, by omega, by omega, ⟨hd.out⟩, H⟩
          · have hsd : Aside0 (Dg (a - b - m)) := ⟨by unfold Dg; omega⟩
            replace hd := Aside0.mk (hd.out (a - b - m) 0 (by omega))
            go_wp2_with ((with_reducible refine gate_builtin (b := .append) rfl ?_); refine app_num (a - b - m) H 0 rfl (Nat.le_trans hw0.out (Nat.le_succ _)) hz hsz (.tmp 97) (.tmp 99) 50 info_int hu36 rfl rfl (by decide) rfl rfl ?_; intro A1 c1 w4 H z; have r := H.rd 1 rfl; have z := H.fz 1 rfl)
            replace H := H.set 1 rfl 1 (.slice A1 (i + 1) c1) hw0.out
            go_roundg ((dig p).length + 1 - (i + 1))
            case measure => exact hg
            case rel => exact ⟨i + 1, 0, xs ++ [a - b - m], A1, c1, rfl, by first | rfl | (simp; done), ⟨hi1.out.1, rfl, by rw [List.length_append, hi1.out.2.1]; rfl, hi1.out.2.2.snoc hsd.out⟩, by omega, by omega, ⟨hd.out⟩, H⟩
        · have e : i = (dig p).length := by have := hk.out; omega
          have hm : m = 0 := by
            have h1 := hv.out
            have h2 := V_lt hk.out.2.2.2
            rw [hk.out.2.2.1] at h2
            rw [List.take_of_length_le (by omega), List.take_of_length_le (by have := hlq.out; omega), vp.out, vq.out] at h1
            have h3 := ‹Aside0 ((q.natAbs : Int) ≤ p.natAbs)›.out
            rcases (show m = 0 ∨ m = 1 by omega) with h | h
            · exact h
            · rw [h] at h1; omega
          subst hm
          have hv2 : Aside0 (val (neg p) xs = u) := ⟨hval.out _ (by
            have := hv.out
            rw [List.take_of_length_le (by omega), List.take_of_length_le (by have := hlq.out; omega), vp.out, vq.out] at this
            omega)⟩
          have hds := Aside0.mk hk.out.2.2.2
          replace e := Aside0.mk e
          have r5 := H.rd 1 rfl
          obtain ⟨hlx, hcx, hR⟩ := held_reads (H.get 0 rfl)
          replace hlx := Aside0.mk hlx
          go_wp2_with fail
          refine (clean_n hlx.out hR hcx hds.out (Nat.le_trans hi6.out (by decide))).mono ?_
          rintro e w5 ⟨rfl, hb, hT, hL⟩
          rw [hv2.out] at hT hL ⊢
          have hbs := (H.at 0 rfl).from (lo' := w.heap.size) (by first | omega | exact Nat.le_trans hw0.out (Nat.le_succ _))
          replace H := (H.grow hb).turn 0 rfl hT
          have r := H.rd 2 rfl
          have z := H.fz 2 rfl
          replace hL := Nat.le_trans hL hcx
          go_wp2
          replace H := (H.set 2 rfl 0 (.bool (neg u))).set 2 rfl 1 (.slice Ao (dig u).length co)
          exact H.ret 2 rfl rfl rfl hu38 rfl (by kernel_rfl) rfl ⟨_, rfl, H.old, num_mk hL ((H.get 0 rfl).out hbs)⟩
end
end Go.Proofs.Ythhgcjlgnafdcaa.Nu
end
section
namespace Go.Proofs.Ythhgcjlgnafdcaa.Nu
set_option linter.unusedSimpArgs false
set_option linter.unusedVariables false
open Go Go.RowKit Go.Proofs.YthhgcjlgnafdcaaW.PrintWords Go.Proofs.YthhgcjlgnafdcaaW.PrintLast Go.Proofs.YthhgcjlgnafdcaaW.PrintMore Go.Proofs.Ythhgcjlgnafdcaa.Hd
section
variable {w : World} {ok ok' : Nat → Prop} {A A' : Option Addr} {c c' : Nat} {d d' : List Int}
theorem mul_step (Bik Bi Bk ai bk o more s Vo X Vk : Int) (hs : o + ai * bk + more = s) (hBa : Bik = Bi * Bk) (hv : Vo + Bik * more = X + Bi * ai * Vk) : Vo + Bik * (s % 65536 - o) + 65536 * Bik * (s / 65536) = X + Bi * ai * (Vk + Bk * bk) := by
  have h2 : s % 65536 - o + 65536 * (s / 65536) = ai * bk + more := by
    generalize ai * bk = z at hs
    omega
  have h3 : Bik * (s % 65536 - o) + 65536 * Bik * (s / 65536) = Bik * (ai * bk) + Bik * more := by
    rw [← Int.mul_add, ← h2, Int.mul_add, Int.mul_comm 65536 Bik, Int.mul_assoc]
  have h4 : Bi * ai * (Vk + Bk * bk) = Bi * ai * Vk + Bik * (ai * bk) := by
    rw [Int.mul_add, hBa]
    congr 1
    rw [Int.mul_assoc, Int.mul_assoc, ← Int.mul_assoc ai, Int.mul_comm ai Bk, Int.mul_assoc]
  rw [h4, Int.add_assoc, h3]
  generalize Bik * (ai * bk) = z1
  generalize Bik * more = z2 at *
  generalize Bi * ai * Vk = z3 at *
  omega
theorem V_set (d : List Int) (i : Nat) (x : Int) (h : i < d.length) : V (d.set i x) = V d + B i * (x - d.getD i 0) := by
  have h1 : d = d.take i ++ d.getD i 0 :: d.drop (i + 1) := by
    rw [List.getD_eq_getElem?_getD, List.getElem?_eq_getElem h, Option.getD_some, ← List.drop_eq_getElem_cons h, List.take_append_drop]
  have h2 : d.set i x = d.take i ++ x :: d.drop (i + 1) := by rw [List.set_eq_take_append_cons_drop, if_pos h]
  have h3 : V d = V (d.take i ++ d.getD i 0 :: d.drop (i + 1)) := by rw [← h1]
  rw [h2, h3, V_append, V_append, List.length_take, Nat.min_eq_left (by omega)]
  simp only [V]
  rw [Int.mul_add, Int.mul_add, Int.mul_sub]
  omega
theorem Ds.set {d : List Int} (h : Ds d) (i : Nat) {x : Int} (hx : Dg x) : Ds (d.set i x) := fun y hy => by
  rcases List.mem_or_eq_of_mem_set hy with q | q
  · exact h y q
  · rw [q]; exact hx
theorem V_mul_lt {a b : List Int} (ha : Ds a) (hb : Ds b) (i : Nat) : V (a.take i) * V b < B (i + b.length + 1) := by
  have h1 := take_lt ha i
  have h2 := V_lt hb
  have h3 := V_nonneg (ha.take i)
  have h4 := V_nonneg hb
  have h5 : V (a.take i) * V b ≤ B i * B b.length := Int.mul_le_mul (by omega) (by omega) h4 (by have := B_pos i; omega)
  rw [← B_add] at h5
  have h6 := B_succ (i + b.length)
  have h7 := B_pos (i + b.length)
  omega
theorem V_zeros : ∀ n, V (List.replicate n 0) = 0
  | 0 => rfl
  | n + 1 => by rw [List.replicate_succ]; simp only [V]; rw [V_zeros n]; omega
theorem val_mul {x y : Int} {d : List Int} (hd : V d = (x.natAbs : Int) * y.natAbs) : val (neg x != neg y) d = x * y := by
  unfold val
  by_cases h1 : x < 0 <;> by_cases h2 : y < 0
  · rw [neg_yes h1, neg_yes h2, if_neg (by simp), hd, show (x.natAbs : Int) = -x by omega, show (y.natAbs : Int) = -y by omega, Int.neg_mul_neg]
  · rw [neg_yes h1, neg_no h2, if_pos (by simp), hd, show (x.natAbs : Int) = -x by omega, show (y.natAbs : Int) = y by omega, Int.neg_mul, Int.neg_neg]
  · rw [neg_no h1, neg_yes h2, if_pos (by simp), hd, show (x.natAbs : Int) = x by omega, show (y.natAbs : Int) = -y by omega, Int.mul_neg, Int.neg_neg]
  · rw [neg_no h1, neg_no h2, if_neg (by simp), hd, show (x.natAbs : Int) = x by omega, show (y.natAbs : Int) = y by omega]
theorem mul_go {k n : Nat} {more : Int} (h : k < n ∨ 0 < more) : (k : Int) < (n : Int) ∨ (¬ (k : Int) < (n : Int) ∧ 0 < more) := by omega
theorem mul_meas {n i k : Nat} (h : k + i ≤ n) (h2 : i + k < n) : n + 1 - (k + 1) < n + 1 - k := by omega
theorem mul_end {k n : Nat} {more : Int} (h : ¬ (k < n ∨ 0 < more)) (m0 : 0 ≤ more) : ¬ (k : Int) < (n : Int) ∧ more = 0 := by omega
theorem mul_le {k n : Nat} (h : ¬ (k : Int) < (n : Int)) : n ≤ k := by omega
theorem mul_round {a b out : List Int} {n i k : Nat} {more p q X : Int} (d1 : Ds a) (d2 : Ds b) (hn : n = a.length + b.length + 1) (hn1 : n ≤ 800001) (hi1 : i + 1 ≤ a.length) (hp : a.getD i 0 = p) (hq : b.getD k 0 = q)
    (hT : V (a.take (i + 1)) * V b = X + B i * p * V b) (hT2 : V (a.take (i + 1)) * V b < B n) (hki : k + i ≤ n) (hlo : out.length = n) (ds : Ds out) (hv : V out + B (i + k) * more = X + B i * p * V (b.take k)) (m0 : 0 ≤ more) (m1 : more < 65536) (hgo : k < b.length ∨ 0 < more) :
    ∃ o z sm : Int, Aside0 (out.getD (i + k) 0 = o) ∧ Aside0 (i + k < n) ∧ wrap64 (p * q) = z ∧ wrap64 (o + z) = o + z ∧ wrap64 (o + z + more) = sm ∧ 0 ≤ sm ∧ sm ≤ 4294967295 ∧ sm / 65536 < 65536 ∧ 0 ≤ sm / 65536 ∧ wrap64 ((i : Int) + k) = (i : Int) + k ∧ (0 ≤ (i : Int) + k) ∧ ((i : Int) + k < n) ∧ ((i : Int) + k).toNat = i + k ∧
      Aside0 (k + 1 + i ≤ n ∧ (out.set (i + k) (sm % 65536)).length = n ∧ Ds (out.set (i + k) (sm % 65536)) ∧ V (out.set (i + k) (sm % 65536)) + B (i + (k + 1)) * (sm / 65536) = X + B i * p * V (b.take (k + 1))) := by
  have p0 := d1.at i
  rw [hp] at p0
  have q0 := d2.at k
  rw [hq] at q0
  unfold Dg at p0 q0
  have hik : k + i < n := by
    rcases hgo with h | h
    · omega
    · rcases Nat.lt_or_ge (k + i) n with h2 | h2
      · exact h2
      · have hnn := V_nonneg ds
        rw [List.take_of_length_le (by omega), ← hT, show i + k = n by omega] at hv
        have h4 := B_pos n
        have h5 : B n * 1 ≤ B n * more := Int.mul_le_mul_of_nonneg_left h (by omega)
        omega
  obtain ⟨o, ho⟩ : ∃ o, out.getD (i + k) 0 = o := ⟨_, rfl⟩
  have o0 := ds.at (i + k)
  rw [ho] at o0
  unfold Dg at o0
  have hpr : 0 ≤ p * q ∧ p * q ≤ 65535 * 65535 := ⟨Int.mul_nonneg p0.1 q0.1, Int.mul_le_mul (by omega) (by omega) q0.1 (by omega)⟩
  obtain ⟨z, hz⟩ : ∃ z, p * q = z := ⟨_, rfl⟩
  have hst := mul_step (B (i + k)) (B i) (B k) p q o more (o + z + more) (V out) X (V (b.take k)) (by rw [hz]) (B_add i k) hv
  rw [hz] at hpr
  refine ⟨o, z, o + z + more, ⟨ho⟩, ⟨by omega⟩, by rw [hz]; exact w64 (by omega) (by omega), w64 (by omega) (by omega), w64 (by omega) (by omega), by omega, by omega, by omega, by omega, w64 (by omega) (by omega), by omega, by omega, by omega,
    ⟨by omega, by rw [List.length_set]; exact hlo, ds.set _ ⟨by omega, by omega⟩, ?_⟩⟩
  rw [V_set _ _ _ (by omega), ho, show i + (k + 1) = (i + k) + 1 by omega, B_succ, V_take_succ, hq]
  exact hst
set_option maxRecDepth 100000 in
set_option maxHeartbeats 4000000 in
theorem mul_c {x y : Int} (h : Held w ok (Cs A (dig x))) (hc : (dig x).length ≤ c) (h' : Held w ok' (Cs A' (dig y))) (hc' : (dig y).length ≤ c') (hl : (dig x).length ≤ 400000) (hl' : (dig y).length ≤ 400000) :
    Gives Try.prog 66 #[num x A c, num y A' c'] w (Num (x * y)) := by
  have hu38 := Try.underlying52
  have hu36 := Try.underlying50
  obtain ⟨d1, t1, v1⟩ := dig_nm x
  obtain ⟨d2, t2, v2⟩ := dig_nm y
  have hval : Aside0 (∀ d, V d = V (dig x) * V (dig y) → val (neg x != neg y) d = x * y) := ⟨fun d hd => val_mul (by rw [hd, v1, v2])⟩
  clear v1 v2
  obtain ⟨s, hs⟩ : ∃ s, (neg x != neg y) = s := ⟨_, rfl⟩
  rw [hs] at hval
  have hs2 : (!(neg x == neg y)) = s := hs
  unfold Gives num
  generalize dig x = a at *
  generalize dig y = b at *
  obtain ⟨n, hn⟩ : ∃ n, n = a.length + b.length + 1 := ⟨_, rfl⟩
  have hmk := fun W : World => print_make (P := Try.prog) 50 3 .i64 8 hu36 info_int (by decide) n (by omega) W
  have hw1 : wrap64 ((a.length : Int) + b.length) = (a.length : Int) + b.length := w64 (by omega) (by omega)
  have hw2 : wrap64 ((a.length : Int) + b.length + 1) = (n : Int) := by rw [w64 (by omega) (by omega)]; omega
  have hn1 : Aside0 (n ≤ 800001) := ⟨by omega⟩
  replace hn := Aside0.mk hn
  have H := ((((All.start w).arg h).arg h').box w.heap.size 52 #[.bool (neg x), .slice A a.length c]).box (w.heap.size + 1) 52 #[.bool (neg y), .slice A' b.length c'] |>.box (w.heap.size + 1 + 1) 52 #[.bool false, .slice none 0 0]
  go_enter Try.func66, Try.ntmps66
  go_wp2
  refine planT_ (true, [([], []), ([0], [0]), ([], []), ([2], [2]), ([1, 3], [1, 3]), ([], []), ([5], [5]), ([6], [6]), ([], []), ([8], [8]), ([9], [9]), ([7, 10], [7, 10]), ([11], [11]), ([12, 12], [12]), ([4, 13], [4, 13]), ([], []), ([15, 14, 0, 1, 2, 3, 4, 5, 6, 7, 8, 9, 10, 11, 12, 13, 14, 15], [14, 15])]) (.fork [.p 0, .t 1, .p 2, .t 3, .p 4, .p 5, .t 6, .p 7, .p 8, .t 9, .p 10, .p 11, .p 12] 13 15 (.leaf [.p 14, .c 15, .c 16]) (.leaf [.c 13, .p 14, .c 16])) H (by kernel_rfl) (by kernel_rfl) rfl rfl (by kernel_rfl) (by intro c a w d v h; cases d <;> exact h) (fun w1 H => ?_)
  have z1 := H.old.size
  refine pl_fork ?_
  refine pl_P (h := ?_)
  refine pl_L 2 0 H rfl (h := ?_)
  refine pl_P (h := ?_)
  refine pl_L 1 0 H rfl (h := ?_)
  repeat refine pl_P (h := ?_)
  refine pl_L 2 1 H rfl (h := ?_)
  repeat refine pl_P (h := ?_)
  refine pl_L 1 1 H rfl (h := ?_)
  repeat refine pl_P (h := ?_)
  refine pl_done ⟨?_, ?_⟩
  all_goals first
    | (refine pl_R (H.made .i64 w1.heap.size n 3 (hx := Nat.le_trans hn1.out (by decide))) (fun H2 => ?_)
       refine pl_done (pl_leaf ?_)
       refine pl_P (h := ?_)
       refine pl_R (H2.box (w1.heap.size + 1) 52 #[.bool false, .slice none 0 0]) (fun _ => ?_)
       refine pl_W (H2.box (w1.heap.size + 1) 52 #[.bool s, .slice (some ⟨w1.heap.size, 0, none⟩) n n]) (fun H => ?_)
       refine pl_done ?_
       have zg : w.heap.size ≤ w1.heap.size := z1
       have zb : w.heap.size ≤ w1.heap.size + 1 := Nat.le_succ_of_le z1
       clear H2
       generalize (w1.alloc (.cells (madeCells #[.int .i64 0] n) 3)).alloc (.cells #[.bool s, .slice (some ⟨w1.heap.size, 0, none⟩) n n] 52) = w2 at H ⊢
       obtain ⟨b5, hb5⟩ : ∃ b5, w1.heap.size + 1 = b5 := ⟨_, rfl⟩
       rw [hb5] at H zb ⊢
       clear hb5 z1
       generalize w1.heap.size = g at H zg ⊢)
    | (refine pl_R (H.box w1.heap.size 52 #[.bool false, .slice none 0 0]) (fun _ => ?_)
       refine pl_done (pl_leaf ?_)
       refine pl_R ((H.box w1.heap.size 52 #[.bool false, .slice none 0 0]).made .i64 (w1.heap.size + 1) n 3 (hx := Nat.le_trans hn1.out (by decide))) (fun _ => ?_)
       refine pl_P (h := ?_)
       refine pl_W ((H.box w1.heap.size 52 #[.bool s, .slice (some ⟨w1.heap.size + 1, 0, none⟩) n n]).made .i64 (w1.heap.size + 1) n 3 (hx := Nat.le_trans hn1.out (by decide))).swap (fun H => ?_)
       refine pl_done ?_
       have zg : w.heap.size ≤ w1.heap.size + 1 := Nat.le_succ_of_le z1
       have zb : w.heap.size ≤ w1.heap.size := z1
       generalize (w1.alloc (.cells #[.bool s, .slice (some ⟨w1.heap.size + 1, 0, none⟩) n n] 52)).alloc (.cells (madeCells #[.int .i64 0] n) 3) = w2 at H ⊢
       obtain ⟨g, hg⟩ : ∃ g, w1.heap.size + 1 = g := ⟨_, rfl⟩
       rw [hg] at H zg ⊢
       clear hg z1
       generalize w1.heap.size = b5 at H zb ⊢)
  all_goals
    clear hmk hw1 hw2 hs hs2
    go_wp2
    go_loopg [6] (a.length + 1) (fun kq v6 w' => ∃ (i : Nat) (out : List Int), v6 = .int .i64 (i : Int) ∧ Aside0 (i ≤ a.length ∧ kq = a.length + 1 - i ∧ out.length = n ∧ Ds out ∧ V out = V (a.take i) * V b) ∧
      All w w' [bx b5 52 #[.bool s, .slice (some ⟨g, 0, none⟩) n n], ow g 3 1 (.slice (some ⟨g, 0, none⟩) n n) n (nums .i64 out), bx (w.heap.size + 1 + 1) 52 #[.bool false, .slice none 0 0], bx (w.heap.size + 1) 52 #[.bool (neg y), .slice A' b.length c'], bx w.heap.size 52 #[.bool (neg x), .slice A a.length c], (ok', Cs A' b), (ok, Cs A a)])
    case atStart => exact ⟨0, List.replicate n 0, rfl, ⟨Nat.zero_le _, rfl, List.length_replicate, fun z hz => by rw [(List.mem_replicate.1 hz).2]; exact ⟨by omega, by omega⟩, by rw [V_zeros]; simp [V]⟩, H⟩
    case round =>
      obtain ⟨i, out, rfl, hk, H⟩ := hrel
      have r3 := H.rd 4 rfl
      by_cases hlt : (i : Int) < (a.length : Int)
      · obtain ⟨wo, rfl⟩ : ∃ wo : World, wo = wr := ⟨_, rfl⟩
        obtain ⟨X, hX⟩ : ∃ X, V (a.take i) * V b = X := ⟨_, rfl⟩
        obtain ⟨p, hp⟩ : ∃ p, a.getD i 0 = p := ⟨_, rfl⟩
        have p0 := d1.at i
        rw [hp] at p0
        unfold Dg at p0
        have hv0 := Aside0.mk (hk.out.2.2.2.2.trans hX)
        have hT : Aside0 (V (a.take (i + 1)) * V b = X + B i * p * V b) := ⟨by rw [V_take_succ, Int.add_mul, hX, hp]⟩
        have hT2 : Aside0 (V (a.take (i + 1)) * V b < B n) := ⟨Int.lt_of_lt_of_le (V_mul_lt d1 d2 (i + 1)) (B_mono (by have := hn.out; omega))⟩
        have hg : Aside0 (a.length + 1 - (i + 1) < gk) := ⟨by have := hk.out; omega⟩
        replace p0 := Aside0.mk p0
        have hi1 : Aside0 (i + 1 ≤ a.length) := ⟨by omega⟩
        have ho : Aside0 (out.length = n ∧ Ds out) := ⟨hk.out.2.2.1, hk.out.2.2.2.1⟩
        replace hX := Aside0.mk hX
        replace hp := Aside0.mk hp
        obtain ⟨ad, rfl, _⟩ := Kd.at_int (H.at 6 rfl) (i : Int) (by omega) hlt
        clear hk
        go_wp2
        go_loopg [7, 8] (n + 1) (fun kq v7 v8 w' => ∃ (k : Nat) (more : Int) (out : List Int), v7 = .int .i64 more ∧ v8 = .int .i64 (k : Int) ∧ Aside0 (k + i ≤ n ∧ kq = n + 1 - k ∧ out.length = n ∧ Ds out ∧ V out + B (i + k) * more = X + B i * p * V (b.take k)) ∧ 0 ≤ more ∧ more < 65536 ∧
          All w w' [bx b5 52 #[.bool s, .slice (some ⟨g, 0, none⟩) n n], ow g 3 1 (.slice (some ⟨g, 0, none⟩) n n) n (nums .i64 out), bx (w.heap.size + 1 + 1) 52 #[.bool false, .slice none 0 0], bx (w.heap.size + 1) 52 #[.bool (neg y), .slice A' b.length c'], bx w.heap.size 52 #[.bool (neg x), .slice (some ad) a.length c], (ok', Cs A' b), (ok, Cs (some ad) a)])
        case atStart => exact ⟨0, 0, out, rfl, rfl, ⟨by have := hi1.out; have := hn.out; omega, rfl, ho.out.1, ho.out.2, by rw [hv0.out]; simp [V]⟩, by omega, by omega, H⟩
        case round =>
          obtain ⟨k, more, out2, rfl, rfl, hk, m0, m1, H⟩ := hrel
          have r5 := H.rd 0 rfl
          have r2 := H.rd 3 rfl
          have r3 := H.rd 4 rfl
          obtain ⟨q, hq⟩ : ∃ q, b.getD k 0 = q := ⟨_, rfl⟩
          by_cases hgo : k < b.length ∨ 0 < more
          · obtain ⟨o, z, sm, ho2, hmN, hw1, hw2, hw3, s0, s3, s1, s2, hw4, hb0, hb1, ht, hrel2⟩ := mul_round d1 d2 hn.out hn1.out hi1.out hp.out hq hT.out hT2.out hk.out.1 hk.out.2.2.1 hk.out.2.2.2.1 hk.out.2.2.2.2 m0 m1 hgo
            have hg2 : Aside0 (n + 1 - (k + 1) < gk) := ⟨by rw [hk.out.2.1]; exact mul_meas hk.out.1 hmN.out⟩
            replace s1 := Aside0.mk s1
            replace s2 := Aside0.mk s2
            replace m0 := Aside0.mk m0
            replace m1 := Aside0.mk m1
            replace hb0 := eq_true hb0
            replace hb1 := eq_true hb1
            have hi0 := eq_true (Int.natCast_nonneg i)
            have hlt' := eq_true hlt
            have hkk : Aside0 (k ≤ 1000000) := ⟨Nat.le_trans (Nat.le_add_right k i) (Nat.le_trans hk.out.1 (Nat.le_trans hn1.out (by decide)))⟩
            have hiN : Aside0 (i < a.length) := ⟨hi1.out⟩
            replace hq := Aside0.mk hq
            clear hk
            rcases mul_go hgo with hkb | ⟨hkb, hmo⟩
            all_goals
              go_wp2
              refine plan_ (true, [([], []), ([0], [0]), ([], []), ([], []), ([2, 3], [2, 3]), ([1, 4], [1, 4]), ([5], [5]), ([], []), ([7], [7]), ([], []), ([8, 9], [8, 9]), ([10], [10]), ([], []), ([12], [12]), ([], []), ([13, 14], [13, 14]), ([11, 15], [11, 15]), ([6, 16], [6, 16]), ([], []), ([17, 18], [17, 18]), ([19, 15, 0, 1, 2, 3, 4, 5, 6, 7, 8, 9, 10, 11, 12, 13, 14, 15, 16, 17, 18, 19], [19])]) [.p 0, .t 1, .p 2, .p 3, .p 4, .p 5, .t 6, .p 7, .t 8, .p 9, .p 10, .t 11, .p 12, .t 13, .p 14, .p 18, .c 15, .p 16, .p 17, .p 19, .p 20] H (by kernel_rfl) (by kernel_rfl) rfl rfl (by kernel_rfl) (by intro c a w d v h; cases d <;> exact h) (fun w1 H => ?_)
              refine pl_P (h := ?_)
              refine pl_L 0 1 H rfl (h := ?_)
              repeat refine pl_P (h := ?_)
              refine pl_C H (fun W hW => (ow_at (hW.at 1 rfl) (i + k) hmN.out ho2.out).1) (h := ?_)
              refine pl_P (h := ?_)
              refine pl_L 4 1 H rfl (h := ?_)
              repeat refine pl_P (h := ?_)
              refine pl_C H (fun W hW => cs_at (hW.at 6 rfl) i hiN.out hp.out) (h := ?_)
              refine pl_P (h := ?_)
              refine pl_L 3 1 H rfl (h := ?_)
              repeat refine pl_P (h := ?_)
              refine pl_S (at_c (H.get 5 rfl) hc' k hkk.out hq.out) H Try.func104 (h := fun w2 H => ?_)
              repeat refine pl_P (h := ?_)
              refine pl_done ?_
              have r5 := H.rd 0 rfl
              have f1 := ow_at (H.at 1 rfl) (i + k) hmN.out ho2.out
              obtain ⟨f1, f2⟩ := f1
              clear hgo hw1 hw2 hw3 hw4
              have hi9 : (i : Int) ≤ 1000000 := Int.ofNat_le.2 (Nat.le_trans (Nat.le_of_lt hiN.out) (Nat.le_trans hl (by decide)))
              have hk9 : (k : Int) ≤ 1000000 := Int.ofNat_le.2 hkk.out
              replace hc := Aside0.mk hc
              replace hl := Aside0.mk hl
              replace hl' := Aside0.mk hl'
              go_wp2
              replace H := H.store 1 rfl (i + k) (sm % 65536) zg
              go_roundg (n + 1 - (k + 1))
              case measure => exact hg2.out
              case rel => exact ⟨k + 1, sm / 65536, _, rfl, by first | rfl | (simp; done), ⟨hrel2.out.1, rfl, hrel2.out.2⟩, s2.out, s1.out, H⟩
          · obtain ⟨hkb, hm0⟩ := mul_end hgo m0
            have hv2 : Aside0 (i + 1 ≤ a.length ∧ a.length + 1 - (i + 1) = a.length + 1 - (i + 1) ∧ out2.length = n ∧ Ds out2 ∧ V out2 = V (a.take (i + 1)) * V b) := ⟨hi1.out, rfl, hk.out.2.2.1, hk.out.2.2.2.1, by
              have := hk.out.2.2.2.2
              rw [hm0, Int.mul_zero, Int.add_zero, List.take_of_length_le (mul_le hkb)] at this
              rw [this, hT.out]⟩
            subst hm0
            clear hgo hk
            go_wp2
            go_roundg (a.length + 1 - (i + 1))
            case measure => exact hg.out
            case rel => exact ⟨i + 1, out2, by first | rfl | (simp; done), ⟨hv2.out.1, rfl, hv2.out.2.2⟩, H⟩
      · have hv2 : Aside0 (val s out = x * y) := ⟨hval.out _ (by
          have := hk.out.2.2.2.2
          rw [List.take_of_length_le (by omega)] at this
          exact this)⟩
        have r5 := H.rd 0 rfl
        obtain ⟨hlx, hcx, hR⟩ := held_reads (H.get 1 rfl)
        have hds := Aside0.mk hk.out.2.2.2.1
        replace hlx := Aside0.mk hlx
        go_wp2_with fail
        refine (clean_n hlx.out hR hcx hds.out (Nat.le_trans hn1.out (by decide))).mono ?_
        rintro e w5 ⟨rfl, hb, hT, hL⟩
        rw [hv2.out] at hT hL ⊢
        have hbs := (H.at 1 rfl).from (lo' := w.heap.size) zg
        replace H := (H.grow hb).turn 1 rfl hT
        have r := H.rd 2 rfl
        have z := H.fz 2 rfl
        replace hL := Nat.le_trans hL hcx
        go_wp2
        replace H := (H.set 2 rfl 0 (.bool (neg (x * y)))).set 2 rfl 1 (.slice (some ⟨g, 0, none⟩) (dig (x * y)).length n)
        exact H.ret 2 rfl rfl rfl hu38 rfl (by kernel_rfl) rfl ⟨_, rfl, H.old, num_mk hL ((H.get 1 rfl).out hbs)⟩
end
end Go.Proofs.Ythhgcjlgnafdcaa.Nu
end
