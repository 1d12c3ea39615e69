/- Texts of this seat, put together (Zs8). -/
import Derived.RowKit
section
namespace Go.Proofs.Ytfbkgfffalppmaa.Fv
set_option linter.unusedSimpArgs false
set_option linter.unusedVariables false
open Go Go.RowKit
def Dg (x : Int) : Prop := 0 ≤ x ∧ x < 65536
def Ds (d : List Int) : Prop := ∀ x ∈ d, Dg x
def V : List Int → Int
  | [] => 0
  | x :: r => x + 65536 * V r
def B (n : Nat) : Int := match n with
  | 0 => 1
  | n + 1 => 65536 * B n
termination_by n
theorem B_zero : B 0 = 1 := by rw [B]
theorem B_succ (n : Nat) : B (n + 1) = 65536 * B n := by rw [B]
theorem B_pos : ∀ n, 0 < B n
  | 0 => by rw [B_zero]; omega
  | n + 1 => by have := B_pos n; rw [B_succ]; omega
theorem B_add (m : Nat) : ∀ n, B (m + n) = B m * B n
  | 0 => by rw [B_zero, Int.mul_one, Nat.add_zero]
  | n + 1 => by rw [show m + (n + 1) = (m + n) + 1 by omega, B_succ, B_succ, B_add m n, ← Int.mul_assoc, ← Int.mul_assoc, Int.mul_comm 65536 (B m)]
theorem B_mono {m n : Nat} (h : m ≤ n) : B m ≤ B n := by
  obtain ⟨k, rfl⟩ := Nat.exists_eq_add_of_le h
  have h1 := B_pos m
  have h2 := B_pos k
  rw [B_add]
  calc B m = B m * 1 := (Int.mul_one _).symm
    _ ≤ B m * B k := Int.mul_le_mul_of_nonneg_left (by omega) (by omega)
theorem Ds.nil : Ds [] := fun x h => by cases h
theorem Ds.tail {x : Int} {r : List Int} (h : Ds (x :: r)) : Ds r := fun y hy => h y (by simp [hy])
theorem Ds.head {x : Int} {r : List Int} (h : Ds (x :: r)) : Dg x := h x (by simp)
theorem Ds.append {a b : List Int} (ha : Ds a) (hb : Ds b) : Ds (a ++ b) := fun x hx => by
  rcases List.mem_append.1 hx with h | h
  · exact ha x h
  · exact hb x h
theorem Ds.snoc {a : List Int} {x : Int} (ha : Ds a) (hx : Dg x) : Ds (a ++ [x]) := ha.append fun y hy => by rw [List.mem_singleton.1 hy]; exact hx
theorem Ds.take {a : List Int} (ha : Ds a) (n : Nat) : Ds (a.take n) := fun x hx => ha x (List.mem_of_mem_take hx)
theorem Ds.drop {a : List Int} (ha : Ds a) (n : Nat) : Ds (a.drop n) := fun x hx => ha x (List.mem_of_mem_drop hx)
theorem Ds.at {a : List Int} (ha : Ds a) (i : Nat) : Dg (a.getD i 0) := by
  rw [List.getD_eq_getElem?_getD]
  cases he : a[i]? with
  | none => exact ⟨by simp, by simp⟩
  | some x => exact ha x (List.mem_of_getElem? he)
theorem V_nonneg : ∀ {d : List Int}, Ds d → 0 ≤ V d
  | [], _ => Int.le_refl _
  | x :: r, h => by
    have h1 := V_nonneg h.tail
    have h2 := h.head.1
    simp only [V]
    omega
theorem V_lt : ∀ {d : List Int}, Ds d → V d < B d.length
  | [], _ => by rw [List.length_nil, B_zero]; simp [V]
  | x :: r, h => by
    have h1 := V_lt h.tail
    have h2 := h.head.2
    rw [List.length_cons, B_succ]
    simp only [V]
    omega
theorem V_append (b : List Int) : ∀ a : List Int, V (a ++ b) = V a + B a.length * V b
  | [] => by simp [V, B_zero]
  | x :: r => by
    rw [List.cons_append, List.length_cons, B_succ]
    simp only [V]
    rw [V_append b r, Int.mul_add, Int.add_assoc, Int.mul_assoc]
theorem V_snoc (a : List Int) (x : Int) : V (a ++ [x]) = V a + B a.length * x := by
  rw [V_append]
  simp [V]
theorem V_take_succ (a : List Int) (i : Nat) : V (a.take (i + 1)) = V (a.take i) + B i * a.getD i 0 := by
  rcases Nat.lt_or_ge i a.length with h | h
  · rw [List.take_add_one, List.getElem?_eq_getElem h, List.getD_eq_getElem?_getD, List.getElem?_eq_getElem h]
    show V (a.take i ++ [a[i]]) = _
    rw [V_snoc, List.length_take, Nat.min_eq_left (by omega)]
    rfl
  · rw [List.take_of_length_le (by omega), List.take_of_length_le h, List.getD_eq_getElem?_getD, List.getElem?_eq_none h]
    simp
theorem take_lt {a : List Int} (ha : Ds a) (i : Nat) : V (a.take i) < B i := by
  have h := V_lt (ha.take i)
  exact Int.lt_of_lt_of_le h (B_mono (by rw [List.length_take]; omega))
def Top (d : List Int) : Prop := ∀ h : d ≠ [], d.getLast h ≠ 0
theorem top_ge {d : List Int} (hd : Ds d) (ht : Top d) (h : d ≠ []) : B (d.length - 1) ≤ V d := by
  have e : d = d.dropLast ++ [d.getLast h] := (List.dropLast_concat_getLast h).symm
  have hl : d.dropLast.length = d.length - 1 := List.length_dropLast
  have h1 := ht h
  have h2 := hd (d.getLast h) (List.getLast_mem h)
  have h3 := V_nonneg (d := d.dropLast) (fun x hx => hd x (List.dropLast_subset d hx))
  have h4 := V_snoc d.dropLast (d.getLast h)
  rw [← e, hl] at h4
  have h5 := B_pos (d.length - 1)
  unfold Dg at h2
  have h6 : B (d.length - 1) * 1 ≤ B (d.length - 1) * d.getLast h := Int.mul_le_mul_of_nonneg_left (by omega) (by omega)
  omega
def val (n : Bool) (d : List Int) : Int := if n = true then -V d else V d
structure Nm (v : Int) (n : Bool) (d : List Int) : Prop where
  ds : Ds d
  top : Top d
  neg : n = true → d ≠ []
  val : val n d = v
  len : d.length ≤ 1000000
theorem V_pos {d : List Int} (hd : Ds d) (ht : Top d) (h : d ≠ []) : 0 < V d := by
  have h1 := top_ge hd ht h
  have h2 := B_pos (d.length - 1)
  omega
theorem Nm.zero {v : Int} {n : Bool} {d : List Int} (h : Nm v n d) : n = true → v < 0 := fun hn => by
  have h1 := V_pos h.ds h.top (h.neg hn)
  have h2 := h.val
  unfold Fv.val at h2
  rw [if_pos hn] at h2
  omega
theorem Nm.pos {v : Int} {n : Bool} {d : List Int} (h : Nm v n d) : n = false → 0 ≤ v := fun hn => by
  have h1 := V_nonneg h.ds
  have h2 := h.val
  unfold Fv.val at h2
  rw [hn, if_neg (by simp)] at h2
  omega
def sgn (x y : Int) : Int := if x < y then -1 else if y < x then 1 else 0
theorem len_le {a b : List Int} (ha : Ds a) (hta : Top a) (hb : Ds b) (h : V a ≤ V b) : a.length ≤ b.length := by
  rcases Nat.lt_or_ge b.length a.length with q | q
  · have h1 : a ≠ [] := fun e => by rw [e] at q; simp at q
    have h2 := top_ge ha hta h1
    have h3 := V_lt hb
    have h4 : B b.length ≤ B (a.length - 1) := B_mono (by omega)
    omega
  · exact q
theorem len_of {d : List Int} {n : Nat} (hd : Ds d) (ht : Top d) (h : V d < B n) : d.length ≤ n := by
  rcases Nat.lt_or_ge n d.length with q | q
  · have h1 : d ≠ [] := fun e => by rw [e] at q; simp at q
    have h2 := top_ge hd ht h1
    have h3 : B n ≤ B (d.length - 1) := B_mono (by omega)
    omega
  · exact q
end Go.Proofs.Ytfbkgfffalppmaa.Fv
end
