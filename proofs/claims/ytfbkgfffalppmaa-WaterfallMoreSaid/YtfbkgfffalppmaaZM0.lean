/- Texts of this seat, put together (ZM0). -/
import Derived.RowKit
section
namespace Go.Proofs.Ytfbkgfffalppmaa.Fv
set_option linter.unusedSimpArgs false
set_option linter.unusedVariables false
open Go Go.RowKit
def Dg (x : Int) : Prop := 0 ≤ x ∧ x < 65536
def Ds (d : List Int) : Prop := ∀ x ∈ d, Dg x
def V : List Int → Int
  | [] => 0
  | x :: r => x + 65536 * V r
def B (n : Nat) : Int := match n with
  | 0 => 1
  | n + 1 => 65536 * B n
termination_by n
theorem B_zero : B 0 = 1 := by rw [B]
theorem B_succ (n : Nat) : B (n + 1) = 65536 * B n := by rw [B]
theorem B_pos : ∀ n, 0 < B n
  | 0 => by rw [B_zero]; omega
  | n + 1 => by have := B_pos n; rw [B_succ]; omega
theorem Ds.nil : Ds [] := fun x h => by cases h
theorem Ds.tail {x : Int} {r : List Int} (h : Ds (x :: r)) : Ds r := fun y hy => h y (by simp [hy])
theorem Ds.head {x : Int} {r : List Int} (h : Ds (x :: r)) : Dg x := h x (by simp)
theorem Ds.append {a b : List Int} (ha : Ds a) (hb : Ds b) : Ds (a ++ b) := fun x hx => by
  rcases List.mem_append.1 hx with h | h
  · exact ha x h
  · exact hb x h
theorem Ds.snoc {a : List Int} {x : Int} (ha : Ds a) (hx : Dg x) : Ds (a ++ [x]) := ha.append fun y hy => by rw [List.mem_singleton.1 hy]; exact hx
theorem Ds.take {a : List Int} (ha : Ds a) (n : Nat) : Ds (a.take n) := fun x hx => ha x (List.mem_of_mem_take hx)
theorem Ds.drop {a : List Int} (ha : Ds a) (n : Nat) : Ds (a.drop n) := fun x hx => ha x (List.mem_of_mem_drop hx)
theorem Ds.at {a : List Int} (ha : Ds a) (i : Nat) : Dg (a.getD i 0) := by
  rw [List.getD_eq_getElem?_getD]
  cases he : a[i]? with
  | none => exact ⟨by simp, by simp⟩
  | some x => exact ha x (List.mem_of_getElem? he)
theorem V_nonneg : ∀ {d : List Int}, Ds d → 0 ≤ V d
  | [], _ => Int.le_refl _
  | x :: r, h => by
    have h1 := V_nonneg h.tail
    have h2 := h.head.1
    simp only [V]
    omega
theorem V_append (b : List Int) : ∀ a : List Int, V (a ++ b) = V a + B a.length * V b
  | [] => by simp [V, B_zero]
  | x :: r => by
    rw [List.cons_append, List.length_cons, B_succ]
    simp only [V]
    rw [V_append b r, Int.mul_add, Int.add_assoc, Int.mul_assoc]
theorem V_snoc (a : List Int) (x : Int) : V (a ++ [x]) = V a + B a.length * x := by
  rw [V_append]
  simp [V]
def Top (d : List Int) : Prop := ∀ h : d ≠ [], d.getLast h ≠ 0
theorem top_ge {d : List Int} (hd : Ds d) (ht : Top d) (h : d ≠ []) : B (d.length - 1) ≤ V d := by
  have e : d = d.dropLast ++ [d.getLast h] := (List.dropLast_concat_getLast h).symm
  have hl : d.dropLast.length = d.length - 1 := List.length_dropLast
  have h1 := ht h
  have h2 := hd (d.getLast h) (List.getLast_mem h)
  have h3 := V_nonneg (d := d.dropLast) (fun x hx => hd x (List.dropLast_subset d hx))
  have h4 := V_snoc d.dropLast (d.getLast h)
  rw [← e, hl] at h4
  have h5 := B_pos (d.length - 1)
  unfold Dg at h2
  have h6 : B (d.length - 1) * 1 ≤ B (d.length - 1) * d.getLast h := Int.mul_le_mul_of_nonneg_left (by omega) (by omega)
  omega
def val (n : Bool) (d : List Int) : Int := if n = true then -V d else V d
structure Nm (v : Int) (n : Bool) (d : List Int) : Prop where
  ds : Ds d
  top : Top d
  neg : n = true → d ≠ []
  val : val n d = v
  len : d.length ≤ 1000000
theorem V_pos {d : List Int} (hd : Ds d) (ht : Top d) (h : d ≠ []) : 0 < V d := by
  have h1 := top_ge hd ht h
  have h2 := B_pos (d.length - 1)
  omega
theorem Nm.zero {v : Int} {n : Bool} {d : List Int} (h : Nm v n d) : n = true → v < 0 := fun hn => by
  have h1 := V_pos h.ds h.top (h.neg hn)
  have h2 := h.val
  unfold Fv.val at h2
  rw [if_pos hn] at h2
  omega
theorem Nm.pos {v : Int} {n : Bool} {d : List Int} (h : Nm v n d) : n = false → 0 ≤ v := fun hn => by
  have h1 := V_nonneg h.ds
  have h2 := h.val
  unfold Fv.val at h2
  rw [hn, if_neg (by simp)] at h2
  omega
end Go.Proofs.Ytfbkgfffalppmaa.Fv
end
