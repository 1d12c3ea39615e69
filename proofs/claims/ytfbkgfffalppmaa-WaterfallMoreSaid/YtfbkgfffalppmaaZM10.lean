/- Texts of this seat, put together (ZM10). -/
import Derived.Deep.Upon
import Derived.Test.YtfbkgfffalppmaaZM5
section
namespace Go.Proofs.Ytfbkgfffalppmaa.Wn
set_option linter.unusedSimpArgs false
set_option linter.unusedVariables false
open Go Go.RowKit Go.Proofs.YtfbkgfffalppmaaW.PrintWords Go.Proofs.YtfbkgfffalppmaaW.PrintMore
theorem src_of {P : Program} {α : Type} (d : Kd α) {W : World} {t e : TypeId} (ht : P.underlying t = some (.slice e)) {B : Option Addr} {c : Nat} {ys : List α} (h : d.C W B ys.length ys) (hs0 : 0 < d.sz) : ∃ news, Src P d.sz t (.slice B ys.length c) ys.length news W ∧ Reps (d.K W) d.sz ys news := by
  rcases Nat.eq_zero_or_pos ys.length with h0 | h0
  · obtain rfl : ys = [] := List.eq_nil_of_length_eq_zero h0
    refine ⟨[], ?_, Reps.none _ _⟩
    cases B with
    | none => exact Src.ofNil W ht c
    | some a => exact Src.ofSlice W ht a 0 c [] (by simp) (fun j u hu => by simp at hu) (fun u hu => by cases hu)
  · obtain ⟨ad, rfl, _⟩ := h.2.2 h0
    obtain ⟨news, hr, hc⟩ := ReadsRow.inner_ h
    refine ⟨news, Src.ofSlice W ht ad _ c news hr.1 hc ?_, hr⟩
    intro u hu
    obtain ⟨q, hq, rfl⟩ := List.mem_iff_getElem.1 hu
    have hql : q / d.sz < ys.length := by
      rw [Nat.div_lt_iff_lt_mul hs0, ← hr.1]
      exact hq
    refine d.K_one (hr.2 (q / d.sz) _ (List.getElem?_eq_getElem hql)) _ ?_
    rw [List.mem_iff_getElem?]
    refine ⟨q % d.sz, ?_⟩
    rw [List.getElem?_take, if_pos (Nat.mod_lt _ hs0), List.getElem?_drop, Nat.mul_comm, Nat.div_add_mod, List.getElem?_eq_getElem hq]
theorem app_cut {P : Program} {α : Type} (d : Kd α) (t e : TypeId) (z : Value) (bytes : Nat) (ht : P.underlying t = some (.slice e)) (hinfo : (P.info? e).map (fun i => (i.zero, i.size, i.bytes)) = some (some z, d.sz, bytes)) (hs0 : 0 < d.sz) (hbt : bytes ≤ 1000)
    (ty : TypeId) {W : World} {A B : Option Addr} {c : Nat} {xs ys : List α} (hx : d.C W A xs.length xs) (hy : d.C W B ys.length ys) (hl : xs.length + ys.length ≤ 1000000) :
    ∃ A' c' W', (Builtin.append_ #[t, t] ty #[.slice A xs.length xs.length, .slice B ys.length c]).run P W = .ok (.slice A' (xs.length + ys.length) c') W' ∧ xs.length + ys.length ≤ c' ∧ d.C W' A' (xs ++ ys).length (xs ++ ys) ∧ Below W.heap.size W W' := by
  obtain ⟨i0, hi, hzz⟩ := Option.map_eq_some_iff.1 hinfo
  simp only [Prod.mk.injEq] at hzz
  obtain ⟨hz0, hz1, hz2⟩ := hzz
  obtain ⟨news, hs, hr⟩ := src_of (P := P) d ht hy (c := c) hs0
  rw [← hz1] at hs
  rcases Nat.eq_zero_or_pos ys.length with h0 | h0
  · obtain rfl : ys = [] := List.eq_nil_of_length_eq_zero h0
    obtain rfl : news = [] := List.eq_nil_of_length_eq_zero (by rw [hs.newsLen]; simp)
    refine ⟨A, xs.length, W, ?_, by simp, by simpa using hx, Below.refl _ _⟩
    exact run_append_nothing W t t ty e i0 ht hi A xs.length xs.length (Nat.le_refl _) _ hs
  · have key : ∃ olds, (Builtin.firstCells i0.size xs.length (.slice A xs.length xs.length)).run P W.drew = .ok olds.toArray W.drew ∧ Reps (d.K W) d.sz xs olds := by
      rcases Nat.eq_zero_or_pos xs.length with h1 | h1
      · obtain rfl : xs = [] := List.eq_nil_of_length_eq_zero h1
        refine ⟨[], ?_, Reps.none _ _⟩
        cases A with
        | none => exact run_firstCells_none W.drew _ _ _ _
        | some a => exact run_firstCells_some W.drew _ _ a _ _ [] (by simp) (fun j u hu => by simp at hu)
      · obtain ⟨ad, rfl, _⟩ := hx.2.2 h1
        obtain ⟨olds, hr, hc⟩ := ReadsRow.inner_ hx
        exact ⟨olds, run_firstCells_some W.drew _ _ ad _ _ olds (by rw [hr.1, hz1]) (by simpa using hc), hr⟩
    obtain ⟨olds, hf, ho⟩ := key
    have hcap : Builtin.nextslicecap (xs.length + ys.length) xs.length * i0.bytes ≤ 281474976710656 := by
      have h2 := nextslicecap_le (need := xs.length + ys.length) (old := xs.length) (by omega)
      have h3 : Builtin.nextslicecap (xs.length + ys.length) xs.length * i0.bytes ≤ 2000000 * 1000 := Nat.mul_le_mul (by omega) (by omega)
      omega
    have hrun := run_append_grow_src (P := P) W t t ty e i0 z ht hi hz0 A xs.length xs.length olds hf _ ys.length news hs (by omega) (by omega) hcap
    have hg : xs.length + ys.length ≤ grownCap W (xs.length + ys.length) xs.length e := grownCap_ge W _ _ e
    have hB : ∀ o, Below W.heap.size W (W.drew.alloc o) := fun o => below_alloc (below_drew (Below.refl _ _)) o
    refine ⟨_, _, _, hrun, hg, ?_, hB _⟩
    have hall := Kd.reps_append ho hr
    refine ⟨rfl, by simp; omega, fun _ => ⟨_, rfl, fun j p hj => ?_⟩⟩
    have hK := hall.2 j p hj
    have hjl : j < (xs ++ ys).length := by
      rcases Nat.lt_or_ge j (xs ++ ys).length with h | h
      · exact h
      · rw [List.getElem?_eq_none h] at hj
        cases hj
    refine ⟨_, d.K_len hK, d.K_below (hB _) hK, fun i u hu => ?_⟩
    rw [List.getElem?_take] at hu
    split at hu
    · rw [List.getElem?_drop] at hu
      have hlt : j * d.sz + i < (olds ++ news).length := by
        rcases Nat.lt_or_ge (j * d.sz + i) (olds ++ news).length with h | h
        · exact h
        · rw [List.getElem?_eq_none h] at hu
          cases hu
      rw [add_at, Nat.zero_add]
      refine (blk_cell (w := W.drew.alloc _) (heap_alloc_new W.drew _) (j * d.sz + i)).trans ?_
      rw [Array.getElem?_append_left (by simpa using hlt)]
      simpa using hu
    · cases hu
theorem print_app_cut {P : Program} {ops : Array Oper} {rest : List Oper} {o : Oper} {a : Act} {Q : Exit → Act → World → Prop} {α : Type} (d : Kd α) (t e : TypeId) (z : Value) (bytes : Nat) {W : World} (hgd : o.guard = none) (s x : Operand)
    (ho : o.op = .call { callee := .builtin .append, args := #[s, x], argTypes := #[t, t] })
    (ht : P.underlying t = some (.slice e)) (hinfo : (P.info? e).map (fun i => (i.zero, i.size, i.bytes)) = some (some z, d.sz, bytes)) (hs0 : 0 < d.sz) (hbt : bytes ≤ 1000)
    {A B : Option Addr} {c : Nat} {xs ys : List α} (hs : a.eval s = .slice A xs.length xs.length) (hy : a.eval x = .slice B ys.length c) (hx : d.C W A xs.length xs) (hyC : d.C W B ys.length ys) (hl : xs.length + ys.length ≤ 1000000)
    (h : ∀ A' c' w1, xs.length + ys.length ≤ c' → d.C w1 A' (xs ++ ys).length (xs ++ ys) → Below W.heap.size W w1 → wpList P ops Q rest (a.put o.dst (.slice A' (xs.length + ys.length) c')) w1) :
    wpList P ops Q (o :: rest) a W := by
  obtain ⟨A', c', W', hrun, h1, h2, h3⟩ := app_cut (P := P) d t e z bytes ht hinfo hs0 hbt o.type hx hyC hl (c := c)
  refine wpList_plain hgd fun K hK => ?_
  unfold Oper.wp execOp
  simp only [ho, resolve, invoke, builtin, Sem.run_bind, Sem.run_pure, Result.andThen_ok, List.map_toArray, List.map_cons, List.map_nil, hs, hy, hrun]
  exact hK _ _ (h A' c' W' h1 h2 h3)
end Go.Proofs.Ytfbkgfffalppmaa.Wn
end
