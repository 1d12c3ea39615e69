/- A box of ints whose things are known, laid behind a world W: what the calls on it answer; and the chapter's examples. -/
import Derived.Test.YtebdjhgboeadgaaBxB
namespace Go.Proofs.Ytebdjhgboeadgaa.BxC
set_option linter.unusedSimpArgs false
set_option linter.unusedVariables false
open Go Go.RowKit Go.Conc Go.Proofs.Ytebdjhgboeadgaa.Comm Go.Proofs.Ytebdjhgboeadgaa.BxI Go.Proofs.Ytebdjhgboeadgaa.BxA Go.Proofs.Ytebdjhgboeadgaa.BxB Go.Proofs.YtebdjhgboeadgaaW.PrintWords Go.Proofs.YtebdjhgboeadgaaW.PrintMore
def enc (l : List Int) : Array Value := (l.map (Value.int .i64)).toArray
/-- The box at p with its channel c, laid behind W, with room for cap, holds l. -/
structure St (W w : World) (p c cap : Nat) (l : List Int) : Prop where
  bel : Below W.heap.size W w
  hp : W.heap.size ≤ p
  hc : W.heap.size ≤ c
  q0 : w.cell? ⟨p, 0, none⟩ = some (.chan (some c))
  q1 : w.cell? ⟨p, 1, none⟩ = some (.bool false)
  qc : ∃ s r, w.heap[c]? = some (.chan cap (enc l) false s r false)
  le : l.length ≤ cap
  lim : cap ≤ 5000
theorem enc_size (l : List Int) : (enc l).size = l.length := by simp [enc]
theorem cell_lt {w : World} {q : Addr} {v : Value} (h : w.cell? q = some v) : q.block < w.heap.size := by
  rcases Nat.lt_or_ge q.block w.heap.size with h2 | h2
  · exact h2
  · simp [World.cell?, Array.getElem?_eq_none h2] at h
section
variable {W w w' : World} {p c cap : Nat} {l : List Int}
theorem St.below (h : St W w p c cap l) (hb : Below w.heap.size w w') : St W w' p c cap l := by
  obtain ⟨s, r, hq⟩ := h.qc
  refine ⟨h.bel.trans (hb.mono h.bel.size), h.hp, h.hc, (hb.cell (cell_lt h.q0)).trans h.q0, (hb.cell (cell_lt h.q1)).trans h.q1, ⟨s, r, (hb.block c (Array.getElem?_eq_some_iff.1 hq).1).trans hq⟩, h.le, h.lim⟩
theorem St.alloc (h : St W w p c cap l) (o : Obj) : St W (w.alloc o) p c cap l := h.below (below_alloc (Below.refl _ _) o)
theorem St.drew (h : St W w p c cap l) : St W w.drew p c cap l := h.below (Below.refl _ _).drew
theorem St.set (h : St W w p c cap l) (l' : List Int) (hl : l'.length ≤ cap) (s r : Nat) : St W (w.setChan c cap (enc l') false s r false) p c cap l' := by
  obtain ⟨s0, r0, hq⟩ := h.qc
  have hcp : c ≠ p := chan_block hq h.q0
  refine ⟨below_setChan h.bel h.hc _ _ _ _ _ _, h.hp, h.hc, (cell_setChan hcp).trans h.q0, (cell_setChan hcp).trans h.q1, ⟨s, r, heap_setChan _ _ _ _ _ _ _ _ (Array.getElem?_eq_some_iff.1 hq).1⟩, hl, h.lim⟩
end
theorem st_new (n : Nat) (h1 : 1 ≤ n) (h2 : n ≤ 5000) (W : World) : Calls Try.prog 15 #[.int .i64 n] W fun e w' => ∃ p c, e = .returned (.tuple #[.pointer (some ⟨p, 0, none⟩), .int .i64 0]) ∧ St W w' p c n [] := by
  refine (new_ok n h1 h2 W).mono ?_
  rintro e w' ⟨rfl, rfl⟩
  refine ⟨_, _, rfl, below_alloc (below_alloc (Below.refl _ _) _) _, by omega, Nat.le_refl _, ?_, ?_, ⟨0, 0, ?_⟩, Nat.zero_le _, h2⟩
  · go_simp
  · go_simp
  · rw [Below.heap_alloc _ _ _ (by simp)]
    exact heap_alloc_new W _
section
variable {W w : World} {p c cap : Nat} {l : List Int}
theorem enc_push (x : Int) : (enc l).push (.int .i64 x) = enc (l ++ [x]) := by simp [enc]
theorem enc_tail (x : Int) : (enc (x :: l)).extract 1 (enc (x :: l)).size = enc l := by
  apply Array.ext'
  simp only [enc, List.map_cons, List.extract_toArray, List.size_toArray, List.length_cons, List.extract_eq_take_drop, List.drop_one, List.tail_cons, Nat.add_sub_cancel]
  rw [List.take_of_length_le (Nat.le_refl _)]
theorem st_put_ok (h : St W w p c cap l) (x : Int) (hr : l.length < cap) : Calls Try.prog 16 #[.pointer (some ⟨p, 0, none⟩), .int .i64 x] w fun e w' => e = .returned (.int .i64 0) ∧ St W w' p c cap (l ++ [x]) := by
  obtain ⟨s, r, hq⟩ := h.qc
  refine (put_ok p c cap s r _ x w h.q0 h.q1 hq (by rw [enc_size]; exact hr)).mono ?_
  rintro e w' ⟨rfl, rfl⟩
  rw [enc_push]
  exact ⟨rfl, h.set _ (by simp; omega) _ _⟩
theorem st_put_full (h : St W w p c cap l) (x : Int) (hr : l.length = cap) : Calls Try.prog 16 #[.pointer (some ⟨p, 0, none⟩), .int .i64 x] w fun e w' => e = .returned (.int .i64 7) ∧ w' = w := by
  obtain ⟨s, r, hq⟩ := h.qc
  exact put_full p c cap s r _ x w h.q0 h.q1 hq (by rw [enc_size]; omega)
theorem st_take {x : Int} (h : St W w p c cap (x :: l)) : Calls Try.prog 17 #[.pointer (some ⟨p, 0, none⟩)] w fun e w' => e = .returned (.tuple #[.int .i64 x, .int .i64 0]) ∧ St W w' p c cap l := by
  obtain ⟨s, r, hq⟩ := h.qc
  refine (take_some p c cap s r _ (.int .i64 x) (by simp [enc]) w h.q0 hq (by rw [enc_size]; simp)).mono ?_
  rintro e w' ⟨rfl, rfl⟩
  rw [enc_tail]
  exact ⟨rfl, h.set _ (by have := h.le; simp at this; omega) _ _⟩
theorem st_take_none (h : St W w p c cap []) : Calls Try.prog 17 #[.pointer (some ⟨p, 0, none⟩)] w fun e w' => e = .returned (.tuple #[.int .i64 0, .int .i64 13]) ∧ w' = w := by
  obtain ⟨s, r, hq⟩ := h.qc
  exact take_none p c cap s r w h.q0 hq
theorem st_len (h : St W w p c cap l) : Calls Try.prog 19 #[.pointer (some ⟨p, 0, none⟩)] w fun e w' => e = .returned (.int .i64 l.length) ∧ w' = w := by
  obtain ⟨s, r, hq⟩ := h.qc
  have := len_of p c cap s r _ w h.q0 hq
  rw [enc_size] at this
  exact this
theorem st_all (h : St W w p c cap l) : Calls Try.prog 33 #[.pointer (some ⟨p, 0, none⟩)] w fun e w' => ∃ A cp, e = .returned (.slice A l.length cp) ∧ Rd w' A l ∧ St W w' p c cap l := by
  obtain ⟨s, r, hq⟩ := h.qc
  refine (all_of p c cap s r l w h.q0 hq h.le (Nat.le_trans h.le h.lim)).mono ?_
  rintro e w' ⟨v, rfl, ho, hb⟩
  obtain ⟨A, cp, rfl, hr⟩ := rd_of_owns ho
  exact ⟨A, cp, rfl, hr, (h.set l h.le _ _).below (by rw [size_setChan]; exact hb)⟩
theorem st_fill (h : St W w p c cap l) (A : Option Addr) (cp : Nat) (m : List Int) (hm : m.length ≤ 5000) (ha : Rd w A m) (n : Nat) (hn : n = min m.length (cap - l.length)) : Calls Try.prog 34 #[.pointer (some ⟨p, 0, none⟩), .slice A m.length cp] w fun e w' => e = .returned (.int .i64 n) ∧ St W w' p c cap (l ++ m.take n) := by
  obtain ⟨s, r, hq⟩ := h.qc
  refine (fill_of p c cap s r _ A cp m hm w h.q0 h.q1 hq (by rw [enc_size]; exact h.le) ha n (by rw [enc_size]; exact hn)).mono ?_
  rintro e w' ⟨rfl, rfl⟩
  have e : fl (enc l) m n = enc (l ++ m.take n) := by
    apply Array.ext'
    simp [fl, enc]
  rw [e]
  exact ⟨rfl, h.set _ (by have := h.le; simp; omega) _ _⟩
end
/-- What a slice leads to that is laid at the end. -/
theorem rd_new (w : World) (t : TypeId) (l : List Int) : Rd (w.alloc (.cells (enc l) t)) (some ⟨w.heap.size, 0, none⟩) l := fun k hk => by
  refine ⟨_, rfl, ?_⟩
  have e3 : (⟨w.heap.size, 0, none⟩ : Addr).add k = ⟨w.heap.size, k, none⟩ := by simp only [Addr.add]; split <;> simp_all
  rw [e3, cell_of_row _ _ k (enc l) t (0, 0) (heap_alloc_new w _)]
  simp [enc, List.getElem?_eq_getElem hk]
set_option maxRecDepth 20000 in
set_option maxHeartbeats 4000000 in
theorem known_ok (W : World) : Calls Try.prog 18 #[] W fun e w' => e = .returned (.bool true) ∧ Below W.heap.size W w' := by
  go_enter Try.func18, Try.ntmps18
  go_wp2_with fail
  refine (st_new 2 (by decide) (by decide) W).mono ?_
  rintro e w1 ⟨p, c, rfl, S1⟩
  go_wp2_with fail
  refine (st_fill (S1.alloc _) _ _ [5, 6, 7] (by decide) (rd_new w1 _ [5, 6, 7]) 2 rfl).mono ?_
  rintro e w2 ⟨rfl, S2⟩
  simp only [List.nil_append, List.take_succ_cons, List.take_zero] at S2
  go_wp2_with fail
  refine (st_put_full S2 7 rfl).mono ?_
  rintro e w' ⟨rfl, hw⟩
  have hw2 := hw.symm
  subst hw2
  go_wp2_with fail
  refine (st_take S2).mono ?_
  rintro e w3 ⟨rfl, S3⟩
  go_wp2_with fail
  refine (st_put_ok S3 7 (by decide)).mono ?_
  rintro e w4 ⟨rfl, S4⟩
  simp only [List.cons_append, List.nil_append] at S4
  go_wp2_with fail
  refine (st_all S4).mono ?_
  rintro e w5 ⟨A5, c5, rfl, R5, S5⟩
  go_wp2_with fail
  refine (same_of A5 _ c5 _ [6, 7] _ (rd_below R5 (below_alloc (Below.refl _ _) _)) (rd_new w5 _ [6, 7]) (by decide)).mono ?_
  rintro e w6 ⟨rfl, B6⟩
  have S6 := (S5.alloc _).below B6
  go_wp2_with fail
  refine (st_all S6).mono ?_
  rintro e w7 ⟨A7, c7, rfl, R7, S7⟩
  go_wp2_with fail
  refine (same_of A7 _ c7 _ [6, 7] _ (rd_below R7 (below_alloc (Below.refl _ _) _)) (rd_new w7 _ [6, 7]) (by decide)).mono ?_
  rintro e w8 ⟨rfl, B8⟩
  have S8 := (S7.alloc _).below B8
  go_wp2
  go_ret
  exact ⟨rfl, S8.bel⟩
end Go.Proofs.Ytebdjhgboeadgaa.BxC
