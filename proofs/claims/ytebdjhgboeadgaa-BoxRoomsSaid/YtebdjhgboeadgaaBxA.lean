/- All things of a box of ints: each is taken, and put behind the others. -/
import Derived.Test.YtebdjhgboeadgaaBxI
import Derived.Test.YtebdjhgboeadgaaWWords
import Derived.Test.YtebdjhgboeadgaaWMore
namespace Go.Proofs.Ytebdjhgboeadgaa.BxA
set_option linter.unusedSimpArgs false
set_option linter.unusedVariables false
open Go Go.RowKit Go.Conc Go.Proofs.Ytebdjhgboeadgaa.Comm Go.Proofs.Ytebdjhgboeadgaa.BxI Go.Proofs.YtebdjhgboeadgaaW.PrintWords Go.Proofs.YtebdjhgboeadgaaW.PrintMore
section
variable {w wr : World} {c cap s r cap' s' r' B : Nat} {buf buf' : Array Value} {cl tm cl' tm' : Bool}
theorem cell_setChan {q : Addr} (h : c ≠ q.block) : (w.setChan c cap buf cl s r tm).cell? q = w.cell? q := by
  simp only [World.cell?, World.setChan, Array.getElem?_setIfInBounds_ne h]
theorem below_chan (h : Below B (w.setChan c cap buf cl s r tm) wr) (hc : c < w.heap.size) : Below B (w.setChan c cap' buf' cl' s' r' tm') (wr.setChan c cap' buf' cl' s' r' tm') :=
  ⟨h.os, h.tape, h.output, by simpa [World.setChan] using h.size, fun k hk => by
    have hs : w.heap.size ≤ wr.heap.size := by simpa [World.setChan] using h.size
    by_cases e : c = k
    · subst e
      have h2 : c < wr.heap.size := by omega
      simp [World.setChan, hc, h2]
    · have := h.block k hk
      simp only [World.setChan, Array.getElem?_setIfInBounds_ne e] at this ⊢
      exact this⟩
theorem setChan_self (h : w.heap[c]? = some (.chan cap buf cl s r tm)) : w.setChan c cap buf cl s r tm = w := by
  have : w.heap.setIfInBounds c (.chan cap buf cl s r tm) = w.heap := by
    apply Array.ext_getElem?
    intro i
    by_cases e : c = i
    · subst e
      have h2 : c < w.heap.size := (Array.getElem?_eq_some_iff.1 h).1
      rw [Array.getElem?_setIfInBounds_self_of_lt h2, h]
    · rw [Array.getElem?_setIfInBounds_ne e]
  simp [World.setChan, this]
theorem setChan_twice : (w.setChan c cap buf cl s r tm).setChan c cap' buf' cl' s' r' tm' = w.setChan c cap' buf' cl' s' r' tm' := by
  simp [World.setChan]
theorem ownsRow_setChan {base size n : Nat} {e : TypeId} {v : Value} {xs : List Value} (h : w.ownsRow base e size v n xs) (hc : w.heap[c]? = some (.chan cap' buf' cl' s' r' tm')) : (w.setChan c cap buf cl s r tm).ownsRow base e size v n xs := by
  refine ⟨h.1, h.2.imp id ?_⟩
  rintro ⟨g, cp, cur, h1, h2, h3, h4⟩
  refine ⟨g, cp, cur, h1, h2, ?_, h4⟩
  have e : c ≠ g := by rintro rfl; rw [hc] at h3; cases h3
  simp only [World.setChan, Array.getElem?_setIfInBounds_ne e]
  exact h3
theorem chan_block {q : Addr} {v : Value} (hc : w.heap[c]? = some (.chan cap buf cl s r tm)) (hq : w.cell? q = some v) : c ≠ q.block := by
  rintro e
  simp only [World.cell?, ← e, hc] at hq
  cases hq
end
theorem rot (l : List Int) (k : Nat) (hk : k < l.length) : ((((l.drop k ++ l.take k).map (Value.int .i64)).toArray.extract 1 ((l.drop k ++ l.take k).map (Value.int .i64)).toArray.size).push (.int .i64 l[k])) = ((l.drop (k + 1) ++ l.take (k + 1)).map (Value.int .i64)).toArray := by
  rw [List.drop_eq_getElem_cons hk, List.take_succ_eq_append_getElem hk]
  apply Array.ext'
  simp only [List.map_append, List.map_cons, List.map_nil, List.cons_append, List.extract_toArray, List.size_toArray, List.length_cons, List.push_toArray, List.extract_eq_take_drop, List.drop_one, List.tail_cons, Nat.add_sub_cancel, List.append_assoc]
  rw [List.take_of_length_le (Nat.le_refl _)]
  simp only [List.append_assoc]
theorem infoI : (Try.prog.info? 3).map (fun i => (i.zero, i.size, i.bytes)) = some (some (.int .i64 0), 1, 8) := by kernel_rfl
set_option maxRecDepth 20000 in
set_option maxHeartbeats 4000000 in
theorem all_of (p c cap s r : Nat) (l : List Int) (w : World) (h0 : w.cell? ⟨p, 0, none⟩ = some (.chan (some c))) (hc : w.heap[c]? = some (.chan cap (l.map (Value.int .i64)).toArray false s r false)) (hl : l.length ≤ cap) (hlim : l.length ≤ 5000) :
    Calls Try.prog 33 #[.pointer (some ⟨p, 0, none⟩)] w fun e w' => ∃ v, e = .returned v ∧ w'.ownsRow w.heap.size 3 1 v l.length (nums .i64 l) ∧ Below w.heap.size (w.setChan c cap (l.map (Value.int .i64)).toArray false (s + l.length) (r + l.length) false) w' := by
  have hcl : c < w.heap.size := (Array.getElem?_eq_some_iff.1 hc).1
  have hcp : c ≠ p := chan_block hc h0
  have hlp : p < w.heap.size := by
    rcases Nat.lt_or_ge p w.heap.size with h | h
    · exact h
    · simp [World.cell?, Array.getElem?_eq_none h] at h0
  refine calls_of_wpN Try.func33 rfl ?_
  simp only [Try.ntmps33, List.size_toArray, List.length_cons, List.length_nil, Nat.reduceAdd, Nat.reduceSub, Array.replicate_succ, Array.replicate_zero, List.push_toArray, List.append_toArray, List.nil_append, List.cons_append]
  refine wpN_first fun K hK => ?_
  go_wp2
  refine wpN_first fun K hK => ?_
  go_wp2
  refine wpN_seq ?_
  refine wpN_first fun K hK => ?_
  go_wp2_with (go_at_call 19; refine (len_of p c cap s r _ w h0 hc).mono ?_; rintro e w' ⟨rfl, hw⟩; have hw2 := hw.symm; subst hw2)
  refine wpN_block ?_
  refine wpN_loop (fun a wr => ∃ (k : Nat) (v d4 d5 d9 d10 d11 d12 d13 d14 d15 d16 d17 d18 d19 d20 d21 d22 d23 d24 : Value), a = { tmps := #[.pointer (some ⟨p, 0, none⟩), undef, .slice none 0 0, v, d4, d5, .pointer (some ⟨p, 0, none⟩), .int .i64 l.length, .int .i64 k, d9, d10, d11, d12, d13, d14, d15, d16, d17, d18, d19, d20, d21, d22, d23, d24, undef], defers := [] } ∧ k ≤ l.length ∧ wr.ownsRow w.heap.size 3 1 v k (nums .i64 (l.take k)) ∧ Below w.heap.size (w.setChan c cap ((l.drop k ++ l.take k).map (Value.int .i64)).toArray false (s + k) (r + k) false) wr) (fun a _ => l.length - (intOf (a.tmps.getD 8 undef)).toNat) ?_ ?_
  · refine ⟨0, _, _, _, _, _, _, _, _, _, _, _, _, _, _, _, _, _, _, _, rfl, Nat.zero_le _, by simpa [nums] using World.ownsRow_nil w _ _ 1, ?_⟩
    simp only [List.drop_zero, List.take_zero, List.append_nil, Nat.add_zero]
    rw [setChan_self hc]
    exact Below.refl _ _
  · rintro a wr ⟨k, v, d4, d5, d9, d10, d11, d12, d13, d14, d15, d16, d17, d18, d19, d20, d21, d22, d23, d24, ha, hk, HO, HB⟩
    have hv : ∃ A cp, v = .slice A k cp := by rcases HO.2 with ⟨rfl, rfl⟩ | ⟨g, cp, cur, rfl, _⟩ <;> exact ⟨_, _, rfl⟩
    obtain ⟨vA, vc, rfl⟩ := hv
    subst ha
    have q0 : wr.cell? ⟨p, 0, none⟩ = some (.chan (some c)) := (HB.cell (p := ⟨p, 0, none⟩) hlp).trans ((cell_setChan hcp).trans h0)
    by_cases hkl : k < l.length
    · have e1 : decide ((k : Int) < (l.length : Int)) = true := by simp; omega
      have hx : ((l.drop k ++ l.take k).map (Value.int .i64)).toArray.getD 0 undef = .int .i64 l[k] := by rw [List.drop_eq_getElem_cons hkl]; rfl
      have hrot := rot l k hkl
      have hbs : ((l.drop k ++ l.take k).map (Value.int .i64)).toArray.size = l.length := by simp; omega
      generalize ((l.drop k ++ l.take k).map (Value.int .i64)).toArray = b0 at hx hrot hbs HB
      have hbs1 : (b0.extract 1 b0.size).size = l.length - 1 := by rw [Array.size_extract, hbs]; omega
      obtain ⟨b1, hb1⟩ : ∃ b1, b0.extract 1 b0.size = b1 := ⟨_, rfl⟩
      rw [hb1] at hrot hbs1
      have qc : wr.heap[c]? = some (.chan cap b0 false (s + k) (r + k) false) := (HB.block c hcl).trans (heap_setChan _ _ _ _ _ _ _ _ hcl)
      have HO' : (wr.setChan c cap b1 false (s + k) (r + k + 1) false).ownsRow w.heap.size 3 1 (.slice vA k vc) (l.take k).length (nums .i64 (l.take k)) := ownsRow_setChan (by rw [List.length_take, Nat.min_eq_left hk]; exact HO) qc
      have HB' := below_chan (cap' := cap) (buf' := b1) (cl' := false) (s' := s + k) (r' := r + k + 1) (tm' := false) HB hcl
      have hsz : w.heap.size ≤ (wr.setChan c cap b1 false (s + k) (r + k + 1) false).heap.size := by simpa [World.setChan] using HB'.size
      have Hb1 := Aside0.mk hb1
      have Hrot := Aside0.mk hrot
      clear hb1 hrot
      refine wpN_first fun K hK => ?_
      go_wp2
      refine wpN_first fun K hK => ?_
      go_wp2
      refine wpN_seq ?_
      refine wpN_block ?_
      refine wpN_first fun K hK => ?_
      go_wp2_with (go_at_call 17; refine (take_some p c cap _ _ _ _ hx wr q0 qc (by omega)).mono ?_; rintro e w' ⟨rfl, hw⟩; rw [Hb1.out] at hw; subst hw)
      refine wpN_first fun K hK => ?_
      go_wp2_with ((with_reducible refine gate_builtin (b := .append) (xs := #[.tmp 15, .tmp 17]) rfl ?_); (at_builtin; refine print_append_num w.heap.size rfl (.tmp 15) (.tmp 17) 49 3 .i64 8 rfl Try.underlying49 infoI (by decide) (.slice vA k vc) (l.take k) l[k] rfl rfl HO' HB' hsz (by rw [List.length_take]; omega) ?_; intro v1 w1 ho hb hg hat))
      have p0 : w1.cell? ⟨p, 0, none⟩ = some (.chan (some c)) := (hb.cell (p := ⟨p, 0, none⟩) hlp).trans ((cell_setChan hcp).trans h0)
      have pc := (hb.block c hcl).trans (heap_setChan _ _ _ _ _ _ _ _ hcl)
      refine wpN_region ?_
      simp only [List.size_toArray, List.length_cons, List.length_nil, Nat.reduceAdd, Nat.zero_add, List.range, List.range.loop]
      refine opsN_value (v := .pointer (some ⟨p, 0, none⟩)) (w' := w1) rfl rfl (by simp [go_sem, execOp, Act.eval]) ?_
      simp only [Act.put, List.setIfInBounds_toArray, List.set_cons_succ, List.getElem_toArray, List.getElem_cons_zero, List.getElem_cons_succ]
      refine opsN_value (v := .pointer (some ⟨p, 0, none⟩)) (w' := w1) rfl rfl (by simp [go_sem, execOp, Act.eval]) ?_
      simp only [Act.put, List.setIfInBounds_toArray, List.set_cons_succ, List.getElem_toArray, List.getElem_cons_zero, List.getElem_cons_succ]
      refine opsN_value (v := .pointer (some ⟨p, 0, none⟩)) (w' := w1) rfl rfl (by simp [go_sem, execOp, Act.eval]) ?_
      simp only [Act.put, List.setIfInBounds_toArray, List.set_cons_succ, List.getElem_toArray, List.getElem_cons_zero, List.getElem_cons_succ]
      refine opsN_value (v := .chan (some c)) (w' := w1) rfl rfl (by simp [go_sem, execOp, Act.eval, p0]) ?_
      simp only [Act.put, List.setIfInBounds_toArray, List.set_cons_succ, List.getElem_toArray, List.getElem_cons_zero, List.getElem_cons_succ]
      refine opsN_value (v := .int .i64 l[k]) (w' := w1) rfl rfl (by simp [go_sem, execOp, Act.eval]) ?_
      simp only [Act.put, List.setIfInBounds_toArray, List.set_cons_succ, List.getElem_toArray, List.getElem_cons_zero, List.getElem_cons_succ]
      refine opsN_comm (cases := #[scase c (.int .i64 l[k]) (.tuple #[])]) (blocking := true) (shape := .send) (w1 := w1) rfl rfl (by simp [go_sem, execOp, scase, Act.eval]) (fun fr cs es hst => step_lone_send_room hst pc (by omega)) ?_
      simp only [Act.put, List.setIfInBounds_toArray, List.set_cons_succ, List.getElem_toArray, List.getElem_cons_zero, List.getElem_cons_succ]
      refine opsN_rest 6 rfl ?_
      simp only [List.drop_succ_cons, List.drop_zero, List.drop_nil]
      go_wp2
      refine wpN_of_wp ?_
      go_wp2
      refine ⟨⟨k + 1, v1, ⟨_, _, _, _, _, _, _, _, _, _, _, _, _, _, _, _, _, _, rfl⟩, by omega, ?_, ?_⟩, ?_⟩
      · have h := ownsRow_setChan (cap := cap) (buf := b1.push (.int .i64 l[k])) (cl := false) (s := s + k + 1) (r := r + k + 1) (tm := false) ho pc
        rw [← List.take_succ_eq_append_getElem hkl, List.length_take, Nat.min_eq_left (by omega)] at h
        exact h
      · have e := Hrot.out
        simp only [List.map_append, List.map_drop, List.map_take] at e
        rw [← e]
        exact below_chan hb hcl
      · simp [intOf]
        omega
    · have e1 : decide ((k : Int) < (l.length : Int)) = false := by simp; omega
      obtain rfl : k = l.length := by omega
      refine wpN_first fun K hK => ?_
      go_wp2
      refine wpN_of_wp ?_
      go_wp2
      refine wpN_of_wp ?_
      go_wp2
      refine bodyPost_ret (v := .slice vA l.length vc) (by simp [results, Try.results33, go_sem]) rfl ⟨_, rfl, ?_, ?_⟩
      · simpa using HO
      · simpa using HB
end Go.Proofs.Ytebdjhgboeadgaa.BxA
