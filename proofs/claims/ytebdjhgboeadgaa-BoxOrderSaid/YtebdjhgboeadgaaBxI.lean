/- The contracts of package box at Ytebdjhgboeadgaa's instance int: a channel that nobody else uses. -/
import Derived.Test.YtebdjhgboeadgaaRows
import Derived.Test.YtebdjhgboeadgaaCommN
import Derived.WalkSpells
namespace Go.Proofs.Ytebdjhgboeadgaa.BxI
set_option linter.unusedSimpArgs false
set_option linter.unusedVariables false
open Go Go.RowKit Go.Conc Go.Proofs.Ytebdjhgboeadgaa.Comm
theorem bytesE : ∃ i, Try.prog.info? 3 = some i ∧ i.bytes = 8 := by
  have h : (Try.prog.info? 3).map (·.bytes) = some 8 := by kernel_rfl
  obtain ⟨i, hi, hb⟩ := Option.map_eq_some_iff.1 h
  exact ⟨i, hi, hb⟩
theorem mk (n : Nat) (hn : n ≤ 5000) (w : World) : (Instr.makeChan 80 (.int .i64 n)).run Try.prog w = .ok (.chan (some w.heap.size)) (w.alloc (.chan n #[] false 0 0 false)) := by
  obtain ⟨i, hi, hb⟩ := bytesE
  exact run_makeChan (P := Try.prog) (w := w) Try.underlying80 hi .i64 n (by omega) (by rw [hb]; omega)
set_option maxHeartbeats 1000000 in
theorem new_ok (n : Nat) (h1 : 1 ≤ n) (h2 : n ≤ 5000) (w : World) : Calls Try.prog 15 #[.int .i64 n] w fun e w' => e = .returned (.tuple #[.pointer (some ⟨w.heap.size + 1, 0, none⟩), .int .i64 0]) ∧ w' = (w.alloc (.chan n #[] false 0 0 false)).alloc (.cells #[.chan (some w.heap.size), .bool false] 82) := by
  have hmk := mk n h2
  have e1 : decide ((n : Int) < 1) = false := by simp; omega
  have e2 : decide ((5000 : Int) < (n : Int)) = false := by simp; omega
  go_enter Try.func15, Try.ntmps15
  go_wp2
  go_ret2
  exact ⟨rfl, rfl⟩
set_option maxHeartbeats 1000000 in
theorem new_bad (n : Int) (h : n < 1 ∨ 5000 < n) (w : World) : Calls Try.prog 15 #[.int .i64 n] w fun e w' => e = .returned (.tuple #[.pointer none, .int .i64 1]) ∧ w' = w := by
  rcases h with h | h
  · have e1 : decide (n < 1) = true := by simpa using h
    go_enter Try.func15, Try.ntmps15
    go_wp2
    go_ret2
    exact ⟨rfl, rfl⟩
  · have e1 : decide (n < 1) = false := by simp; omega
    have e2 : decide (5000 < n) = true := by simpa using h
    go_enter Try.func15, Try.ntmps15
    go_wp2
    go_ret2
    exact ⟨rfl, rfl⟩
set_option maxHeartbeats 1000000 in
theorem put_ok (p c cap s r : Nat) (buf : Array Value) (v : Int) (w : World) (h0 : w.cell? ⟨p, 0, none⟩ = some (.chan (some c))) (h1 : w.cell? ⟨p, 1, none⟩ = some (.bool false)) (hc : w.heap[c]? = some (.chan cap buf false s r false)) (hroom : buf.size < cap) :
    Calls Try.prog 16 #[.pointer (some ⟨p, 0, none⟩), .int .i64 v] w fun e w' => e = .returned (.int .i64 0) ∧ w' = w.setChan c cap (buf.push (.int .i64 v)) false (s + 1) r false := by
  refine calls_of_wpN Try.func16 rfl ?_
  simp only [Try.ntmps16, List.size_toArray, List.length_cons, List.length_nil, Nat.reduceAdd, Nat.reduceSub, Array.replicate_succ, Array.replicate_zero, List.push_toArray, List.append_toArray, List.nil_append, List.cons_append]
  refine wpN_first fun K hK => ?_
  go_wp2
  refine wpN_first fun K hK => ?_
  go_wp2
  refine wpN_first fun K hK => ?_
  go_wp2
  refine wpN_seq ?_
  refine wpN_region ?_
  simp only [List.size_toArray, List.length_cons, List.length_nil, Nat.reduceAdd, Nat.zero_add, List.range, List.range.loop]
  refine opsN_comm (cases := #[scase c (.int .i64 v) (.int .i64 0)]) (blocking := false) (shape := .select) (w1 := w) rfl rfl (by simp [go_sem, execOp, scase, Act.eval]) (fun fr cs es hst => step_lone_select_send_room hst hc hroom) ?_
  refine opsN_rest 1 rfl ?_
  simp only [Act.put, List.setIfInBounds_toArray, List.set_cons_zero, List.set_cons_succ, List.drop_succ_cons, List.drop_zero, List.getElem_toArray, List.getElem_cons_zero]
  go_wp2
  refine wpN_of_wp ?_
  go_wp2
  go_ret
  exact ⟨rfl, rfl⟩
set_option maxHeartbeats 1000000 in
theorem put_full (p c cap s r : Nat) (buf : Array Value) (v : Int) (w : World) (h0 : w.cell? ⟨p, 0, none⟩ = some (.chan (some c))) (h1 : w.cell? ⟨p, 1, none⟩ = some (.bool false)) (hc : w.heap[c]? = some (.chan cap buf false s r false)) (hfull : cap ≤ buf.size) :
    Calls Try.prog 16 #[.pointer (some ⟨p, 0, none⟩), .int .i64 v] w fun e w' => e = .returned (.int .i64 7) ∧ w' = w := by
  refine calls_of_wpN Try.func16 rfl ?_
  simp only [Try.ntmps16, List.size_toArray, List.length_cons, List.length_nil, Nat.reduceAdd, Nat.reduceSub, Array.replicate_succ, Array.replicate_zero, List.push_toArray, List.append_toArray, List.nil_append, List.cons_append]
  refine wpN_first fun K hK => ?_
  go_wp2
  refine wpN_first fun K hK => ?_
  go_wp2
  refine wpN_first fun K hK => ?_
  go_wp2
  refine wpN_seq ?_
  refine wpN_region ?_
  simp only [List.size_toArray, List.length_cons, List.length_nil, Nat.reduceAdd, Nat.zero_add, List.range, List.range.loop]
  refine opsN_comm (cases := #[scase c (.int .i64 v) (.int .i64 0)]) (blocking := false) (shape := .select) (w1 := w) rfl rfl (by simp [go_sem, execOp, scase, Act.eval]) (fun fr cs es hst => step_lone_select_send_full hst hc hfull) ?_
  refine opsN_rest 1 rfl ?_
  simp only [Act.put, List.setIfInBounds_toArray, List.set_cons_zero, List.set_cons_succ, List.drop_succ_cons, List.drop_zero, List.getElem_toArray, List.getElem_cons_zero]
  go_wp2
  refine wpN_of_wp ?_
  go_wp2
  go_ret
  exact ⟨rfl, rfl⟩
set_option maxHeartbeats 1000000 in
theorem put_nil (v : Int) (w : World) : Calls Try.prog 16 #[.pointer none, .int .i64 v] w fun e w' => e = .returned (.int .i64 10) ∧ w' = w := by
  go_enter Try.func16, Try.ntmps16
  go_wp2
  go_ret
  exact ⟨rfl, rfl⟩
set_option maxHeartbeats 1000000 in
theorem channel_of (p c : Nat) (w : World) (h0 : w.cell? ⟨p, 0, none⟩ = some (.chan (some c))) : Calls Try.prog 53 #[.pointer (some ⟨p, 0, none⟩)] w fun e w' => e = .returned (.chan (some c)) ∧ w' = w := by
  go_enter Try.func53, Try.ntmps53
  go_wp2
  go_ret
  exact ⟨rfl, rfl⟩
set_option maxHeartbeats 1000000 in
theorem channel_nil (w : World) : Calls Try.prog 53 #[.pointer none] w fun e w' => e = .returned (.chan none) ∧ w' = w := by
  go_enter Try.func53, Try.ntmps53
  go_wp2
  go_ret
  exact ⟨rfl, rfl⟩
set_option maxHeartbeats 1000000 in
theorem len_of (p c cap s r : Nat) (buf : Array Value) (w : World) (h0 : w.cell? ⟨p, 0, none⟩ = some (.chan (some c))) (hc : w.heap[c]? = some (.chan cap buf false s r false)) : Calls Try.prog 19 #[.pointer (some ⟨p, 0, none⟩)] w fun e w' => e = .returned (.int .i64 buf.size) ∧ w' = w := by
  have hl := fun ty => run_len_chan (P := Try.prog) (w := w) 80 ty Try.underlying80 hc
  go_enter Try.func19, Try.ntmps19
  go_wp2_with (go_at_call 53; refine (channel_of p c w h0).mono ?_; rintro e w' ⟨rfl, hw⟩; have hw2 := hw.symm; subst hw2)
  go_ret
  exact ⟨rfl, rfl⟩
set_option maxHeartbeats 1000000 in
theorem room_of (p c cap s r : Nat) (buf : Array Value) (w : World) (h0 : w.cell? ⟨p, 0, none⟩ = some (.chan (some c))) (hc : w.heap[c]? = some (.chan cap buf false s r false)) : Calls Try.prog 32 #[.pointer (some ⟨p, 0, none⟩)] w fun e w' => e = .returned (.int .i64 cap) ∧ w' = w := by
  have hl := fun ty => run_cap_chan (P := Try.prog) (w := w) 80 ty Try.underlying80 hc
  go_enter Try.func32, Try.ntmps32
  go_wp2_with (go_at_call 53; refine (channel_of p c w h0).mono ?_; rintro e w' ⟨rfl, hw⟩; have hw2 := hw.symm; subst hw2)
  go_ret
  exact ⟨rfl, rfl⟩
set_option maxHeartbeats 1000000 in
theorem take_some (p c cap s r : Nat) (buf : Array Value) (x : Value) (hx : buf.getD 0 undef = x) (w : World) (h0 : w.cell? ⟨p, 0, none⟩ = some (.chan (some c))) (hc : w.heap[c]? = some (.chan cap buf false s r false)) (hs : 0 < buf.size) :
    Calls Try.prog 17 #[.pointer (some ⟨p, 0, none⟩)] w fun e w' => e = .returned (.tuple #[x, .int .i64 0]) ∧ w' = w.setChan c cap (buf.extract 1 buf.size) false s (r + 1) false := by
  refine calls_of_wpN Try.func17 rfl ?_
  simp only [Try.ntmps17, List.size_toArray, List.length_cons, List.length_nil, Nat.reduceAdd, Nat.reduceSub, Array.replicate_succ, Array.replicate_zero, List.push_toArray, List.append_toArray, List.nil_append, List.cons_append]
  refine wpN_first fun K hK => ?_
  go_wp2
  refine wpN_first fun K hK => ?_
  go_wp2_with (go_at_call 53; refine (channel_of p c w h0).mono ?_; rintro e w' ⟨rfl, hw⟩; have hw2 := hw.symm; subst hw2)
  refine wpN_seq ?_
  refine wpN_region ?_
  simp only [List.size_toArray, List.length_cons, List.length_nil, Nat.reduceAdd, Nat.zero_add, List.range, List.range.loop]
  refine opsN_comm (cases := #[rcase c (.int .i64 0)]) (blocking := false) (shape := .select) (w1 := w) rfl rfl (by simp [go_sem, execOp, rcase, Act.eval]) (fun fr cs es hst => step_lone_select_recv_buf hst hc hs) ?_
  rw [hx]
  refine opsN_rest 1 rfl ?_
  simp only [Act.put, List.setIfInBounds_toArray, List.set_cons_zero, List.set_cons_succ, List.drop_succ_cons, List.drop_zero, List.getElem_toArray, List.getElem_cons_zero]
  go_wp2
  refine wpN_of_wp ?_
  go_wp2
  go_ret2
  exact ⟨rfl, rfl⟩
set_option maxHeartbeats 1000000 in
theorem take_none (p c cap s r : Nat) (w : World) (h0 : w.cell? ⟨p, 0, none⟩ = some (.chan (some c))) (hc : w.heap[c]? = some (.chan cap #[] false s r false)) :
    Calls Try.prog 17 #[.pointer (some ⟨p, 0, none⟩)] w fun e w' => e = .returned (.tuple #[.int .i64 0, .int .i64 13]) ∧ w' = w := by
  refine calls_of_wpN Try.func17 rfl ?_
  simp only [Try.ntmps17, List.size_toArray, List.length_cons, List.length_nil, Nat.reduceAdd, Nat.reduceSub, Array.replicate_succ, Array.replicate_zero, List.push_toArray, List.append_toArray, List.nil_append, List.cons_append]
  refine wpN_first fun K hK => ?_
  go_wp2
  refine wpN_first fun K hK => ?_
  go_wp2_with (go_at_call 53; refine (channel_of p c w h0).mono ?_; rintro e w' ⟨rfl, hw⟩; have hw2 := hw.symm; subst hw2)
  refine wpN_seq ?_
  refine wpN_region ?_
  simp only [List.size_toArray, List.length_cons, List.length_nil, Nat.reduceAdd, Nat.zero_add, List.range, List.range.loop]
  refine opsN_comm (cases := #[rcase c (.int .i64 0)]) (blocking := false) (shape := .select) (w1 := w) rfl rfl (by simp [go_sem, execOp, rcase, Act.eval]) (fun fr cs es hst => step_lone_select_default hst hc) ?_
  refine opsN_rest 1 rfl ?_
  simp only [Act.put, List.setIfInBounds_toArray, List.set_cons_zero, List.set_cons_succ, List.drop_succ_cons, List.drop_zero, List.getElem_toArray, List.getElem_cons_zero]
  go_wp2
  refine wpN_of_wp ?_
  go_wp2
  go_ret2
  exact ⟨rfl, rfl⟩
set_option maxHeartbeats 1000000 in
theorem take_nil (w : World) :
    Calls Try.prog 17 #[.pointer none] w fun e w' => e = .returned (.tuple #[.int .i64 0, .int .i64 13]) ∧ w' = w := by
  refine calls_of_wpN Try.func17 rfl ?_
  simp only [Try.ntmps17, List.size_toArray, List.length_cons, List.length_nil, Nat.reduceAdd, Nat.reduceSub, Array.replicate_succ, Array.replicate_zero, List.push_toArray, List.append_toArray, List.nil_append, List.cons_append]
  refine wpN_first fun K hK => ?_
  go_wp2
  refine wpN_first fun K hK => ?_
  go_wp2_with (go_at_call 53; refine (channel_nil w).mono ?_; rintro e w' ⟨rfl, hw⟩; have hw2 := hw.symm; subst hw2)
  refine wpN_seq ?_
  refine wpN_region ?_
  simp only [List.size_toArray, List.length_cons, List.length_nil, Nat.reduceAdd, Nat.zero_add, List.range, List.range.loop]
  refine opsN_comm (cases := #[rcaseNil (.int .i64 0)]) (blocking := false) (shape := .select) (w1 := w) rfl rfl (by simp [go_sem, execOp, rcaseNil, Act.eval]) (fun fr cs es hst => step_lone_select_recv_nil hst) ?_
  refine opsN_rest 1 rfl ?_
  simp only [Act.put, List.setIfInBounds_toArray, List.set_cons_zero, List.set_cons_succ, List.drop_succ_cons, List.drop_zero, List.getElem_toArray, List.getElem_cons_zero]
  go_wp2
  refine wpN_of_wp ?_
  go_wp2
  go_ret2
  exact ⟨rfl, rfl⟩
end Go.Proofs.Ytebdjhgboeadgaa.BxI

