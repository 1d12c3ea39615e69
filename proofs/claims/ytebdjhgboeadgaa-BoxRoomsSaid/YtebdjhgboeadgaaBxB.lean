/- Fill, Shut, Either, Pour of a box of ints, the document's Same, and the examples of the chapter on boxes. -/
import Derived.Test.YtebdjhgboeadgaaBxA
import Derived.RegionTactic
import Derived.ChangeAlike
import Derived.BigRegion
namespace Go.Proofs.Ytebdjhgboeadgaa.BxB
set_option linter.unusedSimpArgs false
set_option linter.unusedVariables false
open Go Go.RowKit Go.Conc Go.Proofs.Ytebdjhgboeadgaa.Comm Go.Proofs.Ytebdjhgboeadgaa.BxI Go.Proofs.Ytebdjhgboeadgaa.BxA Go.Proofs.YtebdjhgboeadgaaW.PrintWords Go.Proofs.YtebdjhgboeadgaaW.PrintMore
/-- The numbers that a slice leads to. -/
def Rd (w : World) (A : Option Addr) (l : List Int) : Prop := ∀ k, (h : k < l.length) → ∃ ad, A = some ad ∧ w.cell? (ad.add k) = some (.int .i64 l[k])
theorem rd_of_owns {w : World} {base : Nat} {v : Value} {l : List Int} (h : w.ownsRow base 3 1 v l.length (nums .i64 l)) : ∃ A cp, v = .slice A l.length cp ∧ Rd w A l := by
  obtain ⟨h1, h2⟩ := h
  rcases h2 with ⟨rfl, h3⟩ | ⟨g, cp, cur, rfl, _, h3, _, _, h4, h5⟩
  · exact ⟨none, 0, by rw [h3], fun k hk => by omega⟩
  · refine ⟨_, _, rfl, fun k hk => ⟨_, rfl, ?_⟩⟩
    have e : (cur.toList.take (l.length * 1))[k]? = some (.int .i64 l[k]) := by
      rw [h5]
      simp [nums, List.getElem?_eq_getElem hk]
    rw [List.getElem?_take_of_lt (by omega)] at e
    have e2 := (cell_of_row w g k cur _ (0, 0) h3)
    have e3 : (⟨g, 0, none⟩ : Addr).add k = ⟨g, k, none⟩ := by simp only [Addr.add]; split <;> simp_all
    rw [e3, e2]
    simpa using e
theorem rd_below {w w1 : World} {A : Option Addr} {l : List Int} (h : Rd w A l) (hb : Below w.heap.size w w1) : Rd w1 A l := fun k hk => by
  obtain ⟨ad, e, hc⟩ := h k hk
  refine ⟨ad, e, (hb.cell ?_).trans hc⟩
  rcases Nat.lt_or_ge (ad.add k).block w.heap.size with h | h
  · exact h
  · simp [World.cell?, Array.getElem?_eq_none h] at hc
set_option maxRecDepth 20000 in
set_option maxHeartbeats 2000000 in
theorem same_of (A B : Option Addr) (ca cb : Nat) (l : List Int) (w : World) (ha : Rd w A l) (hb : Rd w B l) (hlim : l.length ≤ 5000) :
    Calls Try.prog 54 #[.slice A l.length ca, .slice B l.length cb] w fun e w' => e = .returned (.bool true) ∧ Below w.heap.size w w' := by
  have HA := Aside0.mk ha
  have HC := Aside0.mk hb
  clear ha hb
  go_enter Try.func54, Try.ntmps54
  go_wp2_with fail
  go_loopw [5] (fun v5 wr => ∃ (k : Nat), k ≤ l.length ∧ v5 = .int .i64 k ∧ Aside0 (Below w.heap.size w wr)) (fun v5 _ => l.length - (intOf v5).toNat)
  case atStart => exact ⟨0, Nat.zero_le _, rfl, ⟨Below.refl _ _⟩⟩
  case round =>
    obtain ⟨k, hk, rfl, HB⟩ := hrel
    by_cases hkl : k < l.length
    · obtain ⟨ad, rfl, he⟩ := rd_below HA.out HB.out k hkl
      obtain ⟨bd, rfl, hf⟩ := rd_below HC.out HB.out k hkl
      have e1 : decide ((k : Int) < (l.length : Int)) = true := by simp; omega
      have b0 : (0 : Int) ≤ (k : Int) := by omega
      have b1 : (k : Int) < (l.length : Int) := by omega
      go_wp2
      go_region
      go_wp2
      exact ⟨⟨k + 1, by omega, by push_cast; rfl, ⟨HB.out.drew⟩⟩, by simp [intOf]; omega⟩
    · have e1 : decide ((k : Int) < (l.length : Int)) = false := by simp; omega
      go_wp2
      go_ret
      exact ⟨rfl, HB.out⟩
set_option maxHeartbeats 1000000 in
theorem shut_nil (w : World) : Calls Try.prog 30 #[.pointer none] w fun e w' => e = .returned (.tuple #[]) ∧ w' = w := by
  go_enter Try.func30, Try.ntmps30
  go_wp2
  go_end0
  exact ⟨rfl, rfl⟩
set_option maxHeartbeats 1000000 in
theorem fill_nil (A : Option Addr) (cp : Nat) (l : List Int) (hl : 0 < l.length) (w : World) (ha : Rd w A l) : Calls Try.prog 34 #[.pointer none, .slice A l.length cp] w fun e w' => e = .returned (.int .i64 0) ∧ w' = w := by
  obtain ⟨ad, rfl, he⟩ := ha 0 hl
  have e1 : decide ((0 : Int) < (l.length : Int)) = true := by simp; omega
  have b1 : (0 : Int) < (l.length : Int) := by omega
  have he' : w.cell? ad = some (.int .i64 l[0]) := by simpa [Addr.add] using he
  clear he
  go_enter Try.func34, Try.ntmps34
  go_wp2_with fail
  go_loopw [9] (fun v9 wr => v9 = .int .i64 0 ∧ wr = w) (fun v9 _ => l.length - (intOf v9).toNat)
  case atStart => exact ⟨rfl, rfl⟩
  case round =>
    obtain ⟨rfl, rfl⟩ := hrel
    go_wp2_with (go_at_call 16; refine (put_nil l[0] wr).mono ?_; rintro e w' ⟨rfl, hw⟩; have hw2 := hw.symm; subst hw2)
    go_ret
    exact ⟨rfl, rfl⟩
/-- What a channel holds behind the first k of some numbers more. -/
def fl (buf : Array Value) (l : List Int) (k : Nat) : Array Value := buf ++ ((l.take k).map (Value.int .i64)).toArray
theorem fl_zero (buf : Array Value) (l : List Int) : fl buf l 0 = buf := by simp [fl]
theorem fl_step {l : List Int} {k : Nat} (hk : k < l.length) (buf : Array Value) : (fl buf l k).push (.int .i64 l[k]) = fl buf l (k + 1) := by
  unfold fl
  rw [List.take_succ_eq_append_getElem hk]
  apply Array.ext'
  simp only [Array.toList_push, Array.toList_append, List.map_append, List.map_cons, List.map_nil, List.append_assoc]
theorem fl_size {l : List Int} {k : Nat} (hk : k ≤ l.length) (buf : Array Value) : (fl buf l k).size = buf.size + k := by simp [fl]; omega
set_option maxRecDepth 20000 in
set_option maxHeartbeats 2000000 in
theorem fill_of (p c cap s r : Nat) (buf : Array Value) (A : Option Addr) (cp : Nat) (l : List Int) (hlim : l.length ≤ 5000) (w : World) (h0 : w.cell? ⟨p, 0, none⟩ = some (.chan (some c))) (h1 : w.cell? ⟨p, 1, none⟩ = some (.bool false)) (hc : w.heap[c]? = some (.chan cap buf false s r false)) (hb : buf.size ≤ cap) (ha : Rd w A l) (n : Nat) (hn : n = min l.length (cap - buf.size)) :
    Calls Try.prog 34 #[.pointer (some ⟨p, 0, none⟩), .slice A l.length cp] w fun e w' => e = .returned (.int .i64 n) ∧ w' = w.setChan c cap (fl buf l n) false (s + n) r false := by
  have hcl : c < w.heap.size := (Array.getElem?_eq_some_iff.1 hc).1
  have hcp : c ≠ p := chan_block hc h0
  have HA := Aside0.mk ha
  have HC := Aside0.mk hc
  clear ha
  go_enter Try.func34, Try.ntmps34
  go_wp2_with fail
  go_loopw [9] (fun v9 wr => ∃ (k : Nat), k ≤ n ∧ v9 = .int .i64 k ∧ Aside0 (wr = w.setChan c cap (fl buf l k) false (s + k) r false)) (fun v9 _ => l.length - (intOf v9).toNat)
  case atStart => exact ⟨0, Nat.zero_le _, rfl, ⟨by rw [fl_zero, Nat.add_zero, setChan_self hc]⟩⟩
  case round =>
    obtain ⟨k, hk, rfl, HW⟩ := hrel
    have q0 : wr.cell? ⟨p, 0, none⟩ = some (.chan (some c)) := by rw [HW.out, cell_setChan hcp]; exact h0
    have q1 : wr.cell? ⟨p, 1, none⟩ = some (.bool false) := by rw [HW.out, cell_setChan hcp]; exact h1
    have qc : wr.heap[c]? = some (.chan cap (fl buf l k) false (s + k) r false) := by rw [HW.out]; exact heap_setChan _ _ _ _ _ _ _ _ hcl
    have hsz := fl_size (by omega : k ≤ l.length) buf
    by_cases hkl : k < l.length
    · obtain ⟨ad, rfl, he⟩ := HA.out k hkl
      have hcad : c ≠ (ad.add k).block := chan_block HC.out he
      have he' : wr.cell? (ad.add k) = some (.int .i64 l[k]) := by rw [HW.out, cell_setChan hcad]; exact he
      have e1 : decide ((k : Int) < (l.length : Int)) = true := by simp; omega
      have b0 : (0 : Int) ≤ (k : Int) := by omega
      have b1 : (k : Int) < (l.length : Int) := by omega
      by_cases hroom : buf.size + k < cap
      · go_wp2_with (go_at_call 16; refine (put_ok p c cap _ _ _ l[k] wr q0 q1 qc (by omega)).mono ?_; rintro e w' ⟨rfl, hw⟩; subst hw)
        exact ⟨⟨k + 1, by omega, by push_cast; rfl, ⟨by rw [HW.out, setChan_twice, fl_step hkl]; rfl⟩⟩, by simp [intOf]; omega⟩
      · go_wp2_with (go_at_call 16; refine (put_full p c cap _ _ _ l[k] wr q0 q1 qc (by omega)).mono ?_; rintro e w' ⟨rfl, hw⟩; have hw2 := hw.symm; subst hw2)
        obtain rfl : k = n := by omega
        go_ret
        exact ⟨rfl, HW.out⟩
    · have e1 : decide ((k : Int) < (l.length : Int)) = false := by simp; omega
      go_wp2
      go_ret
      obtain rfl : k = n := by omega
      exact ⟨by rw [show l.length = k by omega]; rfl, HW.out⟩
theorem run_len_nilChan {P : Program} {w : World} {dir : ChanDir} {e : TypeId} (t ty : TypeId) (ht : P.underlying t = some (.chan dir e)) : (Builtin.len_ #[t] ty #[.chan none]).run P w = .ok (goInt 0) w := by
  simp [Builtin.len_, run_underlying ht]
theorem run_cap_nilChan {P : Program} {w : World} {dir : ChanDir} {e : TypeId} (t ty : TypeId) (ht : P.underlying t = some (.chan dir e)) : (Builtin.cap_ #[t] ty #[.chan none]).run P w = .ok (goInt 0) w := by
  simp [Builtin.cap_, run_underlying ht]
set_option maxRecDepth 20000 in
set_option maxHeartbeats 1000000 in
theorem len_nil (w : World) : Calls Try.prog 19 #[.pointer none] w fun e w' => e = .returned (.int .i64 0) ∧ w' = w := by
  have hl := fun ty => run_len_nilChan (P := Try.prog) (w := w) 80 ty Try.underlying80
  go_enter Try.func19, Try.ntmps19
  go_wp2_with (go_at_call 53; refine (channel_nil w).mono ?_; rintro e w' ⟨rfl, hw⟩; have hw2 := hw.symm; subst hw2)
  go_ret
  exact ⟨rfl, rfl⟩
set_option maxHeartbeats 1000000 in
theorem room_nil (w : World) : Calls Try.prog 32 #[.pointer none] w fun e w' => e = .returned (.int .i64 0) ∧ w' = w := by
  have hl := fun ty => run_cap_nilChan (P := Try.prog) (w := w) 80 ty Try.underlying80
  go_enter Try.func32, Try.ntmps32
  go_wp2_with (go_at_call 53; refine (channel_nil w).mono ?_; rintro e w' ⟨rfl, hw⟩; have hw2 := hw.symm; subst hw2)
  go_ret
  exact ⟨rfl, rfl⟩
set_option maxHeartbeats 1000000 in
theorem all_nil (w : World) : Calls Try.prog 33 #[.pointer none] w fun e w' => e = .returned (.slice none 0 0) ∧ w' = w := by
  go_enter Try.func33, Try.ntmps33
  go_wp2_with (go_at_call 19; refine (len_nil w).mono ?_; rintro e w' ⟨rfl, hw⟩; have hw2 := hw.symm; subst hw2)
  go_loopw [3, 8] (fun v3 v8 wr => v3 = .slice none 0 0 ∧ v8 = .int .i64 0 ∧ wr = w) (fun _ _ _ => 0)
  case atStart => exact ⟨rfl, rfl, rfl⟩
  case round =>
    obtain ⟨rfl, rfl, rfl⟩ := hrel
    go_wp2
    go_ret
    exact ⟨rfl, rfl⟩
theorem ne_nil_ptr (b : Addr) (w : World) : (binOp .neq 24 (.pointer none) (.pointer (some b))).run Try.prog w = .ok (.bool true) w := by kernel_rfl
set_option maxRecDepth 20000 in
set_option maxHeartbeats 1000000 in
theorem pour_nil_from (b : Addr) (w : World) : Calls Try.prog 35 #[.pointer none, .pointer (some b)] w fun e w' => e = .returned (.int .i64 0) ∧ w' = w := by
  have hne := ne_nil_ptr b
  go_enter Try.func35, Try.ntmps35
  go_wp2_with fail
  go_loopw [5] (fun v4 wr => v4 = .int .i64 0 ∧ wr = w) (fun _ _ => 0)
  case atStart => exact ⟨rfl, rfl⟩
  case round =>
    obtain ⟨rfl, rfl⟩ := hrel
    go_wp2_with (go_at_call 19; refine (len_nil wr).mono ?_; rintro e w' ⟨rfl, hw⟩; have hw2 := hw.symm; subst hw2)
    go_ret
    exact ⟨rfl, rfl⟩
set_option maxHeartbeats 1000000 in
theorem pour_nil_to (p c cap s r : Nat) (buf : Array Value) (w : World) (h0 : w.cell? ⟨p, 0, none⟩ = some (.chan (some c))) (hc : w.heap[c]? = some (.chan cap buf false s r false)) (n : Nat) (hn : buf.size = n + 1) : Calls Try.prog 35 #[.pointer (some ⟨p, 0, none⟩), .pointer none] w fun e w' => e = .returned (.int .i64 0) ∧ w' = w := by
  have e1 : decide ((0 : Int) < (buf.size : Int)) = true := by simp; omega
  go_enter Try.func35, Try.ntmps35
  go_wp2_with fail
  go_loopw [5] (fun v4 wr => v4 = .int .i64 0 ∧ wr = w) (fun _ _ => 0)
  case atStart => exact ⟨rfl, rfl⟩
  case round =>
    obtain ⟨rfl, rfl⟩ := hrel
    go_wp2_with (go_at_call 19; refine (len_of p c cap s r buf wr h0 hc).mono ?_; rintro e w' ⟨rfl, hw⟩; have hw2 := hw.symm; subst hw2)
    go_ret
    exact ⟨rfl, rfl⟩
set_option maxHeartbeats 1000000 in
theorem either_nil (w : World) : Calls Try.prog 31 #[.pointer none, .pointer none] w fun e w' => e = .returned (.tuple #[.int .i64 0, .int .i64 0, .int .i64 13]) ∧ w' = w := by
  refine calls_of_wpN Try.func31 rfl ?_
  simp only [Try.ntmps31, List.size_toArray, List.length_cons, List.length_nil, Nat.reduceAdd, Nat.reduceSub, Array.replicate_succ, Array.replicate_zero, List.push_toArray, List.append_toArray, List.nil_append, List.cons_append]
  refine wpN_first fun K hK => ?_
  go_wp2
  refine wpN_seq ?_
  refine wpN_first fun K hK => ?_
  go_wp2_with (go_at_call 53; refine (channel_nil w).mono ?_; rintro e w' ⟨rfl, hw⟩; have hw2 := hw.symm; subst hw2)
  refine wpN_seq ?_
  refine wpN_region ?_
  simp only [List.size_toArray, List.length_cons, List.length_nil, Nat.reduceAdd, Nat.zero_add, List.range, List.range.loop]
  refine opsN_comm (cases := #[rcaseNil (.int .i64 0)]) (blocking := false) (shape := .select) (w1 := w) rfl rfl (by simp [go_sem, execOp, rcaseNil, Act.eval]) (fun fr cs es hst => step_lone_select_recv_nil hst) ?_
  refine opsN_rest 1 rfl ?_
  simp only [Act.put, List.setIfInBounds_toArray, List.set_cons_zero, List.set_cons_succ, List.drop_succ_cons, List.drop_zero, List.getElem_toArray, List.getElem_cons_zero]
  go_wp2
  refine wpN_block ?_
  refine wpN_of_wp ?_
  go_wp2
  refine wpN_of_wp ?_
  go_wp2_with (go_at_call 17; refine (take_nil w).mono ?_; rintro e w' ⟨rfl, hw⟩; have hw2 := hw.symm; subst hw2)
  refine bodyPost_ret (v := .tuple #[.int .i64 0, .int .i64 0, .int .i64 13]) (by simp [results, Try.results31, go_sem]) rfl ⟨rfl, rfl⟩
set_option maxHeartbeats 1000000 in
theorem either_second (p c cap s r : Nat) (buf : Array Value) (x : Int) (hx : buf.getD 0 undef = .int .i64 x) (w : World) (h0 : w.cell? ⟨p, 0, none⟩ = some (.chan (some c))) (hc : w.heap[c]? = some (.chan cap buf false s r false)) (hs : 0 < buf.size) :
    Calls Try.prog 31 #[.pointer none, .pointer (some ⟨p, 0, none⟩)] w fun e w' => e = .returned (.tuple #[.int .i64 x, .int .i64 1, .int .i64 0]) ∧ w' = w.setChan c cap (buf.extract 1 buf.size) false s (r + 1) false := by
  refine calls_of_wpN Try.func31 rfl ?_
  simp only [Try.ntmps31, List.size_toArray, List.length_cons, List.length_nil, Nat.reduceAdd, Nat.reduceSub, Array.replicate_succ, Array.replicate_zero, List.push_toArray, List.append_toArray, List.nil_append, List.cons_append]
  refine wpN_first fun K hK => ?_
  go_wp2
  refine wpN_seq ?_
  refine wpN_first fun K hK => ?_
  go_wp2_with (go_at_call 53; refine (channel_nil w).mono ?_; rintro e w' ⟨rfl, hw⟩; have hw2 := hw.symm; subst hw2)
  refine wpN_seq ?_
  refine wpN_region ?_
  simp only [List.size_toArray, List.length_cons, List.length_nil, Nat.reduceAdd, Nat.zero_add, List.range, List.range.loop]
  refine opsN_comm (cases := #[rcaseNil (.int .i64 0)]) (blocking := false) (shape := .select) (w1 := w) rfl rfl (by simp [go_sem, execOp, rcaseNil, Act.eval]) (fun fr cs es hst => step_lone_select_recv_nil hst) ?_
  refine opsN_rest 1 rfl ?_
  simp only [Act.put, List.setIfInBounds_toArray, List.set_cons_zero, List.set_cons_succ, List.drop_succ_cons, List.drop_zero, List.getElem_toArray, List.getElem_cons_zero]
  go_wp2
  refine wpN_block ?_
  refine wpN_of_wp ?_
  go_wp2
  refine wpN_of_wp ?_
  go_wp2_with (go_at_call 17; refine (take_some p c cap s r buf _ hx w h0 hc hs).mono ?_; rintro e w' ⟨rfl, rfl⟩)
  refine bodyPost_ret (v := .tuple #[.int .i64 x, .int .i64 1, .int .i64 0]) (by simp [results, Try.results31, go_sem]) rfl ⟨rfl, rfl⟩
end Go.Proofs.Ytebdjhgboeadgaa.BxB
