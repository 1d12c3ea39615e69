/- Texts of this seat, put together (Zc14). -/
import Derived.Test.YtcbpmmcpidfllaaZc3
import Derived.Test.YtcbpmmcpidfllaaZc11
import Derived.Test.YtcbpmmcpidfllaaZc12
import Derived.Test.YtcbpmmcpidfllaaZc13
section
namespace Go.Proofs.Ytcbpmmcpidfllaa.Rp
set_option linter.unusedVariables false
set_option linter.unusedSimpArgs false
open Go Go.RowKit Go.Proofs.YtcbpmmcpidfllaaW.PrintWords Go.Proofs.YtcbpmmcpidfllaaW.PrintLast Go.Proofs.Ytcbpmmcpidfllaa.Hd Go.Proofs.Ytcbpmmcpidfllaa.Os Go.Proofs.Ytcbpmmcpidfllaa.Tb Go.Proofs.Ytcbpmmcpidfllaa.Tm Go.Proofs.Ytcbpmmcpidfllaa.Ro Go.Proofs.Ytcbpmmcpidfllaa.Ip Go.Proofs.Ytcbpmmcpidfllaa.Rs Go.Proofs.Ytcbpmmcpidfllaa.Rn
def Ends {α : Type} (g : Nat → Option α) (v : α) : Prop := ∃ K, ∀ k, K ≤ k → g k = some v
theorem Ends.step {α : Type} {g g' : Nat → Option α} {v : α} (K0 : Nat) (h : Ends g v) (e : ∀ k, K0 ≤ k → g' (k + 1) = g k) : Ends g' v := by
  obtain ⟨K, hK⟩ := h
  refine ⟨max K K0 + 1, fun k hk => ?_⟩
  obtain ⟨k, rfl⟩ : ∃ m, k = m + 1 := ⟨k - 1, by omega⟩
  rw [e k (by omega)]
  exact hK k (by omega)
theorem Ends.now {α : Type} {g : Nat → Option α} {v : α} (K0 : Nat) (e : ∀ k, K0 ≤ k → g (k + 1) = some v) : Ends g v :=
  ⟨K0 + 1, fun k hk => by
    obtain ⟨k, rfl⟩ : ∃ m, k = m + 1 := ⟨k - 1, by omega⟩
    exact e k (by omega)⟩
theorem wrap_succ {i : Nat} (h : i ≤ 1000000) : wrap64 ((i : Int) + 1) = ((i + 1 : Nat) : Int) := by unfold wrap64; omega
theorem rd_is {is : List ByteArray} {i : Nat} (h : i < is.length) : rdOf ByteArray.empty is (i : Int) = is[i] := by
  unfold rdOf
  rw [Int.toNat_natCast, List.getD_eq_getElem?_getD, List.getElem?_eq_getElem h]
  rfl
theorem rd_ms {ms : List S63} {i : Nat} (h : i < ms.length) : rd_T63 ms (i : Int) = ms[i] := by
  unfold rd_T63
  rw [Int.toNat_natCast, List.getD_eq_getElem?_getD, List.getElem?_eq_getElem h]
  rfl
theorem same_s {a b : ByteArray} : a.toList = b.toList ↔ a = b := ⟨fun h => good_S.one _ _ (cmpS_eq.2 h), fun h => by rw [h]⟩
section
variable {nodes : Int} {is : List ByteArray} {ms : List S63} {v : Int}
theorem l1_step {i j : Nat} (hi : i < is.length) (hl : is.length ≤ 1000) (hji : j < i) (k : Nat) : clevisref08_Check.l1 (k + 1) i j nodes is ms = if is[j] = is[i] then some 6 else clevisref08_Check.l1 k i ((j + 1 : Nat) : Int) nodes is ms := by
  simp only [clevisref08_Check.l1]
  rw [if_pos (by omega), if_pos (by omega), if_pos (by omega), if_pos (by omega), if_pos (by omega), rd_is hi, rd_is (show j < is.length by omega), wrap_succ (by omega)]
  simp only [same_s]
theorem l1_dup {i : Nat} (hi : i < is.length) (hl : is.length ≤ 1000) :
    ∀ n j, j + n = i → is[i] ∈ (is.take i).drop j → Ends (fun k => clevisref08_Check.l1 k i j nodes is ms) 6 := by
  intro n
  induction n with
  | zero =>
    intro j hj hm
    rw [List.drop_of_length_le (by rw [List.length_take]; omega)] at hm
    cases hm
  | succ n ih =>
    intro j hj hm
    have hji : j < i := by omega
    have hjt : j < (is.take i).length := by rw [List.length_take]; omega
    rw [List.drop_eq_getElem_cons hjt, List.getElem_take, List.mem_cons] at hm
    by_cases e : is[j] = is[i]
    · exact Ends.now 0 fun k _ => by show clevisref08_Check.l1 (k + 1) i j nodes is ms = _; rw [l1_step hi hl hji, if_pos e]
    · exact (ih (j + 1) (by omega) (hm.resolve_left fun q => e q.symm)).step 0 fun k _ => by show clevisref08_Check.l1 (k + 1) i j nodes is ms = _; rw [l1_step hi hl hji, if_neg e]
theorem l1_no {i : Nat} (hi : i < is.length) (hl : is.length ≤ 1000) (h0 : Ends (fun k => clevisref08_Check.l0 k ((i + 1 : Nat) : Int) nodes is ms) v) :
    ∀ n j, j + n = i → is[i] ∉ (is.take i).drop j → Ends (fun k => clevisref08_Check.l1 k i j nodes is ms) v := by
  intro n
  induction n with
  | zero =>
    intro j hj hm
    obtain rfl : j = i := by omega
    refine h0.step 0 fun k _ => ?_
    simp only [clevisref08_Check.l1]
    rw [if_neg (by omega), wrap_succ (by omega)]
  | succ n ih =>
    intro j hj hm
    have hji : j < i := by omega
    have hjt : j < (is.take i).length := by rw [List.length_take]; omega
    rw [List.drop_eq_getElem_cons hjt, List.getElem_take, List.mem_cons] at hm
    have e : ¬ is[j] = is[i] := fun q => hm (.inl q.symm)
    exact (ih (j + 1) (by omega) fun q => hm (.inr q)).step 0 fun k _ => by show clevisref08_Check.l1 (k + 1) i j nodes is ms = _; rw [l1_step hi hl hji, if_neg e]
theorem l0_ends (hl : is.length ≤ 1000) (h2 : Ends (fun k => clevisref08_Check.l2 k 0 nodes is ms) v) :
    ∀ n i li, i + n = is.length → Ok li i → (∀ s, s ∈ li.map (·.1) ↔ s ∈ is.take i) → Ends (fun k => clevisref08_Check.l0 k (i : Nat) nodes is ms) (if (isE li (is.drop i)).1 ≠ 0 then (isE li (is.drop i)).1 else v) := by
  intro n
  induction n with
  | zero =>
    intro i li hi hok hk
    rw [List.drop_of_length_le (by omega), isE, if_neg (by simp)]
    refine h2.step 0 fun k _ => ?_
    simp only [clevisref08_Check.l0]
    rw [if_neg (by omega)]
  | succ n ih =>
    intro i li hi hok hk
    have hil : i < is.length := by omega
    have hstep : ∀ k, 61 ≤ k → clevisref08_Check.l0 (k + 1) (i : Nat) nodes is ms = if isinE is[i] = 0 then clevisref08_Check.l1 k (i : Nat) 0 nodes is ms else some (isinE is[i]) := fun k hk => by
      simp only [clevisref08_Check.l0]
      rw [if_pos (by omega), if_pos (by omega), rd_is hil, rIsin _ k hk, Option.bind_some]
    rw [List.drop_eq_getElem_cons hil, isE]
    have hh : has cmpS li is[i] = true ↔ is[i] ∈ is.take i := (has_iff good_S hok.up).trans (hk _)
    by_cases e0 : isinE is[i] ≠ 0
    · have e1 : isinR li is[i] = isinE is[i] := by unfold isinR; rw [if_pos e0]
      simp only [e1, if_pos e0]
      exact Ends.now 61 fun k hk => by show clevisref08_Check.l0 (k + 1) (i : Nat) nodes is ms = _; rw [hstep k hk, if_neg e0]
    · have e0' : isinE is[i] = 0 := by omega
      have hgo : ∀ {u}, Ends (fun k => clevisref08_Check.l1 k (i : Nat) (0 : Nat) nodes is ms) u → Ends (fun k => clevisref08_Check.l0 k (i : Nat) nodes is ms) u := fun h => h.step 61 fun k hk => by
        show clevisref08_Check.l0 (k + 1) (i : Nat) nodes is ms = _
        rw [hstep k hk, if_pos e0']
        rfl
      by_cases e2 : is[i] ∈ is.take i
      · have e1 : isinR li is[i] = 6 := by unfold isinR; rw [if_neg e0, if_pos (hh.2 e2)]
        have e3 : (if isinR li is[i] ≠ 0 then (isinR li is[i], li) else isE (isinL li is[i]) (is.drop (i + 1))).1 = 6 := by rw [e1]; rfl
        rw [e3, if_pos (by decide)]
        exact hgo (l1_dup hil hl i 0 (by omega) (by rw [List.drop_zero]; exact e2))
      · have e1 : isinR li is[i] = 0 := by unfold isinR; rw [if_neg e0, if_neg (fun h => e2 (hh.1 h))]
        have e3 : (if isinR li is[i] ≠ 0 then (isinR li is[i], li) else isE (isinL li is[i]) (is.drop (i + 1))) = isE (isinL li is[i]) (is.drop (i + 1)) := by rw [e1]; rfl
        rw [e3]
        have hL : isinL li is[i] = put cmpS li is[i] (.bool true) := by unfold isinL; rw [if_neg e0]
        have hI := ih (i + 1) (isinL li is[i]) (by omega) (ok_isin hok _) (fun s => by
          rw [hL, List.take_succ_eq_append_getElem hil, List.mem_append, List.mem_singleton, ← hk s]
          constructor
          · intro h
            obtain ⟨⟨a, x⟩, hm, rfl⟩ := List.mem_map.1 h
            rcases (put_mem good_S hok.up).1 hm with ⟨rfl, _⟩ | ⟨_, h3⟩
            · exact .inr rfl
            · exact .inl (List.mem_map.2 ⟨_, h3, rfl⟩)
          · rintro (h | rfl)
            · obtain ⟨⟨a, x⟩, hm, rfl⟩ := List.mem_map.1 h
              by_cases q : a = is[i]
              · exact List.mem_map.2 ⟨(a, .bool true), (put_mem good_S hok.up).2 (.inl ⟨q, rfl⟩), rfl⟩
              · exact List.mem_map.2 ⟨(a, x), (put_mem good_S hok.up).2 (.inr ⟨q, hm⟩), rfl⟩
            · exact List.mem_map.2 ⟨(is[i], .bool true), (put_mem good_S hok.up).2 (.inl ⟨rfl, rfl⟩), rfl⟩)
        exact hgo (l1_no hil hl hI i 0 (by omega) (by rw [List.drop_zero]; exact e2))
theorem l3_step {i j : Nat} {nm : ByteArray} {home : Int} (hi : i < ms.length) (hl : ms.length ≤ 1000) (hji : j < i) (k : Nat) : clevisref08_Check.l3 (k + 1) i j nodes is ms nm home = if (ms[j]).f0 = nm then some 6 else clevisref08_Check.l3 k i ((j + 1 : Nat) : Int) nodes is ms nm home := by
  simp only [clevisref08_Check.l3]
  rw [if_pos (by omega), if_pos (by omega), if_pos (by omega), rd_ms (show j < ms.length by omega), wrap_succ (by omega)]
  simp only [same_s]
theorem l3_dup {i : Nat} {nm : ByteArray} {home : Int} (hi : i < ms.length) (hl : ms.length ≤ 1000) :
    ∀ n j, j + n = i → nm ∈ ((ms.take i).drop j).map (·.f0) → Ends (fun k => clevisref08_Check.l3 k i j nodes is ms nm home) 6 := by
  intro n
  induction n with
  | zero =>
    intro j hj hm
    rw [List.drop_of_length_le (by rw [List.length_take]; omega)] at hm
    cases hm
  | succ n ih =>
    intro j hj hm
    have hji : j < i := by omega
    have hjt : j < (ms.take i).length := by rw [List.length_take]; omega
    rw [List.drop_eq_getElem_cons hjt, List.getElem_take, List.map_cons, List.mem_cons] at hm
    by_cases e : (ms[j]).f0 = nm
    · exact Ends.now 0 fun k _ => by show clevisref08_Check.l3 (k + 1) i j nodes is ms nm home = _; rw [l3_step hi hl hji, if_pos e]
    · exact (ih (j + 1) (by omega) (hm.resolve_left fun q => e q.symm)).step 0 fun k _ => by show clevisref08_Check.l3 (k + 1) i j nodes is ms nm home = _; rw [l3_step hi hl hji, if_neg e]
theorem l3_bad {i : Nat} {nm : ByteArray} {home : Int} (hi : i < ms.length) (hl : ms.length ≤ 1000) (hb : home < 0 ∨ home ≥ nodes) :
    ∀ n j, j + n = i → nm ∉ ((ms.take i).drop j).map (·.f0) → Ends (fun k => clevisref08_Check.l3 k i j nodes is ms nm home) 5 := by
  intro n
  induction n with
  | zero =>
    intro j hj hm
    obtain rfl : j = i := by omega
    refine Ends.now 0 fun k _ => ?_
    simp only [clevisref08_Check.l3]
    rw [if_neg (by omega)]
    by_cases h : home < 0
    · rw [if_pos h]
    · rw [if_neg h, if_pos (hb.resolve_left h)]
  | succ n ih =>
    intro j hj hm
    have hji : j < i := by omega
    have hjt : j < (ms.take i).length := by rw [List.length_take]; omega
    rw [List.drop_eq_getElem_cons hjt, List.getElem_take, List.map_cons, List.mem_cons] at hm
    have e : ¬ (ms[j]).f0 = nm := fun q => hm (.inl q.symm)
    exact (ih (j + 1) (by omega) fun q => hm (.inr q)).step 0 fun k _ => by show clevisref08_Check.l3 (k + 1) i j nodes is ms nm home = _; rw [l3_step hi hl hji, if_neg e]
theorem l3_no {i : Nat} {nm : ByteArray} {home : Int} (hi : i < ms.length) (hl : ms.length ≤ 1000) (hb : ¬ (home < 0 ∨ home ≥ nodes)) (h0 : Ends (fun k => clevisref08_Check.l2 k ((i + 1 : Nat) : Int) nodes is ms) v) :
    ∀ n j, j + n = i → nm ∉ ((ms.take i).drop j).map (·.f0) → Ends (fun k => clevisref08_Check.l3 k i j nodes is ms nm home) v := by
  intro n
  induction n with
  | zero =>
    intro j hj hm
    obtain rfl : j = i := by omega
    refine h0.step 0 fun k _ => ?_
    simp only [clevisref08_Check.l3]
    rw [if_neg (by omega), if_neg (by omega), if_neg (by omega), wrap_succ (by omega)]
  | succ n ih =>
    intro j hj hm
    have hji : j < i := by omega
    have hjt : j < (ms.take i).length := by rw [List.length_take]; omega
    rw [List.drop_eq_getElem_cons hjt, List.getElem_take, List.map_cons, List.mem_cons] at hm
    have e : ¬ (ms[j]).f0 = nm := fun q => hm (.inl q.symm)
    exact (ih (j + 1) (by omega) fun q => hm (.inr q)).step 0 fun k _ => by show clevisref08_Check.l3 (k + 1) i j nodes is ms nm home = _; rw [l3_step hi hl hji, if_neg e]
theorem keys_put {li : Rws} (hu : Up cmpS li) (k s : ByteArray) (x : Value) : s ∈ (put cmpS li k x).map (·.1) ↔ s ∈ li.map (·.1) ∨ s = k := by
  constructor
  · intro h
    obtain ⟨⟨a, y⟩, hm, rfl⟩ := List.mem_map.1 h
    rcases (put_mem good_S hu).1 hm with ⟨rfl, _⟩ | ⟨_, h3⟩
    · exact .inr rfl
    · exact .inl (List.mem_map.2 ⟨_, h3, rfl⟩)
  · rintro (h | rfl)
    · obtain ⟨⟨a, y⟩, hm, rfl⟩ := List.mem_map.1 h
      by_cases q : a = k
      · exact List.mem_map.2 ⟨(a, x), (put_mem good_S hu).2 (.inl ⟨q, rfl⟩), rfl⟩
      · exact List.mem_map.2 ⟨(a, y), (put_mem good_S hu).2 (.inr ⟨q, hm⟩), rfl⟩
    · exact List.mem_map.2 ⟨(s, x), (put_mem good_S hu).2 (.inl ⟨rfl, rfl⟩), rfl⟩
theorem l2_ends (hl : ms.length ≤ 1000) :
    ∀ n i lh, i + n = ms.length → Ok lh i → (∀ s, s ∈ lh.map (·.1) ↔ s ∈ (ms.take i).map (·.f0)) → Ends (fun k => clevisref08_Check.l2 k (i : Nat) nodes is ms) (msE nodes lh (ms.drop i)).1 := by
  intro n
  induction n with
  | zero =>
    intro i lh hi hok hk
    rw [List.drop_of_length_le (by omega), msE]
    refine Ends.now 0 fun k _ => ?_
    simp only [clevisref08_Check.l2]
    rw [if_neg (by omega)]
  | succ n ih =>
    intro i lh hi hok hk
    have hil : i < ms.length := by omega
    obtain ⟨x, hx⟩ : ∃ x, ms[i] = x := ⟨_, rfl⟩
    have hstep : ∀ k, 70 ≤ k → clevisref08_Check.l2 (k + 1) (i : Nat) nodes is ms = if memN x.f0 = 0 then clevisref08_Check.l3 k (i : Nat) 0 nodes is ms x.f0 x.f1 else some (memN x.f0) := fun k hk => by
      simp only [clevisref08_Check.l2]
      rw [if_pos (by omega), if_pos (by omega), rd_ms hil, hx, rMember' _ k hk, Option.bind_some]
    rw [List.drop_eq_getElem_cons hil, hx, msE]
    have hh : has cmpS lh x.f0 = true ↔ x.f0 ∈ (ms.take i).map (·.f0) := (has_iff good_S hok.up).trans (hk _)
    by_cases e0 : memN x.f0 ≠ 0
    · have e1 : memR nodes lh x.f0 x.f1 = memN x.f0 := by unfold memR; rw [if_pos e0]
      rw [e1, if_pos e0]
      exact Ends.now 70 fun k hk => by show clevisref08_Check.l2 (k + 1) (i : Nat) nodes is ms = _; rw [hstep k hk, if_neg e0]
    · have e0' : memN x.f0 = 0 := by omega
      have hgo : ∀ {u}, Ends (fun k => clevisref08_Check.l3 k (i : Nat) (0 : Nat) nodes is ms x.f0 x.f1) u → Ends (fun k => clevisref08_Check.l2 k (i : Nat) nodes is ms) u := fun h => h.step 70 fun k hk => by
        show clevisref08_Check.l2 (k + 1) (i : Nat) nodes is ms = _
        rw [hstep k hk, if_pos e0']
        rfl
      by_cases e2 : x.f0 ∈ (ms.take i).map (·.f0)
      · have e1 : memR nodes lh x.f0 x.f1 = 6 := by unfold memR; rw [if_neg e0, if_pos (hh.2 e2)]
        rw [e1, if_pos (by decide)]
        exact hgo (l3_dup hil hl i 0 (by omega) (by rw [List.drop_zero]; exact e2))
      · by_cases hb : x.f1 < 0 ∨ x.f1 ≥ nodes
        · have e1 : memR nodes lh x.f0 x.f1 = 5 := by unfold memR; rw [if_neg e0, if_neg (fun h => e2 (hh.1 h)), if_pos hb]
          rw [e1, if_pos (by decide)]
          exact hgo (l3_bad hil hl hb i 0 (by omega) (by rw [List.drop_zero]; exact e2))
        · have e1 : memR nodes lh x.f0 x.f1 = 0 := by unfold memR; rw [if_neg e0, if_neg (fun h => e2 (hh.1 h)), if_neg hb]
          rw [e1, if_neg (by decide)]
          have hL : memL nodes lh x.f0 x.f1 = put cmpS lh x.f0 (.int .i64 x.f1) := by unfold memL; rw [e1]; rfl
          have hI := ih (i + 1) (memL nodes lh x.f0 x.f1) (by omega) (ok_mem hok _) (fun s => by
            rw [hL, List.take_succ_eq_append_getElem hil, List.map_append, List.mem_append, hx, keys_put hok.up, hk s]
            simp)
          exact hgo (l3_no hil hl hb hI i 0 (by omega) (by rw [List.drop_zero]; exact e2))
theorem check_f (hl : is.length ≤ 1000) (hm : ms.length ≤ 1000) : Ends (fun k => clevisref08_Check.f k nodes is ms) (newE nodes is ms) := by
  unfold newE
  have hf : ∀ k, clevisref08_Check.f (k + 1) nodes is ms = if nodes < 1 ∨ nodes > 3 then some 1 else clevisref08_Check.j0 (k + 1) false nodes is ms := fun k => by
    unfold clevisref08_Check.f
    by_cases h1 : nodes < 1
    · rw [if_pos h1, if_pos (.inl h1)]; simp only [clevisref08_Check.j0, if_true]
    · rw [if_neg h1]
      by_cases h2 : nodes > 3
      · rw [if_pos (.inr h2), decide_eq_true h2]; simp only [clevisref08_Check.j0, if_true]
      · rw [if_neg (by omega), decide_eq_false h2]
  by_cases c1 : nodes < 1 ∨ nodes > 3
  · rw [if_pos c1]
    exact Ends.now 0 fun k _ => by show clevisref08_Check.f (k + 1) nodes is ms = _; rw [hf, if_pos c1]
  rw [if_neg c1]
  have hj : ∀ k, clevisref08_Check.f (k + 1 + 1) nodes is ms = if is.length > 32 ∨ ms.length > 64 then some 2 else clevisref08_Check.l0 k 0 nodes is ms := fun k => by
    rw [hf, if_neg c1]
    simp only [clevisref08_Check.j0]
    rw [if_neg (by decide)]
    by_cases h1 : is.length > 32
    · rw [if_pos (by omega), if_pos (.inl h1)]; simp only [clevisref08_Check.j1, if_true]
    · rw [if_neg (by omega)]
      by_cases h2 : ms.length > 64
      · rw [if_pos (.inr h2), decide_eq_true (by omega)]; simp only [clevisref08_Check.j1, if_true]
      · rw [if_neg (by omega), decide_eq_false (by omega)]; simp only [clevisref08_Check.j1]; rw [if_neg (by decide)]
  by_cases c2 : is.length > 32 ∨ ms.length > 64
  · rw [if_pos c2]
    exact ⟨2, fun k hk => by
      obtain ⟨k, rfl⟩ : ∃ m, k = m + 1 + 1 := ⟨k - 2, by omega⟩
      show clevisref08_Check.f (k + 1 + 1) nodes is ms = _
      rw [hj, if_pos c2]⟩
  rw [if_neg c2]
  have h2 := l2_ends (nodes := nodes) (is := is) hm ms.length 0 [] (by omega) ok_nil (by simp)
  have h0 := l0_ends hl h2 is.length 0 [] (by omega) ok_nil (by simp)
  rw [List.drop_zero, List.drop_zero] at h0
  obtain ⟨K, hK⟩ := h0
  exact ⟨K + 2, fun k hk => by
    obtain ⟨k, rfl⟩ : ∃ m, k = m + 1 + 1 := ⟨k - 2, by omega⟩
    show clevisref08_Check.f (k + 1 + 1) nodes is ms = _
    rw [hj, if_neg c2]
    exact hK k (by omega)⟩
end
end Go.Proofs.Ytcbpmmcpidfllaa.Rp
end
section
namespace Go.Proofs.Ytcbpmmcpidfllaa.Ry
set_option linter.unusedVariables false
set_option linter.unusedSimpArgs false
open Go Go.RowKit Go.Proofs.YtcbpmmcpidfllaaW.PrintWords Go.Proofs.YtcbpmmcpidfllaaW.PrintLast Go.Proofs.Ytcbpmmcpidfllaa.Hd Go.Proofs.Ytcbpmmcpidfllaa.Os Go.Proofs.Ytcbpmmcpidfllaa.Tb Go.Proofs.Ytcbpmmcpidfllaa.Tm Go.Proofs.Ytcbpmmcpidfllaa.Ro Go.Proofs.Ytcbpmmcpidfllaa.Ip Go.Proofs.Ytcbpmmcpidfllaa.Rs Go.Proofs.Ytcbpmmcpidfllaa.Rn
section
variable {w0 w : World} {L : List F2} {qi qm ci cm : Nat} {nodes : Int} {Ai Am : Option Addr} {is : List ByteArray} {ms : List S63} {okI okM : Nat → Prop}
def enc (x : S63) : List Value := [.string x.f0, .int .i64 x.f1]
theorem New.tail {f : F2} {w0 w : World} {L : List F2} {nodes : Int} {is : List ByteArray} {ms : List S63} {p : Option Addr} {E : Int} (h : New w0 w nodes is ms (f :: L) p E) : New w0 w nodes is ms L p E := by
  refine ⟨fun e => ⟨(h.bad e).1, (h.bad e).2.tail⟩, fun e => ⟨(h.good e).1, (h.good e).2.1, ?_⟩⟩
  obtain ⟨R, bh, bi, A, c, B, d, rfl, hR, hbh, hbi, H⟩ := (h.good e).2.2
  exact ⟨R, bh, bi, A, c, B, d, rfl, hR, hbh, hbi, H.cut 5⟩
theorem snoc_enc {ys : List S63} {i : Nat} (h : i < ys.length) : (ys.take (i + 1)).flatMap enc = (ys.take i).flatMap enc ++ enc ys[i] := by
  rw [List.take_succ_eq_append_getElem h, List.flatMap_append]
  simp
theorem k63_c {lo n : Nat} {ys : List S63} {v : Value} {W : World} (h : Ow lo 64 2 v n (ys.flatMap enc) W) : ∃ A c, v = .slice A n c ∧ ys.length = n ∧ n ≤ c ∧ Kd.C k63 W A n ys := ow_C k63 enc k63_mk (by decide) h
set_option maxRecDepth 100000 in
set_option maxHeartbeats 4000000 in
theorem to_c (H : All w0 w L) (hqi : L[qi]? = some (okI, CS Ai (is.take 40))) (hqm : L[qm]? = some (okM, CM Am (ms.take 70))) (hci : is.length ≤ ci) (hcm : ms.length ≤ cm) :
    Calls Try.prog 8 #[.agg #[.int .i64 nodes, .slice Ai is.length ci, .slice Am ms.length cm]] w fun e w' => ∃ p, e = .returned (.tuple #[.pointer p, .agg #[.int .i64 nodes, .slice Ai (is.take 40).length ci, .slice Am (ms.take 70).length cm], .int .i64 (newE nodes (is.take 40) (ms.take 70))]) ∧ New w0 w' nodes (is.take 40) (ms.take 70) L p (newE nodes (is.take 40) (ms.take 70)) := by
  have m1 : min (is.length : Int) 40 = ((is.take 40).length : Int) := by rw [List.length_take]; omega
  have m2 : min (ms.length : Int) 70 = ((ms.take 70).length : Int) := by rw [List.length_take]; omega
  have l1 : (is.take 40).length ≤ 40 := by rw [List.length_take]; omega
  have l2 : (ms.take 70).length ≤ 70 := by rw [List.length_take]; omega
  have l3 : (is.take 40).length ≤ ci := by rw [List.length_take]; omega
  have l4 : (ms.take 70).length ≤ cm := by rw [List.length_take]; omega
  generalize is.take 40 = xs at *
  generalize ms.take 70 = ys at *
  have H0 := ((H.row w0.heap.size 64 2).box w.heap.size 25 #[.int .i64 nodes, .slice Ai xs.length ci, .slice Am ys.length cm]).box (w.heap.size + 1) 25 #[.int .i64 0, .slice none 0 0, .slice none 0 0]
  have r0 := H0.rd 1 rfl
  have hw0 := H.old.size
  go_enter Try.func8, Try.ntmps8
  go_wp2_with fail
  go_loopg [5, 6] ys.length (fun kx s5 s6 wr => ∃ (i : Nat) (A : Option Addr) (c : Nat), s5 = .slice A i c ∧ s6 = .int .i64 (i : Int) ∧ i ≤ ys.length ∧ ys.length - i ≤ kx ∧
    All w0 wr (bx (w.heap.size + 1) 25 #[.int .i64 0, .slice none 0 0, .slice none 0 0] :: bx w.heap.size 25 #[.int .i64 nodes, .slice Ai xs.length ci, .slice Am ys.length cm] :: ow w0.heap.size 64 2 (.slice A i c) i ((ys.take i).flatMap enc) :: L))
  case atStart => exact ⟨0, none, 0, rfl, rfl, Nat.zero_le _, by omega, H0⟩
  case round =>
    clear H0 r0 H
    obtain ⟨i, A, c, rfl, rfl, hi, hik, H⟩ := hrel
    have hz := H.old.size
    have r1 := H.rd 1 rfl
    by_cases hlt : i < ys.length
    · have hli : (i : Int) < (ys.length : Int) := by omega
      obtain ⟨ad, rfl, -, -⟩ := at_T63 (H.at (qm + 3) hqm) (i : Int) (by omega) hli
      have e1 : rd_T63 ys (i : Int) = ys[i] := Rp.rd_ms hlt
      have hc : ∀ W, All w0 W (bx (w.heap.size + 1) 25 #[.int .i64 0, .slice none 0 0, .slice none 0 0] :: bx w.heap.size 25 #[.int .i64 nodes, .slice Ai xs.length ci, .slice (some ad) ys.length cm] :: ow w0.heap.size 64 2 (.slice A i c) i ((ys.take i).flatMap enc) :: L) →
          W.cell? (ad.add (i * 2)) = some (.string ys[i].f0) ∧ W.cell? ⟨(ad.add (i * 2)).block, (ad.add (i * 2)).off + 1, none⟩ = some (.int .i64 ys[i].f1) := fun W hW => by
        obtain ⟨ad', e, h0, h1⟩ := at_T63 (hW.at (qm + 3) hqm) (i : Int) (by omega) hli
        cases e
        rw [Int.toNat_natCast, e1] at h0 h1
        exact ⟨h0, h1⟩
      have hsn := Aside0.mk (snoc_enc hlt)
      have hsz : (i + 1) * 24 ≤ 140737488355328 := by omega
      generalize ys[i] = x at *
      clear e1
      go_wp2_with fail
      refine planD_ [15] (true, [([], []), ([], []), ([1], [1]), ([], []), ([2, 3], [2, 3]), ([4], [4]), ([5], [5]), ([], []), ([7], [7]), ([], []), ([8, 9], [8, 9]), ([10], [10]), ([11], [11]), ([6, 12], [6, 12]), ([13], [13]), ([0, 14], [0, 14]), ([15, 15, 0, 1, 2, 3, 4, 5, 6, 7, 8, 9, 10, 11, 12, 13, 14, 15], [0, 15])]) [.p 0, .p 1, .t 2, .p 3, .p 4, .p 5, .t 6, .p 7, .t 8, .p 9, .p 10, .p 11, .t 12, .p 13, .c 14, .l 15, .p 16] H (by kernel_rfl) (by kernel_rfl) rfl rfl (by kernel_rfl) (by intro c a w d v h; cases d <;> exact h) (fun w2 H2 => ?_)
      refine pl_P (h := ?_)
      refine pl_P (h := ?_)
      refine pl_L 1 2 H2 rfl (h := ?_)
      refine pl_P (h := ?_)
      refine pl_P (h := ?_)
      refine pl_P (h := ?_)
      refine pl_C H2 (fun W hW => (hc W hW).1) (h := ?_)
      refine pl_P (h := ?_)
      refine pl_L 1 2 H2 rfl (h := ?_)
      refine pl_P (h := ?_)
      refine pl_P (h := ?_)
      refine pl_P (h := ?_)
      refine pl_C H2 (fun W hW => (hc W hW).2) (h := ?_)
      refine pl_P (h := ?_)
      have hz2 := H2.old.size
      refine pl_R (H2.any (.cells #[.string x.f0, .int .i64 x.f1] 64 (0, 0))) (fun H3 => ?_)
      refine pl_AL (enc x) (.agg #[.string ByteArray.empty, .int .i64 0]) 2 H2 rfl (Nat.le_refl _) hz2 hsz (by kernel_rfl) Try.underlying61 rfl (by decide) (by decide) rfl (by unfold enc; simp [Value.oneCell']) (h := fun A1 c1 w3 H3 hz3 => ?_)
      refine pl_P (h := ?_)
      refine pl_done ?_
      go_wp2_with fail
      go_roundg (ys.length - (i + 1))
      case measure => omega
      case rel => exact ⟨i + 1, A1, c1, rfl, rfl, by omega, by omega, by rw [hsn.out]; exact H3⟩
    · obtain rfl : i = ys.length := by omega
      rw [List.take_length] at H
      obtain ⟨A', c', hA, -, hcc, -⟩ := k63_c (H.at 2 rfl)
      cases hA
      have H2 := H.turn 2 rfl (T' := CM A ys) ((H.get 2 rfl).imp fun W hW => by
        obtain ⟨A', c', hA, -, -, hC⟩ := k63_c hW
        cases hA
        exact hC)
      have hnew := new_c (nodes := nodes) (qi := qi + 3) (qm := 2) (ci := ci) (cm := c) H2 hqi rfl l3 hcc
      clear H
      obtain ⟨E, hEe⟩ : ∃ E, newE nodes xs ys = E := ⟨_, rfl⟩
      rw [hEe] at hnew
      replace hEe := Aside0.mk hEe
      by_cases hE : E = 0
      · go_wp2_with fail
        refine hnew.mono ?_
        rintro e w3 ⟨p, rfl, hN⟩
        obtain ⟨h1, h2, ⟨R, bh, bi, A2, c2, B2, d2, rfl, hR, hbh, hbi, H3⟩⟩ := hN.good hE
        replace h1 := Aside0.mk h1
        replace h2 := Aside0.mk h2
        clear hnew H2 hN
        subst hE
        go_wp2_with fail
        refine planD_ [4] (true, [([], []), ([], []), ([], []), ([0, 0], [0]), ([1, 3, 0, 1, 3], [1]), ([2, 4, 0, 1, 2, 3, 4], [2])]) [.p 0, .t 1, .p 2, .p 3, .l 4, .p 5] H3 (by kernel_rfl) (by kernel_rfl) rfl rfl (by kernel_rfl) (by intro c a w d v h; cases d <;> exact h) (fun w4 H4 => ?_)
        refine pl_P (h := ?_)
        refine pl_B 6 H4 rfl (h := ?_)
        refine pl_P (h := ?_)
        refine pl_P (h := ?_)
        refine pl_WRL 5 #[.int .i64 nodes, .slice Ai xs.length ci, .slice Am ys.length cm] H4 rfl (by omega) (fun H5 => ?_) (by kernel_rfl) rfl
        refine pl_P (h := ?_)
        refine pl_done ?_
        go_wp2_with fail
        refine H5.ret3 (u := .pointer (some ⟨R, 0, none⟩)) (v := .int .i64 0) 5 rfl rfl rfl rfl rfl Try.underlying25 rfl (by kernel_rfl) rfl ?_
        rw [hEe.out]
        exact ⟨_, rfl, ⟨fun h => absurd rfl h, fun _ => ⟨h1.out, h2.out, R, bh, bi, A2, c2, B2, d2, rfl, hR, hbh, hbi, ((H5.cut 7).cut 6).cut 5⟩⟩⟩
      · go_wp2_with fail
        refine hnew.mono ?_
        rintro e w3 ⟨p, rfl, hN⟩
        obtain ⟨rfl, H3⟩ := hN.bad hE
        clear hnew H2 hN
        go_wp2_with fail
        refine planD_ [4] (true, [([], []), ([], []), ([], []), ([0, 0], [0]), ([1, 3, 0, 1, 3], [1]), ([2, 4, 0, 1, 2, 3, 4], [2])]) [.p 0, .t 1, .p 2, .p 3, .l 4, .p 5] H3 (by kernel_rfl) (by kernel_rfl) rfl rfl (by kernel_rfl) (by intro c a w d v h; cases d <;> exact h) (fun w4 H4 => ?_)
        refine pl_P (h := ?_)
        refine pl_B 1 H4 rfl (h := ?_)
        refine pl_P (h := ?_)
        refine pl_P (h := ?_)
        refine pl_WRL 0 #[.int .i64 nodes, .slice Ai xs.length ci, .slice Am ys.length cm] H4 rfl (by omega) (fun H5 => ?_) (by kernel_rfl) rfl
        refine pl_P (h := ?_)
        refine pl_done ?_
        go_wp2_with fail
        refine H5.ret3 (u := .pointer none) (v := .int .i64 E) 0 rfl rfl rfl rfl rfl Try.underlying25 rfl (by kernel_rfl) rfl ?_
        rw [hEe.out]
        exact ⟨_, rfl, ⟨fun _ => ⟨rfl, H5.drop 3⟩, fun h => absurd h hE⟩⟩
end
end Go.Proofs.Ytcbpmmcpidfllaa.Ry
end
section
namespace Go.Proofs.Ytcbpmmcpidfllaa.Yq
set_option linter.unusedVariables false
set_option linter.unusedSimpArgs false
open Go Go.RowKit Go.Proofs.YtcbpmmcpidfllaaW.PrintWords Go.Proofs.YtcbpmmcpidfllaaW.PrintLast Go.Proofs.Ytcbpmmcpidfllaa.Hd Go.Proofs.Ytcbpmmcpidfllaa.Os Go.Proofs.Ytcbpmmcpidfllaa.Tb Go.Proofs.Ytcbpmmcpidfllaa.Tm Go.Proofs.Ytcbpmmcpidfllaa.Ro Go.Proofs.Ytcbpmmcpidfllaa.Ip Go.Proofs.Ytcbpmmcpidfllaa.Rs Go.Proofs.Ytcbpmmcpidfllaa.Rn Go.Proofs.Ytcbpmmcpidfllaa.Rp Go.Proofs.Ytcbpmmcpidfllaa.Ry
def homeD : List S63 → ByteArray → Int
  | [], _ => -1
  | m :: r, s => if m.f0 = s then m.f1 else homeD r s
def hasD : List ByteArray → ByteArray → Bool
  | [], _ => false
  | x :: r, s => if x = s then true else hasD r s
section
variable {nodes : Int} {is : List ByteArray} {ms : List S63} {s : ByteArray}
theorem home_l0 (hl : ms.length ≤ 1000) : ∀ n i, i + n = ms.length → Rp.Ends (fun k => clevisref08_Home.l0 k s (i : Nat) nodes is ms) (homeD (ms.drop i) s) := by
  intro n
  induction n with
  | zero =>
    intro i hi
    rw [List.drop_of_length_le (by omega), homeD]
    refine Rp.Ends.now 0 fun k _ => ?_
    simp only [clevisref08_Home.l0]
    rw [if_neg (by omega)]
  | succ n ih =>
    intro i hi
    have hlt : i < ms.length := by omega
    rw [List.drop_eq_getElem_cons hlt, homeD]
    by_cases h : ms[i].f0 = s
    · rw [if_pos h]
      refine Rp.Ends.now 0 fun k _ => ?_
      simp only [clevisref08_Home.l0]
      rw [if_pos (by omega), if_pos (by omega), rd_ms hlt, if_pos (same_s.2 h)]
    · rw [if_neg h]
      refine Rp.Ends.step 0 (ih (i + 1) (by omega)) fun k _ => ?_
      simp only [clevisref08_Home.l0]
      rw [if_pos (by omega), if_pos (by omega), rd_ms hlt, if_neg (fun q => h (same_s.1 q)), wrap_succ (by omega)]
theorem has_l0 (hl : is.length ≤ 1000) : ∀ n i, i + n = is.length → Rp.Ends (fun k => clevisref08_Has.l0 k s (i : Nat) nodes is ms) (hasD (is.drop i) s) := by
  intro n
  induction n with
  | zero =>
    intro i hi
    rw [List.drop_of_length_le (by omega), hasD]
    refine Rp.Ends.now 0 fun k _ => ?_
    simp only [clevisref08_Has.l0]
    rw [if_neg (by omega)]
  | succ n ih =>
    intro i hi
    have hlt : i < is.length := by omega
    rw [List.drop_eq_getElem_cons hlt, hasD]
    by_cases h : is[i] = s
    · rw [if_pos h]
      refine Rp.Ends.now 0 fun k _ => ?_
      simp only [clevisref08_Has.l0]
      rw [if_pos (by omega), if_pos (by omega), rd_is hlt, if_pos (same_s.2 h)]
    · rw [if_neg h]
      refine Rp.Ends.step 0 (ih (i + 1) (by omega)) fun k _ => ?_
      simp only [clevisref08_Has.l0]
      rw [if_pos (by omega), if_pos (by omega), rd_is hlt, if_neg (fun q => h (same_s.1 q)), wrap_succ (by omega)]
variable {w : World} {A B : Option Addr} {ci cm : Nat}
theorem rhome_c (hI : CS A is w) (hM : CM B ms w) (hci : is.length ≤ ci) (hcm : ms.length ≤ cm) (hm : ms.length ≤ 1000) (s : ByteArray) :
    Tells Try.prog 16 #[.agg #[.int .i64 nodes, .slice A is.length ci, .slice B ms.length cm], .string s] w (.int .i64 (homeD ms s)) := by
  obtain ⟨K, hK⟩ := home_l0 (nodes := nodes) (is := is) (s := s) hm ms.length 0 (by omega)
  exact clevisref08_Home.calls K nodes A ci is B cm ms s _ w hI hci hM hcm (hK K (Nat.le_refl _))
theorem rhas_c (hI : CS A is w) (hM : CM B ms w) (hci : is.length ≤ ci) (hcm : ms.length ≤ cm) (hm : is.length ≤ 1000) (s : ByteArray) :
    Tells Try.prog 21 #[.agg #[.int .i64 nodes, .slice A is.length ci, .slice B ms.length cm], .string s] w (.bool (hasD is s)) := by
  obtain ⟨K, hK⟩ := has_l0 (nodes := nodes) (ms := ms) (s := s) hm is.length 0 (by omega)
  exact clevisref08_Has.calls K nodes A ci is B cm ms s _ w hI hci hM hcm (hK K (Nat.le_refl _))
theorem memR_zero {lh : Rws} {home : Int} (h : memR nodes lh s home = 0) : has cmpS lh s = false ∧ 0 ≤ home ∧ home < nodes := by
  unfold memR at h
  split at h
  · contradiction
  split at h
  · contradiction
  rename_i h2
  split at h
  · contradiction
  refine ⟨by simpa using h2, by omega, by omega⟩
theorem ms_tab : ∀ (ms : List S63) (lh : Rws), Up cmpS lh → (msE nodes lh ms).1 = 0 → Up cmpS (msE nodes lh ms).2 ∧ (msE nodes lh ms).2.length = lh.length + ms.length ∧
    (∀ s v, (s, v) ∈ (msE nodes lh ms).2 ↔ (s, v) ∈ lh ∨ ∃ m ∈ ms, m.f0 = s ∧ v = .int .i64 m.f1) ∧ (∀ m ∈ ms, 0 ≤ m.f1 ∧ m.f1 < nodes ∧ m.f0 ∉ lh.map (·.1)) ∧ ms.Pairwise (fun a b => a.f0 ≠ b.f0)
  | [], lh, hu, h => ⟨hu, rfl, fun s v => by simp [msE], (fun m hm => by cases hm), .nil⟩
  | x :: r, lh, hu, h => by
    unfold msE at h ⊢
    by_cases hz : memR nodes lh x.f0 x.f1 ≠ 0
    · rw [if_pos hz] at h
      exact absurd h hz
    · rw [if_neg hz] at h ⊢
      have hz : memR nodes lh x.f0 x.f1 = 0 := by omega
      obtain ⟨h1, h2, h3⟩ := memR_zero hz
      have e : memL nodes lh x.f0 x.f1 = put cmpS lh x.f0 (.int .i64 x.f1) := by unfold memL; rw [if_pos hz]
      rw [e] at h ⊢
      have hk : x.f0 ∉ lh.map (·.1) := fun hc => by rw [(has_iff good_S hu).2 hc] at h1; cases h1
      obtain ⟨a1, a2, a3, a4, a5⟩ := ms_tab r _ (put_up good_S hu) h
      refine ⟨a1, by rw [a2, put_len h1, List.length_cons]; omega, fun s v => ?_, fun m hm => ?_, List.pairwise_cons.2 ⟨fun m hm hc => ?_, a5⟩⟩
      · rw [a3, put_mem good_S hu]
        constructor
        · rintro ((⟨rfl, rfl⟩ | ⟨_, hl⟩) | ⟨m, hm, rfl, rfl⟩)
          · exact .inr ⟨x, List.mem_cons_self, rfl, rfl⟩
          · exact .inl hl
          · exact .inr ⟨m, List.mem_cons_of_mem _ hm, rfl, rfl⟩
        · rintro (hl | ⟨m, hm, rfl, rfl⟩)
          · refine .inl (.inr ⟨fun hc => hk (List.mem_map.2 ⟨_, hl, hc⟩), hl⟩)
          · rcases List.mem_cons.1 hm with rfl | hm
            · exact .inl (.inl ⟨rfl, rfl⟩)
            · exact .inr ⟨m, hm, rfl, rfl⟩
      · rcases List.mem_cons.1 hm with rfl | hm
        · exact ⟨h2, h3, hk⟩
        · obtain ⟨b1, b2, b3⟩ := a4 m hm
          exact ⟨b1, b2, fun hc => b3 ((keys_put hu _ _ _).2 (.inl hc))⟩
      · exact (a4 m hm).2.2 ((keys_put hu _ _ _).2 (.inr hc.symm))
theorem homeD_mem : ∀ {ms : List S63}, ms.Pairwise (fun a b => a.f0 ≠ b.f0) → ∀ m ∈ ms, homeD ms m.f0 = m.f1
  | x :: r, hp, m, hm => by
    obtain ⟨h1, h2⟩ := List.pairwise_cons.1 hp
    unfold homeD
    rcases List.mem_cons.1 hm with rfl | hm
    · rw [if_pos rfl]
    · rw [if_neg (h1 m hm)]
      exact homeD_mem h2 m hm
theorem homeD_not : ∀ {ms : List S63}, (∀ m ∈ ms, m.f0 ≠ s) → homeD ms s = -1
  | [], _ => rfl
  | x :: r, h => by
    unfold homeD
    rw [if_neg (h x List.mem_cons_self)]
    exact homeD_not fun m hm => h m (List.mem_cons_of_mem _ hm)
theorem tab_home (h : (msE nodes [] ms).1 = 0) (s : ByteArray) : (has cmpS (msE nodes [] ms).2 s = true → Tb.get cmpS (msE nodes [] ms).2 s = some (.int .i64 (homeD ms s)) ∧ 0 ≤ homeD ms s ∧ homeD ms s < nodes) ∧
    (has cmpS (msE nodes [] ms).2 s = false → homeD ms s = -1) := by
  obtain ⟨a1, a2, a3, a4, a5⟩ := ms_tab ms [] .nil h
  constructor
  · intro hh
    obtain ⟨⟨s', v⟩, hm, rfl⟩ := List.mem_map.1 ((has_iff good_S a1).1 hh)
    rcases (a3 _ _).1 hm with h1 | ⟨m, hm2, rfl, rfl⟩
    · cases h1
    · rw [homeD_mem a5 m hm2]
      exact ⟨(get_iff good_S a1).2 hm, (a4 m hm2).1, (a4 m hm2).2.1⟩
  · intro hh
    refine homeD_not fun m hm hc => ?_
    have : m.f0 ∈ (msE nodes [] ms).2.map (·.1) := List.mem_map.2 ⟨(m.f0, .int .i64 m.f1), (a3 _ _).2 (.inr ⟨m, hm, rfl, rfl⟩), rfl⟩
    rw [hc] at this
    rw [(has_iff good_S a1).2 this] at hh
    cases hh
theorem is_tab : ∀ (is : List ByteArray) (li : Rws), Up cmpS li → (isE li is).1 = 0 → Up cmpS (isE li is).2 ∧ (isE li is).2.length = li.length + is.length ∧ (∀ s, s ∈ (isE li is).2.map (·.1) ↔ s ∈ li.map (·.1) ∨ s ∈ is)
  | [], li, hu, h => ⟨hu, rfl, fun s => by simp [isE]⟩
  | x :: r, li, hu, h => by
    unfold isE at h ⊢
    by_cases hz : isinR li x ≠ 0
    · rw [if_pos hz] at h
      exact absurd h hz
    · rw [if_neg hz] at h ⊢
      have hz : isinR li x = 0 := by omega
      have hz2 := hz
      unfold isinR at hz2
      split at hz2
      · contradiction
      rename_i h1
      split at hz2
      · contradiction
      rename_i h2
      have h2 : has cmpS li x = false := by simpa using h2
      have e : isinL li x = put cmpS li x (.bool true) := by unfold isinL; rw [if_neg h1]
      rw [e] at h ⊢
      obtain ⟨a1, a2, a3⟩ := is_tab r _ (put_up good_S hu) h
      refine ⟨a1, by rw [a2, put_len h2, List.length_cons]; omega, fun s => ?_⟩
      rw [a3, keys_put hu, List.mem_cons]
      constructor
      · rintro ((h | h) | h)
        · exact .inl h
        · exact .inr (.inl h)
        · exact .inr (.inr h)
      · rintro (h | h | h)
        · exact .inl (.inl h)
        · exact .inl (.inr h)
        · exact .inr h
theorem hasD_iff : ∀ {is : List ByteArray}, hasD is s = true ↔ s ∈ is
  | [] => by simp [hasD]
  | x :: r => by
    unfold hasD
    split
    · rename_i h
      subst h
      simp
    · rename_i h
      rw [hasD_iff, List.mem_cons]
      exact ⟨.inr, fun q => q.resolve_left fun e => h e.symm⟩
theorem tab_has (h : (isE [] is).1 = 0) (s : ByteArray) : has cmpS (isE [] is).2 s = hasD is s := by
  obtain ⟨a1, a2, a3⟩ := is_tab is [] .nil h
  rw [Bool.eq_iff_iff, has_iff good_S a1, a3, hasD_iff]
  simp
end
end Go.Proofs.Ytcbpmmcpidfllaa.Yq
end
