/- Texts of this seat, put together (Ze17). -/
import Derived.Test.YtcbpmmcpidfllaaZe11
import Derived.Test.YtcbpmmcpidfllaaZe12
import Derived.Test.YtcbpmmcpidfllaaZe15
import Derived.Test.YtcbpmmcpidfllaaZe16
section
namespace Go.Proofs.Ytcbpmmcpidfllaa.Yu
set_option linter.unusedVariables false
set_option linter.unusedSimpArgs false
open Go Go.RowKit Go.Proofs.YtcbpmmcpidfllaaW.PrintWords Go.Proofs.YtcbpmmcpidfllaaW.PrintLast Go.Proofs.Ytcbpmmcpidfllaa.Hd Go.Proofs.Ytcbpmmcpidfllaa.Os Go.Proofs.Ytcbpmmcpidfllaa.Tb Go.Proofs.Ytcbpmmcpidfllaa.Tm Go.Proofs.Ytcbpmmcpidfllaa.Rs Go.Proofs.Ytcbpmmcpidfllaa.Rn Go.Proofs.Ytcbpmmcpidfllaa.Yq Go.Proofs.Ytcbpmmcpidfllaa.Ys
def ins (s : ByteArray) : List ByteArray → List ByteArray
  | [] => [s]
  | x :: r => if cmpS x s = -1 then x :: ins s r else s :: x :: r
theorem ins_len (s : ByteArray) : ∀ l : List ByteArray, (ins s l).length = l.length + 1
  | [] => rfl
  | x :: r => by
    unfold ins
    split
    · rw [List.length_cons, ins_len s r, List.length_cons]
    · rfl
abbrev isortO (o l : List ByteArray) : List ByteArray := l.foldl (fun o s => ins s o) o
theorem less_iff {a b : ByteArray} : Op.bytesLess a.toList b.toList = true ↔ cmpS a b = -1 := by
  unfold cmpS
  by_cases h : Op.bytesLess a.toList b.toList = true
  · rw [if_pos h]; simp [h]
  · rw [if_neg h]
    constructor
    · intro q; exact absurd q h
    · intro q; split at q <;> cases q
section
variable {x0 : List ByteArray} {i : Nat}
theorem l1_ends {v : List ByteArray} (hi : i < x0.length) (hl : x0.length ≤ 1000) {out : List ByteArray} (ho : out.length ≤ i) : ∀ n at_, at_ + n = out.length →
    Rp.Ends (fun k => So.clevisref08_Sorted.l0 k x0 (out.take at_ ++ ins x0[i] (out.drop at_)) ((i + 1 : Nat) : Int)) v → Rp.Ends (fun k => So.clevisref08_Sorted.l1 k x0 out (i : Nat) (at_ : Nat)) v := by
  intro n
  induction n with
  | zero =>
    intro a ha h
    obtain rfl : a = out.length := by omega
    rw [List.take_of_length_le (Nat.le_refl _), List.drop_of_length_le (Nat.le_refl _), ins] at h
    refine Rp.Ends.step 0 h fun k _ => ?_
    simp only [So.clevisref08_Sorted.l1, Option.bind_some, List.nil_append, Int.toNat_natCast]
    rw [if_neg (by omega), if_pos (by omega), if_pos (by omega)]
    rw [List.take_of_length_le (Nat.le_refl _), List.drop_of_length_le (Nat.le_refl _)]
    simp only [List.length_nil, List.append_nil, Nat.zero_add, Nat.add_zero]
    rw [if_pos (by omega), if_pos (by omega), if_pos (by omega), if_pos (by omega), if_pos (by rw [List.length_append]; simp; omega), Rp.rd_is hi, Rp.wrap_succ (by omega)]
  | succ n ih =>
    intro a ha h
    have hlt : a < out.length := by omega
    rw [List.drop_eq_getElem_cons hlt, ins] at h
    by_cases hc : cmpS out[a] x0[i] = -1
    · rw [if_pos hc] at h
      refine Rp.Ends.step 0 (ih (a + 1) (by omega) ?_) fun k _ => ?_
      · rw [List.take_succ_eq_append_getElem hlt, List.append_assoc]
        exact h
      · simp only [So.clevisref08_Sorted.l1]
        rw [if_pos (by omega), if_pos (by omega), if_pos (by omega), if_pos (by omega), Rp.rd_is hlt, Rp.rd_is hi, if_pos (less_iff.2 hc), Rp.wrap_succ (by omega)]
    · rw [if_neg hc] at h
      refine Rp.Ends.step 0 h fun k _ => ?_
      simp only [So.clevisref08_Sorted.l1, Option.bind_some, List.nil_append, Int.toNat_natCast]
      rw [if_pos (by omega), if_pos (by omega), if_pos (by omega), if_pos (by omega), Rp.rd_is hlt, Rp.rd_is hi, if_neg (fun q => hc (less_iff.1 q)), if_pos (by omega)]
      have e1 : (out.take a).length = a := by rw [List.length_take]; omega
      have e2 : (out.drop a).length = out.length - a := List.length_drop
      simp only [List.length_nil, Nat.zero_add, List.length_append, List.length_cons, e1, e2]
      rw [if_pos (by omega), if_pos (by omega), if_pos (by omega), Rp.wrap_succ (by omega), List.append_assoc, List.drop_eq_getElem_cons hlt]
      rfl
theorem l0_ends (hl : x0.length ≤ 1000) : ∀ n i out, i + n = x0.length → out.length ≤ i → Rp.Ends (fun k => So.clevisref08_Sorted.l0 k x0 out (i : Nat)) (isortO out (x0.drop i)) := by
  intro n
  induction n with
  | zero =>
    intro i out hi ho
    rw [List.drop_of_length_le (by omega)]
    refine Rp.Ends.now 0 fun k _ => ?_
    simp only [So.clevisref08_Sorted.l0]
    rw [if_neg (by omega)]
    rfl
  | succ n ih =>
    intro i out hi ho
    have hlt : i < x0.length := by omega
    rw [List.drop_eq_getElem_cons hlt]
    have h := ih (i + 1) (ins x0[i] out) (by omega) (by rw [ins_len]; omega)
    have h1 := l1_ends hlt hl ho out.length 0 (by omega) h
    refine Rp.Ends.step 0 h1 fun k _ => ?_
    simp only [So.clevisref08_Sorted.l0]
    rw [if_pos (by omega)]
    rfl
end
theorem sorted_f (l : List ByteArray) (hl : l.length ≤ 1000) : Rp.Ends (fun k => So.clevisref08_Sorted.f k l) (isortO [] l) := l0_ends hl l.length 0 [] (by omega) (Nat.le_refl _)
theorem same_l0 {a b : List ByteArray} (hl : a.length ≤ 1000) (hab : a.length = b.length) : ∀ n i, i + n = a.length → Rp.Ends (fun k => Ro.clevisref08_Same.l0 k a b (i : Nat)) (decide (a.drop i = b.drop i)) := by
  intro n
  induction n with
  | zero =>
    intro i hi
    rw [List.drop_of_length_le (by omega), List.drop_of_length_le (by omega)]
    refine Rp.Ends.now 0 fun k _ => ?_
    simp only [Ro.clevisref08_Same.l0]
    rw [if_neg (by omega)]
    simp
  | succ n ih =>
    intro i hi
    have h1 : i < a.length := by omega
    have h2 : i < b.length := by omega
    rw [List.drop_eq_getElem_cons h1, List.drop_eq_getElem_cons h2]
    by_cases hc : a[i] = b[i]
    · have e : decide (a[i] :: a.drop (i + 1) = b[i] :: b.drop (i + 1)) = decide (a.drop (i + 1) = b.drop (i + 1)) := decide_eq_decide.2 (by rw [hc]; exact ⟨fun h => (List.cons.inj h).2, fun h => by rw [h]⟩)
      rw [e]
      refine Rp.Ends.step 0 (ih (i + 1) (by omega)) fun k _ => ?_
      simp only [Ro.clevisref08_Same.l0]
      rw [if_pos (by omega), if_pos (by omega), if_pos (by omega), Rp.rd_is h1, Rp.rd_is h2, if_pos (Rp.same_s.2 hc), Rp.wrap_succ (by omega)]
    · have e : decide (a[i] :: a.drop (i + 1) = b[i] :: b.drop (i + 1)) = false := decide_eq_false fun h => hc (List.cons.inj h).1
      rw [e]
      refine Rp.Ends.now 0 fun k _ => ?_
      simp only [Ro.clevisref08_Same.l0]
      rw [if_pos (by omega), if_pos (by omega), if_pos (by omega), Rp.rd_is h1, Rp.rd_is h2, if_neg (fun q => hc (Rp.same_s.1 q))]
section
variable {li : Rws} {s : ByteArray} {v : Value}
theorem keys_ins : ∀ {li : Rws}, has cmpS li s = false → (put cmpS li s v).map (·.1) = ins s (li.map (·.1)) := by
  intro li h
  unfold put
  rw [h]
  simp only [Bool.false_eq_true, if_false]
  unfold pos
  clear h
  induction li with
  | nil => rfl
  | cons x r ih =>
    rw [List.map_cons, ins, List.takeWhile_cons]
    by_cases hc : cmpS x.1 s = -1
    · rw [if_pos hc, if_pos (decide_eq_true hc), ← ih]
      rfl
    · rw [if_neg hc, if_neg (by simpa using hc)]
      rfl
theorem keys_isE : ∀ (is : List ByteArray) (li : Rws), (isE li is).1 = 0 → (isE li is).2.map (·.1) = isortO (li.map (·.1)) is
  | [], li, h => rfl
  | x :: r, li, h => by
    unfold isE at h ⊢
    by_cases hz : isinR li x ≠ 0
    · rw [if_pos hz] at h
      exact absurd h hz
    · rw [if_neg hz] at h ⊢
      have hz2 : isinR li x = 0 := by omega
      unfold isinR at hz2
      split at hz2
      · contradiction
      rename_i h1
      split at hz2
      · contradiction
      rename_i h2
      have e : isinL li x = put cmpS li x (.bool true) := by unfold isinL; rw [if_neg h1]
      rw [e] at h ⊢
      rw [keys_isE r _ h, keys_ins (by simpa using h2)]
      rfl
def putI (l : List (ByteArray × Int)) (s : ByteArray) (y : Int) : List (ByteArray × Int) := l.take (pos cmpS (Ti.rows l) s) ++ (s, y) :: l.drop (pos cmpS (Ti.rows l) s)
theorem rows_putI {l : List (ByteArray × Int)} {y : Int} (h : has cmpS (Ti.rows l) s = false) : put cmpS (Ti.rows l) s (.int .i64 y) = Ti.rows (putI l s y) := by
  unfold put putI
  rw [h]
  simp only [Bool.false_eq_true, if_false]
  unfold Ti.rows
  rw [List.map_append, List.map_cons, List.map_take, List.map_drop]
theorem ins_mid (s : ByteArray) : ∀ (a b : List ByteArray), (∀ x ∈ a, cmpS x s = -1) → (∀ x ∈ b, cmpS x s ≠ -1) → ins s (a ++ b) = a ++ s :: b
  | [], [], _, _ => rfl
  | [], y :: b, _, hb => by
    rw [List.nil_append, ins, if_neg (hb y List.mem_cons_self)]
    rfl
  | x :: a, b, ha, hb => by
    rw [List.cons_append, ins, if_pos (ha x List.mem_cons_self), ins_mid s a b (fun z hz => ha z (List.mem_cons_of_mem _ hz)) hb]
    rfl
theorem at_app (node : Int) (a b : List (ByteArray × Int)) : at_ node (a ++ b) = at_ node a ++ at_ node b := by
  unfold at_
  rw [List.filter_append, List.map_append]
theorem at_putI {l : List (ByteArray × Int)} {y node : Int} (hu : Up cmpS (Ti.rows l)) : at_ node (putI l s y) = if y = node then ins s (at_ node l) else at_ node l := by
  have hp : pos cmpS (Ti.rows l) s ≤ l.length := by have := pos_le (c := cmpS) (l := Ti.rows l) (k := s); rwa [Ti.rows_length] at this
  unfold putI
  generalize hP : pos cmpS (Ti.rows l) s = p at *
  rw [at_app]
  have e1 : at_ node ((s, y) :: l.drop p) = if y = node then s :: at_ node (l.drop p) else at_ node (l.drop p) := by
    unfold at_
    split
    · rename_i h
      simp [h]
    · rename_i h
      simp [h]
  rw [e1]
  have e2 : at_ node l = at_ node (l.take p) ++ at_ node (l.drop p) := by rw [← at_app, List.take_append_drop]
  split
  · rw [e2, ins_mid]
    · intro x hx
      obtain ⟨r, hr, rfl⟩ := List.mem_map.1 hx
      obtain ⟨j, hj⟩ := List.getElem?_of_mem (List.mem_filter.1 hr).1
      have hj1 := (List.getElem?_eq_some_iff.1 hj).1
      rw [List.length_take] at hj1
      rw [List.getElem?_take_of_lt (by omega)] at hj
      have h3 := pos_lt (c := cmpS) (l := Ti.rows l) (k := s) (i := j) (by omega) (by rw [Ti.rows_length]; omega)
      have h4 : (Ti.rows l)[j]'(by rw [Ti.rows_length]; omega) = (r.1, .int .i64 r.2) := by
        unfold Ti.rows
        rw [List.getElem_map]
        have := (List.getElem?_eq_some_iff.1 hj).2
        rw [this]
      rw [h4] at h3
      exact h3
    · intro x hx
      obtain ⟨r, hr, rfl⟩ := List.mem_map.1 hx
      obtain ⟨j, hj⟩ := List.getElem?_of_mem (List.mem_filter.1 hr).1
      rw [List.getElem?_drop] at hj
      have hj1 := (List.getElem?_eq_some_iff.1 hj).1
      intro hc
      have h4 : (Ti.rows l)[p + j]'(by rw [Ti.rows_length]; omega) = (r.1, .int .i64 r.2) := by
        unfold Ti.rows
        rw [List.getElem_map]
        have := (List.getElem?_eq_some_iff.1 hj).2
        rw [this]
      have h5 := hu.mono good_S (k := s) (i := p) (j := p + j) (by omega) (by rw [Ti.rows_length]; omega) (by rw [h4]; exact hc)
      have h6 := pos_ge (c := cmpS) (l := Ti.rows l) (k := s) (by rw [hP, Ti.rows_length]; omega)
      simp only [hP] at h6
      exact h6 h5
  · rw [e2]
theorem ms_rows {nodes : Int} : ∀ (ms : List Ro.S63) (l : List (ByteArray × Int)), Up cmpS (Ti.rows l) → (msE nodes (Ti.rows l) ms).1 = 0 →
    ∃ l', (msE nodes (Ti.rows l) ms).2 = Ti.rows l' ∧ ∀ node, at_ node l' = isortO (at_ node l) ((ms.filter fun m => decide (m.f1 = node)).map (·.f0))
  | [], l, hu, h => ⟨l, rfl, fun node => rfl⟩
  | x :: r, l, hu, h => by
    unfold msE at h ⊢
    by_cases hz : memR nodes (Ti.rows l) x.f0 x.f1 ≠ 0
    · rw [if_pos hz] at h
      exact absurd h hz
    · rw [if_neg hz] at h ⊢
      have hz : memR nodes (Ti.rows l) x.f0 x.f1 = 0 := by omega
      obtain ⟨h1, h2, h3⟩ := memR_zero hz
      have e : memL nodes (Ti.rows l) x.f0 x.f1 = Ti.rows (putI l x.f0 x.f1) := by unfold memL; rw [if_pos hz, rows_putI h1]
      rw [e] at h ⊢
      have hu2 : Up cmpS (Ti.rows (putI l x.f0 x.f1)) := by rw [← rows_putI h1]; exact put_up good_S hu
      obtain ⟨l', e1, e2⟩ := ms_rows r (putI l x.f0 x.f1) hu2 h
      refine ⟨l', e1, fun node => ?_⟩
      rw [e2, at_putI hu]
      by_cases hc : x.f1 = node
      · rw [if_pos hc, List.filter_cons_of_pos (by simpa using hc)]
        rfl
      · rw [if_neg hc, List.filter_cons_of_neg (by simpa using hc)]
end
end Go.Proofs.Ytcbpmmcpidfllaa.Yu
end
