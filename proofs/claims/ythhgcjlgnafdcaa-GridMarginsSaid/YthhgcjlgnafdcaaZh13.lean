/- Texts of this seat, put together (Zh13). -/
import Derived.Deep.MidRow
import Derived.Laws.CopyRow
import Derived.Test.YthhgcjlgnafdcaaZh3
import Derived.Test.YthhgcjlgnafdcaaZh11
section
namespace Go.Proofs.Ythhgcjlgnafdcaa.Tm
set_option linter.unusedVariables false
set_option linter.unusedSimpArgs false
open Go Go.RowKit Go.Proofs.YthhgcjlgnafdcaaW.PrintWords Go.Proofs.YthhgcjlgnafdcaaW.PrintLast Go.Proofs.Ythhgcjlgnafdcaa.Hd Go.Proofs.Ythhgcjlgnafdcaa.Os Go.Proofs.Ythhgcjlgnafdcaa.Tb
abbrev Rws := List (ByteArray × Value)
def enc (r : ByteArray × Value) : List Value := [.string r.1, r.2]
def flat (l : Rws) : List Value := l.flatMap enc
theorem flat_cons (r : ByteArray × Value) (l : Rws) : flat (r :: l) = enc r ++ flat l := rfl
theorem flat_app (l m : Rws) : flat (l ++ m) = flat l ++ flat m := List.flatMap_append
theorem flat_length (l : Rws) : (flat l).length = l.length * 2 := flat_len enc (fun _ => rfl) l
theorem flat_take : ∀ (l : Rws) (i : Nat), (flat l).take (i * 2) = flat (l.take i)
  | l, 0 => by simp [flat]
  | [], i + 1 => by simp [flat]
  | r :: l, i + 1 => by
    rw [List.take_succ_cons, flat_cons, flat_cons, ← flat_take l i, show (i + 1) * 2 = (enc r).length + i * 2 by show _ = 2 + i * 2; omega, List.take_length_add_append]
theorem flat_drop : ∀ (l : Rws) (i : Nat), (flat l).drop (i * 2) = flat (l.drop i)
  | l, 0 => by simp
  | [], i + 1 => by simp [flat]
  | r :: l, i + 1 => by
    rw [List.drop_succ_cons, flat_cons, ← flat_drop l i, show (i + 1) * 2 = (enc r).length + i * 2 by show _ = 2 + i * 2; omega, List.drop_length_add_append]
def Ones (l : Rws) : Prop := ∀ r ∈ l, r.2.oneCell' = true
theorem flat_one {l : Rws} (h : Ones l) : ∀ v ∈ flat l, v.oneCell' = true := fun v hv => by
  obtain ⟨r, hr, hv⟩ := List.mem_flatMap.1 hv
  simp only [enc, List.mem_cons, List.not_mem_nil, or_false] at hv
  rcases hv with rfl | rfl
  · rfl
  · exact h r hr
theorem Ones.put {l : Rws} (h : Ones l) {k : ByteArray} {v : Value} (hv : v.oneCell' = true) : Ones (put cmpS l k v) := fun r hr => by
  rcases mem_put hr with rfl | hr
  · exact hv
  · exact h r hr
def Rng (A : Option Addr) (l : Rws) (W : World) : Prop := ∀ j (h : j < l.length), ∃ g, A = some ⟨g, 0, none⟩ ∧ W.rangeAt g (j * 2) (enc l[j])
theorem ow_rng {W : World} {lo e n c : Nat} {A : Option Addr} {l : Rws} (h : Ow lo e 2 (.slice A n c) n (flat l) W) : l.length = n ∧ n ≤ c ∧ Rng A l W := by
  obtain ⟨h1, h2⟩ := h
  have hn : l.length = n := by rw [flat_length] at h1; omega
  rcases h2 with ⟨h3, h4⟩ | ⟨g, cap, cur, h3, hg, hb, hc, hm, hs, ht⟩
  · injection h3 with a1 a2 a3
    subst a1 a3
    exact ⟨hn, by omega, fun j hj => by omega⟩
  · injection h3 with a1 a2 a3
    subst a1 a3
    refine ⟨hn, hc, fun j hj => ⟨g, rfl, fun i u hu => ?_⟩⟩
    have hi : i < 2 := (List.getElem?_eq_some_iff.1 hu).1
    have h5 := flat_get enc (fun _ => rfl) l j i l[j] (List.getElem?_eq_getElem hj) hi
    have h6 : j * 2 + i < n * 2 := by omega
    rw [hu, show l.flatMap enc = flat l from rfl, ← ht, List.getElem?_take_of_lt h6] at h5
    simpa [World.cell?, hb] using h5
theorem copy_rows {P : Program} (w : World) (dT ty e : TypeId) (g o dLen dCap : Nat) (a : Addr) (sLen sCap : Nat) (cur : Array Value) (t : TypeId) (cs : List Value) (sz m : Nat)
    (hu : P.underlying dT = some (.slice e)) (hs : (P.info? e).map (·.size) = some sz) (hg : w.heap[g]? = some (.cells cur t (0, 0))) (hm : Nat.min sLen dLen = m) (hn : cs.length = m * sz)
    (hsrc : ∀ j v, cs[j]? = some v → w.cell? (a.add j) = some v) (hfit : o + cs.length ≤ cur.size) (h1 : ∀ v ∈ cs, v.oneCell' = true) :
    (Builtin.copy_ #[dT, dT] ty #[.slice (some ⟨g, o, none⟩) dLen dCap, .slice (some a) sLen sCap]).run P w = .ok (goInt m) (w.setRow g (cur.toList.take o ++ cs ++ cur.toList.drop (o + cs.length)).toArray) := by
  have hl := run_loadCells_list (P := P) w a cs hsrc
  have hst := run_storeCells_at P g o t cs 0 cur w hg (by simpa using hfit) h1
  cases hq : P.info? e with
  | none => simp [hq] at hs
  | some i =>
    have hi : i.size = sz := by simpa [hq] using hs
    rw [hn] at hl
    simp [Builtin.copy_, run_underlying hu, Builtin.lenOf, Builtin.firstCells, sizeOf, typeInfo, hq, hi, hm, hl, hst]
theorem ins_cells {α : Type} {cur fl ys : List α} {a N : Nat} (ht : cur.take N = fl) (hl : N + 2 ≤ cur.length) (ha : a ≤ N) (hy : ys.length = 2) {cur1 cur2 : List α}
    (h1 : cur1 = cur.take (a + 2) ++ fl.drop a ++ cur.drop (a + 2 + (fl.drop a).length)) (h2 : cur2 = cur1.take a ++ ys ++ cur1.drop (a + ys.length)) :
    cur1.length = cur.length ∧ cur2.length = cur.length ∧ cur2.take (N + 2) = fl.take a ++ ys ++ fl.drop a := by
  have hfl : fl.length = N := by rw [← ht, List.length_take]; omega
  have hd : (fl.drop a).length = N - a := by rw [List.length_drop, hfl]
  have e1 : cur1.length = cur.length := by
    rw [h1]
    simp only [List.length_append, List.length_take, List.length_drop, hfl]
    omega
  have e2 : cur1.take a = fl.take a := by
    rw [h1, ← ht, List.append_assoc, List.take_append_of_le_length (by rw [List.length_take]; omega), List.take_take, List.take_take, Nat.min_eq_left (by omega), Nat.min_eq_left (by omega)]
  have e3 : cur1.drop (a + ys.length) = fl.drop a ++ cur.drop (N + 2) := by
    rw [h1, hy, List.append_assoc, List.drop_append_of_le_length (by rw [List.length_take]; omega), List.drop_eq_nil_of_le (by rw [List.length_take]; omega), List.nil_append, hd, show a + 2 + (N - a) = N + 2 by omega]
  have e4 : cur2 = fl.take a ++ ys ++ fl.drop a ++ cur.drop (N + 2) := by rw [h2, e2, e3]; simp
  refine ⟨e1, ?_, ?_⟩
  · rw [e4]
    simp only [List.length_append, List.length_take, List.length_drop, hfl, hy]
    omega
  · have hlen : (fl.take a ++ ys ++ fl.drop a).length = N + 2 := by
      simp only [List.length_append, List.length_take, List.length_drop, hfl, hy]
      omega
    rw [e4, ← hlen]
    exact List.take_left
theorem grow_cells {α : Type} {row fl ys : List α} {a N : Nat} (ht : row.take a = fl.take a) (hfl : fl.length = N) (hl : N + 2 ≤ row.length) (ha : a ≤ N) (hy : ys.length = 2) {cur1 cur2 : List α}
    (h1 : cur1 = row.take a ++ ys ++ row.drop (a + ys.length)) (h2 : cur2 = cur1.take (a + 2) ++ fl.drop a ++ cur1.drop (a + 2 + (fl.drop a).length)) :
    cur1.length = row.length ∧ cur2.length = row.length ∧ cur2.take (N + 2) = fl.take a ++ ys ++ fl.drop a := by
  have hd : (fl.drop a).length = N - a := by rw [List.length_drop, hfl]
  have e1 : cur1.length = row.length := by
    rw [h1]
    simp only [List.length_append, List.length_take, List.length_drop, hy]
    omega
  have e2 : cur1.take (a + 2) = fl.take a ++ ys := by
    have hlen : (fl.take a ++ ys).length = a + 2 := by simp only [List.length_append, List.length_take, hfl, hy]; omega
    rw [h1, ht, ← hlen]
    exact List.take_left
  have e4 : cur2 = fl.take a ++ ys ++ fl.drop a ++ cur1.drop (a + 2 + (fl.drop a).length) := by rw [h2, e2]
  have hlen : (fl.take a ++ ys ++ fl.drop a).length = N + 2 := by
    simp only [List.length_append, List.length_take, List.length_drop, hfl, hy]
    omega
  refine ⟨e1, ?_, ?_⟩
  · rw [e4, List.length_append, hlen, List.length_drop, e1, hd]
    omega
  · rw [e4, ← hlen]
    exact List.take_left
theorem ow_cases {W : World} {lo e sz n c : Nat} {A : Option Addr} {cs : List Value} (h : Ow lo e sz (.slice A n c) n cs W) :
    (A = none ∧ n = 0 ∧ c = 0 ∧ cs = []) ∨ ∃ g cur, A = some ⟨g, 0, none⟩ ∧ lo ≤ g ∧ W.heap[g]? = some (.cells cur e (0, 0)) ∧ n ≤ c ∧ c ≤ maxLen ∧ cur.size = c * sz ∧ cur.toList.take (n * sz) = cs := by
  obtain ⟨h1, h2⟩ := h
  rcases h2 with ⟨h3, h4⟩ | ⟨g, cap, cur, h3, hg, hb, hc, hm, hs, ht⟩
  · injection h3 with a1 a2 a3
    subst a1 a3 h4
    exact .inl ⟨rfl, rfl, rfl, List.eq_nil_of_length_eq_zero (by simpa using h1)⟩
  · injection h3 with a1 a2 a3
    subst a1 a3
    exact .inr ⟨g, cur, rfl, hg, hb, hc, hm, hs, ht⟩
theorem flat_set : ∀ (l : Rws) (p : Nat) (h : p < l.length) (y : Value), (flat l).set (p * 2 + 1) y = flat (l.set p (l[p].1, y))
  | [], p, h, y => by simp at h
  | r :: l, 0, h, y => rfl
  | r :: l, p + 1, h, y => by
    have := flat_set l p (by simpa using h) y
    have hp : p < l.length := by simpa using h
    have e : (r :: l).set (p + 1) ((r :: l)[p + 1].1, y) = r :: l.set p (l[p].1, y) := rfl
    rw [e, flat_cons, flat_cons, ← this, show (p + 1) * 2 + 1 = p * 2 + 1 + 1 + 1 by omega]
    rfl
theorem all_val {w0 w : World} {L : List F2} {j g n c lo e : Nat} {l : Rws} (H : All w0 w L) (hj : L[j]? = some (ow lo e 2 (.slice (some ⟨g, 0, none⟩) n c) n (flat l))) {p : Nat} (hp : p < l.length) (hb : w0.heap.size ≤ lo) (y : Value) :
    All w0 (w.setCell ⟨g, p * 2 + 1, none⟩ y) (L.set j (ow lo e 2 (.slice (some ⟨g, 0, none⟩) n c) n (flat (l.set p (l[p].1, y))))) := by
  have hown := H.at j hj
  have hn := (ow_rng hown).1
  rcases ow_cases hown with ⟨h, -⟩ | ⟨g', cur, h, hg, hbk, hnc, hm, hcs, htk⟩
  · cases h
  · injection h with h
    injection h with h
    subst h
    have e : w.setCell ⟨g, p * 2 + 1, none⟩ y = w.setRow g (cur.setIfInBounds (p * 2 + 1) y) := setCell_eq_setRow w g (p * 2 + 1) cur _ _ y hbk
    rw [e]
    refine H.own j hj ⟨rfl, rfl, rfl, by simp, fun k hk hkg => setRow_other _ _ _ _ (fun e => hkg (by rw [e]; rfl))⟩ ⟨?_, .inr ⟨g, c, _, rfl, hg, setRow_heap _ g cur _ _ _ hbk, hnc, hm, by simpa using hcs, ?_⟩⟩ (.inl rfl) hb
    · rw [flat_length]
      simp [hn]
    · rw [Array.toList_setIfInBounds, List.take_set, htk, flat_set l p hp y]
end Go.Proofs.Ythhgcjlgnafdcaa.Tm
end
