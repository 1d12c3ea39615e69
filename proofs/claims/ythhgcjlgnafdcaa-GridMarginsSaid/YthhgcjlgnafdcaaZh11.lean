/- Texts of this seat, put together (Zh11). -/
import Derived.Sort.Walk0
section
namespace Go.Proofs.Ythhgcjlgnafdcaa.Os
set_option linter.unusedSimpArgs false
set_option linter.unusedVariables false
open Go
structure Good {α : Type} (c : α → α → Int) : Prop where
  sgn : ∀ x y, c x y = -1 ∨ c x y = 0 ∨ c x y = 1
  anti : ∀ x y, c y x = -c x y
  trans : ∀ x y z, c x y ≤ 0 → c y z ≤ 0 → c x z ≤ 0
  one : ∀ x y, c x y = 0 → x = y
def cmpS (a b : ByteArray) : Int := if Op.bytesLess a.toList b.toList = true then -1 else if (a.toList == b.toList) = true then 0 else 1
theorem cmpS_lt {a b : ByteArray} : cmpS a b = -1 ↔ a.toList < b.toList := by
  unfold cmpS
  rw [bytesLess_eq]
  by_cases h : a.toList < b.toList
  · simp [h]
  · simp only [h, decide_false, Bool.false_eq_true, if_false]
    split <;> simp
theorem cmpS_eq {a b : ByteArray} : cmpS a b = 0 ↔ a.toList = b.toList := by
  unfold cmpS
  rw [bytesLess_eq]
  by_cases h : a.toList < b.toList
  · simp only [h, decide_true, if_true]
    constructor
    · intro h; omega
    · intro e; rw [e] at h; exact absurd h (List.lt_irrefl _)
  · simp only [h, decide_false, Bool.false_eq_true, if_false]
    by_cases e : a.toList = b.toList
    · simp [e]
    · simp [e]
theorem cmpS_gt {a b : ByteArray} : cmpS a b = 1 ↔ b.toList < a.toList := by
  have h1 := @cmpS_lt a b
  have h2 := @cmpS_eq a b
  have h3 : cmpS a b = -1 ∨ cmpS a b = 0 ∨ cmpS a b = 1 := by unfold cmpS; split <;> (try split) <;> simp
  constructor
  · intro h
    have n1 : ¬ a.toList < b.toList := fun q => by have := h1.2 q; omega
    have n2 : a.toList ≠ b.toList := fun q => by have := h2.2 q; omega
    refine Classical.byContradiction fun q => n2 (List.le_antisymm ?_ ?_)
    · exact List.not_lt.1 q
    · exact List.not_lt.1 n1
  · intro h
    rcases h3 with q | q | q
    · exact absurd (List.lt_trans (h1.1 q) h) (List.lt_irrefl _)
    · rw [h2.1 q] at h; exact absurd h (List.lt_irrefl _)
    · exact q
theorem good_S : Good cmpS := by
  have h3 : ∀ a b, cmpS a b = -1 ∨ cmpS a b = 0 ∨ cmpS a b = 1 := fun a b => by unfold cmpS; split <;> (try split) <;> simp
  refine ⟨h3, fun x y => ?_, fun x y z h1 h2 => ?_, fun x y h => ?_⟩
  · rcases h3 x y with q | q | q
    · rw [q, cmpS_gt.2 (cmpS_lt.1 q)]; rfl
    · rw [q, cmpS_eq.2 (cmpS_eq.1 q).symm]; rfl
    · rw [q, cmpS_lt.2 (cmpS_gt.1 q)]
  · rcases h3 x y with q | q | q
    · rcases h3 y z with r | r | r
      · rw [cmpS_lt.2 (List.lt_trans (cmpS_lt.1 q) (cmpS_lt.1 r))]; decide
      · have := cmpS_lt.1 q; rw [cmpS_eq.1 r] at this; rw [cmpS_lt.2 this]; decide
      · omega
    · rcases h3 y z with r | r | r
      · have := cmpS_lt.1 r; rw [← cmpS_eq.1 q] at this; rw [cmpS_lt.2 this]; decide
      · rw [cmpS_eq.2 ((cmpS_eq.1 q).trans (cmpS_eq.1 r))]; decide
      · omega
    · omega
  · have h1 := cmpS_eq.1 h
    rw [ByteArray.toList_eq, ByteArray.toList_eq] at h1
    exact ByteArray.ext (Array.ext' h1)
end Go.Proofs.Ythhgcjlgnafdcaa.Os
end
section
namespace Go.Proofs.Ythhgcjlgnafdcaa.Tb
set_option linter.unusedSimpArgs false
set_option linter.unusedVariables false
open Go Go.Proofs.Ythhgcjlgnafdcaa.Os
section
variable {K V : Type} {c : K → K → Int} {l : List (K × V)} {k k' : K} {v v' : V}
def Up (c : K → K → Int) (l : List (K × V)) : Prop := l.Pairwise fun a b => c a.1 b.1 = -1
def pos (c : K → K → Int) (l : List (K × V)) (k : K) : Nat := (l.takeWhile fun r => decide (c r.1 k = -1)).length
def has (c : K → K → Int) (l : List (K × V)) (k : K) : Bool := match l[pos c l k]? with
  | some r => decide (c r.1 k = 0)
  | none => false
def put (c : K → K → Int) (l : List (K × V)) (k : K) (v : V) : List (K × V) := if has c l k then l.set (pos c l k) (k, v) else l.take (pos c l k) ++ (k, v) :: l.drop (pos c l k)
def get (c : K → K → Int) (l : List (K × V)) (k : K) : Option V := if has c l k then (l[pos c l k]?).map (·.2) else none
theorem pos_le : pos c l k ≤ l.length := by
  unfold pos
  exact (List.takeWhile_sublist _).length_le
theorem pos_lt {i : Nat} (h : i < pos c l k) (hl : i < l.length) : c l[i].1 k = -1 := by
  unfold pos at h
  have h1 := List.all_takeWhile (p := fun r : K × V => decide (c r.1 k = -1)) (l := l)
  rw [List.all_eq_true] at h1
  have h2 := h1 _ (List.getElem_mem h)
  have h3 : (l.takeWhile fun r => decide (c r.1 k = -1))[i] = l[i] := (List.takeWhile_prefix _).getElem h
  rw [h3] at h2
  simpa using h2
theorem pos_eq {i : Nat} (hi : i ≤ l.length) (h1 : ∀ j (hj : j < l.length), j < i → c l[j].1 k = -1) (h2 : ∀ (hj : i < l.length), c l[i].1 k ≠ -1) : pos c l k = i := by
  unfold pos
  induction l generalizing i with
  | nil => simp at hi; simp [hi]
  | cons a r ih =>
    cases i with
    | zero =>
      have := h2 (by simp)
      simp only [List.getElem_cons_zero] at this
      rw [List.takeWhile_cons_of_neg (by simpa using this)]
      rfl
    | succ i =>
      have h3 := h1 0 (by simp) (Nat.succ_pos _)
      simp only [List.getElem_cons_zero] at h3
      rw [List.takeWhile_cons_of_pos (by simpa using h3), List.length_cons]
      congr 1
      refine ih (by simpa using hi) (fun j hj hji => ?_) (fun hj => ?_)
      · have h4 := h1 (j + 1) (by simpa using hj) (by omega)
        rwa [List.getElem_cons_succ] at h4
      · have h4 := h2 (by simpa using hj)
        rwa [List.getElem_cons_succ] at h4
theorem pos_ge (h : pos c l k < l.length) : c l[pos c l k].1 k ≠ -1 := by
  have key : ∀ l : List (K × V), ∀ (h : (l.takeWhile fun r => decide (c r.1 k = -1)).length < l.length), c (l[(l.takeWhile fun r => decide (c r.1 k = -1)).length]'h).1 k ≠ -1 := by
    intro l
    induction l with
    | nil => intro h; simp at h
    | cons a r ih =>
      intro h
      by_cases ha : c a.1 k = -1
      · have e : ((a :: r).takeWhile fun r => decide (c r.1 k = -1)) = a :: (r.takeWhile fun r => decide (c r.1 k = -1)) := List.takeWhile_cons_of_pos (by simpa using ha)
        have := ih (by rw [e] at h; simpa using h)
        simpa [e] using this
      · have e : ((a :: r).takeWhile fun r => decide (c r.1 k = -1)) = [] := List.takeWhile_cons_of_neg (by simpa using ha)
        simpa [e] using ha
  exact key l h
theorem has_lt (h : has c l k = true) : ∃ hp : pos c l k < l.length, c l[pos c l k].1 k = 0 := by
  unfold has at h
  by_cases hp : pos c l k < l.length
  · rw [List.getElem?_eq_getElem hp] at h
    exact ⟨hp, by simpa using h⟩
  · rw [List.getElem?_eq_none (by omega)] at h
    simp at h
theorem has_of (hp : pos c l k < l.length) : has c l k = decide (c l[pos c l k].1 k = 0) := by
  unfold has
  rw [List.getElem?_eq_getElem hp]
theorem has_end (hp : ¬ pos c l k < l.length) : has c l k = false := by
  unfold has
  rw [List.getElem?_eq_none (by omega)]
theorem Up.at (hu : Up c l) {i j : Nat} (hij : i < j) (hj : j < l.length) : c (l[i]'(by omega)).1 l[j].1 = -1 := (List.pairwise_iff_getElem.1 hu) i j (by omega) hj hij
theorem Up.mono (G : Good c) (hu : Up c l) {i j : Nat} (hij : i ≤ j) (hj : j < l.length) (h : c l[j].1 k = -1) : c (l[i]'(by omega)).1 k = -1 := by
  rcases Nat.lt_or_eq_of_le hij with h1 | rfl
  · have h2 := hu.at h1 hj
    have h3 := G.trans (l[i]'(by omega)).1 l[j].1 k (by omega) (by omega)
    rcases G.sgn (l[i]'(by omega)).1 k with h4 | h4 | h4
    · exact h4
    · have h5 := G.one _ _ h4
      rw [h5] at h2
      have := G.anti k l[j].1
      omega
    · omega
  · exact h
theorem pos_mid (G : Good c) (hu : Up c l) {i : Nat} (hi : i ≤ l.length) (h1 : i = 0 ∨ ∃ h : i - 1 < l.length, c l[i - 1].1 k = -1) (h2 : ∀ (hj : i < l.length), c l[i].1 k ≠ -1) : pos c l k = i :=
  pos_eq hi (fun j hj hji => by
    rcases h1 with rfl | ⟨h, hc⟩
    · omega
    · exact hu.mono G (by omega) h hc) h2
theorem has_iff (G : Good c) (hu : Up c l) : has c l k = true ↔ k ∈ l.map (·.1) := by
  constructor
  · intro h
    obtain ⟨hp, h1⟩ := has_lt h
    have := G.one _ _ h1
    exact List.mem_map.2 ⟨_, List.getElem_mem hp, this⟩
  · intro h
    obtain ⟨r, hr, rfl⟩ := List.mem_map.1 h
    obtain ⟨i, hi, rfl⟩ := List.getElem_of_mem hr
    have hz : c l[i].1 l[i].1 = 0 := by have := G.anti l[i].1 l[i].1; omega
    have hp : pos c l l[i].1 = i := pos_eq (by omega) (fun j hj hji => hu.at hji hi) (fun _ => by rw [hz]; decide)
    have : pos c l l[i].1 < l.length := by omega
    rw [has_of this]
    simp only [hp, hz, decide_true]
theorem get_iff (G : Good c) (hu : Up c l) : get c l k = some v ↔ (k, v) ∈ l := by
  constructor
  · intro h
    unfold get at h
    split at h
    · rename_i hh
      obtain ⟨hp, h1⟩ := has_lt hh
      have h2 := G.one _ _ h1
      rw [List.getElem?_eq_getElem hp, Option.map_some] at h
      injection h with h
      have : l[pos c l k] = (k, v) := Prod.ext h2 h
      rw [← this]
      exact List.getElem_mem hp
    · cases h
  · intro h
    obtain ⟨i, hi, hr⟩ := List.getElem_of_mem h
    have hz : c k k = 0 := by have := G.anti k k; omega
    have hki : l[i].1 = k := by rw [hr]
    have hp : pos c l k = i := pos_eq (by omega) (fun j hj hji => by have := hu.at hji hi; rwa [hki] at this) (fun _ => by rw [hki, hz]; decide)
    have hlt : pos c l k < l.length := by omega
    unfold get
    rw [has_of hlt]
    simp only [hp, hki, hz, decide_true, if_true]
    rw [List.getElem?_eq_getElem hi, Option.map_some, hr]
theorem get_none (G : Good c) (hu : Up c l) : get c l k = none ↔ has c l k = false := by
  unfold get
  split
  · rename_i h
    obtain ⟨hp, _⟩ := has_lt h
    rw [List.getElem?_eq_getElem hp]
    simp [h]
  · rename_i h
    simp [h]
theorem put_up (G : Good c) (hu : Up c l) : Up c (put c l k v) := by
  unfold put
  split
  · rename_i h
    obtain ⟨hp, h1⟩ := has_lt h
    have h2 := G.one _ _ h1
    refine List.pairwise_iff_getElem.2 fun i j hi hj hij => ?_
    rw [List.length_set] at hi hj
    simp only [List.getElem_set]
    have h3 := hu.at hij hj
    split <;> split
    · omega
    · subst i; rwa [h2] at h3
    · subst j; rwa [h2] at h3
    · exact h3
  · rename_i h
    refine List.pairwise_append.2 ⟨hu.sublist (List.take_sublist _ _), List.pairwise_cons.2 ⟨fun r hr => ?_, hu.sublist (List.drop_sublist _ _)⟩, fun a ha b hb => ?_⟩
    · obtain ⟨i, hi, rfl⟩ := List.getElem_of_mem hr
      rw [List.getElem_drop]
      rw [List.length_drop] at hi
      have hp : pos c l k < l.length := by omega
      have h1 := pos_ge hp
      have h2 : c l[pos c l k].1 k ≠ 0 := fun h3 => h (by rw [has_of hp]; exact decide_eq_true h3)
      have h3 : ¬ c l[pos c l k + i].1 k = -1 := fun h4 => h1 (hu.mono G (by omega) (by omega) h4)
      have h4 : ¬ c l[pos c l k + i].1 k = 0 := fun h5 => by
        rcases Nat.eq_zero_or_pos i with rfl | hi0
        · exact h2 h5
        · have h6 := hu.at (i := pos c l k) (j := pos c l k + i) (by omega) (by omega)
          rw [G.one _ _ h5] at h6
          exact h1 h6
      have := G.sgn l[pos c l k + i].1 k
      have := G.anti l[pos c l k + i].1 k
      show c k l[pos c l k + i].1 = -1
      omega
    · obtain ⟨i, hi, rfl⟩ := List.getElem_of_mem ha
      rw [List.length_take] at hi
      rw [List.getElem_take]
      have h1 := pos_lt (c := c) (l := l) (k := k) (i := i) (by omega) (by omega)
      rcases List.mem_cons.1 hb with rfl | hb
      · exact h1
      · obtain ⟨j, hj, rfl⟩ := List.getElem_of_mem hb
        rw [List.length_drop] at hj
        rw [List.getElem_drop]
        exact hu.at (by omega) (by omega)
theorem put_mem (G : Good c) (hu : Up c l) : (k', v') ∈ put c l k v ↔ (k' = k ∧ v' = v) ∨ (k' ≠ k ∧ (k', v') ∈ l) := by
  unfold put
  split
  · rename_i h
    obtain ⟨hp, h1⟩ := has_lt h
    have h2 := G.one _ _ h1
    constructor
    · intro hm
      obtain ⟨i, hi, he⟩ := List.getElem_of_mem hm
      rw [List.length_set] at hi
      rw [List.getElem_set] at he
      split at he
      · left; injection he with e1 e2; exact ⟨e1.symm, e2.symm⟩
      · right
        refine ⟨fun e => ?_, by rw [← he]; exact List.getElem_mem hi⟩
        have hk : l[i].1 = k := by rw [he]; exact e
        rename_i hne
        have hz : c k k = 0 := by have := G.anti k k; omega
        rcases Nat.lt_or_gt_of_ne hne with h3 | h3
        · have := hu.at h3 hi
          rw [h2, hk] at this
          omega
        · have := hu.at h3 hp
          rw [h2, hk] at this
          omega
    · rintro (⟨rfl, rfl⟩ | ⟨hne, hm⟩)
      · exact List.mem_iff_getElem.2 ⟨pos c l k', by rw [List.length_set]; exact hp, by rw [List.getElem_set_self]⟩
      · obtain ⟨i, hi, he⟩ := List.getElem_of_mem hm
        refine List.mem_iff_getElem.2 ⟨i, by rw [List.length_set]; exact hi, ?_⟩
        rw [List.getElem_set_ne, he]
        rintro rfl
        rw [he] at h2
        exact hne h2
  · rename_i h
    have hk : ∀ r ∈ l, r.1 ≠ k := fun r hr e => h ((has_iff G hu).2 (List.mem_map.2 ⟨r, hr, e⟩))
    rw [List.mem_append, List.mem_cons]
    have hl : l = l.take (pos c l k) ++ l.drop (pos c l k) := (List.take_append_drop _ _).symm
    constructor
    · rintro (hm | hm | hm)
      · have := List.mem_of_mem_take hm
        exact .inr ⟨hk _ this, this⟩
      · injection hm with e1 e2
        exact .inl ⟨e1, e2⟩
      · have := List.mem_of_mem_drop hm
        exact .inr ⟨hk _ this, this⟩
    · rintro (⟨rfl, rfl⟩ | ⟨hne, hm⟩)
      · exact .inr (.inl rfl)
      · rw [hl, List.mem_append] at hm
        rcases hm with hm | hm
        · exact .inl hm
        · exact .inr (.inr hm)
theorem put_len (h : has c l k = false) : (put c l k v).length = l.length + 1 := by
  unfold put
  rw [h]
  have := pos_le (c := c) (l := l) (k := k)
  simp
  omega
theorem put_len_has (h : has c l k = true) : (put c l k v).length = l.length := by
  unfold put
  rw [h]
  simp
theorem mem_put {r : K × V} (h : r ∈ put c l k v) : r = (k, v) ∨ r ∈ l := by
  unfold put at h
  split at h
  · obtain ⟨i, hi, he⟩ := List.getElem_of_mem h
    rw [List.getElem_set] at he
    split at he
    · exact .inl he.symm
    · rw [← he]; exact .inr (List.getElem_mem _)
  · rw [List.mem_append, List.mem_cons] at h
    rcases h with h | h | h
    · exact .inr (List.mem_of_mem_take h)
    · exact .inl h
    · exact .inr (List.mem_of_mem_drop h)
end
end Go.Proofs.Ythhgcjlgnafdcaa.Tb
end
section
namespace Go.Proofs.Ythhgcjlgnafdcaa.Tb
section
variable {K V V' : Type} {c : K → K → Int} {l : List (K × V)} {k : K} {v : V}
def mapV (f : V → V') (l : List (K × V)) : List (K × V') := l.map fun r => (r.1, f r.2)
theorem pos_map (f : V → V') : pos c (mapV f l) k = pos c l k := by
  unfold pos mapV
  rw [List.takeWhile_map, List.length_map]
  rfl
theorem has_map (f : V → V') : has c (mapV f l) k = has c l k := by
  unfold has
  rw [pos_map]
  unfold mapV
  rw [List.getElem?_map]
  cases l[pos c l k]? <;> rfl
theorem get_map (f : V → V') : get c (mapV f l) k = (get c l k).map f := by
  unfold get
  rw [pos_map, has_map]
  unfold mapV
  rw [List.getElem?_map]
  cases l[pos c l k]? <;> split <;> rfl
theorem put_map (f : V → V') : put c (mapV f l) k (f v) = mapV f (put c l k v) := by
  unfold put
  rw [pos_map, has_map]
  unfold mapV
  split
  · rw [List.map_set]
  · rw [List.map_append, List.map_cons, List.map_take, List.map_drop]
theorem up_map (f : V → V') : Up c (mapV f l) ↔ Up c l := by
  unfold Up mapV
  rw [List.pairwise_map]
end
end Go.Proofs.Ythhgcjlgnafdcaa.Tb
end
