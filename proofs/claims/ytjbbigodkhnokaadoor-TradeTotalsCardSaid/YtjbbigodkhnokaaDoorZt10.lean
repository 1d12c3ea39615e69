/- Texts of this seat, put together (Zt10). -/
import Derived.Sort.Walk0
import Derived.Test.YtjbbigodkhnokaaDoorZt8
section
namespace Go.Proofs.YtjbbigodkhnokaaDoor.Or
set_option linter.unusedSimpArgs false
set_option linter.unusedVariables false
open Go Go.RowKit Go.Proofs.YtjbbigodkhnokaaDoorW.PrintWords Go.Proofs.YtjbbigodkhnokaaDoorW.PrintLast Go.Proofs.YtjbbigodkhnokaaDoorW.PrintMore Go.Proofs.YtjbbigodkhnokaaDoor.Tr
structure Good {α : Type} (c : α → α → Int) : Prop where
  sgn : ∀ x y, c x y = -1 ∨ c x y = 0 ∨ c x y = 1
  anti : ∀ x y, c y x = -c x y
  trans : ∀ x y z, c x y ≤ 0 → c y z ≤ 0 → c x z ≤ 0
def lex {α : Type} (c d : α → α → Int) (x y : α) : Int := if c x y = 0 then d x y else c x y
theorem Good.lex {α : Type} {c d : α → α → Int} (h : Good c) (h' : Good d) : Good (lex c d) := by
  refine ⟨fun x y => ?_, fun x y => ?_, fun x y z h1 h2 => ?_⟩
  · unfold Or.lex
    split
    · exact h'.sgn x y
    · exact h.sgn x y
  · have := h.anti x y
    have := h'.anti x y
    unfold Or.lex
    split <;> split <;> omega
  · unfold Or.lex at *
    have a1 := h.trans x y z
    have a2 := h.trans z x y
    have a3 := h.trans y z x
    have b1 := h.anti x y
    have b2 := h.anti y z
    have b3 := h.anti x z
    have d1 := h'.trans x y z
    by_cases e1 : c x y = 0 <;> by_cases e2 : c y z = 0 <;> by_cases e3 : c x z = 0 <;> simp only [e1, e2, e3, if_true, if_false] at h1 h2 ⊢ <;> omega
theorem Good.on {α β : Type} {c : β → β → Int} (h : Good c) (f : α → β) : Good fun x y => c (f x) (f y) := ⟨fun x y => h.sgn _ _, fun x y => h.anti _ _, fun x y z => h.trans _ _ _⟩
def cmpI (x y : Int) : Int := if x < y then -1 else if x > y then 1 else 0
theorem good_I : Good cmpI := by
  refine ⟨fun x y => ?_, fun x y => ?_, fun x y z h1 h2 => ?_⟩ <;> unfold cmpI at * <;> (repeat' split at *) <;> omega
def cmpS (a b : ByteArray) : Int := if Op.bytesLess a.toList b.toList = true then -1 else if (a.toList == b.toList) = true then 0 else 1
theorem cmpS_lt {a b : ByteArray} : cmpS a b = -1 ↔ a.toList < b.toList := by
  unfold cmpS
  rw [bytesLess_eq]
  by_cases h : a.toList < b.toList
  · simp [h]
  · simp only [h, decide_false, Bool.false_eq_true, if_false]
    split <;> simp
theorem cmpS_eq {a b : ByteArray} : cmpS a b = 0 ↔ a.toList = b.toList := by
  unfold cmpS
  rw [bytesLess_eq]
  by_cases h : a.toList < b.toList
  · simp only [h, decide_true, if_true]
    constructor
    · intro h; omega
    · intro e; rw [e] at h; exact absurd h (List.lt_irrefl _)
  · simp only [h, decide_false, Bool.false_eq_true, if_false]
    by_cases e : a.toList = b.toList
    · simp [e]
    · simp [e]
theorem cmpS_gt {a b : ByteArray} : cmpS a b = 1 ↔ b.toList < a.toList := by
  have h1 := @cmpS_lt a b
  have h2 := @cmpS_eq a b
  have h3 : cmpS a b = -1 ∨ cmpS a b = 0 ∨ cmpS a b = 1 := by unfold cmpS; split <;> (try split) <;> simp
  constructor
  · intro h
    have n1 : ¬ a.toList < b.toList := fun q => by have := h1.2 q; omega
    have n2 : a.toList ≠ b.toList := fun q => by have := h2.2 q; omega
    refine Classical.byContradiction fun q => n2 (List.le_antisymm ?_ ?_)
    · exact List.not_lt.1 q
    · exact List.not_lt.1 n1
  · intro h
    rcases h3 with q | q | q
    · exact absurd (List.lt_trans (h1.1 q) h) (List.lt_irrefl _)
    · rw [h2.1 q] at h; exact absurd h (List.lt_irrefl _)
    · exact q
theorem good_S : Good cmpS := by
  have h3 : ∀ a b, cmpS a b = -1 ∨ cmpS a b = 0 ∨ cmpS a b = 1 := fun a b => by unfold cmpS; split <;> (try split) <;> simp
  refine ⟨h3, fun x y => ?_, fun x y z h1 h2 => ?_⟩
  · rcases h3 x y with q | q | q
    · rw [q, cmpS_gt.2 (cmpS_lt.1 q)]; rfl
    · rw [q, cmpS_eq.2 (cmpS_eq.1 q).symm]; rfl
    · rw [q, cmpS_lt.2 (cmpS_gt.1 q)]
  · rcases h3 x y with q | q | q
    · rcases h3 y z with r | r | r
      · rw [cmpS_lt.2 (List.lt_trans (cmpS_lt.1 q) (cmpS_lt.1 r))]; decide
      · have := cmpS_lt.1 q; rw [cmpS_eq.1 r] at this; rw [cmpS_lt.2 this]; decide
      · omega
    · rcases h3 y z with r | r | r
      · have := cmpS_lt.1 r; rw [← cmpS_eq.1 q] at this; rw [cmpS_lt.2 this]; decide
      · rw [cmpS_eq.2 ((cmpS_eq.1 q).trans (cmpS_eq.1 r))]; decide
      · omega
    · omega
def cmpT (x y : S28) : Int := lex (fun x y => cmpI x.f0 y.f0) (lex (fun x y => cmpS x.f1 y.f1) (lex (fun x y => cmpS x.f2 y.f2) (lex (fun x y => cmpS x.f3 y.f3) (lex (fun x y => cmpI x.f4 y.f4) (fun x y => cmpI x.f5 y.f5))))) x y
theorem good_T : Good cmpT := (good_I.on _).lex ((good_S.on _).lex ((good_S.on _).lex ((good_S.on _).lex ((good_I.on _).lex (good_I.on _)))))
def orL : List Int → Int
  | [] => 0
  | x :: r => if x = 0 then orL r else x
theorem or_l0 (l : List Int) (d : Nat) : ∀ (k i : Nat), i + d = l.length → d < k → l.length ≤ 1000 → cmp_Or_int.l0 k 0 l (l.length : Int) (i : Int) = some (orL (l.drop i)) := by
  induction d with
  | zero =>
    intro k i hi hk hl
    obtain ⟨k, rfl⟩ : ∃ m, k = m + 1 := ⟨k - 1, by omega⟩
    rw [List.drop_of_length_le (by omega)]
    simp only [cmp_Or_int.l0]
    rw [if_neg (by omega)]
    rfl
  | succ d ih =>
    intro k i hi hk hl
    obtain ⟨k, rfl⟩ : ∃ m, k = m + 1 := ⟨k - 1, by omega⟩
    have hlt : i < l.length := by omega
    have ih' := ih k (i + 1) (by omega) (by omega) hl
    have hw : wrap64 ((i : Int) + 1) = ((i + 1 : Nat) : Int) := by unfold wrap64; omega
    rw [List.drop_eq_getElem_cons hlt, orL]
    simp only [cmp_Or_int.l0]
    have e : rd l (i : Int) = l[i] := by unfold rd; rw [Int.toNat_natCast, List.getD_eq_getElem?_getD, List.getElem?_eq_getElem hlt]; rfl
    rw [if_pos (by omega), if_pos (by omega), if_pos (by omega), e, hw]
    split
    · exact ih'
    · rfl
theorem compare_f (x y : S28) : trade_Compare.f 10 x.f0 x.f1 x.f2 x.f3 x.f4 x.f5 y.f0 y.f1 y.f2 y.f3 y.f4 y.f5 = some (cmpT x y) := by
  have hI : ∀ a b, cmp_Compare_int64.f a b = some (cmpI a b) := fun a b => by
    unfold cmp_Compare_int64.f cmp_isNaN_int64.f cmpI
    simp only [Option.bind_some]
    (repeat' split) <;> simp_all
  have hS : ∀ a b, cmp_Compare_string.f a b = some (cmpS a b) := fun a b => rfl
  unfold trade_Compare.f
  simp only [hI, hS, Option.bind_some]
  have h := or_l0 [cmpI x.f0 y.f0, cmpS x.f1 y.f1, cmpS x.f2 y.f2, cmpS x.f3 y.f3, cmpI x.f4 y.f4, cmpI x.f5 y.f5] 6 10 0 rfl (by omega) (by simp)
  unfold cmp_Or_int.f
  have h2 : cmp_Or_int.l0 10 0 [cmpI x.f0 y.f0, cmpS x.f1 y.f1, cmpS x.f2 y.f2, cmpS x.f3 y.f3, cmpI x.f4 y.f4, cmpI x.f5 y.f5] (([cmpI x.f0 y.f0, cmpS x.f1 y.f1, cmpS x.f2 y.f2, cmpS x.f3 y.f3, cmpI x.f4 y.f4, cmpI x.f5 y.f5] : List Int).length : Int) 0 = some (cmpT x y) := by
    refine h.trans ?_
    rw [List.drop_zero]
    unfold cmpT lex
    simp only [orL]
    congr 1
    (repeat' split) <;> simp_all
  rw [h2]
  rfl
theorem to_some (a0 : Int) (a1 a2 a3 : ByteArray) (a4 a5 : Int) : clevislaw07_To.f a0 a1 a2 a3 a4 a5 = some (a0, a1.extract 0 (mn (a1.size : Int) 40).toNat, a2.extract 0 (mn (a2.size : Int) 40).toNat, a3.extract 0 (mn (a3.size : Int) 40).toNat, a4, a5) := by
  unfold clevislaw07_To.f
  have h : ∀ s : ByteArray, 0 ≤ mn (s.size : Int) 40 ∧ mn (s.size : Int) 40 ≤ s.size := fun s => by unfold mn; omega
  rw [if_pos (h a1).1, if_pos (h a1).2, if_pos (h a2).1, if_pos (h a2).2, if_pos (h a3).1, if_pos (h a3).2]
end Go.Proofs.YtjbbigodkhnokaaDoor.Or
end
