/- Texts of this seat, put together (ZM9). -/
import Derived.Test.YtfbkgfffalppmaaZM7
import Derived.Test.YtfbkgfffalppmaaZM8
section
namespace Go.Proofs.Ytfbkgfffalppmaa.Wq
set_option linter.unusedSimpArgs false
set_option linter.unusedVariables false
open Go Go.RowKit Go.Proofs.Ytfbkgfffalppmaa.Wf Go.Proofs.YtfbkgfffalppmaaW.PrintWords Go.Proofs.Ytfbkgfffalppmaa.Fv Go.Proofs.Ytfbkgfffalppmaa.Fc
def cp (p : S41) : S74 := ⟨p.f0, p.f1⟩
def cl (x : S28) : S35 := ⟨x.f0, x.f1.map cp⟩
theorem rd28 {l : List S28} {i : Nat} (h : i < l.length) : rd_T28 l (i : Int) = l[i] := by unfold rd_T28; rw [Int.toNat_natCast, List.getD_eq_getElem?_getD, List.getElem?_eq_getElem h]; rfl
theorem rd35 {l : List S35} {i : Nat} (h : i < l.length) : rd_T35 l (i : Int) = l[i] := by unfold rd_T35; rw [Int.toNat_natCast, List.getD_eq_getElem?_getD, List.getElem?_eq_getElem h]; rfl
theorem rd41 {l : List S41} {i : Nat} (h : i < l.length) : rd_T41 l (i : Int) = l[i] := by unfold rd_T41; rw [Int.toNat_natCast, List.getD_eq_getElem?_getD, List.getElem?_eq_getElem h]; rfl
theorem rd74 {l : List S74} {i : Nat} (h : i < l.length) : rd_T74 l (i : Int) = l[i] := by unfold rd_T74; rw [Int.toNat_natCast, List.getD_eq_getElem?_getD, List.getElem?_eq_getElem h]; rfl
theorem wi (i : Nat) (h : i ≤ 1000000000) : wrap64 ((i : Int) + 1) = ((i + 1 : Nat) : Int) := wn i h
theorem take_snoc' {α : Type} (l : List α) (i : Nat) (h : i < l.length) : l.take (i + 1) = l.take i ++ [l[i]] := by rw [List.take_add_one, List.getElem?_eq_getElem h]; rfl
def cut (l : List S28) : List S28 := (l.take 70).map fun x => ⟨x.f0, x.f1.take 70⟩
theorem To_l1 (l : List S28) (i : Nat) (hi : i < l.length) (xs : List S35) (ys : List S28) (hx : xs.length ≤ 70) (hy : ys.length ≤ 70) (R : Option ((List S35) × (List S28))) (K0 : Nat)
    (hc : ∀ e, clevislaw28_To.l0 (K0 + e) l (xs ++ [⟨(l[i]).f0, ((l[i]).f1.take 70).map cp⟩]) (ys ++ [⟨(l[i]).f0, (l[i]).f1.take 70⟩]) ((i + 1 : Nat) : Int) = R) (hi2 : i ≤ 100) :
    ∀ (n j : Nat), j + n = min (l[i]).f1.length 70 → ∀ e, clevislaw28_To.l1 (K0 + n + 1 + e) l xs ys (i : Int) (j : Int) (l[i]).f0 (((l[i]).f1.take j).map cp) (l[i]).f0 ((l[i]).f1.take j) = R
  | 0, j, hj, e => by
    have h1 : ((l[i]).f1.take 70) = (l[i]).f1.take j := by
      rcases Nat.le_total (l[i]).f1.length 70 with h | h
      · rw [List.take_of_length_le h, List.take_of_length_le (by omega)]
      · rw [show j = 70 by omega]
    rw [h1] at hc
    rw [show K0 + 0 + 1 + e = (K0 + e) + 1 by omega, clevislaw28_To.l1, if_pos (by omega), if_pos (by omega), rd28 hi, wi i (by omega)]
    by_cases c : (j : Int) < ((l[i]).f1.length : Int)
    · rw [if_pos c, if_neg (by omega), if_pos (by omega), if_pos (by omega), hc]
    · rw [if_neg c, if_pos (by omega), if_pos (by omega), hc]
  | n + 1, j, hj, e => by
    have hjl : j < (l[i]).f1.length := by omega
    have ih := To_l1 l i hi xs ys hx hy R K0 hc hi2 n (j + 1) (by omega) e
    rw [take_snoc' _ _ hjl, List.map_append] at ih
    rw [show K0 + (n + 1) + 1 + e = (K0 + n + 1 + e) + 1 by omega, clevislaw28_To.l1, if_pos (by omega), if_pos (by omega), rd28 hi, if_pos (by omega), if_pos (by omega), if_pos (by omega), if_pos (by simp; omega), if_pos (by simp; omega), rd41 hjl, wi j (by omega)]
    exact ih
theorem To_l0 (l : List S28) : ∀ (n i : Nat), i + n = min l.length 70 → ∃ K, ∀ e, clevislaw28_To.l0 (K + e) l ((cut (l.take i)).map cl) (cut (l.take i)) (i : Int) = some ((cut l).map cl, cut l)
  | 0, i, hi => by
    have h1 : cut (l.take i) = cut l := by
      unfold cut
      rw [List.take_take]
      rcases Nat.le_total l.length 70 with h | h
      · rw [show i = l.length by omega, List.take_of_length_le (by omega), List.take_of_length_le (by omega)]
      · rw [show i = 70 by omega]
        simp
    refine ⟨2, fun e => ?_⟩
    rw [h1, show 2 + e = (e + 1) + 1 by omega, clevislaw28_To.l0]
    by_cases c : (i : Int) < (l.length : Int)
    · rw [if_pos c, decide_eq_false (by omega), clevislaw28_To.j1, if_neg (by simp)]
    · rw [if_neg c, clevislaw28_To.j1, if_neg (by simp)]
  | n + 1, i, hi => by
    have hil : i < l.length := by omega
    obtain ⟨K, hK⟩ := To_l0 l n (i + 1) (by omega)
    have hs : cut (l.take (i + 1)) = cut (l.take i) ++ [⟨(l[i]).f0, (l[i]).f1.take 70⟩] := by
      unfold cut
      rw [take_snoc' _ _ hil, List.take_of_length_le (by simp; omega), List.take_of_length_le (l := l.take i) (by simp; omega), List.map_append]
      rfl
    have hcl : (cut (l.take i)).length ≤ 70 := by unfold cut; simp; omega
    have hK2 : ∀ e, clevislaw28_To.l0 (K + e) l ((cut (l.take i)).map cl ++ [⟨(l[i]).f0, ((l[i]).f1.take 70).map cp⟩]) (cut (l.take i) ++ [⟨(l[i]).f0, (l[i]).f1.take 70⟩]) ((i + 1 : Nat) : Int) = some ((cut l).map cl, cut l) := fun e => by
      have := hK e
      rw [hs, List.map_append] at this
      exact this
    have h1 := To_l1 l i hil ((cut (l.take i)).map cl) (cut (l.take i)) (by rw [List.length_map]; exact hcl) hcl _ K hK2 (by omega) (min (l[i]).f1.length 70) 0 (by omega)
    simp only [List.take_zero, List.map_nil] at h1
    refine ⟨K + min (l[i]).f1.length 70 + 1 + 2, fun e => ?_⟩
    rw [show K + min (l[i]).f1.length 70 + 1 + 2 + e = (K + min (l[i]).f1.length 70 + 1 + e + 1) + 1 by omega, clevislaw28_To.l0, if_pos (by omega), decide_eq_true (by omega), clevislaw28_To.j1, if_pos rfl, if_pos (by omega), if_pos (by omega), rd28 hil]
    exact h1 e
theorem To_f (l : List S28) : ∃ K, ∀ e, clevislaw28_To.f (K + e) l = some ((cut l).map cl, cut l) := by
  obtain ⟨K, hK⟩ := To_l0 l (min l.length 70) 0 (by omega)
  exact ⟨K, fun e => hK e⟩
def tot (l : List S41) : Int := (l.map (·.f1)).sum
def tots (y : List S28) : Int := (y.map fun x => tot x.f1).sum
theorem room_l0 (l : List S74) (hl : l.length ≤ 1000000) (r : Int × Int) (hr : fixed_Sum.f (l.map (·.f1)) = some r) : ∀ (n i : Nat), i + n = l.length → ∀ e, waterfall_room.l0 (n + 1 + e) ((l.take i).map (·.f1)) l (l.length : Int) (i : Int) = some r
  | 0, i, hi, e => by
    rw [show 0 + 1 + e = e + 1 by omega, waterfall_room.l0, if_neg (by omega), List.take_of_length_le (by omega), hr]
    rfl
  | n + 1, i, hi, e => by
    have hil : i < l.length := by omega
    have ih := room_l0 l hl r hr n (i + 1) (by omega) e
    rw [take_snoc' _ _ hil, List.map_append] at ih
    rw [show n + 1 + 1 + e = (n + 1 + e) + 1 by omega, waterfall_room.l0, if_pos (by omega), if_pos (by omega), if_pos (by omega), if_pos (by simp; omega), rd74 hil, wi i (by omega)]
    exact ih
theorem room_f (l : List S74) (hl : l.length ≤ 1000000) (hg : ∀ p ∈ l, I64 p.f1) : ∃ r1 r2, (∀ e, waterfall_room.f (l.length + 1 + e) l = some (r1, r2)) ∧ Is64 (l.map (·.f1)).sum r1 r2 := by
  obtain ⟨r1, r2, h1, h2⟩ := Sum_f (l.map (·.f1)) (by simpa using hl) (fun a ha => by obtain ⟨p, hp, rfl⟩ := List.mem_map.1 ha; exact hg p hp)
  exact ⟨r1, r2, fun e => room_l0 l hl _ h1 l.length 0 (by omega) e, h2⟩
theorem parts_l0 (x : List S35) (hx : x.length ≤ 1000) (hp : ∀ y ∈ x, y.f1.length ≤ 1000) : ∀ (n i : Nat), i + n = x.length → ∀ e, waterfall_parts.l0 (n + 1 + e) ((x.take i).flatMap (·.f1)) x (x.length : Int) (i : Int) = some (x.flatMap (·.f1))
  | 0, i, hi, e => by
    rw [show 0 + 1 + e = e + 1 by omega, waterfall_parts.l0, if_neg (by omega), List.take_of_length_le (by omega)]
  | n + 1, i, hi, e => by
    have hil : i < x.length := by omega
    have ih := parts_l0 x hx hp n (i + 1) (by omega) e
    have hb : ((x.take i).flatMap (·.f1)).length ≤ 1000 * i := by
      have : ∀ (l : List S35), (∀ y ∈ l, y.f1.length ≤ 1000) → (l.flatMap (·.f1)).length ≤ 1000 * l.length := fun l => by
        induction l with
        | nil => intro _; simp
        | cons a l ih =>
          intro h
          have h1 := h a (by simp)
          have h2 := ih (fun y hy => h y (by simp [hy]))
          simp at h2 ⊢
          omega
      have h3 := this (x.take i) (fun y hy => hp y (List.mem_of_mem_take hy))
      rw [List.length_take] at h3
      have : 1000 * min i x.length ≤ 1000 * i := Nat.mul_le_mul_left _ (Nat.min_le_left _ _)
      omega
    have hq := hp _ (List.getElem_mem hil)
    rw [take_snoc' _ _ hil, List.flatMap_append] at ih
    rw [show n + 1 + 1 + e = (n + 1 + e) + 1 by omega, waterfall_parts.l0, if_pos (by omega), if_pos (by omega), if_pos (by omega), rd35 hil, if_pos (by omega), wi i (by omega)]
    simpa using ih
theorem parts_f (x : List S35) (hx : x.length ≤ 1000) (hp : ∀ y ∈ x, y.f1.length ≤ 1000) (e : Nat) : waterfall_parts.f (x.length + 1 + e) x = some (x.flatMap (·.f1)) := by
  have := parts_l0 x hx hp x.length 0 (by omega) e
  simpa [waterfall_parts.f] using this
end Go.Proofs.Ytfbkgfffalppmaa.Wq
end
section
namespace Go.Proofs.Ytfbkgfffalppmaa.Wq
set_option linter.unusedSimpArgs false
set_option linter.unusedVariables false
open Go Go.RowKit Go.Proofs.Ytfbkgfffalppmaa.Wf Go.Proofs.YtfbkgfffalppmaaW.PrintWords Go.Proofs.Ytfbkgfffalppmaa.Fv Go.Proofs.Ytfbkgfffalppmaa.Fc
def twA (N : List (List UInt8)) (i : Nat) : Bool := (N.take i).any (fun z => N.getD i [] == z)
def twB (N : List (List UInt8)) : Bool := (List.range N.length).any (twA N)
theorem tw_layer_eq (l : List S35) : waterfall_below.tw_layer l = twB (l.map (·.f0.toList)) := by
  unfold waterfall_below.tw_layer twB twA
  rw [List.length_map]
  congr 1
  funext i
  rw [← List.map_take, List.any_map]
  congr 1
  funext x
  simp only [Function.comp, List.getD_eq_getElem?_getD, List.getElem?_map]
  cases h : l[i]? with
  | none => simp [z35, ByteArray.toList_eq]
  | some a => simp
theorem tw_part_eq (l : List S74) : waterfall_below.tw_part l = twB (l.map (·.f0.toList)) := by
  unfold waterfall_below.tw_part twB twA
  rw [List.length_map]
  congr 1
  funext i
  rw [← List.map_take, List.any_map]
  congr 1
  funext x
  simp only [Function.comp, List.getD_eq_getElem?_getD, List.getElem?_map]
  cases h : l[i]? with
  | none => simp [z74, ByteArray.toList_eq]
  | some a => simp
def nL (y : List S28) : List (List UInt8) := y.map (·.f0.toList)
def nP (p : List S41) : List (List UInt8) := p.map (·.f0.toList)
def neg (y : List S28) : Bool := y.any fun x => x.f1.any fun p => decide (p.f1 < 0)
def names (y : List S28) : Bool := twB (nL y) || y.any fun x => twB (nP x.f1)
def long (y : List S28) : Bool := decide (64 < y.length) || y.any fun x => decide (64 < x.f1.length)
def chk (y : List S28) : Int := if neg y = true then 1 else if names y = true then 6 else if long y = true then 2 else if I64 (tots y) then 0 else 4
structure Ok (y : List S28) : Prop where
  len : y.length ≤ 71
  parts : ∀ x ∈ y, x.f1.length ≤ 70
  good : ∀ x ∈ y, ∀ p ∈ x.f1, I64 p.f1
theorem sum_flat : ∀ (y : List S28), (((y.map cl).flatMap (·.f1)).map (·.f1)).sum = tots y
  | [] => rfl
  | a :: y => by
    have := sum_flat y
    simp [tots, tot, cl, cp, List.map_map, Function.comp_def] at this ⊢
    rw [this]
theorem neg_flat (y : List S28) : (((y.map cl).flatMap (·.f1)).any fun x => decide (x.f1 < 0)) = neg y := by
  induction y with
  | nil => rfl
  | cons a y ih =>
    simp [neg, cl, cp, List.any_map, Function.comp_def] at ih ⊢
    rw [ih]
    rfl
theorem names_cl (y : List S28) : (waterfall_below.tw_layer (y.map cl) || (y.map cl).any fun x => waterfall_below.tw_part x.f1) = names y := by
  rw [tw_layer_eq]
  unfold names nL nP
  rw [List.map_map, List.any_map]
  congr 1
  congr 1
  funext x
  simp only [Function.comp, tw_part_eq, cl, List.map_map]
  rfl
theorem long_cl (y : List S28) : (decide ((64 : Int) < ((y.map cl).length : Int)) || (y.map cl).any fun x => decide (64 < (x.f1.length : Int))) = long y := by
  unfold long
  rw [List.length_map, List.any_map]
  congr 1
  · rw [decide_eq_decide]; omega
  · congr 1
    funext x
    simp only [Function.comp, cl, List.length_map]
    rw [decide_eq_decide]; omega
theorem len_flat (y : List S28) (h : Ok y) : ((y.map cl).flatMap (·.f1)).length ≤ 4970 := by
  have : ∀ (l : List S28), (∀ x ∈ l, x.f1.length ≤ 70) → ((l.map cl).flatMap (·.f1)).length ≤ 70 * l.length := fun l => by
    induction l with
    | nil => intro _; simp
    | cons a l ih =>
      intro h
      have h1 := h a (by simp)
      have h2 := ih (fun y hy => h y (by simp [hy]))
      simp [cl] at h2 ⊢
      omega
  have h1 := this y h.parts
  have h2 := h.len
  omega
theorem mem_flat {y : List S28} (h : Ok y) : ∀ p ∈ (y.map cl).flatMap (·.f1), I64 p.f1 := fun p hp => by
  obtain ⟨x, hx, hp2⟩ := List.mem_flatMap.1 hp
  obtain ⟨z, hz, rfl⟩ := List.mem_map.1 hx
  obtain ⟨q, hq, rfl⟩ := List.mem_map.1 hp2
  exact h.good z hz q hq
theorem Check_p (y : List S28) (h : Ok y) : ∃ K, ∀ e, waterfall_Check.f (K + e) (y.map cl) = some (chk y) := by
  have hlen := h.len
  have hp := parts_f (y.map cl) (by rw [List.length_map]; omega) (fun z hz => by obtain ⟨x, hx, rfl⟩ := List.mem_map.1 hz; have := h.parts x hx; simp [cl]; omega)
  obtain ⟨r1, r2, h1, h2⟩ := room_f ((y.map cl).flatMap (·.f1)) (by have := len_flat y h; omega) (mem_flat h)
  rw [sum_flat] at h2
  refine ⟨y.length + 1 + (((y.map cl).flatMap (·.f1)).length + 1), fun e => ?_⟩
  unfold waterfall_Check.f waterfall_Check.g
  have hp2 := hp (((y.map cl).flatMap (·.f1)).length + 1 + e)
  rw [List.length_map] at hp2
  rw [show y.length + 1 + (((y.map cl).flatMap (·.f1)).length + 1) + e = y.length + 1 + (((y.map cl).flatMap (·.f1)).length + 1 + e) by omega, hp2, Option.bind_some, neg_flat, names_cl, long_cl]
  have h3 := h1 (y.length + 1 + e)
  rw [show ((y.map cl).flatMap (·.f1)).length + 1 + (y.length + 1 + e) = y.length + 1 + (((y.map cl).flatMap (·.f1)).length + 1 + e) by omega] at h3
  rw [h3]
  unfold chk
  by_cases c1 : neg y = true
  · rw [if_pos c1, if_pos c1]
  · rw [if_neg c1, if_neg c1]
    by_cases c2 : names y = true
    · rw [if_pos c2, if_pos c2]
    · rw [if_neg c2, if_neg c2]
      by_cases c3 : long y = true
      · rw [if_pos c3, if_pos c3]
      · rw [if_neg c3, if_neg c3, Option.bind_some]
        rcases h2 with ⟨a, _, b⟩ | ⟨a, _, b⟩
        · rw [if_pos a, b]
        · rw [if_neg a, b]
section
variable (y : List S28) (hy : Ok y) (nn : Bool) (d : List Int)
include hy
end
end Go.Proofs.Ytfbkgfffalppmaa.Wq
end
section
namespace Go.Proofs.Ytfbkgfffalppmaa.Wq
set_option linter.unusedSimpArgs false
set_option linter.unusedVariables false
open Go Go.RowKit Go.Proofs.Ytfbkgfffalppmaa.Wf Go.Proofs.YtfbkgfffalppmaaW.PrintWords Go.Proofs.Ytfbkgfffalppmaa.Fv Go.Proofs.Ytfbkgfffalppmaa.Fc
theorem qt_pos {A d : Int} (hA : 0 ≤ A) (hd : 0 < d) : qt A d 0 = A / d := by
  have h1 : decide (A < 0) = false := decide_eq_false (by omega)
  have h2 : decide (d < 0) = false := decide_eq_false (by omega)
  unfold qt upB
  rw [h1, h2]
  have h3 : (A.natAbs : Int) = A := by omega
  have h4 : (d.natAbs : Int) = d := by omega
  rw [h3, h4]
  by_cases c : A % d = 0 <;> simp [c]
def por (loss all : Int) (p : S74) : Int := p.f1 * loss / all
theorem por_range {loss all : Int} {p : S74} (hp : 0 ≤ p.f1) (hpa : p.f1 ≤ all) (hl : 0 ≤ loss) (ha : 0 < all) : 0 ≤ por loss all p ∧ por loss all p ≤ loss := by
  refine ⟨Int.ediv_nonneg (Int.mul_nonneg hp hl) (by omega), ?_⟩
  refine Int.ediv_le_of_le_mul ha ?_
  rw [Int.mul_comm]
  exact Int.mul_le_mul_of_nonneg_left hpa hl
theorem portion_f {loss all : Int} (p : S74) (hp : 0 ≤ p.f1) (hpa : p.f1 ≤ all) (hl : 0 ≤ loss) (hla : loss ≤ all) (ha : 0 < all) (hall : all ≤ 9223372036854775807) : ∃ K, ∀ e, waterfall_portion.f (K + e) p.f1 loss all = some (por loss all p) := by
  obtain ⟨t1, t2, h1, h2, h3, h4⟩ := Times_f (a := p.f1) (b := loss) ⟨by omega, by omega⟩ ⟨by omega, by omega⟩
  obtain ⟨K, r1, r2, r3, h5, h6⟩ := Divide_f (a0 := t1) (a1 := t2) (d := all) (how := 0) h2 h3 ⟨by omega, by omega⟩ (by omega) ⟨by omega, by omega⟩
  rw [h4, qt_pos (Int.mul_nonneg hp hl) ha] at h6
  have hr := por_range (all := all) hp hpa hl ha
  have hi : I64 (p.f1 * loss / all) := by
    have := hr
    unfold por at this
    unfold I64
    omega
  refine ⟨K, fun e => ?_⟩
  unfold waterfall_portion.f
  rw [h1, Option.bind_some, h5, Option.bind_some]
  dsimp only
  rcases h6 with ⟨_, e3, h7, h8, h9⟩ | ⟨h7, _⟩
  · obtain ⟨q1, q2, h10, h11⟩ := Int_f h7 h8
    rw [h9] at h11
    rw [h10, Option.bind_some]
    rcases h11 with ⟨_, h12, _⟩ | ⟨h12, _⟩
    · rw [h12]
      rfl
    · exact absurd hi h12
  · refine absurd ?_ h7
    unfold I64 at hi
    unfold F128
    omega
theorem lp1_f {loss all : Int} (hl : 0 ≤ loss) (hla : loss ≤ all) (ha : 0 < all) (hall : all ≤ 9223372036854775807) : ∀ (l : List S74) (left : Int), (∀ p ∈ l, 0 ≤ p.f1 ∧ p.f1 ≤ all) → (l.map (por loss all)).sum ≤ left → left ≤ all → ∃ K, ∀ e, waterfall_Split.lp1 (K + e) loss all l left = some (l.map (por loss all), left - (l.map (por loss all)).sum)
  | [], left, _, _, _ => ⟨0, fun e => by rw [waterfall_Split.lp1]; simp⟩
  | p :: l, left, hp, hs, hla2 => by
    have hp0 := hp p (by simp)
    obtain ⟨K1, h1⟩ := portion_f p hp0.1 hp0.2 hl hla ha hall
    have hr := por_range (all := all) hp0.1 hp0.2 hl ha
    have hs0 : 0 ≤ (l.map (por loss all)).sum := by
      have : ∀ (l : List S74), (∀ p ∈ l, 0 ≤ p.f1 ∧ p.f1 ≤ all) → 0 ≤ (l.map (por loss all)).sum := fun l => by
        induction l with
        | nil => intro _; simp
        | cons a l ih =>
          intro h
          have h1 := h a (by simp)
          have h2 := ih (fun y hy => h y (by simp [hy]))
          have h3 := por_range (all := all) h1.1 h1.2 hl ha
          rw [List.map_cons, List.sum_cons]
          omega
      exact this l (fun q hq => hp q (by simp [hq]))
    rw [List.map_cons, List.sum_cons] at hs
    obtain ⟨K2, h2⟩ := lp1_f hl hla ha hall l (left - por loss all p) (fun q hq => hp q (by simp [hq])) (by omega) (by omega)
    refine ⟨K1 + K2, fun e => ?_⟩
    rw [waterfall_Split.lp1, if_pos ha, show K1 + K2 + e = K1 + (K2 + e) by omega, h1, Option.bind_some, show K1 + (K2 + e) = K2 + (K1 + e) by omega, show wrap64 (left - por loss all p) = left - por loss all p by unfold wrap64; omega, h2, Option.bind_some, show wrap64 (0 + por loss all p) = por loss all p by unfold wrap64; omega]
    simp only [List.map_cons, List.sum_cons]
    rw [show left - por loss all p - (l.map (por loss all)).sum = left - (por loss all p + (l.map (por loss all)).sum) by omega]
theorem lp1_zero (k : Nat) (loss : Int) : ∀ (l : List S74) (left : Int), waterfall_Split.lp1 k loss 0 l left = some (l.map (fun _ => (0 : Int)), left)
  | [], left => by rw [waterfall_Split.lp1]; rfl
  | p :: l, left => by
    rw [waterfall_Split.lp1, if_neg (by omega), lp1_zero k loss l left]
    rfl
def gv : List S74 → List Int → Int → List Int × Int
  | p :: ps, o :: os, left => if left > 0 ∧ o < p.f1 then ((o + 1) :: (gv ps os (left - 1)).1, (gv ps os (left - 1)).2) else (o :: (gv ps os left).1, (gv ps os left).2)
  | _, os, left => (os, left)
theorem lp2_gv : ∀ (ps : List S74) (os : List Int) (left : Int), (∀ p ∈ ps, p.f1 ≤ 9223372036854775807) → (∀ o ∈ os, 0 ≤ o) → left ≤ 9223372036854775807 → waterfall_Split.lp2 ps os left = gv ps os left
  | [], os, left, _, _, _ => by rw [waterfall_Split.lp2.eq_def, gv.eq_def]
  | p :: ps, [], left, _, _, _ => by rw [waterfall_Split.lp2.eq_def, gv.eq_def]
  | p :: ps, o :: os, left, hp, ho, hl => by
    have h1 := hp p (by simp)
    have h2 := ho o (by simp)
    rw [waterfall_Split.lp2, gv]
    by_cases c : left > 0 ∧ o < p.f1
    · rw [if_pos c, if_pos c, show wrap64 (o + 1) = o + 1 by unfold wrap64; omega, show wrap64 (left - 1) = left - 1 by unfold wrap64; omega, lp2_gv ps os (left - 1) (fun q hq => hp q (by simp [hq])) (fun q hq => ho q (by simp [hq])) (by omega)]
    · rw [if_neg c, if_neg c, lp2_gv ps os left (fun q hq => hp q (by simp [hq])) (fun q hq => ho q (by simp [hq])) hl]
theorem gv_len : ∀ (ps : List S74) (os : List Int) (left : Int), (gv ps os left).1.length = os.length
  | [], os, left => by rw [gv.eq_def]
  | p :: ps, [], left => by rw [gv.eq_def]
  | p :: ps, o :: os, left => by
    rw [gv]
    split <;> simp [gv_len ps os]
def tt (ps : List S74) : Int := (ps.map (·.f1)).sum
structure Gd (ps : List S74) : Prop where
  len : ps.length ≤ 1000
  pos : ∀ p ∈ ps, 0 ≤ p.f1
  fit : tt ps ≤ 9223372036854775807
theorem tt_mem : ∀ {ps : List S74}, (∀ p ∈ ps, 0 ≤ p.f1) → 0 ≤ tt ps ∧ ∀ p ∈ ps, p.f1 ≤ tt ps
  | [], _ => by simp [tt]
  | a :: ps, h => by
    have ⟨h1, h2⟩ := tt_mem (ps := ps) (fun p hp => h p (by simp [hp]))
    have h3 := h a (by simp)
    have h4 : tt (a :: ps) = a.f1 + tt ps := by simp [tt]
    rw [h4]
    refine ⟨by omega, fun p hp => ?_⟩
    rcases List.mem_cons.1 hp with rfl | hp
    · omega
    · have := h2 p hp
      omega
def base (loss : Int) (ps : List S74) : List Int := if tt ps > 0 then ps.map (por loss (tt ps)) else ps.map (fun _ => (0 : Int))
def spl (loss : Int) (ps : List S74) : List Int := (gv ps (base loss ps) (loss - (base loss ps).sum)).1
theorem base_len (loss : Int) (ps : List S74) : (base loss ps).length = ps.length := by unfold base; split <;> simp
theorem spl_len (loss : Int) (ps : List S74) : (spl loss ps).length = ps.length := by unfold spl; rw [gv_len, base_len]
theorem por_sum {loss all : Int} (hl : 0 ≤ loss) (ha : 0 < all) : ∀ (ps : List S74), (∀ p ∈ ps, 0 ≤ p.f1) → (ps.map (por loss all)).sum * all ≤ tt ps * loss
  | [], _ => by simp [tt]
  | a :: ps, h => by
    have h1 := por_sum hl ha ps (fun p hp => h p (by simp [hp]))
    have h4 : tt (a :: ps) = a.f1 + tt ps := by simp [tt]
    rw [h4, List.map_cons, List.sum_cons, Int.add_mul, Int.add_mul]
    have h5 : por loss all a * all ≤ a.f1 * loss := Int.ediv_mul_le _ (by omega)
    omega
theorem base_le {loss : Int} {ps : List S74} (hl : 0 ≤ loss) (h : ∀ p ∈ ps, 0 ≤ p.f1) : (base loss ps).sum ≤ loss ∧ ∀ o ∈ base loss ps, 0 ≤ o := by
  have ⟨h1, h2⟩ := tt_mem h
  unfold base
  by_cases c : tt ps > 0
  · rw [if_pos c]
    refine ⟨?_, fun o ho => ?_⟩
    · have := por_sum hl c ps h
      rw [Int.mul_comm (tt ps) loss] at this
      exact Int.le_of_mul_le_mul_right this c
    · obtain ⟨p, hp, rfl⟩ := List.mem_map.1 ho
      exact (por_range (h p hp) (h2 p hp) hl c).1
  · rw [if_neg c]
    refine ⟨?_, fun o ho => ?_⟩
    · have : ∀ (l : List S74), (l.map (fun _ => (0 : Int))).sum = 0 := fun l => by
        induction l with
        | nil => rfl
        | cons a l ih => simp [ih]
      rw [this]
      exact hl
    · obtain ⟨p, hp, rfl⟩ := List.mem_map.1 ho
      omega
theorem Gd.i64 {ps : List S74} (h : Gd ps) : ∀ p ∈ ps, I64 p.f1 := fun p hp => by
  have h1 := h.pos p hp
  have h2 := (tt_mem h.pos).2 p hp
  have h3 := h.fit
  unfold I64
  omega
theorem Gd.room {ps : List S74} (h : Gd ps) (e : Nat) : waterfall_room.f (ps.length + 1 + e) ps = some (tt ps, 0) := by
  obtain ⟨r1, r2, h1, h2⟩ := room_f ps (by have := h.len; omega) h.i64
  rw [h1]
  have h3 := h.fit
  have h4 := (tt_mem h.pos).1
  rcases h2 with ⟨_, h5, h6⟩ | ⟨h5, _⟩
  · rw [h5, h6]
    rfl
  · refine absurd ?_ h5
    unfold tt at h3 h4
    unfold I64
    omega
theorem Split_f {loss : Int} {ps : List S74} (h : Gd ps) (hl : 0 ≤ loss) (hla : loss ≤ tt ps) : ∃ K, ∀ e, waterfall_Split.f (K + e) loss ps = some (spl loss ps, 0) := by
  have h1 := tt_mem h.pos
  have h2 := h.fit
  have h3 := h.len
  obtain ⟨hb, hb0⟩ := base_le hl h.pos
  have key : ∃ K, ∀ e, waterfall_Split.lp1 (K + e) loss (tt ps) ps loss = some (base loss ps, loss - (base loss ps).sum) := by
    unfold base at hb ⊢
    by_cases c : tt ps > 0
    · rw [if_pos c] at hb ⊢
      exact lp1_f hl hla c h2 ps loss (fun p hp => ⟨h.pos p hp, h1.2 p hp⟩) hb hla
    · rw [if_neg c] at hb ⊢
      refine ⟨0, fun e => ?_⟩
      rw [show tt ps = 0 by omega, lp1_zero]
      have : ∀ (l : List S74), (l.map (fun _ => (0 : Int))).sum = 0 := fun l => by
        induction l with
        | nil => rfl
        | cons a l ih => simp [ih]
      rw [this, Int.sub_zero]
  obtain ⟨K, hK⟩ := key
  have hn : ps.any (fun x => decide (x.f1 < 0)) = false := by
    rw [List.any_eq_false]
    intro p hp
    have := h.pos p hp
    simp
    omega
  refine ⟨ps.length + 1 + K, fun e => ?_⟩
  unfold waterfall_Split.f
  rw [if_pos (by omega), if_neg (by omega), if_neg (by simp [hn]), show ps.length + 1 + K + e = ps.length + 1 + (K + e) by omega, h.room, Option.bind_some]
  dsimp only
  rw [if_pos rfl, if_neg (by omega), show ps.length + 1 + (K + e) = K + (ps.length + 1 + e) by omega, hK, Option.bind_some]
  dsimp only
  have hs0 : 0 ≤ (base loss ps).sum := by
    have : ∀ (l : List Int), (∀ o ∈ l, 0 ≤ o) → 0 ≤ l.sum := fun l => by
      induction l with
      | nil => intro _; simp
      | cons a l ih =>
        intro h
        have h1 := h a (by simp)
        have h2 := ih (fun y hy => h y (by simp [hy]))
        rw [List.sum_cons]
        omega
    exact this _ hb0
  rw [lp2_gv ps _ _ (fun p hp => (by have := h1.2 p hp; omega)) hb0 (by omega)]
  rfl
def sh (nm : ByteArray) : List S74 → List Int → List S52
  | p :: ps, n :: ns => if n > 0 then ⟨nm, p.f0, n⟩ :: sh nm ps ns else sh nm ps ns
  | _, _ => []
theorem sh_len (nm : ByteArray) : ∀ (ps : List S74) (ns : List Int), (sh nm ps ns).length ≤ ps.length
  | [], ns => by rw [sh.eq_def]; simp
  | p :: ps, [] => by rw [sh.eq_def]; simp
  | p :: ps, n :: ns => by
    rw [sh]
    have := sh_len nm ps ns
    split <;> simp <;> omega
theorem run_l1 (x0 b : Int) (xs : List S35) (L i : Int) (ns : List Int) (nm : ByteArray) (ps : List S74) (hn : ns.length = ps.length) (hp : ps.length ≤ 1000) (R : Option (List S52 × Int × Int)) (K0 : Nat) (F : List S52)
    (hc : ∀ e, waterfall_Run.l0 (K0 + e) (wrap64 (x0 - b)) F xs L (wrap64 (i + 1)) = R) :
    ∀ (n j : Nat) (out : List S52), j + n = ns.length → out.length + n ≤ 1000000 → F = out ++ sh nm (ps.drop j) (ns.drop j) → ∀ e, waterfall_Run.l1 (K0 + n + 1 + e) x0 out b xs L i ns (ns.length : Int) (j : Int) nm ps = R
  | 0, j, out, hj, ho, hF, e => by
    rw [List.drop_eq_nil_of_le (by omega : ps.length ≤ j), sh.eq_def] at hF
    simp only [List.append_nil] at hF
    subst hF
    rw [show K0 + 0 + 1 + e = (K0 + e) + 1 by omega, waterfall_Run.l1, if_neg (by omega), hc]
  | n + 1, j, out, hj, ho, hF, e => by
    have hjl : j < ns.length := by omega
    have hjp : j < ps.length := by omega
    rw [List.drop_eq_getElem_cons hjp, List.drop_eq_getElem_cons hjl, sh] at hF
    have hrd : rd ns (j : Int) = ns[j] := by unfold rd; rw [Int.toNat_natCast, List.getD_eq_getElem?_getD, List.getElem?_eq_getElem hjl]; rfl
    rw [show K0 + (n + 1) + 1 + e = (K0 + n + 1 + e) + 1 by omega, waterfall_Run.l1, if_pos (by omega), if_pos (by omega), if_pos (by omega), hrd, wi j (by omega)]
    by_cases c : ns[j] > 0
    · rw [if_pos c] at hF
      rw [if_pos c, if_pos (by omega), if_pos (by omega), rd74 hjp]
      exact run_l1 x0 b xs L i ns nm ps hn hp R K0 F hc n (j + 1) _ (by omega) (by simp; omega) (by rw [hF]; simp) e
    · rw [if_neg c] at hF
      rw [if_neg c]
      exact run_l1 x0 b xs L i ns nm ps hn hp R K0 F hc n (j + 1) _ (by omega) (by omega) hF e
def runA (loss : Int) : List S35 → List S52
  | [] => []
  | x :: xs => sh x.f0 x.f1 (spl (min loss (tt x.f1)) x.f1) ++ runA (loss - min loss (tt x.f1)) xs
def runR (loss : Int) : List S35 → Int
  | [] => loss
  | x :: xs => runR (loss - min loss (tt x.f1)) xs
theorem run_l0 (xs : List S35) (hx : xs.length ≤ 100) (hg : ∀ x ∈ xs, Gd x.f1) : ∀ (n i : Nat) (loss : Int) (out : List S52), i + n = xs.length → out.length ≤ 1000 * i → 0 ≤ loss → loss ≤ 9223372036854775807 →
    ∃ K, ∀ e, waterfall_Run.l0 (K + e) loss out xs (xs.length : Int) (i : Int) = some (out ++ runA loss (xs.drop i), runR loss (xs.drop i), 0)
  | 0, i, loss, out, hi, ho, h0, h1 => by
    refine ⟨1, fun e => ?_⟩
    rw [show 1 + e = e + 1 by omega, waterfall_Run.l0, if_neg (by omega), List.drop_eq_nil_of_le (by omega), runA, runR, List.append_nil]
  | n + 1, i, loss, out, hi, ho, h0, h1 => by
    have hil : i < xs.length := by omega
    have hG := hg _ (List.getElem_mem hil)
    have hG1 := hG.len
    have ht := (tt_mem hG.pos).1
    have hf := hG.fit
    have hS := sh_len (xs[i]).f0 (xs[i]).f1 (spl (min loss (tt (xs[i]).f1)) (xs[i]).f1)
    obtain ⟨K1, hK1⟩ := Split_f hG (loss := min loss (tt (xs[i]).f1)) (by omega) (by omega)
    obtain ⟨K2, hK2⟩ := run_l0 xs hx hg n (i + 1) (loss - min loss (tt (xs[i]).f1)) (out ++ sh (xs[i]).f0 (xs[i]).f1 (spl (min loss (tt (xs[i]).f1)) (xs[i]).f1)) (by omega) (by rw [List.length_append]; omega) (by omega) (by omega)
    rw [List.drop_eq_getElem_cons hil, runA, runR]
    rw [List.append_assoc] at hK2
    refine ⟨(xs[i]).f1.length + 1 + K1 + K2 + (spl (min loss (tt (xs[i]).f1)) (xs[i]).f1).length + 1 + 1, fun e => ?_⟩
    rw [show (xs[i]).f1.length + 1 + K1 + K2 + (spl (min loss (tt (xs[i]).f1)) (xs[i]).f1).length + 1 + 1 + e = ((xs[i]).f1.length + 1 + (K1 + K2 + (spl (min loss (tt (xs[i]).f1)) (xs[i]).f1).length + 1 + e)) + 1 by omega, waterfall_Run.l0, if_pos (by omega), if_pos (by omega), if_pos (by omega), rd35 hil, hG.room, Option.bind_some]
    dsimp only
    have hmn : mn loss (tt (xs[i]).f1) = min loss (tt (xs[i]).f1) := by unfold mn; omega
    rw [hmn, show (xs[i]).f1.length + 1 + (K1 + K2 + (spl (min loss (tt (xs[i]).f1)) (xs[i]).f1).length + 1 + e) = K1 + ((xs[i]).f1.length + 1 + K2 + (spl (min loss (tt (xs[i]).f1)) (xs[i]).f1).length + 1 + e) by omega, hK1, Option.bind_some]
    dsimp only
    rw [if_pos rfl, show K1 + ((xs[i]).f1.length + 1 + K2 + (spl (min loss (tt (xs[i]).f1)) (xs[i]).f1).length + 1 + e) = K2 + (spl (min loss (tt (xs[i]).f1)) (xs[i]).f1).length + 1 + (K1 + (xs[i]).f1.length + 1 + e) by omega]
    refine run_l1 loss _ xs _ _ _ _ _ (spl_len _ _) hG1 _ K2 _ ?_ _ 0 out (by omega) (by rw [spl_len]; omega) rfl _
    intro e
    rw [show wrap64 (loss - min loss (tt (xs[i]).f1)) = loss - min loss (tt (xs[i]).f1) by unfold wrap64; omega, wi i (by omega)]
    exact hK2 e
theorem runA_append : ∀ (x y : List S35) (loss : Int), runA loss (x ++ y) = runA loss x ++ runA (runR loss x) y
  | [], y, loss => rfl
  | a :: x, y, loss => by
    rw [List.cons_append, runA, runA, runR, runA_append x y, List.append_assoc]
theorem runR_append : ∀ (x y : List S35) (loss : Int), runR loss (x ++ y) = runR (runR loss x) y
  | [], y, loss => rfl
  | a :: x, y, loss => by
    rw [List.cons_append, runR, runR, runR_append x y]
theorem runR_range : ∀ (x : List S35) (loss : Int), (∀ a ∈ x, Gd a.f1) → 0 ≤ loss → 0 ≤ runR loss x ∧ runR loss x ≤ loss
  | [], loss, _, h => ⟨h, Int.le_refl _⟩
  | a :: x, loss, hg, h => by
    have h1 := (tt_mem (hg a (by simp)).pos).1
    have h2 := runR_range x (loss - min loss (tt a.f1)) (fun b hb => hg b (by simp [hb])) (by omega)
    rw [runR]
    omega
theorem chk_Gd {y : List S28} (hy : Ok y) (h : chk y = 0) : ∀ x ∈ y.map cl, Gd x.f1 := by
  have hn : neg y = false := by
    unfold chk at h
    by_cases c : neg y = true
    · rw [if_pos c] at h
      omega
    · simpa using c
  have ht : I64 (tots y) := by
    unfold chk at h
    rw [if_neg (by simp [hn])] at h
    split at h
    · omega
    split at h
    · omega
    split at h
    · assumption
    · omega
  have hp : ∀ x ∈ y, ∀ p ∈ x.f1, 0 ≤ p.f1 := by
    intro x hx p hp
    unfold neg at hn
    rw [List.any_eq_false] at hn
    have h1 := hn x hx
    have h2 : x.f1.any (fun p => decide (p.f1 < 0)) = false := by simpa using h1
    rw [List.any_eq_false] at h2
    have h3 := h2 p hp
    simp at h3
    exact h3
  have hpos : ∀ (l : List S41), (∀ p ∈ l, 0 ≤ p.f1) → 0 ≤ tot l := fun l => by
    induction l with
    | nil => intro _; simp [tot]
    | cons a l ih =>
      intro h
      have h1 := h a (by simp)
      have h2 := ih (fun y hy => h y (by simp [hy]))
      have h3 : tot (a :: l) = a.f1 + tot l := by simp [tot]
      omega
  have hle : ∀ (y : List S28), (∀ x ∈ y, ∀ p ∈ x.f1, 0 ≤ p.f1) → 0 ≤ tots y ∧ ∀ x ∈ y, tot x.f1 ≤ tots y := fun y => by
    induction y with
    | nil => intro _; simp [tots]
    | cons a l ih =>
      intro h
      have ⟨h1, h2⟩ := ih (fun y hy => h y (by simp [hy]))
      have h3 := hpos a.f1 (h a (by simp))
      have h4 : tots (a :: l) = tot a.f1 + tots l := by simp [tots]
      rw [h4]
      refine ⟨by omega, fun x hx => ?_⟩
      rcases List.mem_cons.1 hx with rfl | hx
      · omega
      · have := h2 x hx
        omega
  intro x hx
  obtain ⟨z, hz, rfl⟩ := List.mem_map.1 hx
  have h1 := hy.parts z hz
  have h2 := (hle y hp).2 z hz
  have h3 : tt (cl z).f1 = tot z.f1 := by simp [tt, tot, cl, cp, List.map_map, Function.comp_def]
  refine ⟨by simp [cl]; omega, fun p hp' => ?_, by rw [h3]; unfold I64 at ht; omega⟩
  obtain ⟨q, hq, rfl⟩ := List.mem_map.1 hp'
  exact hp z hz q hq
def runF (loss : Int) (y : List S28) : List S52 × Int × Int := if chk y = 0 then (if loss < 0 then ([], 0, 1) else (runA loss (y.map cl), runR loss (y.map cl), 0)) else ([], 0, chk y)
theorem Run_f {y : List S28} (hy : Ok y) (loss : Int) (hl : I64 loss) : ∃ K, ∀ e, waterfall_Run.f (K + e) loss (y.map cl) = some (runF loss y) := by
  unfold runF
  obtain ⟨K1, h1⟩ := Check_p y hy
  by_cases c : chk y = 0
  · by_cases d : loss < 0
    · refine ⟨K1, fun e => ?_⟩
      unfold waterfall_Run.f
      rw [h1, Option.bind_some, if_pos c, if_pos c, if_pos d, if_pos d]
    · have hlen := hy.len
      unfold I64 at hl
      obtain ⟨K2, h2⟩ := run_l0 (y.map cl) (by rw [List.length_map]; omega) (chk_Gd hy c) (y.map cl).length 0 loss [] (by omega) (by simp) (by omega) (by omega)
      refine ⟨K1 + K2, fun e => ?_⟩
      unfold waterfall_Run.f
      rw [show K1 + K2 + e = K1 + (K2 + e) by omega, h1, Option.bind_some, if_pos c, if_pos c, if_neg d, if_neg d, show K1 + (K2 + e) = K2 + (K1 + e) by omega]
      have := h2 (K1 + e)
      simpa using this
  · refine ⟨K1, fun e => ?_⟩
    unfold waterfall_Run.f
    rw [h1, Option.bind_some, if_neg c, if_neg c]
end Go.Proofs.Ytfbkgfffalppmaa.Wq
end
section
namespace Go.Proofs.Ytfbkgfffalppmaa.Wq
set_option linter.unusedSimpArgs false
set_option linter.unusedVariables false
open Go Go.RowKit Go.Proofs.Ytfbkgfffalppmaa.Wf Go.Proofs.YtfbkgfffalppmaaW.PrintWords Go.Proofs.Ytfbkgfffalppmaa.Fv Go.Proofs.Ytfbkgfffalppmaa.Fc
theorem cut_Ok {l : List S28} (hg : ∀ x ∈ l, ∀ p ∈ x.f1, I64 p.f1) : Ok (cut l) := by
  refine ⟨by unfold cut; simp; omega, fun x hx => ?_, fun x hx p hp => ?_⟩
  · obtain ⟨z, _, rfl⟩ := List.mem_map.1 hx
    simp
    omega
  · obtain ⟨z, hz, rfl⟩ := List.mem_map.1 hx
    exact hg z (List.mem_of_mem_take hz) p (List.mem_of_mem_take hp)
end Go.Proofs.Ytfbkgfffalppmaa.Wq
end
