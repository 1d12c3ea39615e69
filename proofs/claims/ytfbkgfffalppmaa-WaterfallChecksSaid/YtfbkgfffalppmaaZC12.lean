/- Texts of this seat, put together (ZC12). -/
import Derived.Laws.DeepNot64
import Derived.Test.YtfbkgfffalppmaaZC5
import Derived.Test.YtfbkgfffalppmaaZC8
import Derived.Test.YtfbkgfffalppmaaZC11
section
namespace Go.Proofs.Ytfbkgfffalppmaa.Fc
set_option linter.unusedSimpArgs false
set_option linter.unusedVariables false
open Go Go.RowKit Go.Proofs.Ytfbkgfffalppmaa.Wf Go.Proofs.YtfbkgfffalppmaaW.PrintWords Go.Proofs.Ytfbkgfffalppmaa.Fv
end Go.Proofs.Ytfbkgfffalppmaa.Fc
end
section
namespace Go.Proofs.Ytfbkgfffalppmaa.Wq
set_option linter.unusedSimpArgs false
set_option linter.unusedVariables false
open Go Go.RowKit Go.Proofs.Ytfbkgfffalppmaa.Wf Go.Proofs.YtfbkgfffalppmaaW.PrintWords Go.Proofs.Ytfbkgfffalppmaa.Fv Go.Proofs.Ytfbkgfffalppmaa.Fc
def cp (p : S41) : S74 := ⟨p.f0, p.f1⟩
def cl (x : S28) : S35 := ⟨x.f0, x.f1.map cp⟩
theorem rd28 {l : List S28} {i : Nat} (h : i < l.length) : rd_T28 l (i : Int) = l[i] := by unfold rd_T28; rw [Int.toNat_natCast, List.getD_eq_getElem?_getD, List.getElem?_eq_getElem h]; rfl
theorem rd35 {l : List S35} {i : Nat} (h : i < l.length) : rd_T35 l (i : Int) = l[i] := by unfold rd_T35; rw [Int.toNat_natCast, List.getD_eq_getElem?_getD, List.getElem?_eq_getElem h]; rfl
theorem rd41 {l : List S41} {i : Nat} (h : i < l.length) : rd_T41 l (i : Int) = l[i] := by unfold rd_T41; rw [Int.toNat_natCast, List.getD_eq_getElem?_getD, List.getElem?_eq_getElem h]; rfl
theorem rd74 {l : List S74} {i : Nat} (h : i < l.length) : rd_T74 l (i : Int) = l[i] := by unfold rd_T74; rw [Int.toNat_natCast, List.getD_eq_getElem?_getD, List.getElem?_eq_getElem h]; rfl
theorem wi (i : Nat) (h : i ≤ 1000000000) : wrap64 ((i : Int) + 1) = ((i + 1 : Nat) : Int) := wn i h
theorem take_snoc' {α : Type} (l : List α) (i : Nat) (h : i < l.length) : l.take (i + 1) = l.take i ++ [l[i]] := by rw [List.take_add_one, List.getElem?_eq_getElem h]; rfl
def cut (l : List S28) : List S28 := (l.take 70).map fun x => ⟨x.f0, x.f1.take 70⟩
theorem To_l1 (l : List S28) (i : Nat) (hi : i < l.length) (xs : List S35) (ys : List S28) (hx : xs.length ≤ 70) (hy : ys.length ≤ 70) (R : Option ((List S35) × (List S28))) (K0 : Nat)
    (hc : ∀ e, clevislaw28_To.l0 (K0 + e) l (xs ++ [⟨(l[i]).f0, ((l[i]).f1.take 70).map cp⟩]) (ys ++ [⟨(l[i]).f0, (l[i]).f1.take 70⟩]) ((i + 1 : Nat) : Int) = R) (hi2 : i ≤ 100) :
    ∀ (n j : Nat), j + n = min (l[i]).f1.length 70 → ∀ e, clevislaw28_To.l1 (K0 + n + 1 + e) l xs ys (i : Int) (j : Int) (l[i]).f0 (((l[i]).f1.take j).map cp) (l[i]).f0 ((l[i]).f1.take j) = R
  | 0, j, hj, e => by
    have h1 : ((l[i]).f1.take 70) = (l[i]).f1.take j := by
      rcases Nat.le_total (l[i]).f1.length 70 with h | h
      · rw [List.take_of_length_le h, List.take_of_length_le (by omega)]
      · rw [show j = 70 by omega]
    rw [h1] at hc
    rw [show K0 + 0 + 1 + e = (K0 + e) + 1 by omega, clevislaw28_To.l1, if_pos (by omega), if_pos (by omega), rd28 hi, wi i (by omega)]
    by_cases c : (j : Int) < ((l[i]).f1.length : Int)
    · rw [if_pos c, if_neg (by omega), if_pos (by omega), if_pos (by omega), hc]
    · rw [if_neg c, if_pos (by omega), if_pos (by omega), hc]
  | n + 1, j, hj, e => by
    have hjl : j < (l[i]).f1.length := by omega
    have ih := To_l1 l i hi xs ys hx hy R K0 hc hi2 n (j + 1) (by omega) e
    rw [take_snoc' _ _ hjl, List.map_append] at ih
    rw [show K0 + (n + 1) + 1 + e = (K0 + n + 1 + e) + 1 by omega, clevislaw28_To.l1, if_pos (by omega), if_pos (by omega), rd28 hi, if_pos (by omega), if_pos (by omega), if_pos (by omega), if_pos (by simp; omega), if_pos (by simp; omega), rd41 hjl, wi j (by omega)]
    exact ih
theorem To_l0 (l : List S28) : ∀ (n i : Nat), i + n = min l.length 70 → ∃ K, ∀ e, clevislaw28_To.l0 (K + e) l ((cut (l.take i)).map cl) (cut (l.take i)) (i : Int) = some ((cut l).map cl, cut l)
  | 0, i, hi => by
    have h1 : cut (l.take i) = cut l := by
      unfold cut
      rw [List.take_take]
      rcases Nat.le_total l.length 70 with h | h
      · rw [show i = l.length by omega, List.take_of_length_le (by omega), List.take_of_length_le (by omega)]
      · rw [show i = 70 by omega]
        simp
    refine ⟨2, fun e => ?_⟩
    rw [h1, show 2 + e = (e + 1) + 1 by omega, clevislaw28_To.l0]
    by_cases c : (i : Int) < (l.length : Int)
    · rw [if_pos c, decide_eq_false (by omega), clevislaw28_To.j1, if_neg (by simp)]
    · rw [if_neg c, clevislaw28_To.j1, if_neg (by simp)]
  | n + 1, i, hi => by
    have hil : i < l.length := by omega
    obtain ⟨K, hK⟩ := To_l0 l n (i + 1) (by omega)
    have hs : cut (l.take (i + 1)) = cut (l.take i) ++ [⟨(l[i]).f0, (l[i]).f1.take 70⟩] := by
      unfold cut
      rw [take_snoc' _ _ hil, List.take_of_length_le (by simp; omega), List.take_of_length_le (l := l.take i) (by simp; omega), List.map_append]
      rfl
    have hcl : (cut (l.take i)).length ≤ 70 := by unfold cut; simp; omega
    have hK2 : ∀ e, clevislaw28_To.l0 (K + e) l ((cut (l.take i)).map cl ++ [⟨(l[i]).f0, ((l[i]).f1.take 70).map cp⟩]) (cut (l.take i) ++ [⟨(l[i]).f0, (l[i]).f1.take 70⟩]) ((i + 1 : Nat) : Int) = some ((cut l).map cl, cut l) := fun e => by
      have := hK e
      rw [hs, List.map_append] at this
      exact this
    have h1 := To_l1 l i hil ((cut (l.take i)).map cl) (cut (l.take i)) (by rw [List.length_map]; exact hcl) hcl _ K hK2 (by omega) (min (l[i]).f1.length 70) 0 (by omega)
    simp only [List.take_zero, List.map_nil] at h1
    refine ⟨K + min (l[i]).f1.length 70 + 1 + 2, fun e => ?_⟩
    rw [show K + min (l[i]).f1.length 70 + 1 + 2 + e = (K + min (l[i]).f1.length 70 + 1 + e + 1) + 1 by omega, clevislaw28_To.l0, if_pos (by omega), decide_eq_true (by omega), clevislaw28_To.j1, if_pos rfl, if_pos (by omega), if_pos (by omega), rd28 hil]
    exact h1 e
theorem To_f (l : List S28) : ∃ K, ∀ e, clevislaw28_To.f (K + e) l = some ((cut l).map cl, cut l) := by
  obtain ⟨K, hK⟩ := To_l0 l (min l.length 70) 0 (by omega)
  exact ⟨K, fun e => hK e⟩
def tot (l : List S41) : Int := (l.map (·.f1)).sum
def tots (y : List S28) : Int := (y.map fun x => tot x.f1).sum
theorem room_l0 (l : List S74) (hl : l.length ≤ 1000000) (r : Int × Int) (hr : fixed_Sum.f (l.map (·.f1)) = some r) : ∀ (n i : Nat), i + n = l.length → ∀ e, waterfall_room.l0 (n + 1 + e) ((l.take i).map (·.f1)) l (l.length : Int) (i : Int) = some r
  | 0, i, hi, e => by
    rw [show 0 + 1 + e = e + 1 by omega, waterfall_room.l0, if_neg (by omega), List.take_of_length_le (by omega), hr]
    rfl
  | n + 1, i, hi, e => by
    have hil : i < l.length := by omega
    have ih := room_l0 l hl r hr n (i + 1) (by omega) e
    rw [take_snoc' _ _ hil, List.map_append] at ih
    rw [show n + 1 + 1 + e = (n + 1 + e) + 1 by omega, waterfall_room.l0, if_pos (by omega), if_pos (by omega), if_pos (by omega), if_pos (by simp; omega), rd74 hil, wi i (by omega)]
    exact ih
theorem room_f (l : List S74) (hl : l.length ≤ 1000000) (hg : ∀ p ∈ l, I64 p.f1) : ∃ r1 r2, (∀ e, waterfall_room.f (l.length + 1 + e) l = some (r1, r2)) ∧ Is64 (l.map (·.f1)).sum r1 r2 := by
  obtain ⟨r1, r2, h1, h2⟩ := Sum_f (l.map (·.f1)) (by simpa using hl) (fun a ha => by obtain ⟨p, hp, rfl⟩ := List.mem_map.1 ha; exact hg p hp)
  exact ⟨r1, r2, fun e => room_l0 l hl _ h1 l.length 0 (by omega) e, h2⟩
theorem parts_l0 (x : List S35) (hx : x.length ≤ 1000) (hp : ∀ y ∈ x, y.f1.length ≤ 1000) : ∀ (n i : Nat), i + n = x.length → ∀ e, waterfall_parts.l0 (n + 1 + e) ((x.take i).flatMap (·.f1)) x (x.length : Int) (i : Int) = some (x.flatMap (·.f1))
  | 0, i, hi, e => by
    rw [show 0 + 1 + e = e + 1 by omega, waterfall_parts.l0, if_neg (by omega), List.take_of_length_le (by omega)]
  | n + 1, i, hi, e => by
    have hil : i < x.length := by omega
    have ih := parts_l0 x hx hp n (i + 1) (by omega) e
    have hb : ((x.take i).flatMap (·.f1)).length ≤ 1000 * i := by
      have : ∀ (l : List S35), (∀ y ∈ l, y.f1.length ≤ 1000) → (l.flatMap (·.f1)).length ≤ 1000 * l.length := fun l => by
        induction l with
        | nil => intro _; simp
        | cons a l ih =>
          intro h
          have h1 := h a (by simp)
          have h2 := ih (fun y hy => h y (by simp [hy]))
          simp at h2 ⊢
          omega
      have h3 := this (x.take i) (fun y hy => hp y (List.mem_of_mem_take hy))
      rw [List.length_take] at h3
      have : 1000 * min i x.length ≤ 1000 * i := Nat.mul_le_mul_left _ (Nat.min_le_left _ _)
      omega
    have hq := hp _ (List.getElem_mem hil)
    rw [take_snoc' _ _ hil, List.flatMap_append] at ih
    rw [show n + 1 + 1 + e = (n + 1 + e) + 1 by omega, waterfall_parts.l0, if_pos (by omega), if_pos (by omega), if_pos (by omega), rd35 hil, if_pos (by omega), wi i (by omega)]
    simpa using ih
theorem parts_f (x : List S35) (hx : x.length ≤ 1000) (hp : ∀ y ∈ x, y.f1.length ≤ 1000) (e : Nat) : waterfall_parts.f (x.length + 1 + e) x = some (x.flatMap (·.f1)) := by
  have := parts_l0 x hx hp x.length 0 (by omega) e
  simpa [waterfall_parts.f] using this
end Go.Proofs.Ytfbkgfffalppmaa.Wq
end
section
namespace Go.Proofs.Ytfbkgfffalppmaa.Wq
set_option linter.unusedSimpArgs false
set_option linter.unusedVariables false
open Go Go.RowKit Go.Proofs.Ytfbkgfffalppmaa.Wf Go.Proofs.YtfbkgfffalppmaaW.PrintWords Go.Proofs.Ytfbkgfffalppmaa.Fv Go.Proofs.Ytfbkgfffalppmaa.Fc
def twA (N : List (List UInt8)) (i : Nat) : Bool := (N.take i).any (fun z => N.getD i [] == z)
def twB (N : List (List UInt8)) : Bool := (List.range N.length).any (twA N)
theorem tw_layer_eq (l : List S35) : waterfall_below.tw_layer l = twB (l.map (·.f0.toList)) := by
  unfold waterfall_below.tw_layer twB twA
  rw [List.length_map]
  congr 1
  funext i
  rw [← List.map_take, List.any_map]
  congr 1
  funext x
  simp only [Function.comp, List.getD_eq_getElem?_getD, List.getElem?_map]
  cases h : l[i]? with
  | none => simp [z35, ByteArray.toList_eq]
  | some a => simp
theorem tw_part_eq (l : List S74) : waterfall_below.tw_part l = twB (l.map (·.f0.toList)) := by
  unfold waterfall_below.tw_part twB twA
  rw [List.length_map]
  congr 1
  funext i
  rw [← List.map_take, List.any_map]
  congr 1
  funext x
  simp only [Function.comp, List.getD_eq_getElem?_getD, List.getElem?_map]
  cases h : l[i]? with
  | none => simp [z74, ByteArray.toList_eq]
  | some a => simp
def nL (y : List S28) : List (List UInt8) := y.map (·.f0.toList)
def nP (p : List S41) : List (List UInt8) := p.map (·.f0.toList)
def neg (y : List S28) : Bool := y.any fun x => x.f1.any fun p => decide (p.f1 < 0)
def names (y : List S28) : Bool := twB (nL y) || y.any fun x => twB (nP x.f1)
def long (y : List S28) : Bool := decide (64 < y.length) || y.any fun x => decide (64 < x.f1.length)
def chk (y : List S28) : Int := if neg y = true then 1 else if names y = true then 6 else if long y = true then 2 else if I64 (tots y) then 0 else 4
structure Ok (y : List S28) : Prop where
  len : y.length ≤ 70
  parts : ∀ x ∈ y, x.f1.length ≤ 70
  good : ∀ x ∈ y, ∀ p ∈ x.f1, I64 p.f1
theorem sum_flat : ∀ (y : List S28), (((y.map cl).flatMap (·.f1)).map (·.f1)).sum = tots y
  | [] => rfl
  | a :: y => by
    have := sum_flat y
    simp [tots, tot, cl, cp, List.map_map, Function.comp_def] at this ⊢
    rw [this]
theorem neg_flat (y : List S28) : (((y.map cl).flatMap (·.f1)).any fun x => decide (x.f1 < 0)) = neg y := by
  induction y with
  | nil => rfl
  | cons a y ih =>
    simp [neg, cl, cp, List.any_map, Function.comp_def] at ih ⊢
    rw [ih]
    rfl
theorem names_cl (y : List S28) : (waterfall_below.tw_layer (y.map cl) || (y.map cl).any fun x => waterfall_below.tw_part x.f1) = names y := by
  rw [tw_layer_eq]
  unfold names nL nP
  rw [List.map_map, List.any_map]
  congr 1
  congr 1
  funext x
  simp only [Function.comp, tw_part_eq, cl, List.map_map]
  rfl
theorem long_cl (y : List S28) : (decide ((64 : Int) < ((y.map cl).length : Int)) || (y.map cl).any fun x => decide (64 < (x.f1.length : Int))) = long y := by
  unfold long
  rw [List.length_map, List.any_map]
  congr 1
  · rw [decide_eq_decide]; omega
  · congr 1
    funext x
    simp only [Function.comp, cl, List.length_map]
    rw [decide_eq_decide]; omega
theorem len_flat (y : List S28) (h : Ok y) : ((y.map cl).flatMap (·.f1)).length ≤ 4900 := by
  have : ∀ (l : List S28), (∀ x ∈ l, x.f1.length ≤ 70) → ((l.map cl).flatMap (·.f1)).length ≤ 70 * l.length := fun l => by
    induction l with
    | nil => intro _; simp
    | cons a l ih =>
      intro h
      have h1 := h a (by simp)
      have h2 := ih (fun y hy => h y (by simp [hy]))
      simp [cl] at h2 ⊢
      omega
  have h1 := this y h.parts
  have h2 := h.len
  omega
theorem mem_flat {y : List S28} (h : Ok y) : ∀ p ∈ (y.map cl).flatMap (·.f1), I64 p.f1 := fun p hp => by
  obtain ⟨x, hx, hp2⟩ := List.mem_flatMap.1 hp
  obtain ⟨z, hz, rfl⟩ := List.mem_map.1 hx
  obtain ⟨q, hq, rfl⟩ := List.mem_map.1 hp2
  exact h.good z hz q hq
theorem Check_p (y : List S28) (h : Ok y) : ∃ K, ∀ e, waterfall_Check.f (K + e) (y.map cl) = some (chk y) := by
  have hlen := h.len
  have hp := parts_f (y.map cl) (by rw [List.length_map]; omega) (fun z hz => by obtain ⟨x, hx, rfl⟩ := List.mem_map.1 hz; have := h.parts x hx; simp [cl]; omega)
  obtain ⟨r1, r2, h1, h2⟩ := room_f ((y.map cl).flatMap (·.f1)) (by have := len_flat y h; omega) (mem_flat h)
  rw [sum_flat] at h2
  refine ⟨y.length + 1 + (((y.map cl).flatMap (·.f1)).length + 1), fun e => ?_⟩
  unfold waterfall_Check.f waterfall_Check.g
  have hp2 := hp (((y.map cl).flatMap (·.f1)).length + 1 + e)
  rw [List.length_map] at hp2
  rw [show y.length + 1 + (((y.map cl).flatMap (·.f1)).length + 1) + e = y.length + 1 + (((y.map cl).flatMap (·.f1)).length + 1 + e) by omega, hp2, Option.bind_some, neg_flat, names_cl, long_cl]
  have h3 := h1 (y.length + 1 + e)
  rw [show ((y.map cl).flatMap (·.f1)).length + 1 + (y.length + 1 + e) = y.length + 1 + (((y.map cl).flatMap (·.f1)).length + 1 + e) by omega] at h3
  rw [h3]
  unfold chk
  by_cases c1 : neg y = true
  · rw [if_pos c1, if_pos c1]
  · rw [if_neg c1, if_neg c1]
    by_cases c2 : names y = true
    · rw [if_pos c2, if_pos c2]
    · rw [if_neg c2, if_neg c2]
      by_cases c3 : long y = true
      · rw [if_pos c3, if_pos c3]
      · rw [if_neg c3, if_neg c3, Option.bind_some]
        rcases h2 with ⟨a, _, b⟩ | ⟨a, _, b⟩
        · rw [if_pos a, b]
        · rw [if_neg a, b]
theorem rRoom_l0 (p : List S41) (hp : p.length ≤ 1000) (hg : ∀ x ∈ p, I64 x.f1) : ∀ (n i : Nat) (v : Int) (nn : Bool) (d : List Int), i + n = p.length → Nm v nn d → d.length ≤ 5 + i → v = tot (p.take i) → ∃ K n' d', (∀ e, clevisref28_Room.l0 (K + e) p (i : Int) nn d = some (n', d')) ∧ Nm (tot p) n' d' ∧ d'.length ≤ 5 + p.length
  | 0, i, v, nn, d, hi, hN, hd, hv => by
    rw [List.take_of_length_le (by omega)] at hv
    subst hv
    refine ⟨1, nn, d, fun e => ?_, hN, by omega⟩
    rw [show 1 + e = e + 1 by omega, clevisref28_Room.l0, if_neg (by omega)]
  | n + 1, i, v, nn, d, hi, hN, hd, hv => by
    have hil : i < p.length := by omega
    have hx := hg _ (List.getElem_mem hil)
    obtain ⟨K1, n1, d1, a1, a2, a3⟩ := Narrow_f (p[i]).f1 hx.1 hx.2
    obtain ⟨K2, n2, d2, b1, b2, b3⟩ := Add_f hN a2 (by omega) (by omega)
    have hv2 : v + (p[i]).f1 = tot (p.take (i + 1)) := by rw [take_snoc' _ _ hil, hv]; unfold tot; rw [List.map_append, List.sum_append, List.map_cons, List.map_nil, List.sum_cons, List.sum_nil, Int.add_zero]
    obtain ⟨K3, n3, d3, c1, c2, c3⟩ := rRoom_l0 p hp hg n (i + 1) _ n2 d2 (by omega) b2 (by omega) hv2
    refine ⟨K1 + K2 + K3 + 1, n3, d3, fun e => ?_, c2, c3⟩
    dsimp only at a1
    rw [show K1 + K2 + K3 + 1 + e = (K1 + (K2 + K3 + e)) + 1 by omega, clevisref28_Room.l0, if_pos (by omega), if_pos (by omega), rd41 hil, a1, Option.bind_some, show K1 + (K2 + K3 + e) = K2 + (K1 + K3 + e) by omega]
    dsimp only
    rw [b1, Option.bind_some, show K2 + (K1 + K3 + e) = K3 + (K1 + K2 + e) by omega, wi i (by omega)]
    dsimp only
    exact c1 _
theorem nm_zero : Nm 0 false [] := ⟨Ds.nil, fun h => absurd rfl h, fun h => by simp at h, rfl, by simp⟩
theorem rRoom_f (p : List S41) (hp : p.length ≤ 1000) (hg : ∀ x ∈ p, I64 x.f1) : ∃ K n' d', (∀ e, clevisref28_Room.f (K + e) p = some (n', d')) ∧ Nm (tot p) n' d' ∧ d'.length ≤ 5 + p.length := by
  obtain ⟨K, n', d', h1, h2, h3⟩ := rRoom_l0 p hp hg p.length 0 0 false [] (by omega) nm_zero (by simp) (by simp [tot])
  exact ⟨K, n', d', fun e => h1 e, h2, h3⟩
theorem twA_nP {P : List S41} {k : Nat} (hk : k < P.length) : twA (nP P) k = (P.take k).any (fun z => (P[k]).f0.toList == z.f0.toList) := by
  unfold twA nP
  rw [← List.map_take, List.any_map]
  congr 1
  funext z
  simp [Function.comp, List.getD_eq_getElem?_getD, hk]
theorem twA_nL {y : List S28} {i : Nat} (hi : i < y.length) : twA (nL y) i = (y.take i).any (fun z => (y[i]).f0.toList == z.f0.toList) := by
  unfold twA nL
  rw [← List.map_take, List.any_map]
  congr 1
  funext z
  simp [Function.comp, List.getD_eq_getElem?_getD, hi]
section
variable (y : List S28) (hy : Ok y) (nn : Bool) (d : List Int)
include hy
theorem c_l5 (i k : Nat) (hi : i < y.length) (hk : k < (y[i]).f1.length) (R : Option Int) (K0 : Nat) (hc : ∀ e, clevisref28_Check.l4 (K0 + e) y (i : Int) ((k + 1 : Nat) : Int) nn d = R) : ∀ (n j : Nat), j + n = k → ∀ e, clevisref28_Check.l5 (K0 + n + 1 + e) y (i : Int) (k : Int) (j : Int) nn d = if (((y[i]).f1.take k).drop j).any (fun z => ((y[i]).f1[k]).f0.toList == z.f0.toList) = true then some 6 else R
  | 0, j, hj, e => by
    have h1 := hy.len
    have h2 := hy.parts _ (List.getElem_mem hi)
    rw [show K0 + 0 + 1 + e = (K0 + e) + 1 by omega, clevisref28_Check.l5, if_neg (by omega), wi k (by omega), hc, List.drop_eq_nil_of_le (by simp; omega)]
    simp
  | n + 1, j, hj, e => by
    have h1 := hy.len
    have h2 := hy.parts _ (List.getElem_mem hi)
    have hjl : j < (y[i]).f1.length := by omega
    have ih := c_l5 i k hi hk R K0 hc n (j + 1) (by omega) e
    have hd : ((y[i]).f1.take k).drop j = (y[i]).f1[j] :: ((y[i]).f1.take k).drop (j + 1) := by
      rw [List.drop_eq_getElem_cons (by simp; omega), List.getElem_take]
    rw [show K0 + (n + 1) + 1 + e = (K0 + n + 1 + e) + 1 by omega, clevisref28_Check.l5, if_pos (by omega), if_pos (by omega), if_pos (by omega), if_pos (by omega), rd28 hi, if_pos (by omega), if_pos (by omega), if_pos (by omega), rd41 hk, rd41 hjl, hd, List.any_cons, wi j (by omega), ih]
    by_cases c : ((y[i]).f1[k]).f0.toList = ((y[i]).f1[j]).f0.toList
    · rw [if_pos c]
      simp [c]
    · rw [if_neg c]
      have : (((y[i]).f1[k]).f0.toList == ((y[i]).f1[j]).f0.toList) = false := by simpa using c
      rw [this, Bool.false_or]
theorem c_l4 (i : Nat) (hi : i < y.length) (R : Option Int) (K0 : Nat) (hc : ∀ e, clevisref28_Check.l2 (K0 + e) y ((i + 1 : Nat) : Int) nn d = R) : ∀ (n k : Nat), k + n = (y[i]).f1.length → ∃ K, ∀ e, clevisref28_Check.l4 (K + e) y (i : Int) (k : Int) nn d = if (List.range' k n).any (twA (nP (y[i]).f1)) = true then some 6 else R
  | 0, k, hk => by
    have h1 := hy.len
    refine ⟨K0 + 1, fun e => ?_⟩
    rw [show K0 + 1 + e = (K0 + e) + 1 by omega, clevisref28_Check.l4, if_pos (by omega), if_pos (by omega), rd28 hi, if_neg (by omega), wi i (by omega), hc]
    simp
  | n + 1, k, hk => by
    have h1 := hy.len
    have h2 := hy.parts _ (List.getElem_mem hi)
    have hkl : k < (y[i]).f1.length := by omega
    obtain ⟨K, hK⟩ := c_l4 i hi R K0 hc n (k + 1) (by omega)
    have h5 := c_l5 y hy nn d i k hi hkl _ K hK k 0 (by omega)
    rw [List.drop_zero, ← twA_nP hkl] at h5
    refine ⟨K + k + 1 + 1, fun e => ?_⟩
    rw [show K + k + 1 + 1 + e = (K + k + 1 + e) + 1 by omega, clevisref28_Check.l4, if_pos (by omega), if_pos (by omega), rd28 hi, if_pos (by omega)]
    have h6 := h5 e
    rw [show ((0 : Nat) : Int) = 0 by rfl] at h6
    rw [h6, List.range'_succ, List.any_cons]
    by_cases c : twA (nP (y[i]).f1) k = true
    · rw [if_pos c, c]
      simp
    · have c2 : twA (nP (y[i]).f1) k = false := by simpa using c
      rw [if_neg c, c2, Bool.false_or]
theorem c_l3 (i : Nat) (hi : i < y.length) (R : Option Int) (K0 : Nat) (hc : ∀ e, clevisref28_Check.l4 (K0 + e) y (i : Int) 0 nn d = R) : ∀ (n j : Nat), j + n = i → ∀ e, clevisref28_Check.l3 (K0 + n + 1 + e) y (i : Int) (j : Int) nn d = if ((y.take i).drop j).any (fun z => (y[i]).f0.toList == z.f0.toList) = true then some 6 else R
  | 0, j, hj, e => by
    have h1 := hy.len
    rw [show K0 + 0 + 1 + e = (K0 + e) + 1 by omega, clevisref28_Check.l3, if_neg (by omega), hc, List.drop_eq_nil_of_le (by simp; omega)]
    simp
  | n + 1, j, hj, e => by
    have h1 := hy.len
    have hjl : j < y.length := by omega
    have ih := c_l3 i hi R K0 hc n (j + 1) (by omega) e
    have hd : (y.take i).drop j = y[j] :: (y.take i).drop (j + 1) := by
      rw [List.drop_eq_getElem_cons (by simp; omega), List.getElem_take]
    rw [show K0 + (n + 1) + 1 + e = (K0 + n + 1 + e) + 1 by omega, clevisref28_Check.l3, if_pos (by omega), if_pos (by omega), if_pos (by omega), if_pos (by omega), if_pos (by omega), rd28 hi, rd28 hjl, hd, List.any_cons, wi j (by omega), ih]
    by_cases c : (y[i]).f0.toList = (y[j]).f0.toList
    · rw [if_pos c]
      simp [c]
    · rw [if_neg c]
      have : ((y[i]).f0.toList == (y[j]).f0.toList) = false := by simpa using c
      rw [this, Bool.false_or]
theorem c_l2 (R : Option Int) (K0 : Nat) (hc : ∀ e, clevisref28_Check.l6 (K0 + e) y 0 nn d = R) : ∀ (n i : Nat), i + n = y.length → ∃ K, ∀ e, clevisref28_Check.l2 (K + e) y (i : Int) nn d = if ((List.range' i n).any (twA (nL y)) || (y.drop i).any (fun x => twB (nP x.f1))) = true then some 6 else R
  | 0, i, hi => by
    refine ⟨K0 + 1, fun e => ?_⟩
    rw [show K0 + 1 + e = (K0 + e) + 1 by omega, clevisref28_Check.l2, if_neg (by omega), hc, List.drop_eq_nil_of_le (by omega)]
    simp
  | n + 1, i, hi => by
    have h1 := hy.len
    have hil : i < y.length := by omega
    obtain ⟨K, hK⟩ := c_l2 R K0 hc n (i + 1) (by omega)
    obtain ⟨K4, h4⟩ := c_l4 y hy nn d i hil _ K hK (y[i]).f1.length 0 (by omega)
    have h3 := c_l3 y hy nn d i hil _ K4 (fun e => by have := h4 e; rw [show ((0 : Nat) : Int) = 0 by rfl] at this; exact this) i 0 (by omega)
    rw [List.drop_zero, ← twA_nL hil] at h3
    refine ⟨K4 + i + 1 + 1, fun e => ?_⟩
    have h5 := h3 e
    rw [show ((0 : Nat) : Int) = 0 by rfl] at h5
    rw [show K4 + i + 1 + 1 + e = (K4 + i + 1 + e) + 1 by omega, clevisref28_Check.l2, if_pos (by omega), h5, List.range'_succ, List.any_cons, List.drop_eq_getElem_cons hil, List.any_cons]
    have hrange : (List.range' 0 (y[i]).f1.length).any (twA (nP (y[i]).f1)) = twB (nP (y[i]).f1) := by
      unfold twB
      rw [List.range_eq_range']
      simp [nP]
    rw [hrange]
    generalize (List.range' (i + 1) n).any (twA (nL y)) = b1
    generalize ((y.drop (i + 1)).any fun x => twB (nP x.f1)) = b2
    cases twA (nL y) i <;> cases twB (nP (y[i]).f1) <;> cases b1 <;> cases b2 <;> simp
theorem c_l6 (v : Int) (hN : Nm v nn d) : ∀ (n i : Nat), i + n = y.length → ∃ K, ∀ e, clevisref28_Check.l6 (K + e) y (i : Int) nn d = if (decide (0 < n ∧ 64 < y.length) || (y.drop i).any (fun x => decide (64 < x.f1.length))) = true then some 2 else if I64 v then some 0 else some 4
  | 0, i, hi => by
    obtain ⟨K, hK⟩ := fits64 hN
    refine ⟨K + 1, fun e => ?_⟩
    rw [show K + 1 + e = (K + e) + 1 by omega, clevisref28_Check.l6, if_neg (by omega), hK, Option.bind_some, List.drop_eq_nil_of_le (by omega)]
    have hdi : decide (-9223372036854775808 ≤ v ∧ v ≤ 9223372036854775807) = decide (I64 v) := by rw [decide_eq_decide]; exact Iff.rfl
    rw [hdi]
    by_cases c : I64 v
    · simp [c]
    · simp [c]
  | n + 1, i, hi => by
    have h1 := hy.len
    have hil : i < y.length := by omega
    obtain ⟨K, hK⟩ := c_l6 v hN n (i + 1) (by omega)
    refine ⟨K + 1, fun e => ?_⟩
    rw [show K + 1 + e = (K + e) + 1 by omega, clevisref28_Check.l6, if_pos (by omega), List.drop_eq_getElem_cons hil, List.any_cons]
    by_cases c : (y.length : Int) > 64
    · rw [if_pos c, decide_eq_true (by omega)]
      simp
    · rw [if_neg c, if_pos (by omega), rd28 hil, decide_eq_false (by omega), Bool.false_or]
      by_cases c2 : ((y[i]).f1.length : Int) > 64
      · rw [if_pos c2, decide_eq_true (by omega)]
        simp
      · rw [if_neg c2, decide_eq_false (by omega), Bool.false_or, wi i (by omega), hK, decide_eq_false (by omega), Bool.false_or]
theorem c_l1 (i : Nat) (hi : i < y.length) (v : Int) (hN : Nm v nn d) (hd : d.length ≤ 100 + i) (R : Option Int) (hc : ∀ n' d', Nm (v + tot (y[i]).f1) n' d' → d'.length ≤ 100 + (i + 1) → ∃ K, ∀ e, clevisref28_Check.l0 (K + e) y ((i + 1 : Nat) : Int) n' d' = R) : ∀ (n j : Nat), j + n = (y[i]).f1.length → ∃ K, ∀ e, clevisref28_Check.l1 (K + e) y (i : Int) (j : Int) nn d = if ((y[i]).f1.drop j).any (fun p => decide (p.f1 < 0)) = true then some 1 else R
  | 0, j, hj => by
    have h1 := hy.len
    have h2 := hy.parts _ (List.getElem_mem hi)
    obtain ⟨K1, n1, d1, a1, a2, a3⟩ := rRoom_f (y[i]).f1 (by omega) (hy.good _ (List.getElem_mem hi))
    obtain ⟨K2, n2, d2, b1, b2, b3⟩ := Add_f hN a2 (by omega) (by omega)
    obtain ⟨K3, hK⟩ := hc n2 d2 b2 (by omega)
    refine ⟨K1 + K2 + K3 + 1, fun e => ?_⟩
    rw [show K1 + K2 + K3 + 1 + e = (K1 + (K2 + K3 + e)) + 1 by omega, clevisref28_Check.l1, if_pos (by omega), if_pos (by omega), rd28 hi, if_neg (by omega), a1, Option.bind_some, show K1 + (K2 + K3 + e) = K2 + (K1 + K3 + e) by omega]
    dsimp only
    rw [b1, Option.bind_some, show K2 + (K1 + K3 + e) = K3 + (K1 + K2 + e) by omega, wi i (by omega)]
    dsimp only
    rw [hK, List.drop_eq_nil_of_le (by omega)]
    simp
  | n + 1, j, hj => by
    have h1 := hy.len
    have h2 := hy.parts _ (List.getElem_mem hi)
    have hjl : j < (y[i]).f1.length := by omega
    obtain ⟨K, hK⟩ := c_l1 i hi v hN hd R hc n (j + 1) (by omega)
    refine ⟨K + 1, fun e => ?_⟩
    rw [show K + 1 + e = (K + e) + 1 by omega, clevisref28_Check.l1, if_pos (by omega), if_pos (by omega), rd28 hi, if_pos (by omega), if_pos (by omega), rd41 hjl, List.drop_eq_getElem_cons hjl, List.any_cons, wi j (by omega), hK]
    by_cases c : ((y[i]).f1[j]).f1 < 0
    · rw [if_pos c, decide_eq_true c]
      simp
    · rw [if_neg c, decide_eq_false c, Bool.false_or]
omit hy in
theorem tots_take {y : List S28} {i : Nat} (hi : i < y.length) : tots (y.take i) + tot (y[i]).f1 = tots (y.take (i + 1)) := by
  rw [take_snoc' _ _ hi]
  unfold tots
  rw [List.map_append, List.sum_append, List.map_cons, List.map_nil, List.sum_cons, List.sum_nil, Int.add_zero]
theorem c_l0 (R : Option Int) (hc : ∀ n' d', Nm (tots y) n' d' → ∃ K, ∀ e, clevisref28_Check.l2 (K + e) y 0 n' d' = R) : ∀ (n i : Nat) (v : Int) (nn : Bool) (d : List Int), i + n = y.length → Nm v nn d → d.length ≤ 100 + i → v = tots (y.take i) → ∃ K, ∀ e, clevisref28_Check.l0 (K + e) y (i : Int) nn d = if neg (y.drop i) = true then some 1 else R
  | 0, i, v, nn, d, hi, hN, hd, hv => by
    rw [List.take_of_length_le (by omega)] at hv
    subst hv
    obtain ⟨K, hK⟩ := hc nn d hN
    refine ⟨K + 1, fun e => ?_⟩
    rw [show K + 1 + e = (K + e) + 1 by omega, clevisref28_Check.l0, if_neg (by omega), hK, List.drop_eq_nil_of_le (by omega)]
    simp [neg]
  | n + 1, i, v, nn, d, hi, hN, hd, hv => by
    have h1 := hy.len
    have hil : i < y.length := by omega
    obtain ⟨K, hK⟩ := c_l1 y hy nn d i hil v hN hd (if neg (y.drop (i + 1)) = true then some 1 else R) (fun n' d' hN' hd' => c_l0 R hc n (i + 1) _ n' d' (by omega) hN' hd' (by rw [hv, tots_take hil])) (y[i]).f1.length 0 (by omega)
    refine ⟨K + 1, fun e => ?_⟩
    have h2 := hK e
    rw [show ((0 : Nat) : Int) = 0 by rfl, List.drop_zero] at h2
    rw [show K + 1 + e = (K + e) + 1 by omega, clevisref28_Check.l0, if_pos (by omega), h2, List.drop_eq_getElem_cons hil]
    unfold neg
    rw [List.any_cons]
    generalize ((y[i]).f1.any fun p => decide (p.f1 < 0)) = b1
    generalize ((y.drop (i + 1)).any fun x => x.f1.any fun p => decide (p.f1 < 0)) = b2
    cases b1 <;> cases b2 <;> simp
theorem rCheck_f : ∃ K, ∀ e, clevisref28_Check.f (K + e) y = some (chk y) := by
  have h1 := hy.len
  obtain ⟨K, hK⟩ := c_l0 y hy (if names y = true then some 6 else if long y = true then some 2 else if I64 (tots y) then some 0 else some 4) (fun n' d' hN => by
    obtain ⟨K6, h6⟩ := c_l6 y hy n' d' (tots y) hN y.length 0 (by omega)
    obtain ⟨K2, h2⟩ := c_l2 y hy n' d' _ K6 (fun e => by have := h6 e; rw [show ((0 : Nat) : Int) = 0 by rfl] at this; exact this) y.length 0 (by omega)
    refine ⟨K2, fun e => ?_⟩
    have h3 := h2 e
    rw [show ((0 : Nat) : Int) = 0 by rfl, List.drop_zero] at h3
    rw [h3]
    have hn : ((List.range' 0 y.length).any (twA (nL y)) || y.any fun x => twB (nP x.f1)) = names y := by
      unfold names twB
      rw [List.range_eq_range']
      simp [nL]
    have hl : (decide (0 < y.length ∧ 64 < y.length) || y.any fun x => decide (64 < x.f1.length)) = long y := by
      unfold long
      congr 1
      rw [decide_eq_decide]
      omega
    rw [hn, hl]) y.length 0 0 false [] (by omega) nm_zero (by simp) (by simp [tots])
  refine ⟨K, fun e => ?_⟩
  have h2 := hK e
  rw [show ((0 : Nat) : Int) = 0 by rfl, List.drop_zero] at h2
  unfold clevisref28_Check.f
  rw [h2]
  unfold chk
  (repeat' split) <;> rfl
end
end Go.Proofs.Ytfbkgfffalppmaa.Wq
end
section
namespace Go.Proofs.Ytfbkgfffalppmaa.Wq
set_option linter.unusedSimpArgs false
set_option linter.unusedVariables false
open Go Go.RowKit Go.Proofs.Ytfbkgfffalppmaa.Wf Go.Proofs.YtfbkgfffalppmaaW.PrintWords Go.Proofs.Ytfbkgfffalppmaa.Fv Go.Proofs.Ytfbkgfffalppmaa.Fc
theorem cut_Ok {l : List S28} (hg : ∀ x ∈ l, ∀ p ∈ x.f1, I64 p.f1) : Ok (cut l) := by
  refine ⟨by unfold cut; simp; omega, fun x hx => ?_, fun x hx p hp => ?_⟩
  · obtain ⟨z, _, rfl⟩ := List.mem_map.1 hx
    simp
    omega
  · obtain ⟨z, hz, rfl⟩ := List.mem_map.1 hx
    exact hg z (List.mem_of_mem_take hz) p (List.mem_of_mem_take hp)
theorem chk_range (y : List S28) : chk y = 0 → I64 (tots y) := fun h => by
  unfold chk at h
  (repeat' split at h) <;> first | omega | assumption
theorem Room_p (y : List S28) (h : Ok y) : ∃ K, ∀ e, waterfall_Room.f (K + e) (y.map cl) = some (if chk y = 0 then tots y else 0, chk y) := by
  have hlen := h.len
  obtain ⟨K1, h1⟩ := Check_p y h
  have hp := parts_f (y.map cl) (by rw [List.length_map]; omega) (fun z hz => by obtain ⟨x, hx, rfl⟩ := List.mem_map.1 hz; have := h.parts x hx; simp [cl]; omega)
  rw [List.length_map] at hp
  obtain ⟨r1, r2, h3, h2⟩ := room_f ((y.map cl).flatMap (·.f1)) (by have := len_flat y h; omega) (mem_flat h)
  rw [sum_flat] at h2
  refine ⟨K1 + (y.length + 1) + (((y.map cl).flatMap (·.f1)).length + 1), fun e => ?_⟩
  unfold waterfall_Room.f
  rw [show K1 + (y.length + 1) + (((y.map cl).flatMap (·.f1)).length + 1) + e = K1 + ((y.length + 1) + (((y.map cl).flatMap (·.f1)).length + 1) + e) by omega, h1, Option.bind_some]
  by_cases c : chk y = 0
  · have hi := chk_range y c
    rcases h2 with ⟨_, a, b⟩ | ⟨a, _⟩
    · rw [if_pos c, if_pos c, c, show K1 + ((y.length + 1) + (((y.map cl).flatMap (·.f1)).length + 1) + e) = y.length + 1 + (K1 + (((y.map cl).flatMap (·.f1)).length + 1) + e) by omega, hp, Option.bind_some, show y.length + 1 + (K1 + (((y.map cl).flatMap (·.f1)).length + 1) + e) = ((y.map cl).flatMap (·.f1)).length + 1 + (y.length + 1 + K1 + e) by omega, h3, Option.bind_some]
      dsimp only
      rw [a, b]
    · exact absurd hi a
  · rw [if_neg c, if_neg c]
theorem k_l0 (y : List S28) (hy : Ok y) (x7 : Int) (hx7 : x7 = chk y) (x6 : Int) (hx6 : x6 = if chk y = 0 then tots y else 0) : ∀ (n i : Nat) (v : Int) (nn : Bool) (d : List Int), i + n = y.length → Nm v nn d → d.length ≤ 100 + i → v = tots (y.take i) → ∃ K, ∀ e, clevislaw28_WaterfallChecks.l0 (K + e) (y.map cl) y (chk y) x6 x7 (i : Int) nn d = some true
  | 0, i, v, nn, d, hi, hN, hd, hv => by
    rw [List.take_of_length_le (by omega)] at hv
    subst hv
    obtain ⟨K1, h1⟩ := Check_p y hy
    have step : ∀ m, clevislaw28_WaterfallChecks.l0 (m + 1) (y.map cl) y (chk y) x6 x7 (i : Int) nn d = ((clevislaw28_known.f m).bind fun t517 => (if t517 = true then ((waterfall_Check.f m (y.map cl)).bind fun t518 => (if t518 = chk y then (if x7 = chk y then (if chk y = 0 then ((clevisref01_Narrow.f m x6).bind fun bt519 => ((clevisref01_Compare.f m bt519.1 bt519.2 nn d).bind fun t523 => (some (t523 == 0)))) else (if x6 = 0 then (some true) else (some false))) else (some false)) else (some false))) else (some false))) := fun m => by
      rw [clevislaw28_WaterfallChecks.l0, if_neg (by omega)]
    by_cases c : chk y = 0
    · have hi64 := chk_range y c
      rw [if_pos c] at hx6
      subst hx6
      obtain ⟨K2, n2, d2, a1, a2, a3⟩ := Narrow_f (tots y) hi64.1 hi64.2
      obtain ⟨K3, b1⟩ := Compare_f a2 hN
      dsimp only at a1
      refine ⟨60 + K1 + K2 + K3 + 1, fun e => ?_⟩
      rw [show 60 + K1 + K2 + K3 + 1 + e = (60 + (K1 + K2 + K3 + e)) + 1 by omega, step, Wp.known_f, Option.bind_some, if_pos rfl, show 60 + (K1 + K2 + K3 + e) = K1 + (60 + K2 + K3 + e) by omega, h1, Option.bind_some, if_pos rfl, if_pos hx7, if_pos c, show K1 + (60 + K2 + K3 + e) = K2 + (60 + K1 + K3 + e) by omega, a1, Option.bind_some, show K2 + (60 + K1 + K3 + e) = K3 + (60 + K1 + K2 + e) by omega]
      dsimp only
      rw [b1, Option.bind_some]
      unfold sgn
      rw [if_neg (by omega), if_neg (by omega)]
      rfl
    · rw [if_neg c] at hx6
      subst hx6
      refine ⟨60 + K1 + 1, fun e => ?_⟩
      rw [show 60 + K1 + 1 + e = (60 + (K1 + e)) + 1 by omega, step, Wp.known_f, Option.bind_some, if_pos rfl, show 60 + (K1 + e) = K1 + (60 + e) by omega, h1, Option.bind_some, if_pos rfl, if_pos hx7, if_neg c, if_pos rfl]
  | n + 1, i, v, nn, d, hi, hN, hd, hv => by
    have hl := hy.len
    have hil : i < y.length := by omega
    have h2 := hy.parts _ (List.getElem_mem hil)
    obtain ⟨K1, n1, d1, a1, a2, a3⟩ := rRoom_f (y[i]).f1 (by omega) (hy.good _ (List.getElem_mem hil))
    obtain ⟨K2, n2, d2, b1, b2, b3⟩ := Add_f hN a2 (by omega) (by omega)
    obtain ⟨K3, hK⟩ := k_l0 y hy x7 hx7 x6 hx6 n (i + 1) _ n2 d2 (by omega) b2 (by omega) (by rw [hv, tots_take hil])
    refine ⟨K1 + K2 + K3 + 1, fun e => ?_⟩
    rw [show K1 + K2 + K3 + 1 + e = (K1 + (K2 + K3 + e)) + 1 by omega, clevislaw28_WaterfallChecks.l0, if_pos (by omega), if_pos (by omega), rd28 hil, a1, Option.bind_some, show K1 + (K2 + K3 + e) = K2 + (K1 + K3 + e) by omega]
    dsimp only
    rw [b1, Option.bind_some, show K2 + (K1 + K3 + e) = K3 + (K1 + K2 + e) by omega, wi i (by omega)]
    dsimp only
    exact hK _
theorem pureWaterfallChecks (l : List S28) (hg : ∀ x ∈ l, ∀ p ∈ x.f1, I64 p.f1) : ∃ k, clevislaw28_WaterfallChecks.f k l = some true := by
  obtain ⟨K1, h1⟩ := To_f l
  have hy := cut_Ok hg
  obtain ⟨K2, h2⟩ := rCheck_f (cut l) hy
  obtain ⟨K3, h3⟩ := Room_p (cut l) hy
  obtain ⟨K4, h4⟩ := k_l0 (cut l) hy (chk (cut l)) rfl _ rfl (cut l).length 0 0 false [] (by omega) nm_zero (by simp) (by simp [tots])
  refine ⟨K1 + K2 + K3 + K4, ?_⟩
  unfold clevislaw28_WaterfallChecks.f
  rw [show K1 + K2 + K3 + K4 = K1 + (K2 + K3 + K4) by omega, h1, Option.bind_some, show K1 + (K2 + K3 + K4) = K2 + (K1 + K3 + K4) by omega]
  dsimp only
  rw [h2, Option.bind_some, show K2 + (K1 + K3 + K4) = K3 + (K1 + K2 + K4) by omega, h3, Option.bind_some, show K3 + (K1 + K2 + K4) = K4 + (K1 + K2 + K3) by omega]
  dsimp only
  exact h4 _
theorem checks_c (A : Option Addr) (c : Nat) (l : List S28) (w : World) (hc : l.length ≤ c) (hC : Kd.C k28 w A l.length l) (hg : ∀ x ∈ l, ∀ p ∈ x.f1, I64 p.f1) : Calls Try.prog 5 #[.slice A l.length c] w fun e w' => e = .returned (.bool true) ∧ Below w.heap.size w w' := by
  obtain ⟨k, hk⟩ := pureWaterfallChecks l hg
  exact clevislaw28_WaterfallChecks.calls k A c l true w hC hc hk
end Go.Proofs.Ytfbkgfffalppmaa.Wq
end
