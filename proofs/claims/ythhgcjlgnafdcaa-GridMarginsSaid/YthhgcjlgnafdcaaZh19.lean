/- Texts of this seat, put together (Zh19). -/
import Derived.Deep.DeepCutAuto
import Derived.Deep.CutBlock
import Derived.Test.YthhgcjlgnafdcaaZh8
import Derived.Test.YthhgcjlgnafdcaaZh10
import Derived.Test.YthhgcjlgnafdcaaZh17
import Derived.Test.YthhgcjlgnafdcaaZh18
section
namespace Go.Proofs.Ythhgcjlgnafdcaa.Pq
set_option linter.unusedSimpArgs false
set_option linter.unusedVariables false
open Go Go.RowKit Go.Proofs.YthhgcjlgnafdcaaW.PrintWords Go.Proofs.YthhgcjlgnafdcaaW.PrintLast Go.Proofs.Ythhgcjlgnafdcaa.Hd Go.Proofs.Ythhgcjlgnafdcaa.Os Go.Proofs.Ythhgcjlgnafdcaa.Tb Go.Proofs.Ythhgcjlgnafdcaa.Tm Go.Proofs.Ythhgcjlgnafdcaa.Px Go.Proofs.Ythhgcjlgnafdcaa.Wv Go.Proofs.Ythhgcjlgnafdcaa.Pp Go.Proofs.Ythhgcjlgnafdcaa.Fq
open Go.Proofs.Ythhgcjlgnafdcaa.Nu (I64 U64 I128 sgn)
abbrev CR (A : Option Addr) (l : List (ByteArray × Int)) (W : World) : Prop := Kd.C krow W A l.length l
section
variable {w0 w : World} {L : List F2} {A : Option Addr} {c g : Nat} {rs : List (ByteArray × Int)} {p : ByteArray × Int → Bool}
set_option maxRecDepth 100000 in
set_option maxHeartbeats 4000000 in
def ixOf (p : ByteArray × Int → Bool) : List (ByteArray × Int) → Int → Int
  | [], _ => -1
  | r :: rs, i => if p r = true then i else ixOf p rs (i + 1)
theorem ixOf_any (p : ByteArray × Int → Bool) : ∀ (rs : List (ByteArray × Int)) (i : Int), 0 ≤ i → (decide (ixOf p rs i ≥ 0) = rs.any p)
  | [], i, h => rfl
  | r :: rs, i, h => by
    unfold ixOf
    rw [List.any_cons]
    split
    · rename_i hp
      rw [hp, Bool.true_or]
      exact decide_eq_true h
    · rename_i hp
      rw [Bool.not_eq_true] at hp
      rw [hp, Bool.false_or, ixOf_any p rs (i + 1) (by omega)]
set_option maxRecDepth 100000 in
set_option maxHeartbeats 4000000 in
theorem index_c (heg : ∀ args w, (callFunc g args).run Try.prog w = .ok (.enter g args) w) (H : All w w [((fun k => k < w.heap.size), CR A rs)]) (hl : rs.length ≤ 1000) (hp : ∀ W r, Tells Try.prog g #[.agg #[.string r.1, .int .i64 r.2]] W (.bool (p r))) :
    Tells Try.prog 118 #[.slice A rs.length c, .func (.func g) #[] #[]] w (.int .i64 (ixOf p rs 0)) := by
  unfold Tells
  obtain ⟨X, hX⟩ : ∃ X, ixOf p rs 0 = X := ⟨_, rfl⟩
  rw [hX]
  replace hX := Aside0.mk hX
  go_enter Try.func118, Try.ntmps118
  go_wp2_with fail
  go_loopg [8] rs.length (fun kx s8 wr => ∃ i : Nat, s8 = .int .i64 (i : Int) ∧ i ≤ rs.length ∧ rs.length - i ≤ kx ∧ Aside0 (ixOf p rs 0 = ixOf p (rs.drop i) i) ∧ All w wr [((fun k => k < w.heap.size), CR A rs)])
  case atStart => exact ⟨0, rfl, Nat.zero_le _, by omega, ⟨rfl⟩, H⟩
  case round =>
    clear H
    obtain ⟨i, rfl, hil, hik, hx, H⟩ := hrel
    by_cases hlt : i < rs.length
    · have hli : (i : Int) < (rs.length : Int) := Int.ofNat_lt.2 hlt
      obtain ⟨ad, rfl, hc0, hc1⟩ := at_krow (H.at 0 rfl) hlt
      have e2 : ixOf p (rs.drop i) i = if p rs[i] = true then (i : Int) else ixOf p (rs.drop (i + 1)) ((i : Int) + 1) := by rw [List.drop_eq_getElem_cons hlt, ixOf]
      obtain ⟨r, hr⟩ : ∃ r, rs[i] = r := ⟨_, rfl⟩
      rw [hr] at hc0 hc1 e2
      have hp1 := fun W => hp W r
      obtain ⟨s, n⟩ := r
      simp only at hc0 hc1 hp1
      have e3 := hx.out.trans e2
      obtain ⟨q, hq⟩ : ∃ q, p (s, n) = q := ⟨_, rfl⟩
      rw [hq] at e3 hp1
      replace e3 := Aside0.mk e3
      clear hr e2 hq hp
      cases q with
      | true =>
        obtain rfl : (i : Int) = X := by rw [← hX.out, e3.out]; rfl
        go_wp2_with fail
        refine (hp1 _).on H fun w1 H1 => ?_
        go_wp2
        go_ret
        exact ⟨rfl, H1.old⟩
      | false =>
        go_wp2_with fail
        refine (hp1 _).on H fun w1 H1 => ?_
        go_wp2_with fail
        go_roundg (rs.length - (i + 1))
        case measure => omega
        case rel => exact ⟨i + 1, rfl, hlt, Nat.le_refl _, ⟨by rw [e3.out]; rfl⟩, H1⟩
    · obtain rfl : i = rs.length := Nat.le_antisymm hil (Nat.le_of_not_lt hlt)
      obtain rfl : -1 = X := by rw [← hX.out, hx.out, List.drop_length]; rfl
      go_wp2
      go_ret
      exact ⟨rfl, H.old⟩
theorem contains_c (heg : ∀ args w, (callFunc g args).run Try.prog w = .ok (.enter g args) w) (H : CR A rs w) (hl : rs.length ≤ 1000) (hp : ∀ W r, Tells Try.prog g #[.agg #[.string r.1, .int .i64 r.2]] W (.bool (p r))) :
    Tells Try.prog 82 #[.slice A rs.length c, .func (.func g) #[] #[]] w (.bool (rs.any p)) := by
  have H0 := (All.start w).arg (held_C H)
  have hi := index_c (c := c) heg H0 hl hp
  have e := ixOf_any p rs 0 (Int.le_refl _)
  unfold Tells
  go_enter Try.func82, Try.ntmps82
  go_wp2_with fail
  refine hi.on H0 fun w1 H1 => ?_
  go_wp2
  go_ret
  exact ⟨by rw [← e]; rfl, H1.old⟩
def badR (r : ByteArray × Int) : Bool := r.2 == 0 || r.1.toList.isEmpty
theorem badR_c (W : World) (r : ByteArray × Int) : Tells Try.prog 103 #[.agg #[.string r.1, .int .i64 r.2]] W (.bool (badR r)) := by
  unfold Tells badR
  obtain ⟨s, n⟩ := r
  simp only
  cases h : n == 0 with
  | true =>
    go_enter Try.func103, Try.ntmps103
    go_wp2
    go_ret
    exact ⟨rfl, below_alloc (Below.refl _ _) _⟩
  | false =>
    go_enter Try.func103, Try.ntmps103
    go_wp2
    go_ret
    exact ⟨by simp, below_alloc (Below.refl _ _) _⟩
theorem lt_trans {a b x : ByteArray} (h1 : cmpS a b = -1) (h2 : cmpS b x = -1) : cmpS a x = -1 := by
  have h := good_S.trans a b x (by omega) (by omega)
  rcases good_S.sgn a x with h3 | h3 | h3
  · exact h3
  · have := good_S.one a x h3
    subst this
    have := good_S.anti a b
    omega
  · omega
def sortedB : List (ByteArray × Int) → Bool
  | [] => true
  | [_] => true
  | a :: b :: r => decide (cmpS a.1 b.1 = -1) && sortedB (b :: r)
theorem sortedB_iff : ∀ {rs : List (ByteArray × Int)}, sortedB rs = true ↔ Up cmpS rs
  | [] => by simp [sortedB, Up]
  | [a] => by simp [sortedB, Up]
  | a :: b :: r => by
    unfold sortedB
    rw [Bool.and_eq_true, decide_eq_true_eq, sortedB_iff]
    unfold Up
    rw [List.pairwise_cons (a := a)]
    constructor
    · rintro ⟨h1, h2⟩
      refine ⟨fun x hx => ?_, h2⟩
      rcases List.mem_cons.1 hx with rfl | hx
      · exact h1
      · exact lt_trans h1 ((List.pairwise_cons.1 h2).1 x hx)
    · rintro ⟨h1, h2⟩
      exact ⟨h1 b List.mem_cons_self, h2⟩
def cvR (r : ByteArray × Int) : S79 := ⟨r.1, r.2⟩
theorem C_row {n : Nat} (h : Kd.C krow w A n rs) : Kd.C k79 w A n (rs.map cvR) := by
  obtain ⟨h1, h2, h3⟩ := h
  refine ⟨by rw [List.length_map]; exact h1, h2, fun hn => ?_⟩
  obtain ⟨ad, rfl, h4⟩ := h3 hn
  refine ⟨ad, rfl, fun j p hj => ?_⟩
  rw [List.getElem?_map] at hj
  obtain ⟨q, hq, rfl⟩ := Option.map_eq_some_iff.1 hj
  obtain ⟨cs, hl, hK, hc⟩ := h4 j q hq
  obtain rfl := krow_K hK
  exact ⟨_, hl, k79_mk w (cvR q), hc⟩
theorem rd_row {i : Nat} (hi : i < rs.length) : rd_T79 (rs.map cvR) (i : Int) = cvR rs[i] := by
  unfold rd_T79
  rw [Int.toNat_natCast, List.getD_eq_getElem?_getD, List.getElem?_map, List.getElem?_eq_getElem hi]
  rfl
theorem sorted_l0 (hl : rs.length ≤ 1000) : ∀ n i, i + 1 + n = rs.length → En.Ends (fun k => note_Sorted.l0 k (rs.map cvR) ((i + 1 : Nat) : Int)) (sortedB (rs.drop i)) := by
  intro n
  induction n with
  | zero =>
    intro i hi
    have h1 : i < rs.length := by omega
    rw [List.drop_eq_getElem_cons h1, List.drop_of_length_le (by omega)]
    refine En.Ends.now 0 fun k _ => ?_
    simp only [note_Sorted.l0, List.length_map]
    rw [if_neg (by omega)]
    rfl
  | succ n ih =>
    intro i hi
    have h1 : i < rs.length := by omega
    have h2 : i + 1 < rs.length := by omega
    rw [List.drop_eq_getElem_cons h1, List.drop_eq_getElem_cons h2, sortedB]
    by_cases hc : cmpS rs[i].1 rs[i + 1].1 = -1
    · rw [decide_eq_true hc, Bool.true_and, ← List.drop_eq_getElem_cons h2]
      refine En.Ends.step 0 (ih (i + 1) (by omega)) fun k _ => ?_
      simp only [note_Sorted.l0, List.length_map]
      rw [En.wrap_pred (by omega), if_pos (by omega), if_pos (by omega), if_pos (by omega), if_pos (by omega), rd_row h1, rd_row h2, if_pos (show Op.bytesLess (cvR rs[i]).f0.toList (cvR rs[i + 1]).f0.toList = true from En.less_iff.2 hc), En.wrap_succ (by omega)]
    · rw [decide_eq_false hc, Bool.false_and]
      refine En.Ends.now 0 fun k _ => ?_
      simp only [note_Sorted.l0, List.length_map]
      rw [En.wrap_pred (by omega), if_pos (by omega), if_pos (by omega), if_pos (by omega), if_pos (by omega), rd_row h1, rd_row h2, if_neg (show ¬ Op.bytesLess (cvR rs[i]).f0.toList (cvR rs[i + 1]).f0.toList = true from fun q => hc (En.less_iff.1 q))]
theorem sorted_c (H : CR A rs w) (hc : rs.length ≤ c) (hl : rs.length ≤ 1000) : Tells Try.prog 84 #[.slice A rs.length c] w (.bool (sortedB rs)) := by
  have h : En.Ends (fun k => note_Sorted.f k (rs.map cvR)) (sortedB rs) := by
    cases rs with
    | nil => exact ⟨1, fun k hk => by obtain ⟨k, rfl⟩ : ∃ m, k = m + 1 := ⟨k - 1, by omega⟩; rfl⟩
    | cons r rs => exact sorted_l0 (rs := r :: rs) hl rs.length 0 (by simp; omega)
  obtain ⟨K, hK⟩ := h
  have := note_Sorted.calls K A c (rs.map cvR) _ w (by rw [List.length_map]; exact C_row H) (by rw [List.length_map]; exact hc) (hK K (Nat.le_refl _))
  rw [List.length_map] at this
  exact this.mono fun e w' ⟨h1, h2⟩ => ⟨h1, h2.below⟩
def rightB (rs : List (ByteArray × Int)) : Bool := sortedB rs && !rs.any badR
theorem right_c {hi lo : Int} (H : CR A rs w) (hc : rs.length ≤ c) (hl : rs.length ≤ 1000) : Tells Try.prog 63 #[.agg #[.slice A rs.length c, .int .i64 hi, .int .u64 lo]] w (.bool (rightB rs)) := by
  have H0 := ((All.start w).arg (held_C H)).box w.heap.size 45 #[.slice A rs.length c, .int .i64 hi, .int .u64 lo]
  have h1 := fun W (h : CR A rs W) => sorted_c h hc hl
  have h2 := fun W (h : CR A rs W) => contains_c (c := c) (enters_of Try.func103 (by kernel_rfl) rfl) h hl badR_c
  unfold Tells rightB
  generalize rs.any badR = q at *
  cases hs : sortedB rs with
  | true =>
    rw [hs] at h1
    go_enter Try.func63, Try.ntmps63
    have r0 := H0.rd 0 rfl
    go_wp2_with fail
    refine (h1 _ (H0.at 1 rfl)).on H0 fun w1 H1 => ?_
    have r1 := H1.rd 0 rfl
    go_wp2_with fail
    refine (h2 _ (H1.at 1 rfl)).on H1 fun w2 H2 => ?_
    go_wp2
    go_ret
    exact ⟨rfl, H2.old⟩
  | false =>
    rw [hs] at h1
    go_enter Try.func63, Try.ntmps63
    have r0 := H0.rd 0 rfl
    go_wp2_with fail
    refine (h1 _ (H0.at 1 rfl)).on H0 fun w1 H1 => ?_
    go_wp2
    go_ret
    exact ⟨rfl, H1.old⟩
end
end Go.Proofs.Ythhgcjlgnafdcaa.Pq
end
section
namespace Go.Proofs.Ythhgcjlgnafdcaa.Ps
set_option linter.unusedSimpArgs false
set_option linter.unusedVariables false
open Go Go.RowKit Go.Proofs.YthhgcjlgnafdcaaW.PrintWords Go.Proofs.YthhgcjlgnafdcaaW.PrintLast Go.Proofs.Ythhgcjlgnafdcaa.Hd Go.Proofs.Ythhgcjlgnafdcaa.Os Go.Proofs.Ythhgcjlgnafdcaa.Tb Go.Proofs.Ythhgcjlgnafdcaa.Tm Go.Proofs.Ythhgcjlgnafdcaa.Px Go.Proofs.Ythhgcjlgnafdcaa.Wv Go.Proofs.Ythhgcjlgnafdcaa.Pp Go.Proofs.Ythhgcjlgnafdcaa.Pq Go.Proofs.Ythhgcjlgnafdcaa.Fq
open Go.Proofs.Ythhgcjlgnafdcaa.Nu (I64 U64 I128 sgn)
structure PAsk (w0 : World) (L : List F2) (p : Value) (l : PR) : Prop where
  get : ∀ w s, All w0 w L → Tells Try.prog 29 #[p, .string s] w (.tuple #[.int .i64 (getV l s), .int .i64 (getE l s)])
theorem ask_nil {w0 : World} {L : List F2} : PAsk w0 L (.pointer none) [] := ⟨fun w s _ => get_nil⟩
theorem ask_p {w0 : World} {L : List F2} {b c i j lo : Nat} {A : Option Addr} {l : PR} {tt : TypeId} (hi : L[i]? = some (bx b tt #[.slice A l.length c])) (hj : L[j]? = some (ow lo 173 2 (.slice A l.length c) l.length (flat (Tj.rows l)))) (ho : OkP l) : PAsk w0 L (.pointer (some ⟨b, 0, none⟩)) l :=
  ⟨fun w s H => get_p H hi hj ho.up (Nat.le_trans ho.len (by decide)) s⟩
theorem PAsk.more {w0 : World} {L L' : List F2} {p : Value} {l : PR} (h : PAsk w0 L p l) (k : ∀ w, All w0 w L' → All w0 w L) : PAsk w0 L' p l := ⟨fun w s H => h.get w s (k w H)⟩
def priced (l : PR) (rs : List (ByteArray × Int)) : Bool := rs.all fun r => has cmpS l r.1
def worth (l : PR) (rs : List (ByteArray × Int)) : Int := (rs.map fun r => r.2 * getV l r.1).sum
def sumsV (l : PR) (rs : List (ByteArray × Int)) (x : Int) : Int := if priced l rs = true then cut128 (x + worth l rs) else 0
def sumsE (l : PR) (rs : List (ByteArray × Int)) (x : Int) : Int := if priced l rs = true then er128 (x + worth l rs) else 15
theorem getV_rng {l : PR} (h : OkP l) (s : ByteArray) : 0 ≤ getV l s ∧ getV l s < 2147483648 := by
  unfold getV
  cases hg : Tb.get cmpS l s with
  | none => exact ⟨by decide, by decide⟩
  | some n => exact h.val s n ((get_iff good_S h.up).1 hg)
theorem mul_128 {a b : Int} (ha : I64 a) (hb : 0 ≤ b ∧ b < 2147483648) : I128 (a * b) := by
  unfold I64 at ha
  unfold I128
  have h1 : a * b ≤ 9223372036854775807 * 2147483648 := Int.le_trans (Int.mul_le_mul_of_nonneg_right ha.2 hb.1) (Int.mul_le_mul_of_nonneg_left (by omega) (by decide))
  have h2 : -9223372036854775808 * 2147483648 ≤ a * b := Int.le_trans (Int.mul_le_mul_of_nonpos_left (by decide) (show b ≤ 2147483648 by omega)) (Int.mul_le_mul_of_nonneg_right ha.1 hb.1)
  omega
section
variable {w0 w : World} {L : List F2} {p : Value} {l : PR} {A : Option Addr} {ci : Nat} {rs : List (ByteArray × Int)} {v : Value} {xs : List Int} {q : Nat} {ok : Nat → Prop}
set_option maxRecDepth 100000 in
set_option maxHeartbeats 4000000 in
theorem sums_c (H : All w0 w (ow w0.heap.size 43 2 v xs.length (xs.flatMap encW) :: L)) (Q : PAsk w0 L p l) (ho : OkP l) (hq : L[q]? = some (ok, CR A rs)) (hl : rs.length ≤ 1000) (hx : xs.length ≤ 1000) (hg : ∀ r ∈ rs, I64 r.2) (hX : ∀ x ∈ xs, I128 x) :
    Calls Try.prog 64 #[p, .slice A rs.length ci, v] w fun e w' => e = .returned (.tuple #[wv (sumsV l rs xs.sum), .int .i64 (sumsE l rs xs.sum)]) ∧ All w0 w' L := by
  obtain ⟨A0, c0, rfl⟩ := own_slice (H.at 0 rfl)
  have hb := H.old.size
  have H0 := H.box w.heap.size 43 #[.int .i64 0, .int .u64 0]
  obtain ⟨V, hV⟩ : ∃ V, sumsV l rs xs.sum = V := ⟨_, rfl⟩
  obtain ⟨E, hE⟩ : ∃ E, sumsE l rs xs.sum = E := ⟨_, rfl⟩
  rw [hV, hE]
  replace hV := Aside0.mk hV
  replace hE := Aside0.mk hE
  replace hX := Aside0.mk hX
  replace hg := Aside0.mk hg
  clear H
  go_enter Try.func64, Try.ntmps64
  go_wp2_with fail
  go_loopg [2, 14] rs.length (fun kx s2 s14 wr => ∃ (i : Nat) (ys : List Int) (A1 : Option Addr) (c1 : Nat), s2 = .slice A1 ys.length c1 ∧ s14 = .int .i64 (i : Int) ∧ i ≤ rs.length ∧ rs.length - i ≤ kx ∧ Aside0 (ys = xs ++ (rs.take i).map (fun r => r.2 * getV l r.1) ∧ priced l (rs.take i) = true) ∧
    All w0 wr (bx w.heap.size 43 #[.int .i64 0, .int .u64 0] :: ow w0.heap.size 43 2 (.slice A1 ys.length c1) ys.length (ys.flatMap encW) :: L))
  case atStart => exact ⟨0, xs, A0, c0, rfl, rfl, Nat.zero_le _, by omega, ⟨by simp, rfl⟩, H0⟩
  case round =>
    clear H0
    obtain ⟨i, ys, A1, c1, rfl, rfl, hil, hik, hk, H⟩ := hrel
    have r0 := H.rd 0 rfl
    have f0 := H.fz 0 rfl
    by_cases hlt : i < rs.length
    · have hli : (i : Int) < (rs.length : Int) := Int.ofNat_lt.2 hlt
      obtain ⟨ad, rfl, hc0, hc1⟩ := at_krow (H.at (q + 2) hq) hlt
      obtain ⟨r, hr⟩ : ∃ r, rs[i] = r := ⟨_, rfl⟩
      have hr2 : I64 r.2 := hg.out r (by rw [← hr]; exact List.getElem_mem hlt)
      have hpr : priced l (rs.take (i + 1)) = has cmpS l r.1 := by
        unfold priced at hk ⊢
        rw [List.take_succ_eq_append_getElem hlt, List.all_append, hk.out.2, Bool.true_and, hr]
        simp
      have hys : xs ++ (rs.take (i + 1)).map (fun r => r.2 * getV l r.1) = ys ++ [r.2 * getV l r.1] := by
        rw [List.take_succ_eq_append_getElem hlt, List.map_append, ← List.append_assoc, ← hk.out.1, hr]
        rfl
      have hbad : has cmpS l r.1 = false → priced l rs = false := fun h => by
        cases hp : priced l rs with
        | false => rfl
        | true =>
          have : r ∈ rs := by rw [← hr]; exact List.getElem_mem hlt
          have := List.all_eq_true.1 hp r this
          rw [h] at this
          cases this
      rw [hr] at hc0 hc1
      have hgr := getV_rng ho r.1
      have hgt := fun W (hW : All w0 W (bx w.heap.size 43 #[.int .i64 0, .int .u64 0] :: ow w0.heap.size 43 2 (.slice A1 ys.length c1) ys.length (ys.flatMap encW) :: L)) => Q.get W r.1 hW.tail.tail
      obtain ⟨s, n⟩ := r
      simp only at hc0 hc1 hr2 hpr hys hbad hgr hgt
      have hyl : ys.length ≤ 2000 := by rw [hk.out.1, List.length_append, List.length_map, List.length_take]; omega
      have htm := fun w => times_c (w := w) hr2 (show I64 (getV l s) by unfold I64; omega)
      unfold getE at hgt
      generalize getV l s = gv at *
      have HB := H.box wr.heap.size 79 #[.string s, .int .i64 n]
      have hB0 := HB.rd 0 rfl
      have hsz : (ys.length + 1) * 16 ≤ 140737488355328 := by omega
      clear hr
      cases hh : has cmpS l s with
      | true =>
        rw [hh] at hgt hpr
        simp only [if_true] at hgt
        replace hpr := Aside0.mk hpr
        replace hys := Aside0.mk hys
        clear hbad hh hk hgr hr2 H
        go_wp2_with fail
        refine (hgt _ HB.tail).mono fun e w1 ⟨he, hB⟩ => ?_
        subst he
        have H1 := HB.grow hB
        have r1 := H1.rd 0 rfl
        clear HB hB0 hgt
        go_wp2_with fail
        refine (htm w1).mono fun e w2 ⟨he, hB2⟩ => ?_
        subst he
        have H2 := H1.grow hB2
        have hz := H2.old.size
        clear H1 r1 htm
        go_wp2_with ((with_reducible refine gate_builtin (b := .append) rfl ?_); refine app_ (encW (n * gv)) H2 2 rfl (Nat.le_refl _) hz hsz (.tmp 29) (.tmp 34) 111 (.agg #[.int .i64 0, .int .u64 0]) (by kernel_rfl) Try.underlying111 rfl rfl rfl (by decide) (by decide) rfl rfl rfl (encW_one _) ?_; intro A2 c2 w3 H3 z3)
        go_roundg (rs.length - (i + 1))
        case measure => exact En.meas hik hlt
        case rel => exact ⟨i + 1, ys ++ [n * gv], A2, c2, by rw [List.length_append]; rfl, rfl, hlt, Nat.le_refl _, ⟨⟨hys.out.symm, hpr.out⟩⟩, by rw [List.length_append, List.flatMap_append, List.flatMap_singleton]; exact H3.tail⟩
      | false =>
        rw [hh] at hgt
        have hp := hbad hh
        obtain rfl : 0 = V := by rw [← hV.out]; unfold sumsV; rw [hp]; rfl
        obtain rfl : 15 = E := by rw [← hE.out]; unfold sumsE; rw [hp]; rfl
        simp only [Bool.false_eq_true, if_false] at hgt
        clear hbad hpr hys hh hk hgr hr2 H hp hsz htm hyl
        go_wp2_with fail
        refine (hgt _ HB.tail).mono fun e w1 ⟨he, hB⟩ => ?_
        subst he
        have H1 := HB.grow hB
        have r1 := H1.rd 1 rfl
        have f1 := H1.fz 1 rfl
        have H2 := (H1.set 1 rfl 0 (.int .i64 0) hb).set 1 rfl 1 (.int .u64 0) hb
        clear HB hB0 hgt H1
        go_wp2_with fail
        refine H2.ret2 1 rfl rfl rfl rfl Try.underlying43 rfl (by kernel_rfl) rfl ⟨rfl, H2.drop 3⟩
    · obtain rfl : i = rs.length := Nat.le_antisymm hil (Nat.le_of_not_lt hlt)
      rw [List.take_length] at hk
      have hyl : ys.length ≤ 2000 := by rw [hk.out.1, List.length_append, List.length_map]; omega
      have hsum : ys.sum = xs.sum + worth l rs := by rw [hk.out.1, List.sum_append]; rfl
      have hyI : ∀ y ∈ ys, I128 y := fun y hy => by
        rw [hk.out.1] at hy
        rcases List.mem_append.1 hy with hy | hy
        · exact hX.out y hy
        · obtain ⟨r, hr, rfl⟩ := List.mem_map.1 hy
          exact mul_128 (hg.out r hr) (getV_rng ho r.1)
      have hcw : ∀ W, Ow w0.heap.size 43 2 (.slice A1 ys.length c1) ys.length (ys.flatMap encW) W → ys.length ≤ c1 ∧ Kd.C kW W A1 ys.length ys := fun W hW => by
        obtain ⟨A', c', hA, -, hcc, hC⟩ := ow_C kW encW kW_mk (by decide) hW
        cases hA
        exact ⟨hcc, hC⟩
      have hpl := plus_c (hcw _ (H.at 1 rfl)).2 (hcw _ (H.at 1 rfl)).1 (by omega) hyI
      rw [hsum] at hpl
      have e1 : cut128 (xs.sum + worth l rs) = V := by rw [← hV.out]; unfold sumsV; rw [hk.out.2]; rfl
      have e2 : er128 (xs.sum + worth l rs) = E := by rw [← hE.out]; unfold sumsE; rw [hk.out.2]; rfl
      rw [e1, e2] at hpl
      clear hk hsum hyI hcw e1 e2 r0 f0
      go_wp2_with fail
      refine hpl.mono fun e w1 ⟨he, hB⟩ => ?_
      subst he
      have H1 := H.grow hB
      have r1 := H1.rd 0 rfl
      have f1 := H1.fz 0 rfl
      have H2 := (H1.set 0 rfl 0 (.int .i64 (hiW V)) hb).set 0 rfl 1 (.int .u64 (loW V)) hb
      clear H H1 hpl
      go_wp2_with fail
      refine H2.ret2 0 rfl rfl rfl rfl Try.underlying43 rfl (by kernel_rfl) rfl ⟨rfl, H2.drop 2⟩
theorem worth_c (H : All w0 w L) (Q : PAsk w0 L p l) (ho : OkP l) (hq : L[q]? = some (ok, CR A rs)) (hl : rs.length ≤ 1000) (hg : ∀ r ∈ rs, I64 r.2) :
    Calls Try.prog 21 #[p, .slice A rs.length ci] w fun e w' => e = .returned (.tuple #[wv (sumsV l rs 0), .int .i64 (sumsE l rs 0)]) ∧ All w0 w' L := by
  have hb := H.old.size
  have H0 := (H.box w.heap.size 43 #[.int .i64 0, .int .u64 0]).row w0.heap.size 43 2
  have hs := sums_c (q := q + 1) (xs := []) (ci := ci) H0 (Q.more fun _ h => h.tail) ho hq hl (by decide) hg (fun x hx => by cases hx)
  rw [show ([] : List Int).sum = 0 from rfl] at hs
  generalize sumsV l rs 0 = V at *
  generalize sumsE l rs 0 = E at *
  go_enter Try.func21, Try.ntmps21
  go_wp2_with fail
  refine hs.mono ?_
  rintro e w1 ⟨rfl, H1⟩
  have r1 := H1.rd 0 rfl
  have f1 := H1.fz 0 rfl
  have H2 := (H1.set 0 rfl 0 (.int .i64 (hiW V)) hb).set 0 rfl 1 (.int .u64 (loW V)) hb
  clear H0 H1 hs
  go_wp2_with fail
  refine H2.ret2 0 rfl rfl rfl rfl Try.underlying43 rfl (by kernel_rfl) rfl ⟨rfl, H2.tail⟩
def valV (l : PR) (rs : List (ByteArray × Int)) (x : Int) : Int := if rightB rs = true then sumsV l rs x else 0
def valE (l : PR) (rs : List (ByteArray × Int)) (x : Int) : Int := if rightB rs = true then sumsE l rs x else 1
theorem own_new (w : World) {lo e size n : Nat} {cs : List Value} (hlo : lo ≤ w.heap.size) (hn : cs.length = n * size) (hm : n ≤ 1000000) : (w.alloc (.cells cs.toArray e)).ownsRow lo e size (.slice (some ⟨w.heap.size, 0, none⟩) n n) n cs :=
  ⟨hn, .inr ⟨w.heap.size, n, cs.toArray, rfl, hlo, heap_alloc_new w _, Nat.le_refl _, by unfold maxLen; omega, by simpa using hn, by rw [← hn]; simp⟩⟩
set_option maxRecDepth 100000 in
set_option maxHeartbeats 4000000 in
theorem value_c {x : Int} {ch : Nat} (H : All w0 w L) (Q : PAsk w0 L p l) (ho : OkP l) (hq : L[q]? = some (ok, CR A rs)) (hl : rs.length ≤ 1000) (hc : rs.length ≤ ch) (hg : ∀ r ∈ rs, I64 r.2) (hx : I128 x) :
    Calls Try.prog 20 #[p, .agg #[.slice A rs.length ch, .int .i64 (hiW x), .int .u64 (loW x)]] w fun e w' => e = .returned (.tuple #[wv (valV l rs x), .int .i64 (valE l rs x)]) ∧ All w0 w' L := by
  have hb := H.old.size
  have H0 := (H.box w.heap.size 45 #[.slice A rs.length ch, .int .i64 (hiW x), .int .u64 (loW x)]).box (w.heap.size + 1) 43 #[.int .i64 0, .int .u64 0]
  have hr := fun W (hW : CR A rs W) => right_c (hi := hiW x) (lo := loW x) hW hc hl
  have r0 := H0.rd 1 rfl
  unfold valV valE
  cases hR : rightB rs with
  | true =>
    rw [hR] at hr
    simp only [if_true]
    have hs := fun w1 (H1 : All w0 w1 (bx (w.heap.size + 1) 43 #[.int .i64 0, .int .u64 0] :: bx w.heap.size 45 #[.slice A rs.length ch, .int .i64 (hiW x), .int .u64 (loW x)] :: L)) =>
      sums_c (q := q + 2) (xs := [x]) (ci := ch) (H1.new (below_alloc (Below.refl _ _) _) (held_own (own_new w1 (e := 43) (size := 2) (n := 1) (cs := encW x) H1.old.size rfl (by decide))) (fun k hk => by
        have : some w1.heap.size = some k := hk
        cases this
        exact Nat.le_refl _)) (Q.more fun _ h => h.tail.tail) ho hq hl (by simp) hg (fun y hy => by rw [List.mem_singleton.1 hy]; exact hx)
    simp only [show [x].sum = x by simp] at hs
    generalize sumsV l rs x = V at *
    generalize sumsE l rs x = E at *
    go_enter Try.func20, Try.ntmps20
    go_wp2_with fail
    refine (hr _ (H0.at (q + 2) hq)).on H0 fun w1 H1 => ?_
    have r1 := H1.rd 1 rfl
    have hs1 := hs w1 H1
    clear H0 r0 hr hs
    go_wp2_with fail
    refine hs1.mono ?_
    rintro e w2 ⟨rfl, H2⟩
    have r2 := H2.rd 0 rfl
    have f2 := H2.fz 0 rfl
    have H3 := (H2.set 0 rfl 0 (.int .i64 (hiW V)) (by omega)).set 0 rfl 1 (.int .u64 (loW V)) (by omega)
    clear H1 H2 r1 hs1
    go_wp2_with fail
    refine H3.ret2 0 rfl rfl rfl rfl Try.underlying43 rfl (by kernel_rfl) rfl ⟨rfl, H3.tail.tail⟩
  | false =>
    rw [hR] at hr
    simp only [Bool.false_eq_true, if_false]
    go_enter Try.func20, Try.ntmps20
    go_wp2_with fail
    refine (hr _ (H0.at (q + 2) hq)).on H0 fun w1 H1 => ?_
    have r1 := H1.rd 0 rfl
    have f1 := H1.fz 0 rfl
    have H2 := (H1.set 0 rfl 0 (.int .i64 0) (by omega)).set 0 rfl 1 (.int .u64 0) (by omega)
    clear H0 H1 r0 hr
    go_wp2_with fail
    refine H2.ret2 0 rfl rfl rfl rfl Try.underlying43 rfl (by kernel_rfl) rfl ⟨rfl, H2.tail.tail⟩
def movV (l : PR) (s : ByteArray) (pts : Int) : Int := if has cmpS l s = true ∧ -10000 ≤ pts ∧ pts ≤ 20000 then getV l s * (10000 + pts) / 10000 else 0
def movE (l : PR) (s : ByteArray) (pts : Int) : Int := if has cmpS l s = true then if -10000 ≤ pts ∧ pts ≤ 20000 then 0 else 1 else 15
theorem mov_rng {n pts : Int} (hn : 0 ≤ n ∧ n < 2147483648) (hp : -10000 ≤ pts ∧ pts ≤ 20000) : 0 ≤ n * (10000 + pts) ∧ n * (10000 + pts) ≤ 64424509440000 := by
  have h1 : 0 ≤ n * (10000 + pts) := Int.mul_nonneg hn.1 (by omega)
  have h2 : n * (10000 + pts) ≤ 2147483648 * 30000 := Int.le_trans (Int.mul_le_mul_of_nonneg_right (show n ≤ 2147483648 by omega) (by omega)) (Int.mul_le_mul_of_nonneg_left (by omega) (by decide))
  omega
set_option maxRecDepth 100000 in
set_option maxHeartbeats 4000000 in
theorem moved_c {s : ByteArray} {pts : Int} (H : All w0 w L) (Q : PAsk w0 L p l) (ho : OkP l) (hp : I64 pts) :
    Calls Try.prog 16 #[p, .string s, .int .i64 pts] w fun e w' => e = .returned (.tuple #[.int .i64 (movV l s pts), .int .i64 (movE l s pts)]) ∧ All w0 w' L := by
  have hgr := getV_rng ho s
  have hgt := Q.get w s H
  unfold getE at hgt
  unfold movV movE
  generalize getV l s = gv at *
  cases hh : has cmpS l s with
  | false =>
    rw [hh] at hgt
    simp only [Bool.false_eq_true, if_false, false_and] at hgt ⊢
    go_enter Try.func16, Try.ntmps16
    go_wp2_with fail
    refine hgt.on H fun w1 H1 => ?_
    go_wp2
    go_ret2
    exact ⟨rfl, H1⟩
  | true =>
    rw [hh] at hgt
    simp only [if_true, true_and] at hgt ⊢
    by_cases h1 : -10000 ≤ pts ∧ pts ≤ 20000
    · rw [if_pos h1, if_pos h1]
      have hm := mov_rng hgr h1
      have d1 : decide (pts < -10000) = false := decide_eq_false (by omega)
      have d2 : decide (pts > 20000) = false := decide_eq_false (by omega)
      have hw : wrap64 (10000 + pts) = 10000 + pts := by unfold wrap64; omega
      have htm := fun w => times_c (w := w) (a := gv) (b := 10000 + pts) (by unfold I64; omega) (by unfold I64; omega)
      generalize hX : gv * (10000 + pts) = X at *
      have hX1 : I128 X := by unfold I128; omega
      have hdv := fun w => divide_c (w := w) (d := 10000) (how := 0) hX1 (by unfold I64; omega) (by decide) (by decide)
      rw [qt_floor hm.1 (by decide)] at hdv
      have hq1 : I64 (X / 10000) := by unfold I64; omega
      have e1 : cut128 (X / 10000) = X / 10000 := if_pos (i128_64 hq1)
      have e2 : er128 (X / 10000) = 0 := if_pos (i128_64 hq1)
      have e3 : cut64 (X / 10000) = X / 10000 := if_pos hq1
      have e4 : er64 (X / 10000) = 0 := if_pos hq1
      rw [e1, e2] at hdv
      have hit := fun w => int_c (w := w) (i128_64 hq1)
      rw [e3, e4] at hit
      generalize X / 10000 = Y at *
      clear h1 hm hX1 hq1 e1 e2 e3 e4 hX hh
      go_enter Try.func16, Try.ntmps16
      go_wp2_with fail
      refine hgt.on H fun w1 H1 => ?_
      go_wp2_with fail
      refine (htm w1).on H1 fun w2 H2 => ?_
      go_wp2_with fail
      refine (hdv w2).on H2 fun w3 H3 => ?_
      have H4 := H3.box w3.heap.size 43 #[.int .i64 (hiW Y), .int .u64 (loW Y)]
      have r4 := H4.rd 0 rfl
      go_wp2_with fail
      refine (hit _).on H4 fun w5 H5 => ?_
      go_wp2
      go_ret2
      exact ⟨rfl, H5.tail⟩
    · rw [if_neg h1, if_neg h1]
      by_cases h2 : pts < -10000
      · have d1 : decide (pts < -10000) = true := decide_eq_true h2
        clear h1 hh h2
        go_enter Try.func16, Try.ntmps16
        go_wp2_with fail
        refine hgt.on H fun w1 H1 => ?_
        go_wp2
        go_ret2
        exact ⟨rfl, H1⟩
      · have d1 : decide (pts < -10000) = false := decide_eq_false h2
        have d2 : decide (pts > 20000) = true := decide_eq_true (by omega)
        clear h1 hh h2
        go_enter Try.func16, Try.ntmps16
        go_wp2_with fail
        refine hgt.on H fun w1 H1 => ?_
        go_wp2
        go_ret2
        exact ⟨rfl, H1⟩
end
end Go.Proofs.Ythhgcjlgnafdcaa.Ps
end
section
namespace Go.Proofs.Ythhgcjlgnafdcaa.Rp
set_option linter.unusedSimpArgs false
set_option linter.unusedVariables false
open Go Go.RowKit Go.Proofs.YthhgcjlgnafdcaaW.PrintWords Go.Proofs.YthhgcjlgnafdcaaW.PrintLast Go.Proofs.Ythhgcjlgnafdcaa.Hd Go.Proofs.Ythhgcjlgnafdcaa.Os Go.Proofs.Ythhgcjlgnafdcaa.Tb Go.Proofs.Ythhgcjlgnafdcaa.Tm Go.Proofs.Ythhgcjlgnafdcaa.Px Go.Proofs.Ythhgcjlgnafdcaa.Ip Go.Proofs.Ythhgcjlgnafdcaa.Wv Go.Proofs.Ythhgcjlgnafdcaa.Pp Go.Proofs.Ythhgcjlgnafdcaa.Pq Go.Proofs.Ythhgcjlgnafdcaa.Ps
abbrev owR (lo : Nat) (A : Option Addr) (l : PR) (c : Nat) : F2 := ow lo 71 2 (.slice A l.length c) l.length (l.flatMap encR)
theorem owR_eq {lo c m : Nat} {A : Option Addr} {l : PR} {cs : List Value} (h : l.length = m) (hf : l.flatMap encR = cs) : owR lo A l c = ow lo 71 2 (.slice A m c) m cs := by
  subst h hf
  rfl
theorem owR_C {lo c : Nat} {A : Option Addr} {l : PR} {W : World} (h : Ow lo 71 2 (.slice A l.length c) l.length (l.flatMap encR) W) : l.length ≤ c ∧ CR A l W := by
  obtain ⟨A', c', hA, -, hcc, hC⟩ := ow_C krow encR krow_mk (by decide) h
  cases hA
  exact ⟨hcc, hC⟩
section
variable {w0 w : World} {L : List F2} {d c : Nat} {A : Option Addr} {l : PR} {s : ByteArray} {n : Int}
set_option maxRecDepth 100000 in
set_option maxHeartbeats 4000000 in
theorem rplace_c (H : All w0 w (bx d 68 #[.slice A l.length c] :: owR w0.heap.size A l c :: L)) (hl : l.length ≤ 1000) (s : ByteArray) :
    Tells Try.prog 59 #[.pointer (some ⟨d, 0, none⟩), .string s] w (.tuple #[.int .i64 (pos cmpS l s : Nat), .bool (has cmpS l s)]) := by
  have hple : pos cmpS l s ≤ l.length := pos_le
  obtain ⟨P, hP⟩ : ∃ P, pos cmpS l s = P := ⟨_, rfl⟩
  obtain ⟨B, hB⟩ : ∃ B, has cmpS l s = B := ⟨_, rfl⟩
  have hlt := fun i (h : i < P) (hi : i < l.length) => pos_lt (c := cmpS) (l := l) (k := s) (i := i) (by rw [hP]; exact h) hi
  have hge : ∀ h : P < l.length, cmpS l[P].1 s ≠ -1 := fun h => by
    have := pos_ge (c := cmpS) (l := l) (k := s) (by rw [hP]; exact h)
    simpa only [hP] using this
  have hB1 : ∀ h : P < l.length, B = (l[P].1.toList == s.toList) := fun h => by
    have := has_of (c := cmpS) (l := l) (k := s) (by rw [hP]; exact h)
    simp only [hP] at this
    rw [← hB, this, Bool.eq_iff_iff, decide_eq_true_eq, cmpS_eq, beq_iff_eq]
  have hB2 : ¬ P < l.length → B = false := fun h => by rw [← hB]; exact has_end (by rw [hP]; exact h)
  rw [hP, hB]
  rw [hP] at hple
  obtain ⟨hcc, -⟩ := owR_C (H.at 1 rfl)
  have H0 := (All.start w).arg (((H.get 0 rfl).both' (H.get 1 rfl)).imp fun W h => (⟨h.1, (owR_C h.2).2⟩ : Box d 68 #[.slice A l.length c] W ∧ CR A l W))
  replace hlt := Aside0.mk hlt
  replace hge := Aside0.mk hge
  replace hB1 := Aside0.mk hB1
  replace hB2 := Aside0.mk hB2
  clear H hP hB
  generalize (fun k => Is d k ∨ Ob (Value.slice A l.length c) k) = ok at H0
  unfold Tells
  go_enter Try.func59, Try.ntmps59
  go_wp2_with fail
  go_loopg [6] l.length (fun kx s6 wr => ∃ i : Nat, s6 = .int .i64 (i : Int) ∧ i ≤ P ∧ l.length - i ≤ kx ∧ All w wr [(ok, fun W => Box d 68 #[.slice A l.length c] W ∧ CR A l W)])
  case atStart => exact ⟨0, rfl, Nat.zero_le _, by omega, H0⟩
  case round =>
    clear H0
    obtain ⟨i, rfl, hiP, hik, H⟩ := hrel
    have r0 := blk_cell (H.at 0 rfl).1
    obtain ⟨q, hq⟩ : ∃ q, decide (i < P) = q := ⟨_, rfl⟩
    go_upto_region 2 with fail
    go_cut [25] (fun s25 wx => s25 = .bool q ∧ All w wx [(ok, fun W => Box d 68 #[.slice A l.length c] W ∧ CR A l W)])
    case first =>
      by_cases h1 : i < l.length
      · have h1i : (i : Int) < (l.length : Int) := Int.ofNat_lt.2 h1
        obtain ⟨ad, rfl, hc0, hc1⟩ := at_krow (H.at 0 rfl).2 h1
        have hqq : q = Op.bytesLess l[i].1.toList s.toList := by
          rw [← hq, Bool.eq_iff_iff, decide_eq_true_eq, En.less_iff]
          constructor
          · intro h; exact hlt.out i h h1
          · intro h
            rcases Nat.lt_or_ge i P with h2 | h2
            · exact h2
            · obtain rfl : i = P := by omega
              exact absurd h (hge.out h1)
        obtain ⟨r, hr⟩ : ∃ r, l[i] = r := ⟨_, rfl⟩
        rw [hr] at hc0 hqq
        clear hr hc1 hq
        subst hqq
        go_wp2_with fail
        go_meet
        exact ⟨rfl, H⟩
      · have h1i : ¬ (i : Int) < (l.length : Int) := fun h => h1 (Int.ofNat_lt.1 h)
        obtain rfl : false = q := by rw [← hq]; symm; exact decide_eq_false (by omega)
        have h2 : decide ((i : Int) < (l.length : Int)) = false := decide_eq_false h1i
        obtain rfl : i = l.length := by omega
        clear hq
        go_wp2_with fail
        go_meet
        exact ⟨rfl, H⟩
    case rest =>
      obtain ⟨rfl, H2⟩ := hcut
      clear H r0
      by_cases h1 : i < P
      · obtain rfl : true = q := by rw [← hq]; exact (decide_eq_true h1).symm
        have h3 : i < l.length := Nat.lt_of_lt_of_le h1 hple
        have h3i : (i : Int) < (l.length : Int) := Int.ofNat_lt.2 h3
        clear hq
        go_wp2_with fail
        go_roundg (l.length - (i + 1))
        case measure => exact En.meas hik h3
        case rel => exact ⟨i + 1, rfl, h1, Nat.le_refl _, H2⟩
      · obtain rfl : false = q := by rw [← hq]; exact (decide_eq_false h1).symm
        obtain rfl : i = P := by omega
        clear hq
        have r2 := blk_cell (H2.at 0 rfl).1
        by_cases h3 : i < l.length
        · have h3i : (i : Int) < (l.length : Int) := Int.ofNat_lt.2 h3
          have hBe := hB1.out h3
          obtain ⟨ad, rfl, hc0, hc1⟩ := at_krow (H2.at 0 rfl).2 h3
          have hcs : ∀ W, All w W [(ok, fun W => Box d 68 #[.slice (some ad) l.length c] W ∧ CR (some ad) l W)] → W.cell? (ad.add (i * 2)) = some (.string l[i].1) ∧ W.cell? ⟨d, 0, none⟩ = some (.slice (some ad) l.length c) := fun W hW => by
            obtain ⟨ad', e, q0, q1⟩ := at_krow (hW.at 0 rfl).2 h3
            cases e
            exact ⟨q0, blk_cell (hW.at 0 rfl).1 0⟩
          obtain ⟨r, hr⟩ : ∃ r, l[i] = r := ⟨_, rfl⟩
          rw [hr] at hc0 hcs hBe
          replace hcs := Aside0.mk hcs
          replace hBe := Aside0.mk hBe
          clear hr hc1
          go_wp2_with fail
          refine plan_ (true, [([], []), ([], []), ([], []), ([2], [2]), ([3], [3]), ([4], [4]), ([5], [5]), ([1, 6], [1, 6]), ([7], [7]), ([8], [8]), ([9, 8], [8, 9]), ([10, 8], [8, 10]), ([11, 8], [8, 11]), ([8], [8]), ([12, 13, 8], [8, 12, 13]), ([14, 8], [8, 14]), ([15, 8], [8, 15]), ([8], [8]), ([16, 17, 8], [8, 16, 17]), ([8, 18], [8, 18]), ([0, 8, 0], [0]), ([19, 20, 0, 1, 2, 3, 4, 5, 6, 7, 8, 9, 10, 11, 12, 13, 14, 15, 16, 17, 18, 19, 20], [19])]) [.p 0, .p 1, .p 2, .p 3, .p 4, .t 5, .p 6, .p 7, .p 8, .p 9, .p 10, .p 11, .t 12, .p 13, .p 14, .p 15, .t 16, .p 17, .p 18, .p 19, .p 20, .p 21] H2 (by kernel_rfl) (by kernel_rfl) rfl rfl (by kernel_rfl) (by intro c a w d v h; cases d <;> exact h) (fun w3 H3 => ?_)
          refine pl_P (h := ?_)
          refine pl_P (h := ?_)
          refine pl_P (h := ?_)
          refine pl_P (h := ?_)
          refine pl_P (h := ?_)
          refine pl_C H3 (fun W hW => (hcs.out W hW).2) (h := ?_)
          refine pl_P (h := ?_)
          refine pl_P (h := ?_)
          refine pl_P (h := ?_)
          refine pl_P (h := ?_)
          refine pl_P (h := ?_)
          refine pl_P (h := ?_)
          refine pl_C H3 (fun W hW => (hcs.out W hW).2) (h := ?_)
          refine pl_P (h := ?_)
          refine pl_P (h := ?_)
          refine pl_P (h := ?_)
          refine pl_C H3 (fun W hW => (hcs.out W hW).1) (h := ?_)
          refine pl_P (h := ?_)
          refine pl_P (h := ?_)
          refine pl_P (h := ?_)
          refine pl_P (h := ?_)
          refine pl_P (h := ?_)
          refine pl_done ?_
          go_wp2
          go_ret2
          exact ⟨by rw [hBe.out]; rfl, H3.old⟩
        · have hBe := hB2.out h3
          have h3i : ¬ (i : Int) < (l.length : Int) := fun h => h3 (Int.ofNat_lt.1 h)
          have h3d : decide ((i : Int) < (l.length : Int)) = false := decide_eq_false h3i
          replace hBe := Aside0.mk hBe
          go_wp2_with fail
          refine plan_ (true, [([], []), ([], []), ([], []), ([2], [2]), ([3], [3]), ([4], [4]), ([5], [5]), ([1, 6], [1, 6]), ([7], [7]), ([8], [8]), ([9, 8], [8, 9]), ([10, 8], [8, 10]), ([11, 8], [8, 11]), ([8], [8]), ([12, 13, 8], [8, 12, 13]), ([14, 8], [8, 14]), ([15, 8], [8, 15]), ([8], [8]), ([16, 17, 8], [8, 16, 17]), ([8, 18], [8, 18]), ([0, 8, 0], [0]), ([19, 20, 0, 1, 2, 3, 4, 5, 6, 7, 8, 9, 10, 11, 12, 13, 14, 15, 16, 17, 18, 19, 20], [19])]) [.p 0, .p 1, .p 2, .p 3, .p 4, .t 5, .p 6, .p 7, .p 8, .p 9, .p 10, .p 11, .t 12, .p 13, .p 14, .p 15, .t 16, .p 17, .p 18, .p 19, .p 20, .p 21] H2 (by kernel_rfl) (by kernel_rfl) rfl rfl (by kernel_rfl) (by intro c a w d v h; cases d <;> exact h) (fun w3 H3 => ?_)
          refine pl_P (h := ?_)
          refine pl_P (h := ?_)
          refine pl_P (h := ?_)
          refine pl_P (h := ?_)
          refine pl_P (h := ?_)
          refine pl_C H3 (fun W hW => blk_cell (hW.at 0 rfl).1 0) (h := ?_)
          refine pl_P (h := ?_)
          refine pl_P (h := ?_)
          refine pl_P (h := ?_)
          refine pl_kP (h := ?_)
          refine pl_kP (h := ?_)
          refine pl_kP (h := ?_)
          refine pl_kT H3 (h := ?_)
          refine pl_kP (h := ?_)
          refine pl_kP (h := ?_)
          refine pl_kP (h := ?_)
          refine pl_kT H3 (h := ?_)
          refine pl_kP (h := ?_)
          refine pl_kP (h := ?_)
          refine pl_P (h := ?_)
          refine pl_P (h := ?_)
          refine pl_P (h := ?_)
          refine pl_done ?_
          go_wp2
          go_ret2
          exact ⟨by rw [hBe.out]; rfl, H3.old⟩
def rgetV (l : PR) (s : ByteArray) : Int := if has cmpS l s = true then getV l s else -1
theorem has_getV (h : has cmpS l s = true) : ∃ hp : pos cmpS l s < l.length, l[pos cmpS l s].2 = getV l s ∧ l[pos cmpS l s].1.toList = s.toList := by
  obtain ⟨hp, hz⟩ := has_lt h
  refine ⟨hp, ?_, cmpS_eq.1 hz⟩
  unfold getV Tb.get
  rw [if_pos h, List.getElem?_eq_getElem hp]
  rfl
set_option maxRecDepth 100000 in
set_option maxHeartbeats 4000000 in
theorem rget_c (H : All w0 w (bx d 68 #[.slice A l.length c] :: owR w0.heap.size A l c :: L)) (hl : l.length ≤ 1000) (s : ByteArray) :
    Tells Try.prog 17 #[.pointer (some ⟨d, 0, none⟩), .string s] w (.int .i64 (rgetV l s)) := by
  have hp := rplace_c H hl s
  have H0 := (All.start w).arg (((H.get 0 rfl).both' (H.get 1 rfl)).imp fun W h => (⟨h.1, (owR_C h.2).2⟩ : Box d 68 #[.slice A l.length c] W ∧ CR A l W))
  clear H
  generalize (fun k => Is d k ∨ Ob (Value.slice A l.length c) k) = ok at H0
  unfold Tells rgetV
  cases hh : has cmpS l s with
  | true =>
    obtain ⟨hlt, hv, -⟩ := has_getV hh
    rw [hh] at hp
    rw [if_pos rfl, ← hv]
    clear hv hh
    generalize pos cmpS l s = P at *
    have hPi : (P : Int) < (l.length : Int) := Int.ofNat_lt.2 hlt
    go_enter Try.func17, Try.ntmps17
    go_wp2_with fail
    refine hp.on H0 fun w1 H1 => ?_
    have r0 := blk_cell (H1.at 0 rfl).1
    obtain ⟨ad, rfl, hc0, hc1⟩ := at_krow (H1.at 0 rfl).2 hlt
    go_wp2
    go_ret
    exact ⟨rfl, H1.old⟩
  | false =>
    rw [hh] at hp
    rw [if_neg (by decide)]
    go_enter Try.func17, Try.ntmps17
    go_wp2_with fail
    refine hp.on H0 fun w1 H1 => ?_
    go_wp2
    go_ret
    exact ⟨rfl, H1.old⟩
theorem All.rowNew (H : All w0 w L) (e b : Nat) (hb : w.heap.size = b := by simp) : All w0 (w.alloc (.cells #[] e)) (ow w0.heap.size e 2 (.slice (some ⟨b, 0, none⟩) 0 0) 0 [] :: L) := by
  subst hb
  exact H.new (below_alloc (Below.refl _ _) _) (held_own (own_new w (e := e) (size := 2) (n := 0) (cs := []) H.old.size rfl (by decide))) fun k hk => by
    have : some w.heap.size = some k := hk
    cases this
    exact Nat.le_refl _
theorem put_true (h : has cmpS l s = true) : put cmpS l s n = l.take (pos cmpS l s) ++ (s, n) :: l.drop (pos cmpS l s + 1) := by
  obtain ⟨hp, -⟩ := has_lt h
  unfold put
  rw [if_pos h, List.set_eq_take_append_cons_drop, if_pos hp]
theorem put_false (h : has cmpS l s = false) : put cmpS l s n = l.take (pos cmpS l s) ++ (s, n) :: l.drop (pos cmpS l s) := by
  unfold put
  rw [h]
  rfl
set_option maxRecDepth 100000 in
set_option maxHeartbeats 4000000 in
theorem rset_c (H : All w0 w (bx d 68 #[.slice A l.length c] :: owR w0.heap.size A l c :: L)) (hd : w0.heap.size ≤ d) (hl : l.length ≤ 1000) :
    Calls Try.prog 28 #[.pointer (some ⟨d, 0, none⟩), .string s, .int .i64 n] w fun e w' => e = .returned (.int .i64 (setE l s n)) ∧
      ∃ A' c', All w0 w' (bx d 68 #[.slice A' (setL l s n).length c'] :: owR w0.heap.size A' (setL l s n) c' :: L) := by
  have hi := fun w => clevisref02_Isin.calls 61 s _ w (rIsin s 61 (Nat.le_refl _))
  by_cases h0 : isinE s ≠ 0
  · have e1 : setE l s n = isinE s := by unfold setE; rw [if_pos h0]
    have e2 : setL l s n = l := by unfold setL; rw [e1, if_neg h0]
    rw [e1, e2]
    clear e1 e2
    go_enter Try.func28, Try.ntmps28
    go_wp2_with fail
    refine Tells.on (hi w) H fun w1 H1 => ?_
    go_wp2
    go_ret
    exact ⟨rfl, A, c, H1⟩
  have h0' : isinE s = 0 := by omega
  rw [h0'] at hi
  by_cases h1 : n < 0 ∨ n ≥ 2147483648
  · have e1 : setE l s n = 2 := by unfold setE; rw [if_neg h0, if_pos h1]
    have e2 : setL l s n = l := by unfold setL; rw [e1]; rfl
    rw [e1, e2]
    clear e1 e2 h0 h0'
    by_cases h2 : n < 0
    · have d1 : decide (n < 0) = true := decide_eq_true h2
      clear h1 h2
      go_enter Try.func28, Try.ntmps28
      go_wp2_with fail
      refine Tells.on (hi w) H fun w1 H1 => ?_
      go_wp2
      go_ret
      exact ⟨rfl, A, c, H1⟩
    · have d1 : decide (n < 0) = false := decide_eq_false h2
      have d2 : decide (n > 2147483647) = true := decide_eq_true (by omega)
      clear h1 h2
      go_enter Try.func28, Try.ntmps28
      go_wp2_with fail
      refine Tells.on (hi w) H fun w1 H1 => ?_
      go_wp2
      go_ret
      exact ⟨rfl, A, c, H1⟩
  have d1 : decide (n < 0) = false := decide_eq_false (by omega)
  have d2 : decide (n > 2147483647) = false := decide_eq_false (by omega)
  have hpl := fun w1 (H1 : All w0 w1 (bx d 68 #[.slice A l.length c] :: owR w0.heap.size A l c :: L)) => rplace_c H1 hl s
  have e0 : setE l s n = if has cmpS l s = false ∧ 32 ≤ l.length then 7 else 0 := by unfold setE; rw [if_neg h0, if_neg h1]
  have hple : pos cmpS l s ≤ l.length := pos_le
  clear h0 h0' h1
  by_cases h3 : has cmpS l s = false ∧ 32 ≤ l.length
  · have e1 : setE l s n = 7 := by rw [e0, if_pos h3]
    have e2 : setL l s n = l := by unfold setL; rw [e1]; rfl
    have d3 : decide ((l.length : Int) ≥ 32) = true := decide_eq_true (by omega)
    rw [h3.1] at hpl
    rw [e1, e2]
    clear e0 e1 e2 h3
    generalize pos cmpS l s = P at *
    go_enter Try.func28, Try.ntmps28
    go_wp2_with fail
    refine Tells.on (hi w) H fun w1 H1 => ?_
    go_wp2_with fail
    refine (hpl w1 H1).on H1 fun w2 H2 => ?_
    have r2 := H2.rd 0 rfl
    go_wp2
    go_ret
    exact ⟨rfl, A, c, H2⟩
  · have e1 : setE l s n = 0 := by rw [e0, if_neg h3]
    have e2 : setL l s n = put cmpS l s n := by unfold setL; rw [if_pos e1]
    have d3 : has cmpS l s = false → decide ((l.length : Int) ≥ 32) = false := fun h => decide_eq_false fun q => h3 ⟨h, by omega⟩
    rw [e1, e2]
    clear e0 e1 e2 h3
    cases hh : has cmpS l s with
    | true =>
      have ep := put_true (n := n) hh
      obtain ⟨hp1, -⟩ := has_lt hh
      rw [hh] at hpl
      rw [ep]
      clear ep d3 hh
      generalize pos cmpS l s = P at *
      go_enter Try.func28, Try.ntmps28
      go_wp2_with fail
      refine Tells.on (hi w) H fun w1 H1 => ?_
      go_wp2_with fail
      refine (hpl w1 H1).on H1 fun w2 H2 => ?_
      have r2 := H2.rd 0 rfl
      have hPi : (P : Int) ≤ (l.length : Int) := Int.ofNat_le.2 hple
      obtain ⟨hcc, hC⟩ := owR_C (H2.at 1 rfl)
      have H3 := All.rowNew H2 71 w2.heap.size rfl
      have hPc : (P : Int) ≤ (c : Int) := Int.ofNat_le.2 (Nat.le_trans hple hcc)
      have r3 := H3.rd 1 rfl
      have hC3 : Kd.C krow (w2.alloc (.cells #[] 71)) A P (l.take P) := by have := C_cut (owR_C (H3.at 2 rfl)).2 P; rwa [List.length_take, Nat.min_eq_left hple] at this
      have hz3 := H3.old.size
      have hs3 : (0 + P) * 24 ≤ 140737488355328 := by omega
      have hs4 : (P + 1) * 24 ≤ 140737488355328 := by omega
      have hs5 : (P + 1 + (l.length - (P + 1))) * 24 ≤ 140737488355328 := by omega
      have hlen : (l.take P ++ (s, n) :: l.drop (P + 1)).length = P + 1 + (l.length - (P + 1)) := by rw [List.length_append, List.length_cons, List.length_take, List.length_drop]; omega
      have hfl : (l.take P ++ (s, n) :: l.drop (P + 1)).flatMap encR = (l.take P).flatMap encR ++ encR (s, n) ++ (l.drop (P + 1)).flatMap encR := by rw [List.flatMap_append, List.flatMap_cons, List.append_assoc]
      have hP1 : P + 1 ≤ l.length := by omega
      have hP1i : (P : Int) + 1 ≤ (l.length : Int) := Int.ofNat_le.2 hP1
      have hP1c : (P : Int) + 1 ≤ (c : Int) := Int.ofNat_le.2 (Nat.le_trans hP1 hcc)
      have hwP : wrap64 ((P : Int) + 1) = (P : Int) + 1 := by have := En.wrap_succ (i := P) (by omega); rw [this]; rfl
      clear hpl hi hC
      by_cases hcP : c = P + 1
      · have hlP : l.length = P + 1 := by omega
        have hC5 : ∀ W, Kd.C krow W A 0 (l.drop (P + 1)) := fun W => by
          rw [List.drop_of_length_le (by omega)]
          exact ⟨rfl, Nat.zero_le _, fun h => absurd h (by decide)⟩
        have hs6 : (P + 1 + 0) * 24 ≤ 140737488355328 := by omega
        rw [hlP, Nat.sub_self] at hlen
        have hlP2 := hlP
        have hcP2 := hcP
        replace hlen := Aside0.mk hlen
        replace hfl := Aside0.mk hfl
        clear hs5
        go_wp2_with (first
          | ((with_reducible refine gate_builtin (b := .append) rfl ?_); refine appC krow encR (fun _ _ _ h => krow_K h) (fun _ => rfl) rfl encR_one H3 0 rfl hC3 (Nat.le_refl _) hz3 hs3 (.tmp 38) (.tmp 44) 22 (.agg #[.string ByteArray.empty, .int .i64 0]) (by kernel_rfl) Try.underlying22 rfl rfl rfl (by decide) (by decide) rfl rfl ?_; intro A1 c1 w4 H4 z4; simp only [Nat.zero_add, List.nil_append] at H4 ⊢; have r4 := H4.rd 1 rfl; have hz4 := H4.old.size)
          | ((with_reducible refine gate_builtin (b := .append) rfl ?_); refine app_ (encR (s, n)) H4 0 rfl (Nat.le_refl _) hz4 hs4 (.tmp 46) (.tmp 50) 22 (.agg #[.string ByteArray.empty, .int .i64 0]) (by kernel_rfl) Try.underlying22 rfl rfl rfl (by decide) (by decide) rfl rfl rfl (encR_one _) ?_; intro A2 c2 w5 H5 z5; have r5 := H5.rd 1 rfl; have hz5 := H5.old.size)
          | ((with_reducible refine gate_builtin (b := .append) rfl ?_); refine appC krow encR (fun _ _ _ h => krow_K h) (fun _ => rfl) rfl encR_one H5 0 rfl (hC5 _) (Nat.le_refl _) hz5 hs6 (.tmp 56) (.tmp 62) 22 (.agg #[.string ByteArray.empty, .int .i64 0]) (by kernel_rfl) Try.underlying22 rfl rfl rfl (by decide) (by decide) rfl rfl ?_; intro A3 c3 w6 H6 z6; have r6 := H6.rd 1 rfl; have f6 := H6.fz 1 rfl))
        go_ret
        have H7 := (((H6.set 1 rfl 0 (.slice A3 (P + 1 + 0) c3) hd).cut 2).front 1 rfl)
        refine ⟨rfl, A3, c3, ?_⟩
        rw [owR_eq hlen.out hfl.out, hlen.out]
        exact H7
      · obtain ⟨g, rfl⟩ : ∃ g, A = some ⟨g, 0, none⟩ := by
          rcases ow_cases (H2.at 1 rfl) with ⟨-, -, h, -⟩ | ⟨g, cur, h, -⟩
          · omega
          · exact ⟨g, h⟩
        have hC5 : ∀ W, Ow w0.heap.size 71 2 (.slice (some ⟨g, 0, none⟩) l.length c) l.length (l.flatMap encR) W → Kd.C krow W (some ⟨g, (P + 1) * 2, none⟩) (l.length - (P + 1)) (l.drop (P + 1)) := fun W hW => by
          have h := Kd.C_drop (owR_C hW).2 (show P + 1 ≤ l.length by omega) (owR_C hW).1
          rw [if_neg hcP, List.length_drop] at h
          have e : (some (⟨g, 0, none⟩ : Addr)).map (·.add ((P + 1) * krow.sz)) = some ⟨g, (P + 1) * 2, none⟩ := by
            show some ((⟨g, 0, none⟩ : Addr).add ((P + 1) * 2)) = _
            rw [Addr.add_mid, Nat.zero_add]
          rw [e] at h
          exact h
        have hs7 := Aside0.mk (show P + 1 + (l.length - (P + 1)) = l.length by omega)
        replace hlen := Aside0.mk hlen
        replace hfl := Aside0.mk hfl
        go_wp2_with (first
          | ((with_reducible refine gate_builtin (b := .append) rfl ?_); refine appC krow encR (fun _ _ _ h => krow_K h) (fun _ => rfl) rfl encR_one H3 0 rfl hC3 (Nat.le_refl _) hz3 hs3 (.tmp 38) (.tmp 44) 22 (.agg #[.string ByteArray.empty, .int .i64 0]) (by kernel_rfl) Try.underlying22 rfl rfl rfl (by decide) (by decide) rfl rfl ?_; intro A1 c1 w4 H4 z4; simp only [Nat.zero_add, List.nil_append] at H4 ⊢; have r4 := H4.rd 1 rfl; have hz4 := H4.old.size)
          | ((with_reducible refine gate_builtin (b := .append) rfl ?_); refine app_ (encR (s, n)) H4 0 rfl (Nat.le_refl _) hz4 hs4 (.tmp 46) (.tmp 50) 22 (.agg #[.string ByteArray.empty, .int .i64 0]) (by kernel_rfl) Try.underlying22 rfl rfl rfl (by decide) (by decide) rfl rfl rfl (encR_one _) ?_; intro A2 c2 w5 H5 z5; have r5 := H5.rd 1 rfl; have hz5 := H5.old.size)
          | ((with_reducible refine gate_builtin (b := .append) rfl ?_); refine appC krow encR (fun _ _ _ h => krow_K h) (fun _ => rfl) rfl encR_one H5 0 rfl (hC5 _ (H5.at 2 rfl)) (Nat.le_refl _) hz5 hs5 (.tmp 56) (.tmp 62) 22 (.agg #[.string ByteArray.empty, .int .i64 0]) (by kernel_rfl) Try.underlying22 rfl rfl rfl (by decide) (by decide) rfl rfl ?_; intro A3 c3 w6 H6 z6; have r6 := H6.rd 1 rfl; have f6 := H6.fz 1 rfl))
        go_ret
        have H7 := (((H6.set 1 rfl 0 (.slice A3 (P + 1 + (l.length - (P + 1))) c3) hd).cut 2).front 1 rfl)
        refine ⟨rfl, A3, c3, ?_⟩
        rw [owR_eq hlen.out hfl.out, hlen.out, hs7.out]
        rw [hs7.out] at H7
        exact H7
    | false =>
      have ep := put_false (n := n) hh
      have d3' := d3 hh
      rw [hh] at hpl
      rw [ep]
      clear ep d3 hh
      generalize pos cmpS l s = P at *
      go_enter Try.func28, Try.ntmps28
      go_wp2_with fail
      refine Tells.on (hi w) H fun w1 H1 => ?_
      go_wp2_with fail
      refine (hpl w1 H1).on H1 fun w2 H2 => ?_
      have r2 := H2.rd 0 rfl
      have hPi : (P : Int) ≤ (l.length : Int) := Int.ofNat_le.2 hple
      obtain ⟨hcc, hC⟩ := owR_C (H2.at 1 rfl)
      have H3 := All.rowNew H2 71 w2.heap.size rfl
      have hPc : (P : Int) ≤ (c : Int) := Int.ofNat_le.2 (Nat.le_trans hple hcc)
      have r3 := H3.rd 1 rfl
      have hC3 : Kd.C krow (w2.alloc (.cells #[] 71)) A P (l.take P) := by have := C_cut (owR_C (H3.at 2 rfl)).2 P; rwa [List.length_take, Nat.min_eq_left hple] at this
      have hz3 := H3.old.size
      have hs3 : (0 + P) * 24 ≤ 140737488355328 := by omega
      have hs4 : (P + 1) * 24 ≤ 140737488355328 := by omega
      have hs5 : (P + 1 + (l.length - (P))) * 24 ≤ 140737488355328 := by omega
      have hlen : (l.take P ++ (s, n) :: l.drop (P)).length = P + 1 + (l.length - (P)) := by rw [List.length_append, List.length_cons, List.length_take, List.length_drop]; omega
      have hfl : (l.take P ++ (s, n) :: l.drop (P)).flatMap encR = (l.take P).flatMap encR ++ encR (s, n) ++ (l.drop (P)).flatMap encR := by rw [List.flatMap_append, List.flatMap_cons, List.append_assoc]
      clear hpl hi hC
      by_cases hcP : c = P
      · have hlP : l.length = P := by omega
        have hC5 : ∀ W, Kd.C krow W A 0 (l.drop (P)) := fun W => by
          rw [List.drop_of_length_le (by omega)]
          exact ⟨rfl, Nat.zero_le _, fun h => absurd h (by decide)⟩
        have hs6 : (P + 1 + 0) * 24 ≤ 140737488355328 := by omega
        rw [hlP, Nat.sub_self] at hlen
        have d3'' := d3'
        rw [hlP] at d3''
        have hlP2 := hlP
        have hcP2 := hcP
        replace hlen := Aside0.mk hlen
        replace hfl := Aside0.mk hfl
        clear hs5
        go_wp2_with (first
          | ((with_reducible refine gate_builtin (b := .append) rfl ?_); refine appC krow encR (fun _ _ _ h => krow_K h) (fun _ => rfl) rfl encR_one H3 0 rfl hC3 (Nat.le_refl _) hz3 hs3 (.tmp 38) (.tmp 44) 22 (.agg #[.string ByteArray.empty, .int .i64 0]) (by kernel_rfl) Try.underlying22 rfl rfl rfl (by decide) (by decide) rfl rfl ?_; intro A1 c1 w4 H4 z4; simp only [Nat.zero_add, List.nil_append] at H4 ⊢; have r4 := H4.rd 1 rfl; have hz4 := H4.old.size)
          | ((with_reducible refine gate_builtin (b := .append) rfl ?_); refine app_ (encR (s, n)) H4 0 rfl (Nat.le_refl _) hz4 hs4 (.tmp 46) (.tmp 50) 22 (.agg #[.string ByteArray.empty, .int .i64 0]) (by kernel_rfl) Try.underlying22 rfl rfl rfl (by decide) (by decide) rfl rfl rfl (encR_one _) ?_; intro A2 c2 w5 H5 z5; have r5 := H5.rd 1 rfl; have hz5 := H5.old.size)
          | ((with_reducible refine gate_builtin (b := .append) rfl ?_); refine appC krow encR (fun _ _ _ h => krow_K h) (fun _ => rfl) rfl encR_one H5 0 rfl (hC5 _) (Nat.le_refl _) hz5 hs6 (.tmp 56) (.tmp 62) 22 (.agg #[.string ByteArray.empty, .int .i64 0]) (by kernel_rfl) Try.underlying22 rfl rfl rfl (by decide) (by decide) rfl rfl ?_; intro A3 c3 w6 H6 z6; have r6 := H6.rd 1 rfl; have f6 := H6.fz 1 rfl))
        go_ret
        have H7 := (((H6.set 1 rfl 0 (.slice A3 (P + 1 + 0) c3) hd).cut 2).front 1 rfl)
        refine ⟨rfl, A3, c3, ?_⟩
        rw [owR_eq hlen.out hfl.out, hlen.out]
        exact H7
      · obtain ⟨g, rfl⟩ : ∃ g, A = some ⟨g, 0, none⟩ := by
          rcases ow_cases (H2.at 1 rfl) with ⟨-, -, h, -⟩ | ⟨g, cur, h, -⟩
          · omega
          · exact ⟨g, h⟩
        have hC5 : ∀ W, Ow w0.heap.size 71 2 (.slice (some ⟨g, 0, none⟩) l.length c) l.length (l.flatMap encR) W → Kd.C krow W (some ⟨g, (P) * 2, none⟩) (l.length - (P)) (l.drop (P)) := fun W hW => by
          have h := Kd.C_drop (owR_C hW).2 (show P ≤ l.length by omega) (owR_C hW).1
          rw [if_neg hcP, List.length_drop] at h
          have e : (some (⟨g, 0, none⟩ : Addr)).map (·.add ((P) * krow.sz)) = some ⟨g, (P) * 2, none⟩ := by
            show some ((⟨g, 0, none⟩ : Addr).add ((P) * 2)) = _
            rw [Addr.add_mid, Nat.zero_add]
          rw [e] at h
          exact h
        replace hlen := Aside0.mk hlen
        replace hfl := Aside0.mk hfl
        go_wp2_with (first
          | ((with_reducible refine gate_builtin (b := .append) rfl ?_); refine appC krow encR (fun _ _ _ h => krow_K h) (fun _ => rfl) rfl encR_one H3 0 rfl hC3 (Nat.le_refl _) hz3 hs3 (.tmp 38) (.tmp 44) 22 (.agg #[.string ByteArray.empty, .int .i64 0]) (by kernel_rfl) Try.underlying22 rfl rfl rfl (by decide) (by decide) rfl rfl ?_; intro A1 c1 w4 H4 z4; simp only [Nat.zero_add, List.nil_append] at H4 ⊢; have r4 := H4.rd 1 rfl; have hz4 := H4.old.size)
          | ((with_reducible refine gate_builtin (b := .append) rfl ?_); refine app_ (encR (s, n)) H4 0 rfl (Nat.le_refl _) hz4 hs4 (.tmp 46) (.tmp 50) 22 (.agg #[.string ByteArray.empty, .int .i64 0]) (by kernel_rfl) Try.underlying22 rfl rfl rfl (by decide) (by decide) rfl rfl rfl (encR_one _) ?_; intro A2 c2 w5 H5 z5; have r5 := H5.rd 1 rfl; have hz5 := H5.old.size)
          | ((with_reducible refine gate_builtin (b := .append) rfl ?_); refine appC krow encR (fun _ _ _ h => krow_K h) (fun _ => rfl) rfl encR_one H5 0 rfl (hC5 _ (H5.at 2 rfl)) (Nat.le_refl _) hz5 hs5 (.tmp 56) (.tmp 62) 22 (.agg #[.string ByteArray.empty, .int .i64 0]) (by kernel_rfl) Try.underlying22 rfl rfl rfl (by decide) (by decide) rfl rfl ?_; intro A3 c3 w6 H6 z6; have r6 := H6.rd 1 rfl; have f6 := H6.fz 1 rfl))
        go_ret
        have H7 := (((H6.set 1 rfl 0 (.slice A3 (P + 1 + (l.length - (P))) c3) hd).cut 2).front 1 rfl)
        refine ⟨rfl, A3, c3, ?_⟩
        rw [owR_eq hlen.out hfl.out, hlen.out]
        exact H7
end
end Go.Proofs.Ythhgcjlgnafdcaa.Rp
end
section
namespace Go.Proofs.Ythhgcjlgnafdcaa.Pk
set_option linter.unusedSimpArgs false
set_option linter.unusedVariables false
open Go Go.RowKit Go.Proofs.YthhgcjlgnafdcaaW.PrintWords Go.Proofs.YthhgcjlgnafdcaaW.PrintLast Go.Proofs.Ythhgcjlgnafdcaa.Hd Go.Proofs.Ythhgcjlgnafdcaa.Os Go.Proofs.Ythhgcjlgnafdcaa.Tb Go.Proofs.Ythhgcjlgnafdcaa.Tm Go.Proofs.Ythhgcjlgnafdcaa.Px Go.Proofs.Ythhgcjlgnafdcaa.Wv Go.Proofs.Ythhgcjlgnafdcaa.Pp Go.Proofs.Ythhgcjlgnafdcaa.Pq Go.Proofs.Ythhgcjlgnafdcaa.Ps
open Go.Proofs.Ythhgcjlgnafdcaa.Nu (I64 U64 I128 sgn)
theorem All.rowsR {w0 w : World} {L : List F2} (H : All w0 w L) (rs : List (ByteArray × Int)) (e b : Nat) (hb : w.heap.size = b := by simp) (hl : rs.length ≤ 1000000 := by decide) :
    All w0 (w.alloc (.cells (rs.flatMap encR).toArray e)) ((Ob (.slice (some ⟨b, 0, none⟩) rs.length rs.length), CR (some ⟨b, 0, none⟩) rs) :: L) := by
  subst hb
  refine H.new (below_alloc (Below.refl _ _) _) ((held_own (own_new w (e := e) (size := 2) (n := rs.length) (cs := rs.flatMap encR) (Nat.le_refl _) (flat_len encR (fun _ => rfl) rs) hl)).imp fun W hW => ?_) fun k hk => ?_
  · obtain ⟨A', c', hA, -, -, hC⟩ := ow_C krow encR krow_mk (by decide) hW
    cases hA
    exact hC
  · have : some w.heap.size = some k := hk
    cases this
    exact Nat.le_refl _
def us : ByteArray := ⟨#[85, 83, 48, 51, 55, 56, 51, 51, 49, 48, 48, 53]⟩
theorem us_ok : Ip.isinE us = 0 := by kernel_rfl
theorem of_us (n : Int) (h : 0 ≤ n ∧ n < 2147483648) : ofE [] [(us, n)] = (0, [(us, n)]) := by
  have h1 : setE [] us n = 0 := by
    unfold setE
    rw [us_ok, if_neg (by decide), if_neg (by omega), if_neg (fun h => absurd h.2 (by decide))]
  have h2 : has cmpS ([] : PR) us = false := rfl
  have h3 : put cmpS ([] : PR) us n = [(us, n)] := rfl
  unfold ofE
  rw [if_neg (by rw [h1]; decide), h2, h3]
  rfl
theorem has_us (n : Int) : has cmpS [(us, n)] us = true := by kernel_rfl
theorem get_us (n : Int) : getV [(us, n)] us = n := by kernel_rfl
theorem right_us : rightB [(us, 10)] = true := by kernel_rfl
theorem val_us : valV [(us, 150)] [(us, 10)] (-500) = 1000 ∧ valE [(us, 150)] [(us, 10)] (-500) = 0 := by
  unfold valV valE
  rw [if_pos right_us, if_pos right_us]
  exact ⟨by kernel_rfl, by kernel_rfl⟩
theorem mov_us : movV [(us, 150)] us (-2500) = 112 ∧ movE [(us, 150)] us (-2500) = 0 := by
  unfold movV movE
  rw [has_us, get_us]
  exact ⟨by decide, by decide⟩
set_option maxRecDepth 100000 in
set_option maxHeartbeats 4000000 in
theorem known_c {w : World} : Tells Try.prog 15 #[] w (.bool true) := by
  unfold Tells
  have H0 := All.rowsR (All.start w) [(us, 150)] 79 w.heap.size rfl
  have hof := of_p (qi := 0) (ci := 1) H0 rfl (by decide)
  rw [of_us 150 (by decide)] at hof
  have ho : OkP [(us, 150)] := by have := ofE_ok [(us, 150)] [] okP_nil; rwa [of_us 150 (by decide)] at this
  have hOf := fun w => of_c (w := w) (a := -500) (by unfold I64; omega)
  have hOf2 := fun w => of_c (w := w) (a := 1000) (by unfold I64; omega)
  go_enter Try.func15, Try.ntmps15
  go_wp2_with fail
  refine hof.mono ?_
  rintro e w1 ⟨p, rfl, hN⟩
  obtain ⟨b, A, c, rfl, hb, H1⟩ := (hN.good rfl).at_
  rw [of_us 150 (by decide)] at H1
  have H2 := All.rowsR H1 [(us, 10)] 79 w1.heap.size rfl
  clear hof hN H0 H1
  go_wp2_with fail
  refine (hOf _).on H2 fun w2 H3 => ?_
  have hv := value_c (q := 0) (ch := 1) (x := -500) H3 (ask_p (i := 1) (j := 2) rfl rfl ho) ho rfl (by decide) (by decide) (fun r hr => by rw [List.mem_singleton.1 hr]; unfold I64; exact ⟨by decide, by decide⟩) (by unfold I128; omega)
  rw [val_us.1, val_us.2] at hv
  clear H2 hOf
  go_wp2_with fail
  refine hv.mono ?_
  rintro e w3 ⟨rfl, H4⟩
  have H5 := H4.box w3.heap.size 43 #[.int .i64 (hiW 1000), .int .u64 (loW 1000)]
  have hm := moved_c (s := us) (pts := -2500) H5 (ask_p (i := 2) (j := 3) rfl rfl ho) ho (by unfold I64; omega)
  rw [mov_us.1, mov_us.2] at hm
  clear hv H3 H4
  go_wp2_with fail
  refine hm.mono ?_
  rintro e w4 ⟨rfl, H6⟩
  go_wp2_with fail
  refine plan_ (true, [([], []), ([0], [0]), ([1], [1]), ([2], [2]), ([3, 2], [2, 3]), ([2, 4], [2, 4]), ([5, 2], [5]), ([6], [6]), ([7, 6], [6, 7]), ([6, 8], [6, 8]), ([9, 6], [9]), ([10], [10]), ([10, 10], [10]), ([11, 12, 10], [10, 11, 12]), ([10, 13], [10, 13]), ([14, 12], [14]), ([15], [15]), ([16, 15], [15, 16]), ([15, 17], [15, 17]), ([18, 15], [18]), ([19], [19]), ([20, 19], [19, 20]), ([19, 21], [19, 21]), ([22, 19, 0, 1, 2, 3, 4, 5, 6, 7, 8, 9, 10, 11, 12, 13, 14, 15, 16, 17, 18, 19, 20, 21, 22], [22])]) [.p 0, .p 1, .p 2, .p 3, .p 4, .p 5, .p 6, .p 7, .p 8, .p 9, .p 10, .t 11, .c 12, .p 13, .p 14, .p 15, .p 16, .p 17, .p 18, .p 19, .p 20, .p 21, .p 22, .p 23] H6 (by kernel_rfl) (by kernel_rfl) rfl rfl (by kernel_rfl) (by intro c a w d v h; cases d <;> exact h) (fun w5 H7 => ?_)
  refine pl_P (h := ?_)
  refine pl_P (h := ?_)
  refine pl_P (h := ?_)
  refine pl_P (h := ?_)
  refine pl_P (h := ?_)
  refine pl_P (h := ?_)
  refine pl_P (h := ?_)
  refine pl_P (h := ?_)
  refine pl_P (h := ?_)
  refine pl_P (h := ?_)
  refine pl_P (h := ?_)
  refine pl_B 0 H7 rfl (h := ?_)
  refine pl_S (hOf2 _) H7 Try.func35 (h := fun w6 H8 => ?_)
  repeat refine pl_P (h := ?_)
  refine pl_done ?_
  go_wp2
  go_ret
  exact ⟨rfl, H8.old⟩
end Go.Proofs.Ythhgcjlgnafdcaa.Pk
end
section
namespace Go.Proofs.Ythhgcjlgnafdcaa.Ro
set_option linter.unusedSimpArgs false
set_option linter.unusedVariables false
open Go Go.RowKit Go.Proofs.YthhgcjlgnafdcaaW.PrintWords Go.Proofs.YthhgcjlgnafdcaaW.PrintLast Go.Proofs.Ythhgcjlgnafdcaa.Hd Go.Proofs.Ythhgcjlgnafdcaa.Os Go.Proofs.Ythhgcjlgnafdcaa.Tb Go.Proofs.Ythhgcjlgnafdcaa.Tm Go.Proofs.Ythhgcjlgnafdcaa.Px Go.Proofs.Ythhgcjlgnafdcaa.Ip Go.Proofs.Ythhgcjlgnafdcaa.Wv Go.Proofs.Ythhgcjlgnafdcaa.Pp Go.Proofs.Ythhgcjlgnafdcaa.Pq Go.Proofs.Ythhgcjlgnafdcaa.Ps Go.Proofs.Ythhgcjlgnafdcaa.Rp
def rofL (rs : PR) : PR := if (ofE [] rs).1 = 0 then (ofE [] rs).2 else []
section
variable {w0 w : World} {L : List F2} {d c : Nat} {A : Option Addr} {l : PR} {s : ByteArray} {n : Int}
set_option maxRecDepth 100000 in
set_option maxHeartbeats 4000000 in
theorem rof_c {qi ci : Nat} {rs : PR} {Ar : Option Addr} {okR : Nat → Prop} (H : All w0 w L) (hq : L[qi]? = some (okR, fun W => Kd.C krow W Ar rs.length rs)) (hl : rs.length ≤ 1000) :
    Calls Try.prog 14 #[.slice Ar rs.length ci] w fun e w' => ∃ d A c, e = .returned (.tuple #[.pointer (some ⟨d, 0, none⟩), .int .i64 (ofE [] rs).1]) ∧ w0.heap.size ≤ d ∧
      All w0 w' (bx d 68 #[.slice A (rofL rs).length c] :: owR w0.heap.size A (rofL rs) c :: L) := by
  have H0 := ((H.row w0.heap.size 71 2).box w.heap.size 68 #[.slice none 0 0])
  have hb := H.old.size
  obtain ⟨E, hE⟩ : ∃ E, (ofE [] rs).1 = E := ⟨_, rfl⟩
  have hrl0 : E = 0 → rofL rs = (ofE [] rs).2 := fun h => by unfold rofL; rw [hE, if_pos h]
  have hrl1 : E ≠ 0 → rofL rs = [] := fun h => by unfold rofL; rw [hE, if_neg h]
  rw [hE]
  replace hE := Aside0.mk hE
  obtain ⟨R, hR⟩ : ∃ R, rofL rs = R := ⟨_, rfl⟩
  rw [hR] at hrl0 hrl1
  rw [hR]
  replace hrl0 := Aside0.mk (Aside0.mk hrl0)
  replace hrl1 := Aside0.mk (Aside0.mk hrl1)
  clear H hR
  go_enter Try.func14, Try.ntmps14
  go_wp2_with fail
  go_loopg [5] rs.length (fun kx s5 wr => ∃ (i : Nat) (l : PR) (A : Option Addr) (c : Nat), s5 = .int .i64 (i : Int) ∧ i ≤ rs.length ∧ rs.length - i ≤ kx ∧ Aside0 (OkP l ∧ ofE [] rs = ofE l (rs.drop i)) ∧
    All w0 wr (bx w.heap.size 68 #[.slice A l.length c] :: owR w0.heap.size A l c :: L))
  case atStart => exact ⟨0, [], none, 0, rfl, Nat.zero_le _, by omega, ⟨okP_nil, rfl⟩, H0⟩
  case round =>
    clear H0
    obtain ⟨i, l, A, c, rfl, hil, hik, hok, H⟩ := hrel
    by_cases hlt : i < rs.length
    · have hli : (i : Int) < (rs.length : Int) := Int.ofNat_lt.2 hlt
      obtain ⟨ad, rfl, hc0, hc1⟩ := at_krow (H.at (qi + 2) hq) hlt
      have hc : ∀ W, All w0 W (bx w.heap.size 68 #[.slice A l.length c] :: owR w0.heap.size A l c :: L) → W.cell? (ad.add (i * 2)) = some (.string rs[i].1) ∧ W.cell? ⟨(ad.add (i * 2)).block, (ad.add (i * 2)).off + 1, none⟩ = some (.int .i64 rs[i].2) := fun W hW => by
        obtain ⟨ad', e, q0, q1⟩ := at_krow (hW.at (qi + 2) hq) hlt
        cases e
        exact ⟨q0, q1⟩
      have e2 : ofE l (rs.drop i) = if setE l rs[i].1 rs[i].2 ≠ 0 then (setE l rs[i].1 rs[i].2, l) else if has cmpS l rs[i].1 = true then (6, l) else ofE (put cmpS l rs[i].1 rs[i].2) (rs.drop (i + 1)) := by rw [List.drop_eq_getElem_cons hlt, ofE]
      obtain ⟨r, hr⟩ : ∃ r, rs[i] = r := ⟨_, rfl⟩
      rw [hr] at hc0 hc1 e2 hc
      obtain ⟨s, n⟩ := r
      simp only at hc0 hc1 e2 hc
      have hll := Nat.le_trans hok.out.1.len (show 32 ≤ 1000 by decide)
      have e3 := hok.out.2.trans e2
      clear hr e2
      have hpl := rplace_c H hll s
      have hst := fun w1 (H1 : All w0 w1 (bx w.heap.size 68 #[.slice A l.length c] :: owR w0.heap.size A l c :: L)) => rset_c (s := s) (n := n) H1 hb hll
      have hok2 := Aside0.mk (hok.out.1.set s n)
      have hp0 := @setL_put l s n
      generalize pos cmpS l s = P at hpl
      obtain ⟨sl, hsl⟩ : ∃ sl, setL l s n = sl := ⟨_, rfl⟩
      obtain ⟨se, hse⟩ : ∃ se, setE l s n = se := ⟨_, rfl⟩
      obtain ⟨hh, hhe⟩ : ∃ hh, has cmpS l s = hh := ⟨_, rfl⟩
      rw [hsl] at hst hok2 hp0
      rw [hse] at hst e3 hp0
      rw [hhe] at hpl e3
      replace e3 := Aside0.mk e3
      replace hp0 := Aside0.mk (Aside0.mk hp0)
      replace hc := Aside0.mk hc
      clear hsl hse hhe
      have hcut : ∀ w3 A' c', All w0 w3 (bx w.heap.size 68 #[.slice A' sl.length c'] :: owR w0.heap.size A' sl c' :: L) → All w0 (w3.alloc (.cells #[.slice none 0 0] 68 (0, 0))) (bx w3.heap.size 68 #[.slice none 0 0] :: owR w0.heap.size none [] 0 :: L) := fun w3 A' c' H4 =>
        ((H4.drop 2).row w0.heap.size 71 2).box w3.heap.size 68 #[.slice none 0 0]
      have hsz3 : ∀ w3 A' c', All w0 w3 (bx w.heap.size 68 #[.slice A' sl.length c'] :: owR w0.heap.size A' sl c' :: L) → w0.heap.size ≤ w3.heap.size := fun w3 A' c' H4 => H4.old.size
      go_wp2_with fail
      refine hpl.on H fun w1 H1 => ?_
      clear H hpl hc0 hc1
      go_wp2_with fail
      refine planD_ [11] (true, [([], []), ([], []), ([], []), ([1, 2], [1, 2]), ([3], [3]), ([4], [4]), ([], []), ([], []), ([6, 7], [6, 7]), ([8], [8]), ([9], [9]), ([0, 5, 10], [0, 5, 10]), ([11, 11, 0, 1, 2, 3, 4, 5, 6, 7, 8, 9, 10, 11], [11])]) [.p 0, .p 1, .p 2, .p 3, .p 4, .t 5, .p 6, .p 7, .p 8, .p 9, .t 10, .l 11, .p 12] H1 (by kernel_rfl) (by kernel_rfl) rfl rfl (by kernel_rfl) (by intro c a w d v h; cases d <;> exact h) (fun w2 H2 => ?_)
      refine pl_P (h := ?_)
      refine pl_P (h := ?_)
      refine pl_P (h := ?_)
      refine pl_P (h := ?_)
      refine pl_P (h := ?_)
      refine pl_C H2 (fun W hW => (hc.out W hW).1) (h := ?_)
      refine pl_P (h := ?_)
      refine pl_P (h := ?_)
      refine pl_P (h := ?_)
      refine pl_P (h := ?_)
      refine pl_C H2 (fun W hW => (hc.out W hW).2) (h := ?_)
      refine pl_callL Try.func28 #[.pointer (some ⟨w.heap.size, 0, none⟩), .string s, .int .i64 n] ?_
      refine (hst w2 H2).mono ?_
      rintro e w3 ⟨rfl, A', c', H4⟩
      refine ⟨_, rfl, ?_⟩
      refine pl_P (h := ?_)
      refine pl_done ?_
      clear H1 H2 hst hc
      by_cases h0 : se = 0
      · subst h0
        cases hh with
        | true =>
          obtain rfl : 6 = E := by rw [← hE.out, e3.out]; rfl
          obtain rfl := hrl1.out.out (by decide)
          have H5 := hcut w3 A' c' H4
          have h5 := hsz3 w3 A' c' H4
          clear hcut hsz3 H4
          go_wp2
          go_ret2
          exact ⟨w3.heap.size, rfl, h5, none, 0, H5⟩
        | false =>
          clear hcut hsz3
          go_wp2_with fail
          go_roundg (rs.length - (i + 1))
          case measure => exact En.meas hik hlt
          case rel => exact ⟨i + 1, sl, A', c', rfl, hlt, Nat.le_refl _, ⟨hok2.out, by rw [e3.out, hp0.out.out trivial]; rfl⟩, H4⟩
      · obtain rfl : se = E := by rw [← hE.out, e3.out, if_pos h0]
        obtain rfl := hrl1.out.out h0
        have h0' : (se == 0) = false := by simpa using h0
        have h0'' : (se != 0) = true := by simpa using h0
        have H5 := hcut w3 A' c' H4
        have h5 := hsz3 w3 A' c' H4
        clear hcut hsz3 H4
        go_wp2
        go_ret2
        exact ⟨w3.heap.size, rfl, h5, none, 0, H5⟩
    · obtain rfl : i = rs.length := Nat.le_antisymm hil (Nat.le_of_not_lt hlt)
      have e3 : ofE [] rs = (0, l) := by rw [hok.out.2, List.drop_length, ofE]
      obtain rfl : 0 = E := by rw [← hE.out, e3]
      obtain rfl : R = l := by rw [hrl0.out.out rfl, e3]
      go_wp2
      go_ret2
      exact ⟨w.heap.size, rfl, hb, A, c, H⟩
end
end Go.Proofs.Ythhgcjlgnafdcaa.Ro
end
section
namespace Go.Proofs.Ythhgcjlgnafdcaa.Rw
set_option linter.unusedSimpArgs false
set_option linter.unusedVariables false
open Go Go.RowKit Go.Proofs.YthhgcjlgnafdcaaW.PrintWords Go.Proofs.YthhgcjlgnafdcaaW.PrintLast Go.Proofs.Ythhgcjlgnafdcaa.Hd Go.Proofs.Ythhgcjlgnafdcaa.Os Go.Proofs.Ythhgcjlgnafdcaa.Tb Go.Proofs.Ythhgcjlgnafdcaa.Tm Go.Proofs.Ythhgcjlgnafdcaa.Px Go.Proofs.Ythhgcjlgnafdcaa.Ip Go.Proofs.Ythhgcjlgnafdcaa.Wv Go.Proofs.Ythhgcjlgnafdcaa.Pp Go.Proofs.Ythhgcjlgnafdcaa.Pq Go.Proofs.Ythhgcjlgnafdcaa.Ps Go.Proofs.Ythhgcjlgnafdcaa.Rp
theorem snoc_enc {ys : PR} {i : Nat} (h : i < ys.length) : (ys.take (i + 1)).flatMap encR = (ys.take i).flatMap encR ++ encR ys[i] := by
  rw [List.take_add_one, List.getElem?_eq_getElem h, List.flatMap_append]
  simp
section
variable {w0 w : World} {L : List F2} {l : PR} {A0 : Option Addr} {qi ci : Nat} {okR : Nat → Prop}
set_option maxRecDepth 100000 in
set_option maxHeartbeats 4000000 in
theorem rows_c (H : All w0 w L) (hq : L[qi]? = some (okR, CR A0 (l.take 40))) (hci : l.length ≤ ci) :
    Calls Try.prog 12 #[.slice A0 l.length ci] w fun e w' => ∃ A c, e = .returned (.tuple #[.slice A (l.take 40).length c, .slice A0 (l.take 40).length ci]) ∧
      All w0 w' (ow w0.heap.size 79 2 (.slice A (l.take 40).length c) (l.take 40).length ((l.take 40).flatMap encR) :: L) := by
  have m1 : min (l.length : Int) 40 = ((l.take 40).length : Int) := by rw [List.length_take]; omega
  have hxl : (l.take 40).length ≤ 40 := by rw [List.length_take]; omega
  have hxc : (l.take 40).length ≤ ci := by rw [List.length_take]; omega
  have hmi : (((l.take 40).length : Nat) : Int) ≤ (ci : Int) := Int.ofNat_le.2 hxc
  have H1 := H.row w0.heap.size 79 2
  have hw0 := H.old.size
  clear H
  obtain ⟨m, hmE⟩ : ∃ m, l.length = m := ⟨_, rfl⟩
  rw [hmE] at m1 ⊢
  generalize l.take 40 = ys at *
  clear hmE hci
  go_enter Try.func12, Try.ntmps12
  go_wp2_with fail
  go_loopg [4, 5] ys.length (fun kx s4 s5 wr => ∃ (i : Nat) (A : Option Addr) (c : Nat), s4 = .slice A i c ∧ s5 = .int .i64 (i : Int) ∧ i ≤ ys.length ∧ ys.length - i ≤ kx ∧
    All w0 wr (ow w0.heap.size 79 2 (.slice A i c) i ((ys.take i).flatMap encR) :: L))
  case atStart => exact ⟨0, none, 0, rfl, rfl, Nat.zero_le _, by omega, H1⟩
  case round =>
    clear H1
    obtain ⟨i, A, c, rfl, rfl, hi, hik, H⟩ := hrel
    by_cases hlt : i < ys.length
    · have hli : (i : Int) < (ys.length : Int) := Int.ofNat_lt.2 hlt
      obtain ⟨ad, rfl, -, -⟩ := at_krow (H.at (qi + 1) hq) hlt
      have hc : ∀ W, All w0 W (ow w0.heap.size 79 2 (.slice A i c) i ((ys.take i).flatMap encR) :: L) → W.cell? (ad.add (i * 2)) = some (.string ys[i].1) ∧ W.cell? ⟨(ad.add (i * 2)).block, (ad.add (i * 2)).off + 1, none⟩ = some (.int .i64 ys[i].2) := fun W hW => by
        obtain ⟨ad', e, h0, h1⟩ := at_krow (hW.at (qi + 1) hq) hlt
        cases e
        exact ⟨h0, h1⟩
      have hsn := Aside0.mk (snoc_enc hlt)
      have hsz : (i + 1) * 24 ≤ 140737488355328 := by omega
      obtain ⟨x, hx⟩ : ∃ x, ys[i] = x := ⟨_, rfl⟩
      rw [hx] at hc hsn
      replace hc := Aside0.mk hc
      clear hx
      go_wp2_with fail
      refine planD_ [13] (true, [([], []), ([], []), ([], []), ([1, 2], [1, 2]), ([3], [3]), ([4], [4]), ([], []), ([], []), ([6, 7], [6, 7]), ([8], [8]), ([9], [9]), ([5, 10], [5, 10]), ([11], [11]), ([0, 12], [0, 12]), ([13, 13, 0, 1, 2, 3, 4, 5, 6, 7, 8, 9, 10, 11, 12, 13], [0, 13])]) [.p 0, .p 1, .p 2, .p 3, .p 4, .t 5, .p 6, .p 7, .p 8, .p 9, .t 10, .p 11, .c 12, .l 13, .p 14] H (by kernel_rfl) (by kernel_rfl) rfl rfl (by kernel_rfl) (by intro c a w d v h; cases d <;> exact h) (fun w2 H2 => ?_)
      refine pl_P (h := ?_)
      refine pl_P (h := ?_)
      refine pl_P (h := ?_)
      refine pl_P (h := ?_)
      refine pl_P (h := ?_)
      refine pl_C H2 (fun W hW => (hc.out W hW).1) (h := ?_)
      refine pl_P (h := ?_)
      refine pl_P (h := ?_)
      refine pl_P (h := ?_)
      refine pl_P (h := ?_)
      refine pl_C H2 (fun W hW => (hc.out W hW).2) (h := ?_)
      refine pl_P (h := ?_)
      have hz2 := H2.old.size
      refine pl_R (H2.any (.cells #[.string x.1, .int .i64 x.2] 79 (0, 0))) (fun H3 => ?_)
      refine pl_AL (encR x) (.agg #[.string ByteArray.empty, .int .i64 0]) 0 H2 rfl (Nat.le_refl _) hz2 hsz (by kernel_rfl) Try.underlying23 rfl (by decide) (by decide) rfl (by simp [encR, Value.oneCell']) (h := fun A1 c1 w3 H3 hz3 => ?_)
      refine pl_P (h := ?_)
      refine pl_done ?_
      go_wp2_with fail
      go_roundg (ys.length - (i + 1))
      case measure => exact En.meas hik hlt
      case rel => exact ⟨i + 1, A1, c1, rfl, rfl, hlt, Nat.le_refl _, by rw [hsn.out]; exact H3⟩
    · obtain rfl : i = ys.length := Nat.le_antisymm hi (Nat.le_of_not_lt hlt)
      rw [List.take_length] at H
      go_wp2
      go_ret2
      exact ⟨A, c, rfl, H⟩
end
end Go.Proofs.Ythhgcjlgnafdcaa.Rw
end
section
namespace Go.Proofs.Ythhgcjlgnafdcaa.Pn
set_option linter.unusedSimpArgs false
set_option linter.unusedVariables false
open Go Go.RowKit Go.Proofs.YthhgcjlgnafdcaaW.PrintWords Go.Proofs.YthhgcjlgnafdcaaW.PrintLast Go.Proofs.Ythhgcjlgnafdcaa.Hd Go.Proofs.Ythhgcjlgnafdcaa.Os Go.Proofs.Ythhgcjlgnafdcaa.Tb Go.Proofs.Ythhgcjlgnafdcaa.Tm Go.Proofs.Ythhgcjlgnafdcaa.Px Go.Proofs.Ythhgcjlgnafdcaa.Wv Go.Proofs.Ythhgcjlgnafdcaa.Pp Go.Proofs.Ythhgcjlgnafdcaa.Pq Go.Proofs.Ythhgcjlgnafdcaa.Ps Go.Proofs.Ythhgcjlgnafdcaa.Pk
open Go.Proofs.Ythhgcjlgnafdcaa.Nu (I64 U64 I128 sgn)
section
variable {w0 w : World} {L : List F2}
theorem rows_nil : Tells Try.prog 31 #[.pointer none] w (.slice none 0 0) := by
  unfold Tells
  go_enter Try.func31, Try.ntmps31
  go_wp2
  go_ret
  exact ⟨rfl, Below.refl _ _⟩
theorem copy_nil (H : All w0 w L) : Calls Try.prog 30 #[.pointer none] w fun e w' => ∃ b, e = .returned (.pointer (some ⟨b, 0, none⟩)) ∧ w0.heap.size ≤ b ∧ All w0 w' (bx b 66 #[.slice none 0 0] :: L) := by
  have hb := H.old.size
  have H0 := H.box w.heap.size 66 #[.slice none 0 0]
  clear H
  go_enter Try.func30, Try.ntmps30
  go_wp2_with fail
  refine rows_nil.on H0 fun w1 H1 => ?_
  go_wp2_with fail
  go_loopg [11] 0 (fun kx s11 wr => s11 = .int .i64 0 ∧ All w0 wr (bx w.heap.size 66 #[.slice none 0 0] :: L))
  case atStart => exact ⟨rfl, H1⟩
  case round =>
    obtain ⟨rfl, H2⟩ := hrel
    go_wp2
    go_ret
    exact ⟨_, rfl, hb, H2⟩
end
set_option maxRecDepth 100000 in
set_option maxHeartbeats 8000000 in
theorem walk (s : ByteArray) (n : Int) (hn : I64 n) (w : World) : Calls Try.prog 6 #[.string s, .int .i64 n] w fun e w' => e = .returned (.bool true) ∧ Below w.heap.size w w' := by
  have H0 := (All.start w).put (ok := fun _ => False) (T := CR none []) ⟨(fun k h => h.elim), fun W _ => Kd.C_nil _ W⟩ (fun _ h => by cases h)
  have hOf := fun w => of_c (w := w) hn
  have hv := fun w1 (H : All w w1 [((fun _ => False), CR none [])]) => value_c (q := 0) (rs := []) (ch := 0) (x := n) (l := []) H ask_nil okP_nil rfl (by decide) (Nat.le_refl _) (fun r hr => by cases hr) (i128_64 hn)
  have e1 : valV [] [] n = n := by
    have h1 : rightB [] = true := rfl
    have h2 : priced [] [] = true := rfl
    unfold valV sumsV
    rw [if_pos h1, if_pos h2, show n + worth [] [] = n from Int.add_zero n]
    exact if_pos (i128_64 hn)
  have e2 : valE [] [] n = 0 := by
    have h1 : rightB [] = true := rfl
    have h2 : priced [] [] = true := rfl
    unfold valE sumsE
    rw [if_pos h1, if_pos h2, show n + worth [] [] = n from Int.add_zero n]
    exact if_pos (i128_64 hn)
  simp only [e1, e2, List.length_nil] at hv
  have e3 : movV [] s 0 = 0 ∧ movE [] s 0 = 15 := ⟨rfl, rfl⟩
  have e4 : sumsV [] [(s, n)] 0 = 0 ∧ sumsE [] [(s, n)] 0 = 15 := ⟨rfl, rfl⟩
  go_enter Try.func6, Try.ntmps6
  go_wp2_with fail
  refine get_nil.on H0 fun w1 H1 => ?_
  go_wp2_with fail
  refine (hOf _).on H1 fun w2 H2 => ?_
  have hv2 := hv w2 H2
  clear hv H0 H1
  go_wp2_with fail
  refine hv2.mono ?_
  rintro e w3 ⟨rfl, H3⟩
  have H4 := H3.box w3.heap.size 43 #[.int .i64 (hiW n), .int .u64 (loW n)]
  have hm := moved_c (s := s) (pts := 0) (l := []) H4 ask_nil okP_nil (by unfold I64; omega)
  rw [e3.1, e3.2] at hm
  clear hv2 H2 H3 e1 e2 e3
  go_wp2_with fail
  refine hm.mono ?_
  rintro e w4 ⟨rfl, H5⟩
  have H6 := All.rowsR H5 [(s, n)] 79 w4.heap.size rfl (Nat.le_of_ble_eq_true rfl)
  have hw := worth_c (q := 0) (l := []) (ci := 1) H6 ask_nil okP_nil rfl (Nat.le_of_ble_eq_true rfl) (fun r hr => by rw [List.mem_singleton.1 hr]; exact hn)
  rw [e4.1, e4.2] at hw
  clear hm H4 H5 e4
  go_wp2_with fail
  refine hw.mono ?_
  rintro e w5 ⟨rfl, H7⟩
  have H8 := H7.box w5.heap.size 43 #[.int .i64 0, .int .u64 0]
  have hc := copy_nil H8
  clear hw H6 H7
  go_wp2_with fail
  refine hc.mono ?_
  rintro e w6 ⟨b, rfl, hb, H9⟩
  clear hc H8
  go_wp2_with fail
  refine plan_ (true, [([], []), ([0, 0], [0]), ([1], [1]), ([1], [1]), ([1], [1]), ([2, 3, 4, 1, 1], [1, 2, 3, 4]), ([5, 1], [1, 5]), ([1, 6], [1, 6]), ([7, 5], [7]), ([8], [8]), ([9, 8], [8, 9]), ([8, 10], [8, 10]), ([11, 8], [11]), ([12], [12]), ([13, 12, 12], [12, 13]), ([14, 12], [12, 14]), ([15, 12], [12, 15]), ([12, 16], [12, 16]), ([17, 14], [17]), ([18], [18]), ([19, 18, 18], [18, 19]), ([20, 18], [18, 20]), ([18, 21], [18, 21]), ([22, 20], [22]), ([23], [23]), ([24, 23], [23, 24]), ([23, 25], [23, 25]), ([26, 23], [26]), ([27], [27]), ([27], [27]), ([29, 27, 27], [27, 29]), ([28, 30, 27], [27, 28, 30]), ([27, 31], [27, 31]), ([32, 30], [32]), ([33], [33]), ([34, 33], [33, 34]), ([33, 35], [33, 35]), ([36, 33], [36]), ([37], [37]), ([38, 37], [37, 38]), ([37, 39], [37, 39]), ([40, 37], [40]), ([41], [41]), ([42, 41], [41, 42]), ([41, 43], [41, 43]), ([44, 41], [44]), ([45], [45]), ([46, 45, 45], [45, 46]), ([47, 45], [45, 47]), ([45, 48], [45, 48]), ([49, 47, 0, 1, 2, 3, 4, 5, 6, 7, 8, 9, 10, 11, 12, 13, 14, 15, 16, 17, 18, 19, 20, 21, 22, 23, 24, 25, 26, 27, 28, 29, 30, 31, 32, 33, 34, 35, 36, 37, 38, 39, 40, 41, 42, 43, 44, 45, 46, 47, 48, 49], [49])]) [.c 0, .p 1, .p 2, .p 3, .p 4, .c 5, .p 6, .p 7, .p 8, .p 9, .p 10, .p 11, .p 12, .p 13, .c 14, .p 15, .p 16, .p 17, .p 18, .p 19, .c 20, .p 21, .p 22, .p 23, .p 24, .p 25, .p 26, .p 27, .t 28, .p 29, .c 30, .p 31, .p 32, .p 33, .p 34, .p 35, .p 36, .p 37, .p 38, .p 39, .p 40, .p 41, .p 42, .p 43, .p 44, .p 45, .p 46, .c 47, .p 48, .p 49, .p 50] H9 (by kernel_rfl) (by kernel_rfl) rfl rfl (by kernel_rfl) (by intro c a w d v h; cases d <;> exact h) (fun w7 J => ?_)
  refine pl_S known_c J Try.func15 (h := fun w8 J => ?_)
  refine pl_P (h := ?_)
  refine pl_P (h := ?_)
  refine pl_P (h := ?_)
  refine pl_P (h := ?_)
  refine pl_S set_nil J Try.func27 (h := fun w9 J => ?_)
  refine pl_P (h := ?_)
  refine pl_P (h := ?_)
  refine pl_P (h := ?_)
  refine pl_P (h := ?_)
  refine pl_P (h := ?_)
  refine pl_P (h := ?_)
  refine pl_P (h := ?_)
  refine pl_P (h := ?_)
  refine pl_S rows_nil J Try.func31 (h := fun w10 J => ?_)
  refine pl_P (h := ?_)
  refine pl_P (h := ?_)
  refine pl_P (h := ?_)
  refine pl_P (h := ?_)
  refine pl_P (h := ?_)
  refine pl_S len_nil J Try.func34 (h := fun w11 J => ?_)
  refine pl_P (h := ?_)
  refine pl_P (h := ?_)
  refine pl_P (h := ?_)
  refine pl_P (h := ?_)
  refine pl_P (h := ?_)
  refine pl_P (h := ?_)
  refine pl_P (h := ?_)
  refine pl_B 3 J rfl (h := ?_)
  refine pl_P (h := ?_)
  refine pl_S (hOf _) J Try.func35 (h := fun w12 J => ?_)
  refine pl_P (h := ?_)
  refine pl_P (h := ?_)
  refine pl_P (h := ?_)
  refine pl_P (h := ?_)
  refine pl_P (h := ?_)
  refine pl_P (h := ?_)
  refine pl_P (h := ?_)
  refine pl_P (h := ?_)
  refine pl_P (h := ?_)
  refine pl_P (h := ?_)
  refine pl_P (h := ?_)
  refine pl_P (h := ?_)
  refine pl_P (h := ?_)
  refine pl_P (h := ?_)
  refine pl_P (h := ?_)
  refine pl_P (h := ?_)
  refine pl_S (len_p (l := []) (i := 0) J rfl) J Try.func34 (h := fun w13 J => ?_)
  refine pl_P (h := ?_)
  refine pl_P (h := ?_)
  refine pl_P (h := ?_)
  refine pl_done ?_
  go_wp2
  go_ret
  exact ⟨rfl, J.old⟩
end Go.Proofs.Ythhgcjlgnafdcaa.Pn
end
