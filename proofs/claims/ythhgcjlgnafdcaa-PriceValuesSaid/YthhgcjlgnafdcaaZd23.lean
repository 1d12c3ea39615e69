/- Texts of this seat, put together (Zd23). -/
import Derived.Test.YthhgcjlgnafdcaaZd4
import Derived.Test.YthhgcjlgnafdcaaZd5
import Derived.Test.YthhgcjlgnafdcaaZd18
import Derived.Test.YthhgcjlgnafdcaaZd19
import Derived.Test.YthhgcjlgnafdcaaZd21
import Derived.Test.YthhgcjlgnafdcaaZd22
section
namespace Go.Proofs.Ythhgcjlgnafdcaa.Rr
set_option linter.unusedSimpArgs false
set_option linter.unusedVariables false
open Go Go.RowKit Go.ChangeShapes Go.WideShapes Go.ChangeAt Go.Deep Go.Proofs.YthhgcjlgnafdcaaW.PrintWords Go.Proofs.YthhgcjlgnafdcaaW.PrintMore Go.Proofs.YthhgcjlgnafdcaaW.PrintLast Go.Proofs.Ythhgcjlgnafdcaa.Hd Go.Proofs.Ythhgcjlgnafdcaa.Opn Go.Proofs.Ythhgcjlgnafdcaa.Pp Go.Proofs.Ythhgcjlgnafdcaa.Pq
open Go.Proofs.Ythhgcjlgnafdcaa.Nu (I64 U64 I128 sgn)
structure RA where
  A : Option Addr
  cap : Nat
  l : PR
def RA.val (x : RA) : Value := .slice x.A x.l.length x.cap
structure GoodA (w : World) (x : RA) : Prop where
  cap : x.l.length ≤ x.cap
  rows : CR x.A x.l w
  i64 : ∀ r ∈ x.l, I64 r.2
section
variable {H : Type} {enc : TypeId × Value → H} {P : Program} {w : World} {base : Nat} {sp : Nat → Bool} {held : Bool} {t e : TypeId}
theorem openRow {n : Nat} {cs : List Value} {y : DataW H × List MemPlace} (h : DataW.trod enc Try.prog w base sp held n 71 cs = some y) : ∃ x : ByteArray × Int, krow.K w x cs ∧ I64 x.2 := by
  obtain ⟨m, hl, hf⟩ := trod_flat (flat_of (P := Try.prog) Try.underlying71 (by kernel_rfl)) h
  obtain ⟨v0, y0, e0, t0⟩ := hf 0 _ rfl
  obtain ⟨v1, y1, e1, t1⟩ := hf 1 _ rfl
  obtain ⟨x0, q0, _, _⟩ := DataW.trod_string Try.underlying9 t0
  obtain ⟨x1, q1, _, g1⟩ := DataW.trod_int Try.underlying2 t1
  simp only [List.cons.injEq, and_true] at q0 q1
  subst q0 q1
  refine ⟨(x0, x1), ?_, i64_of g1⟩
  have : cs = encR (x0, x1) := by
    match cs, hl with
    | [a, b], _ =>
      simp at e0 e1
      simp [e0, e1, encR]
  rw [this]
  exact krow_mk w (x0, x1)
set_option maxRecDepth 100000 in
theorem openA {v : Value} {d : DataW H} {ps : List MemPlace} {r : Reach} {b0 : Nat} (hval : Value.okWide Try.prog w r b0 22 v) (h : DataW.Trod enc Try.prog w base sp held 22 v d ps) : ∃ x : RA, v = x.val ∧ GoodA w x := by
  obtain ⟨A, len, cap, rfl⟩ := okWide_slice Try.underlying22 hval
  obtain ⟨l, rfl, hc, hC, hg⟩ := open_sliceK krow (ByteArray.empty, 0) (fun x => I64 x.2) Try.underlying22 (by kernel_rfl) (fun n cs y hy => openRow hy) h
  exact ⟨⟨A, cap, l⟩, rfl, hc, hC, hg⟩
end
end Go.Proofs.Ythhgcjlgnafdcaa.Rr
end
section
namespace Go.Proofs.Ythhgcjlgnafdcaa.Va
set_option linter.unusedSimpArgs false
set_option linter.unusedVariables false
open Go Go.RowKit Go.Proofs.YthhgcjlgnafdcaaW.PrintWords Go.Proofs.YthhgcjlgnafdcaaW.PrintLast Go.Proofs.Ythhgcjlgnafdcaa.Hd Go.Proofs.Ythhgcjlgnafdcaa.Os Go.Proofs.Ythhgcjlgnafdcaa.Tb Go.Proofs.Ythhgcjlgnafdcaa.Tm Go.Proofs.Ythhgcjlgnafdcaa.Px Go.Proofs.Ythhgcjlgnafdcaa.Wv Go.Proofs.Ythhgcjlgnafdcaa.Pp Go.Proofs.Ythhgcjlgnafdcaa.Pq Go.Proofs.Ythhgcjlgnafdcaa.Ps Go.Proofs.Ythhgcjlgnafdcaa.Rp Go.Proofs.Ythhgcjlgnafdcaa.Rw Go.Proofs.Ythhgcjlgnafdcaa.Rv
open Go.Proofs.Ythhgcjlgnafdcaa.Nu (I64 U64 I128 sgn wd)
theorem C_row_back {w : World} {A : Option Addr} {n : Nat} {l : PR} (h : Kd.C k79 w A n (l.map cvR)) : Kd.C krow w A n l := by
  obtain ⟨h1, h2, h3⟩ := h
  rw [List.length_map] at h1
  refine ⟨h1, h2, fun hn => ?_⟩
  obtain ⟨ad, rfl, h4⟩ := h3 hn
  refine ⟨ad, rfl, fun j p hj => ?_⟩
  obtain ⟨cs, hl, hK, hc⟩ := h4 j (cvR p) (by rw [List.getElem?_map, hj]; rfl)
  exact ⟨cs, hl, hK, hc⟩
theorem C_conv_back {w : World} {A : Option Addr} {n : Nat} {l : PR} (h : Kd.C kR w A n (l.map conv)) : Kd.C krow w A n l := by
  obtain ⟨h1, h2, h3⟩ := h
  rw [List.length_map] at h1
  refine ⟨h1, h2, fun hn => ?_⟩
  obtain ⟨ad, rfl, h4⟩ := h3 hn
  refine ⟨ad, rfl, fun j p hj => ?_⟩
  obtain ⟨cs, hl, hK, hc⟩ := h4 j (conv p) (by rw [List.getElem?_map, hj]; rfl)
  exact ⟨cs, hl, hK, hc⟩
theorem rd_conv {l : PR} {i : Nat} (hi : i < l.length) : rd_T71 (l.map conv) (i : Int) = conv l[i] := by
  unfold rd_T71
  rw [Int.toNat_natCast, List.getD_eq_getElem?_getD, List.getElem?_map, List.getElem?_eq_getElem hi]
  rfl
theorem to_l0 {l : PR} {hi lo : Int} : ∀ n i, i + n = (l.take 30).length → En.Ends (fun k => clevislaw17_To.l0 k (i : Nat) (l.map conv) hi lo ((l.take i).map cvR) hi lo) ((l.take 30).map cvR, hi, lo) := by
  intro n
  induction n with
  | zero =>
    intro i hi
    have e : l.take i = l.take 30 := by
      rw [List.length_take] at hi
      rcases Nat.le_total l.length 30 with h | h
      · rw [List.take_of_length_le h, List.take_of_length_le (by omega)]
      · rw [show i = 30 by omega]
    rw [e]
    refine En.Ends.now 0 fun k _ => ?_
    simp only [clevislaw17_To.l0, List.length_map]
    rw [List.length_take] at hi
    by_cases h : (i : Int) < (l.length : Int)
    · rw [if_pos h, if_neg (by omega)]
    · rw [if_neg h]
  | succ n ih =>
    intro i hi
    rw [List.length_take] at hi
    have h1 : i < l.length := by omega
    have h2 : (l.take (i + 1)).map cvR = (l.take i).map cvR ++ [cvR l[i]] := by
      rw [List.take_succ_eq_append_getElem h1, List.map_append]
      rfl
    have h3 := ih (i + 1) (by rw [List.length_take]; omega)
    rw [h2] at h3
    refine En.Ends.step 0 h3 fun k _ => ?_
    simp only [clevislaw17_To.l0, List.length_map]
    rw [if_pos (by omega), if_pos (by omega), if_pos (by omega), if_pos (by rw [List.length_take]; omega), rd_conv h1, En.wrap_succ (by omega)]
    rfl
theorem of_l0 {l : PR} {hi lo : Int} (hl : l.length ≤ 1000) : ∀ n i, i + n = l.length → En.Ends (fun k => clevislaw17_Of.l0 k (i : Nat) (l.map cvR) hi lo ((l.take i).map conv) hi lo) (l.map conv, hi, lo) := by
  intro n
  induction n with
  | zero =>
    intro i hi
    rw [List.take_of_length_le (by omega)]
    refine En.Ends.now 0 fun k _ => ?_
    simp only [clevislaw17_Of.l0, List.length_map]
    rw [if_neg (by omega)]
  | succ n ih =>
    intro i hi
    have h1 : i < l.length := by omega
    have h2 : (l.take (i + 1)).map conv = (l.take i).map conv ++ [conv l[i]] := by
      rw [List.take_succ_eq_append_getElem h1, List.map_append]
      rfl
    have h3 := ih (i + 1) (by omega)
    rw [h2] at h3
    refine En.Ends.step 0 h3 fun k _ => ?_
    simp only [clevislaw17_Of.l0, List.length_map]
    rw [if_pos (by omega), if_pos (by omega), if_pos (by rw [List.length_take]; omega), rd_row h1, En.wrap_succ (by omega)]
    rfl
theorem empty_size (s : ByteArray) : s.toList.isEmpty = decide ((s.size : Int) = 0) := by
  have e : s.toList.length = s.size := by
    rw [ByteArray.toList_eq]
    rfl
  rw [Bool.eq_iff_iff, List.isEmpty_iff_length_eq_zero, decide_eq_true_eq]
  omega
theorem right_l0 {l : PR} {hi lo : Int} (hl : l.length ≤ 1000) : ∀ n i, i + n = l.length → En.Ends (fun k => clevisref17_Right.l0 k (i : Nat) (l.map conv) hi lo) (sortedB (l.drop (i - 1)) && !(l.drop i).any badR) := by
  intro n
  induction n with
  | zero =>
    intro i hi
    have e : sortedB (l.drop (i - 1)) = true := by
      rcases Nat.eq_zero_or_pos i with h | h
      · subst h
        rw [List.eq_nil_of_length_eq_zero (show l.length = 0 by omega)]
        rfl
      · have h1 : i - 1 < l.length := by omega
        rw [List.drop_eq_getElem_cons h1, List.drop_of_length_le (by omega)]
        rfl
    rw [e, List.drop_of_length_le (by omega)]
    refine En.Ends.now 0 fun k _ => ?_
    simp only [clevisref17_Right.l0, List.length_map]
    rw [if_neg (by omega)]
    rfl
  | succ n ih =>
    intro i hi
    have h1 : i < l.length := by omega
    have e1 : (l.drop i).any badR = (badR l[i] || (l.drop (i + 1)).any badR) := by rw [List.drop_eq_getElem_cons h1, List.any_cons]
    have h3 := ih (i + 1) (by omega)
    have hb : badR l[i] = (l[i].2 == 0 || decide ((l[i].1.size : Int) = 0)) := by unfold badR; rw [empty_size]
    rw [Nat.add_sub_cancel] at h3
    rw [e1]
    by_cases c1 : l[i].2 = 0
    · have : badR l[i] = true := by rw [hb, c1]; rfl
      rw [this, Bool.true_or, Bool.not_true, Bool.and_false]
      refine En.Ends.now 0 fun k _ => ?_
      simp only [clevisref17_Right.l0, List.length_map]
      rw [if_pos (by omega), if_pos (by omega), rd_conv h1, if_pos (show (conv l[i]).f1 = 0 from c1)]
    by_cases c2 : (l[i].1.size : Int) = 0
    · have : badR l[i] = true := by rw [hb, decide_eq_true c2, Bool.or_true]
      rw [this, Bool.true_or, Bool.not_true, Bool.and_false]
      refine En.Ends.now 0 fun k _ => ?_
      simp only [clevisref17_Right.l0, List.length_map]
      rw [if_pos (by omega), if_pos (by omega), rd_conv h1, if_neg (show ¬ (conv l[i]).f1 = 0 from c1), if_pos (show ((conv l[i]).f0.size : Int) = 0 from c2)]
    have hb0 : badR l[i] = false := by rw [hb, decide_eq_false c2, Bool.or_false]; simpa using c1
    rw [hb0, Bool.false_or]
    rcases Nat.eq_zero_or_pos i with h | h
    · subst h
      refine En.Ends.step 0 h3 fun k _ => ?_
      simp only [clevisref17_Right.l0, List.length_map]
      rw [if_pos (by omega), if_pos (by omega), rd_conv h1, if_neg (show ¬ (conv l[0]).f1 = 0 from c1), if_neg (show ¬ ((conv l[0]).f0.size : Int) = 0 from c2), if_neg (by omega), En.wrap_succ (by omega)]
    · obtain ⟨i, rfl⟩ : ∃ m, i = m + 1 := ⟨i - 1, by omega⟩
      have h0 : i < l.length := by omega
      have e2 : sortedB (l.drop i) = (decide (cmpS l[i].1 l[i + 1].1 = -1) && sortedB (l.drop (i + 1))) := by
        rw [List.drop_eq_getElem_cons h0, List.drop_eq_getElem_cons h1, sortedB]
      rw [Nat.add_sub_cancel, e2]
      by_cases hc : cmpS l[i].1 l[i + 1].1 = -1
      · rw [decide_eq_true hc, Bool.true_and]
        refine En.Ends.step 0 h3 fun k _ => ?_
        simp only [clevisref17_Right.l0, List.length_map]
        rw [En.wrap_pred (by omega), if_pos (by omega), if_pos (by omega), rd_conv h1, if_neg (show ¬ (conv l[i + 1]).f1 = 0 from c1), if_neg (show ¬ ((conv l[i + 1]).f0.size : Int) = 0 from c2), if_pos (by omega), if_pos (by omega), if_pos (by omega), rd_conv h0, if_pos (show Op.bytesLess (conv l[i]).f0.toList (conv l[i + 1]).f0.toList = true from En.less_iff.2 hc), En.wrap_succ (by omega)]
      · rw [decide_eq_false hc, Bool.false_and, Bool.false_and]
        refine En.Ends.now 0 fun k _ => ?_
        simp only [clevisref17_Right.l0, List.length_map]
        rw [En.wrap_pred (by omega), if_pos (by omega), if_pos (by omega), rd_conv h1, if_neg (show ¬ (conv l[i + 1]).f1 = 0 from c1), if_neg (show ¬ ((conv l[i + 1]).f0.size : Int) = 0 from c2), if_pos (by omega), if_pos (by omega), if_pos (by omega), rd_conv h0, if_neg (show ¬ Op.bytesLess (conv l[i]).f0.toList (conv l[i + 1]).f0.toList = true from fun q => hc (En.less_iff.1 q))]
section
variable {w : World} {A : Option Addr} {l : PR} {c : Nat} {hi lo : Int}
theorem rright_c (H : CR A l w) (hc : l.length ≤ c) (hl : l.length ≤ 1000) : Tells Try.prog 24 #[.agg #[.slice A l.length c, .int .i64 hi, .int .u64 lo]] w (.bool (rightB l)) := by
  obtain ⟨K, hK⟩ := right_l0 (hi := hi) (lo := lo) hl l.length 0 (by omega)
  have h := clevisref17_Right.calls K A c (l.map conv) hi lo _ w (by rw [List.length_map]; exact C_conv H) (by rw [List.length_map]; exact hc) (hK K (Nat.le_refl _))
  rw [List.length_map] at h
  exact h
def HoldV (l : PR) (hi lo : Int) (v : Value) (W : World) : Prop := ∃ A c, v = .agg #[.slice A l.length c, .int .i64 hi, .int .u64 lo] ∧ l.length ≤ c ∧ CR A l W
theorem to_c (H : CR A l w) (hc : l.length ≤ c) : Gives Try.prog 19 #[.agg #[.slice A l.length c, .int .i64 hi, .int .u64 lo]] w (HoldV (l.take 30) hi lo) := by
  obtain ⟨K, hK⟩ := to_l0 (l := l) (hi := hi) (lo := lo) (l.take 30).length 0 (by omega)
  have h := clevislaw17_To.calls K A c (l.map conv) hi lo _ _ _ w (by rw [List.length_map]; exact C_conv H) (by rw [List.length_map]; exact hc) (hK K (Nat.le_refl _))
  rw [List.length_map] at h
  refine h.mono ?_
  rintro e w' ⟨v, rfl, hR, hb⟩
  refine ⟨_, rfl, hb, fun k hk => hk.2, fun W hW => ?_⟩
  obtain ⟨A, c, rfl, hc, hC⟩ := Kd.R_reads (Kd.R_move (w1 := W) (Kd.R_bound hR) fun k hk => hW k ⟨hk.2.1, hk.2.2.1⟩)
  rw [List.length_map] at hc hC
  exact ⟨A, c, by rw [List.length_map], hc, C_row_back hC⟩
theorem of17_c (H : CR A l w) (hc : l.length ≤ c) (hl : l.length ≤ 1000) : Gives Try.prog 25 #[.agg #[.slice A l.length c, .int .i64 hi, .int .u64 lo]] w (HoldV l hi lo) := by
  obtain ⟨K, hK⟩ := of_l0 (l := l) (hi := hi) (lo := lo) hl l.length 0 (by omega)
  have h := clevislaw17_Of.calls K A c (l.map cvR) hi lo _ _ _ w (by rw [List.length_map]; exact C_row H) (by rw [List.length_map]; exact hc) (hK K (Nat.le_refl _))
  rw [List.length_map] at h
  refine h.mono ?_
  rintro e w' ⟨v, rfl, hR, hb⟩
  refine ⟨_, rfl, hb, fun k hk => hk.2, fun W hW => ?_⟩
  obtain ⟨A, c, rfl, hc, hC⟩ := Kd.R_reads (Kd.R_move (w1 := W) (Kd.R_bound hR) fun k hk => hW k ⟨hk.2.1, hk.2.2.1⟩)
  rw [List.length_map] at hc hC
  exact ⟨A, c, by rw [List.length_map], hc, C_conv_back hC⟩
theorem hold_open {ok : Nat → Prop} {v : Value} (h : Held w ok (HoldV l hi lo v)) : ∃ A c, v = .agg #[.slice A l.length c, .int .i64 hi, .int .u64 lo] ∧ l.length ≤ c ∧ Held w ok (CR A l) := by
  obtain ⟨A, c, rfl, hc, hC⟩ := h.now
  refine ⟨A, c, rfl, hc, h.imp fun W hW => ?_⟩
  obtain ⟨A', c', e, _, hC'⟩ := hW
  injection e with e
  have e2 := congrArg (fun x : Array Value => x[0]?) e
  simp at e2
  rw [e2.1]
  exact hC'
end
end Go.Proofs.Ythhgcjlgnafdcaa.Va
end
section
namespace Go.Proofs.Ythhgcjlgnafdcaa.Vb
set_option linter.unusedSimpArgs false
set_option linter.unusedVariables false
open Go Go.RowKit Go.Proofs.YthhgcjlgnafdcaaW.PrintWords Go.Proofs.YthhgcjlgnafdcaaW.PrintLast Go.Proofs.Ythhgcjlgnafdcaa.Hd Go.Proofs.Ythhgcjlgnafdcaa.Os Go.Proofs.Ythhgcjlgnafdcaa.Tb Go.Proofs.Ythhgcjlgnafdcaa.Tm Go.Proofs.Ythhgcjlgnafdcaa.Px Go.Proofs.Ythhgcjlgnafdcaa.Wv Go.Proofs.Ythhgcjlgnafdcaa.Pp Go.Proofs.Ythhgcjlgnafdcaa.Pq Go.Proofs.Ythhgcjlgnafdcaa.Ps Go.Proofs.Ythhgcjlgnafdcaa.Rp Go.Proofs.Ythhgcjlgnafdcaa.Rw Go.Proofs.Ythhgcjlgnafdcaa.Rv Go.Proofs.Ythhgcjlgnafdcaa.Va
open Go.Proofs.Ythhgcjlgnafdcaa.Nu (I64 U64 I128 sgn wd num Num num_open num_mk Cs dig neg dig_zero dig_len cmp_c num_c fits128_c narrow_c mul_c add_c wide_c)
theorem wd_hl (v : Int) : wd (hiW v) (loW v) = v := by unfold hiW loW wd; omega
theorem dig_128 {x : Int} (h : I128 x) : (dig x).length ≤ 9 := by
  refine dig_len ?_
  rw [Nu.B_succ, Nu.B8]
  unfold I128 at h
  omega
theorem sgn_self (x : Int) : sgn x x = 0 := by unfold sgn; rw [if_neg (by omega), if_neg (by omega)]
section
variable {w0 w : World} {L : List F2} {A : Option Addr} {c : Nat} {x : Int} {ok : Nat → Prop}
set_option maxRecDepth 100000 in
set_option maxHeartbeats 4000000 in
theorem told_c {V E : Int} {pr : Bool} (h : Held w ok (Cs A (dig x))) (hc : (dig x).length ≤ c) (hl : (dig x).length ≤ 1000) (h0 : pr = false → V = 0 ∧ E = 15) (h1 : pr = true → V = cut128 x ∧ E = er128 x) :
    Tells Try.prog 23 #[wv V, .int .i64 E, num x A c, .bool pr] w (.bool true) := by
  unfold Tells
  have hu := Try.underlying43
  have H := (((All.start w).arg h).box w.heap.size 43 #[.int .i64 (hiW V), .int .u64 (loW V)]).box (w.heap.size + 1) 52 #[.bool (neg x), .slice A (dig x).length c]
  have hf := fun (w1 : World) (h1 : Held w1 ok (Cs A (dig x))) => fits128_c h1 hc (by omega)
  unfold num at hf
  unfold num
  cases pr with
  | false =>
    obtain ⟨rfl, rfl⟩ := h0 rfl
    have e0 : hiW 0 = 0 ∧ loW 0 = 0 := ⟨rfl, rfl⟩
    rw [e0.1, e0.2] at H
    rw [wv_zero]
    have r0 := H.rd 1 rfl
    clear hf h0 h1
    go_enter Try.func23, Try.ntmps23
    go_wp2
    go_ret
    exact ⟨rfl, H.old⟩
  | true =>
    obtain ⟨e1, e2⟩ := h1 rfl
    clear h0 h1
    by_cases hI : I128 x
    · obtain rfl : V = x := by rw [e1]; exact if_pos hI
      obtain rfl : E = 0 := by rw [e2]; exact if_pos hI
      simp only [show ∀ i : Decidable (I128 V), @decide (I128 V) i = true from fun i => decide_eq_true hI] at hf
      have r0 := H.rd 0 rfl
      have hn := fun w1 => num_c (w := w1) (hi_I64 hI) (lo_U64 V)
      rw [wd_hl] at hn
      clear e1 e2
      go_enter Try.func23, Try.ntmps23
      go_wp2_with fail
      refine (hf _ (H.get 2 rfl)).on H fun w1 H1 => ?_
      clear H hf r0
      go_wp2_with fail
      refine plan_ (true, [([], []), ([0], [0]), ([1], [1]), ([2], [2]), ([3, 2, 2], [2, 3]), ([2], [2]), ([4, 5, 4, 2], [2, 4, 5]), ([6, 2], [2, 6]), ([2, 7], [2, 7]), ([8, 6, 0, 1, 2, 3, 4, 5, 6, 7, 8], [8])]) [.p 0, .p 1, .p 2, .t 3, .t 5, .c 4, .c 6, .p 7, .p 8, .p 9] H1 (by kernel_rfl) (by kernel_rfl) rfl rfl (by kernel_rfl) (by intro c a w d v h; cases d <;> exact h) (fun w2 H2 => ?_)
      refine pl_P (h := ?_)
      refine pl_P (h := ?_)
      refine pl_P (h := ?_)
      refine pl_B 1 H2 rfl (h := ?_)
      refine pl_B 0 H2 rfl (h := ?_)
      refine pl_G (hn _) H2 Try.func51 (h := fun v w3 H3 z3 => ?_)
      obtain ⟨A1, c1, rfl, hc1, hh⟩ := num_open (H3.get 0 rfl)
      have H4 := H3.turn 0 rfl hh
      have hcm := cmp_c (H4.get 0 rfl) hc1 (H4.get 3 rfl) hc (by omega) (by omega)
      rw [sgn_self] at hcm
      refine pl_S hcm H4 Try.func50 (h := fun w4 H5 => ?_)
      refine pl_P (h := ?_)
      refine pl_P (h := ?_)
      refine pl_P (h := ?_)
      refine pl_done ?_
      go_wp2
      go_ret
      exact ⟨rfl, H5.old⟩
    · obtain rfl : V = 0 := by rw [e1]; exact if_neg hI
      obtain rfl : E = 4 := by rw [e2]; exact if_neg hI
      simp only [show ∀ i : Decidable (I128 x), @decide (I128 x) i = false from fun i => decide_eq_false hI] at hf
      have e0 : hiW 0 = 0 ∧ loW 0 = 0 := ⟨rfl, rfl⟩
      rw [e0.1, e0.2] at H
      rw [wv_zero]
      have r0 := H.rd 0 rfl
      clear e1 e2
      go_enter Try.func23, Try.ntmps23
      go_wp2_with fail
      refine (hf _ (H.get 2 rfl)).on H fun w1 H1 => ?_
      have r1 := H1.rd 1 rfl
      clear H hf r0
      go_wp2
      go_ret
      exact ⟨rfl, H1.old⟩
theorem worth_le {l : PR} (ho : OkP l) : ∀ {rs : PR}, (∀ r ∈ rs, I64 r.2) → (worth l rs).natAbs ≤ rs.length * 19807040628566084398385987584
  | [], _ => by simp [worth]
  | r :: rs, hg => by
    have h1 := worth_le ho (rs := rs) fun y hy => hg y (by simp [hy])
    have e : worth l (r :: rs) = r.2 * getV l r.1 + worth l rs := by simp [worth]
    have hx := hg r (by simp)
    have hy := getV_rng ho r.1
    have h2 : (r.2 * getV l r.1).natAbs ≤ 9223372036854775808 * 2147483648 := by
      rw [Int.natAbs_mul]
      apply Nat.mul_le_mul
      · unfold I64 at hx; omega
      · omega
    rw [e, List.length_cons, Nat.add_mul]
    have := Int.natAbs_add_le (r.2 * getV l r.1) (worth l rs)
    omega
theorem worth_dig {l : PR} (ho : OkP l) {rs : PR} (hg : ∀ r ∈ rs, I64 r.2) (hl : rs.length ≤ 1000) : (dig (worth l rs)).length ≤ 9 := by
  refine dig_len ?_
  rw [Nu.B_succ, Nu.B8]
  have := worth_le ho hg
  have h2 : rs.length * 19807040628566084398385987584 ≤ 1000 * 19807040628566084398385987584 := Nat.mul_le_mul_right _ hl
  omega
set_option maxRecDepth 100000 in
set_option maxHeartbeats 4000000 in
theorem rworth_c {d q ci : Nat} {Ar : Option Addr} {l rs : PR} (H : All w0 w (bx d 68 #[.slice A l.length c] :: owR w0.heap.size A l c :: L)) (hq : L[q]? = some (ok, CR Ar rs)) (ho : OkP l) (hl : rs.length ≤ 1000) (hg : ∀ r ∈ rs, I64 r.2) :
    Calls Try.prog 22 #[.pointer (some ⟨d, 0, none⟩), .slice Ar rs.length ci] w fun e w' => ∃ x A1 c1, e = .returned (.tuple #[num x A1 c1, .bool (priced l rs)]) ∧ (priced l rs = true → x = worth l rs) ∧ (dig x).length ≤ c1 ∧ (dig x).length ≤ 9 ∧ ∃ ok1,
      All w0 w' ((ok1, Cs A1 (dig x)) :: bx d 68 #[.slice A l.length c] :: owR w0.heap.size A l c :: L) := by
  have hb := H.old.size
  have H0 := ((H.put (ok := fun _ => False) (T := Cs none (dig 0)) ⟨(fun k h => h.elim), fun W _ => by rw [dig_zero]; exact Kd.C_nil _ W⟩ (fun _ _ _ h => h.elim)).box w.heap.size 52 #[.bool false, .slice none 0 0]).box (w.heap.size + 1) 52 #[.bool false, .slice none 0 0]
  have hll := Nat.le_trans ho.len (show 32 ≤ 1000 by decide)
  obtain ⟨PB, hPB⟩ : ∃ b, priced l rs = b := ⟨_, rfl⟩
  rw [hPB]
  replace hPB := Aside0.mk hPB
  replace hg := Aside0.mk hg
  clear H
  go_enter Try.func22, Try.ntmps22
  go_wp2_with fail
  go_loopg [7] rs.length (fun kx s7 wr => ∃ (i : Nat) (x : Int) (A1 : Option Addr) (c1 : Nat) (ok1 : Nat → Prop), s7 = .int .i64 (i : Int) ∧ i ≤ rs.length ∧ rs.length - i ≤ kx ∧ Aside0 (x = worth l (rs.take i) ∧ priced l (rs.take i) = true ∧ (dig x).length ≤ c1) ∧
    All w0 wr (bx (w.heap.size + 1) 52 #[.bool (neg x), .slice A1 (dig x).length c1] :: bx w.heap.size 52 #[.bool false, .slice none 0 0] :: (ok1, Cs A1 (dig x)) :: bx d 68 #[.slice A l.length c] :: owR w0.heap.size A l c :: L))
  case atStart => exact ⟨0, 0, none, 0, _, rfl, Nat.zero_le _, by omega, ⟨rfl, rfl, by rw [dig_zero]; exact Nat.le_refl _⟩, by rw [show (dig 0).length = 0 by rw [dig_zero]; rfl]; exact H0⟩
  case round =>
    clear H0
    obtain ⟨i, x, A1, c1, ok1, rfl, hil, hik, hk, H⟩ := hrel
    have hxl : Aside0 ((dig x).length ≤ 9) := ⟨by
      rw [hk.out.1]
      exact worth_dig ho (fun r hr => hg.out r (List.mem_of_mem_take hr)) (by rw [List.length_take]; omega)⟩
    by_cases hlt : i < rs.length
    · have hli : (i : Int) < (rs.length : Int) := Int.ofNat_lt.2 hlt
      obtain ⟨ad, rfl, hc0, hc1⟩ := at_krow (H.at (q + 5) hq) hlt
      have hcc : ∀ W, All w0 W (bx (w.heap.size + 1) 52 #[.bool (neg x), .slice A1 (dig x).length c1] :: bx w.heap.size 52 #[.bool false, .slice none 0 0] :: (ok1, Cs A1 (dig x)) :: bx d 68 #[.slice A l.length c] :: owR w0.heap.size A l c :: L) → W.cell? (ad.add (i * 2)) = some (.string rs[i].1) ∧ W.cell? ⟨(ad.add (i * 2)).block, (ad.add (i * 2)).off + 1, none⟩ = some (.int .i64 rs[i].2) := fun W hW => by
        obtain ⟨ad', e, q0, q1⟩ := at_krow (hW.at (q + 5) hq) hlt
        cases e
        exact ⟨q0, q1⟩
      obtain ⟨r, hr⟩ : ∃ r, rs[i] = r := ⟨_, rfl⟩
      have hr2 : I64 r.2 := hg.out r (by rw [← hr]; exact List.getElem_mem hlt)
      have hpr : priced l (rs.take (i + 1)) = has cmpS l r.1 := by
        have := hk.out.2.1
        unfold priced at this ⊢
        rw [List.take_succ_eq_append_getElem hlt, List.all_append, this, Bool.true_and, hr]
        simp
      have hwt : worth l (rs.take (i + 1)) = x + r.2 * getV l r.1 := by
        rw [List.take_succ_eq_append_getElem hlt, hk.out.1, hr]
        unfold worth
        rw [List.map_append, List.sum_append]
        simp
      have hbad : has cmpS l r.1 = false → priced l rs = false := fun h => by
        cases hp : priced l rs with
        | false => rfl
        | true =>
          have : r ∈ rs := by rw [← hr]; exact List.getElem_mem hlt
          have := List.all_eq_true.1 hp r this
          rw [h] at this
          cases this
      rw [hr] at hc0 hc1 hcc
      have hgr := getV_rng ho r.1
      have hrg := fun W (hW : All w0 W (bx (w.heap.size + 1) 52 #[.bool (neg x), .slice A1 (dig x).length c1] :: bx w.heap.size 52 #[.bool false, .slice none 0 0] :: (ok1, Cs A1 (dig x)) :: bx d 68 #[.slice A l.length c] :: owR w0.heap.size A l c :: L)) => rget_c (hW.drop 3) hll r.1
      have hl2 : (dig (x + r.2 * getV l r.1)).length ≤ 9 := by
        rw [← hwt]
        exact worth_dig ho (fun r hr => hg.out r (List.mem_of_mem_take hr)) (by rw [List.length_take]; omega)
      obtain ⟨s, n⟩ := r
      simp only at hc0 hc1 hcc hr2 hpr hwt hbad hgr hrg hl2
      unfold rgetV at hrg
      generalize getV l s = gv at *
      replace hcc := Aside0.mk hcc
      have hcx := Aside0.mk hk.out.2.2
      clear hr
      cases hh : has cmpS l s with
      | true =>
        rw [hh] at hpr
        simp only [hh, if_true] at hrg
        have d0 : decide (gv < 0) = false := decide_eq_false (by omega)
        have hgI : I64 gv := by unfold I64; omega
        have hm128 := mul_128 hr2 hgr
        have hk2 := Aside0.mk (And.intro hwt hpr)
        clear hbad hh hk hgr hwt hpr hc1
        go_wp2_with fail
        refine (hrg _ H).on H fun w1 H1 => ?_
        clear H hrg hc0
        go_wp2_with fail
        refine planD_ [11] (true, [([], []), ([], []), ([], []), ([1, 2], [1, 2]), ([3], [3]), ([4], [4]), ([5], [5]), ([], []), ([7, 6], [7]), ([6, 8, 8], [6, 8]), ([0, 9, 9], [0, 9]), ([10, 10, 0, 1, 2, 3, 4, 5, 6, 7, 8, 9, 10], [10])]) [.t 0, .p 1, .p 2, .p 3, .p 4, .t 5, .p 7, .c 6, .c 8, .c 9, .c 10, .l 11] H1 (by kernel_rfl) (by kernel_rfl) rfl rfl (by kernel_rfl) (by intro c a w d v h; cases d <;> exact h) (fun w2 H2 => ?_)
        refine pl_B 0 H2 rfl (h := ?_)
        refine pl_P (h := ?_)
        refine pl_P (h := ?_)
        refine pl_P (h := ?_)
        refine pl_P (h := ?_)
        refine pl_C H2 (fun W hW => (hcc.out W hW).2) (h := ?_)
        refine pl_P (h := ?_)
        refine pl_G (narrow_c hr2) H2 Try.func67 (h := fun v w3 H3 z3 => ?_)
        obtain ⟨An, cn, rfl, hcn, hn⟩ := num_open (H3.get 0 rfl)
        have H4 := H3.turn 0 rfl hn
        refine pl_G (narrow_c hgI) H4 Try.func67 (h := fun v w4 H5 z4 => ?_)
        obtain ⟨Ag, cg, rfl, hcg, hgn⟩ := num_open (H5.get 0 rfl)
        have H6 := H5.turn 0 rfl hgn
        have l1 := dig_128 (i128_64 hr2)
        have l2 := dig_128 (i128_64 hgI)
        refine pl_G (mul_c (H6.get 1 rfl) hcn (H6.get 0 rfl) hcg (Nat.le_trans l1 (by decide)) (Nat.le_trans l2 (by decide))) H6 Try.func66 (h := fun v w5 H7 z5 => ?_)
        obtain ⟨Am, cm, rfl, hcm, hm⟩ := num_open (H7.get 0 rfl)
        have H8 := H7.turn 0 rfl hm
        have l3 : (dig (n * gv)).length ≤ 9 := dig_128 hm128
        refine pl_G (add_c (H8.get 5 rfl) hcx.out (H8.get 0 rfl) hcm (Nat.le_trans hxl.out (by decide)) (Nat.le_trans l3 (by decide))) H8 Try.func65 (h := fun v w6 H9 z6 => ?_)
        obtain ⟨Aa, ca, rfl, hca, haa⟩ := num_open (H9.get 0 rfl)
        have H10 := H9.turn 0 rfl haa
        refine pl_WRL 4 #[.bool (neg (x + n * gv)), .slice Aa (dig (x + n * gv)).length ca] H10 rfl (by omega) (fun H11 => ?_) (by kernel_rfl) rfl
        refine pl_done ?_
        go_wp2_with fail
        go_roundg (rs.length - (i + 1))
        case measure => exact En.meas hik hlt
        case rel => exact ⟨i + 1, x + n * gv, Aa, ca, _, rfl, hlt, Nat.le_refl _, ⟨hk2.out.1.symm, hk2.out.2, hca⟩, ((((H11.cut 1).cut 1).cut 1).cut 3).front 2 rfl |>.front 2 rfl⟩
      | false =>
        obtain rfl : false = PB := by rw [← hPB.out]; exact (hbad hh).symm
        simp only [hh, Bool.false_eq_true, if_false] at hrg
        have hxc := hk.out.2.2
        clear hbad hh hk hgr hwt hpr hc1 hl2 hcc hr2
        go_wp2_with fail
        refine (hrg _ H).on H fun w1 H1 => ?_
        have r0 := H1.rd 0 rfl
        have f1 := H1.fz 1 rfl
        have r1 := H1.rd 1 rfl
        have H2 := (H1.set 1 rfl 0 (.bool (neg x)) hb).set 1 rfl 1 (.slice A1 (dig x).length c1) hb
        clear H hrg hc0
        go_wp2_with fail
        refine H2.ret2 1 rfl rfl rfl rfl Try.underlying52 rfl (by kernel_rfl) rfl ⟨x, A1, c1, rfl, (fun h => by cases h), hxc, hxl.out, ok1, H2.drop 2⟩
    · obtain rfl : i = rs.length := Nat.le_antisymm hil (Nat.le_of_not_lt hlt)
      have hk2 := hk.out
      rw [List.take_length] at hk2
      obtain rfl : true = PB := by rw [← hPB.out]; exact hk2.2.1.symm
      have r0 := H.rd 0 rfl
      have f1 := H.fz 1 rfl
      have r1 := H.rd 1 rfl
      have H2 := (H.set 1 rfl 0 (.bool (neg x)) hb).set 1 rfl 1 (.slice A1 (dig x).length c1) hb
      obtain ⟨k1, k2, k3⟩ := hk2
      replace k1 := Aside0.mk k1
      clear H hk k2
      go_wp2_with fail
      refine H2.ret2 1 rfl rfl rfl rfl Try.underlying52 rfl (by kernel_rfl) rfl ⟨x, A1, c1, rfl, k1.out, k3, hxl.out, ok1, H2.drop 2⟩
end
end Go.Proofs.Ythhgcjlgnafdcaa.Vb
end
section
namespace Go.Proofs.Ythhgcjlgnafdcaa.Vc
set_option linter.unusedSimpArgs false
set_option linter.unusedVariables false
open Go Go.RowKit Go.ChangeShapes Go.WideShapes Go.ChangeAt Go.Deep Go.Proofs.YthhgcjlgnafdcaaW.PrintWords Go.Proofs.YthhgcjlgnafdcaaW.PrintMore Go.Proofs.YthhgcjlgnafdcaaW.PrintLast Go.Proofs.Ythhgcjlgnafdcaa.Hd Go.Proofs.Ythhgcjlgnafdcaa.Opn Go.Proofs.Ythhgcjlgnafdcaa.Tb Go.Proofs.Ythhgcjlgnafdcaa.Os Go.Proofs.Ythhgcjlgnafdcaa.Tm Go.Proofs.Ythhgcjlgnafdcaa.Px Go.Proofs.Ythhgcjlgnafdcaa.Wv Go.Proofs.Ythhgcjlgnafdcaa.Pp Go.Proofs.Ythhgcjlgnafdcaa.Pq Go.Proofs.Ythhgcjlgnafdcaa.Ps Go.Proofs.Ythhgcjlgnafdcaa.Pk Go.Proofs.Ythhgcjlgnafdcaa.Rp Go.Proofs.Ythhgcjlgnafdcaa.Ro Go.Proofs.Ythhgcjlgnafdcaa.Rw Go.Proofs.Ythhgcjlgnafdcaa.Rr Go.Proofs.Ythhgcjlgnafdcaa.Rv Go.Proofs.Ythhgcjlgnafdcaa.Va Go.Proofs.Ythhgcjlgnafdcaa.Vb
open Go.Proofs.Ythhgcjlgnafdcaa.Nu (I64 U64 I128 sgn wd num Num num_open num_mk Cs dig neg dig_zero dig_len cmp_c num_c fits128_c narrow_c mul_c add_c wide_c)
theorem sum_dig {x y : Int} (hx : (dig x).length ≤ 9) (hy : (dig y).length ≤ 9) : (dig (x + y)).length ≤ 10 := by
  have h1 := Nu.V_lt (Nu.dig_nm x).1
  have h2 := Nu.V_lt (Nu.dig_nm y).1
  rw [(Nu.dig_nm x).2.2] at h1
  rw [(Nu.dig_nm y).2.2] at h2
  have b1 := Nu.B_mono hx
  have b2 := Nu.B_mono hy
  refine dig_len ?_
  have e : Nu.B 10 = 65536 * Nu.B 9 := Nu.B_succ 9
  have := Int.natAbs_add_le x y
  have := Nu.B_pos 9
  omega
section
variable {w0 w : World} {L : List F2} {A : Option Addr} {c : Nat} {ok : Nat → Prop}
set_option maxRecDepth 100000 in
set_option maxHeartbeats 4000000 in
theorem rvalue_c {d q ci : Nat} {Ar : Option Addr} {l rs : PR} {x : Int} (H : All w0 w (bx d 68 #[.slice A l.length c] :: owR w0.heap.size A l c :: L)) (hq : L[q]? = some (ok, CR Ar rs)) (ho : OkP l) (hl : rs.length ≤ 1000) (hg : ∀ r ∈ rs, I64 r.2) (hx : I128 x) :
    Calls Try.prog 26 #[.pointer (some ⟨d, 0, none⟩), .agg #[.slice Ar rs.length ci, .int .i64 (hiW x), .int .u64 (loW x)]] w fun e w' => ∃ y A1 c1, e = .returned (.tuple #[num y A1 c1, .bool (priced l rs)]) ∧ (priced l rs = true → y = worth l rs + x) ∧ (dig y).length ≤ c1 ∧ (dig y).length ≤ 10 ∧ ∃ ok1,
      All w0 w' ((ok1, Cs A1 (dig y)) :: bx d 68 #[.slice A l.length c] :: owR w0.heap.size A l c :: L) := by
  have hb := H.old.size
  have H0 := ((H.box w.heap.size 41 #[.slice Ar rs.length ci, .int .i64 (hiW x), .int .u64 (loW x)]).box (w.heap.size + 1) 52 #[.bool false, .slice none 0 0])
  have H0 : All w0 _ (bx d 68 #[.slice A l.length c] :: owR w0.heap.size A l c :: bx (w.heap.size + 1) 52 #[.bool false, .slice none 0 0] :: bx w.heap.size 41 #[.slice Ar rs.length ci, .int .i64 (hiW x), .int .u64 (loW x)] :: L) := (H0.front 3 rfl).front 3 rfl
  have hw := rworth_c (q := q + 2) (ci := ci) H0 hq ho hl hg
  have r0 := H0.rd 3 rfl
  have hwi := fun W => wide_c (w := W) (hi_I64 hx) (lo_U64 x)
  rw [wd_hl] at hwi
  have hxl := dig_128 hx
  generalize priced l rs = pb at *
  clear H
  go_enter Try.func26, Try.ntmps26
  go_wp2_with fail
  refine hw.mono ?_
  rintro e w1 ⟨X, A1, c1, rfl, hX, hc1, hX9, ok1, H1⟩
  have H2 := H1.box w1.heap.size 52 #[.bool (neg X), .slice A1 (dig X).length c1]
  replace hX := Aside0.mk hX
  clear H0 H1 hw r0
  go_wp2_with fail
  refine planD_ [8] (true, [([], []), ([], []), ([1], [1]), ([], []), ([3], [3]), ([2, 4], [2, 4]), ([0, 5, 5], [0, 5]), ([], []), ([6, 6, 0, 1, 2, 3, 4, 5, 6], [6]), ([7, 8, 0, 1, 2, 3, 4, 5, 6, 7, 8], [7])]) [.t 0, .p 1, .t 2, .p 3, .t 4, .p 7, .c 5, .c 6, .l 8, .p 9] H2 (by kernel_rfl) (by kernel_rfl) rfl rfl (by kernel_rfl) (by intro c a w d v h; cases d <;> exact h) (fun w2 H3 => ?_)
  refine pl_B 0 H3 rfl (h := ?_)
  refine pl_P (h := ?_)
  refine pl_L 5 1 H3 rfl (h := ?_)
  refine pl_P (h := ?_)
  refine pl_L 5 2 H3 rfl (h := ?_)
  refine pl_P (h := ?_)
  refine pl_G (hwi _) H3 Try.func69 (h := fun v w3 H4 z4 => ?_)
  obtain ⟨An, cn, rfl, hcn, hn⟩ := num_open (H4.get 0 rfl)
  have H5 := H4.turn 0 rfl hn
  refine pl_G (add_c (H5.get 2 rfl) hc1 (H5.get 0 rfl) hcn (Nat.le_trans hX9 (by decide)) (Nat.le_trans hxl (by decide))) H5 Try.func65 (h := fun v w4 H6 z6 => ?_)
  obtain ⟨Aa, ca, rfl, hca, haa⟩ := num_open (H6.get 0 rfl)
  have H7 := H6.turn 0 rfl haa
  refine pl_WRL 6 #[.bool (neg (X + x)), .slice Aa (dig (X + x)).length ca] H7 rfl (by omega) (fun H8 => ?_) (by kernel_rfl) rfl
  refine pl_P (h := ?_)
  refine pl_done ?_
  have H9 := (((H8.cut 1).cut 1).cut 1)
  have hs := sum_dig hX9 hxl
  have hX2 : Aside0 (pb = true → X + x = worth l rs + x) := ⟨fun h => by rw [hX.out h]⟩
  clear H2 H3 H4 H5 H6 H7 H8
  go_wp2_with fail
  refine H9.ret2 3 rfl rfl rfl rfl Try.underlying52 rfl (by kernel_rfl) rfl ⟨X + x, Aa, ca, rfl, hX2.out, hca, hs, _, (H9.cut 3).cut 3⟩
end
structure HA where
  A : Option Addr
  cap : Nat
  l : PR
  x : Int
def HA.val (h : HA) : Value := .agg #[.slice h.A h.l.length h.cap, .int .i64 (hiW h.x), .int .u64 (loW h.x)]
structure GoodH (w : World) (h : HA) : Prop where
  cap : h.l.length ≤ h.cap
  rows : CR h.A h.l w
  i64 : ∀ r ∈ h.l, I64 r.2
  x : I128 h.x
section
variable {H : Type} {enc : TypeId × Value → H} {P : Program} {w : World} {base : Nat} {sp : Nat → Bool} {held : Bool} {t e : TypeId}
theorem trod_sliceV (ht : P.underlying t = some (.slice e)) {n : Nat} {v : Value} {y : DataW H × List MemPlace} (h : DataW.trod enc P w base sp held n t [v] = some y) : ∃ A l c, v = .slice A l c := by
  rcases open_slice ht h with ⟨hcs, _⟩ | ⟨a, len', cap', m, n, D, Pl, hcs, _⟩
  · simp at hcs
    exact ⟨_, _, _, hcs⟩
  · simp at hcs
    exact ⟨_, _, _, hcs⟩
set_option maxRecDepth 100000 in
theorem openH {v : Value} {d : DataW H} {ps : List MemPlace} {r : Reach} {b0 : Nat} (hval : Value.okWide Try.prog w r b0 41 v) (h : DataW.Trod enc Try.prog w base sp held 41 v d ps) : ∃ x : HA, v = x.val ∧ GoodH w x := by
  have hF := flat_of (P := Try.prog) Try.underlying41 (by kernel_rfl)
  obtain ⟨cs, rfl⟩ := struct_agg hF hval
  obtain ⟨n, hn⟩ := h
  obtain ⟨m, hl, hf⟩ := trod_flat hF hn
  obtain ⟨v0, y0, e0, t0⟩ := hf 0 _ rfl
  obtain ⟨v1, y1, e1, t1⟩ := hf 1 _ rfl
  obtain ⟨v2, y2, e2, t2⟩ := hf 2 _ rfl
  obtain ⟨x1, q1, _, g1⟩ := DataW.trod_int Try.underlying2 t1
  obtain ⟨x2, q2, _, g2⟩ := DataW.trod_int Try.underlying39 t2
  simp only [List.cons.injEq, and_true] at q1 q2
  subst q1 q2
  obtain ⟨A1, l1, c1, rfl⟩ := trod_sliceV Try.underlying22 t0
  obtain ⟨is, rfl, hci, hI, hG⟩ := open_sliceK krow (ByteArray.empty, 0) (fun x => I64 x.2) Try.underlying22 (by kernel_rfl) (fun n cs y hy => openRow hy) ⟨_, t0⟩
  have i1 := i64_of g1
  have i2 := u64_of g2
  obtain ⟨k1, k2⟩ := hl_of (h := x1) (l := x2) (v := wd x1 x2) i2 rfl
  refine ⟨⟨A1, c1, is, wd x1 x2⟩, ?_, hci, hI, hG, by show I128 (wd x1 x2); unfold I128 wd; omega⟩
  obtain ⟨cs⟩ := cs
  change cs.length = 3 at hl
  change cs[0]? = _ at e0
  change cs[1]? = _ at e1
  change cs[2]? = _ at e2
  match cs, hl with
  | [a, b, c], _ =>
    simp at e0 e1 e2
    unfold HA.val
    simp only
    rw [← k1, ← k2, e0, e1, e2]
end
end Go.Proofs.Ythhgcjlgnafdcaa.Vc
end
section
namespace Go.Proofs.Ythhgcjlgnafdcaa.Vd
set_option linter.unusedSimpArgs false
set_option linter.unusedVariables false
open Go Go.RowKit Go.ChangeShapes Go.WideShapes Go.ChangeAt Go.Deep Go.Proofs.YthhgcjlgnafdcaaW.PrintWords Go.Proofs.YthhgcjlgnafdcaaW.PrintMore Go.Proofs.YthhgcjlgnafdcaaW.PrintLast Go.Proofs.Ythhgcjlgnafdcaa.Hd Go.Proofs.Ythhgcjlgnafdcaa.Opn Go.Proofs.Ythhgcjlgnafdcaa.Tb Go.Proofs.Ythhgcjlgnafdcaa.Os Go.Proofs.Ythhgcjlgnafdcaa.Tm Go.Proofs.Ythhgcjlgnafdcaa.Px Go.Proofs.Ythhgcjlgnafdcaa.Wv Go.Proofs.Ythhgcjlgnafdcaa.Pp Go.Proofs.Ythhgcjlgnafdcaa.Pq Go.Proofs.Ythhgcjlgnafdcaa.Ps Go.Proofs.Ythhgcjlgnafdcaa.Pk Go.Proofs.Ythhgcjlgnafdcaa.Rp Go.Proofs.Ythhgcjlgnafdcaa.Ro Go.Proofs.Ythhgcjlgnafdcaa.Rw Go.Proofs.Ythhgcjlgnafdcaa.Rr Go.Proofs.Ythhgcjlgnafdcaa.Rv Go.Proofs.Ythhgcjlgnafdcaa.Va Go.Proofs.Ythhgcjlgnafdcaa.Vb Go.Proofs.Ythhgcjlgnafdcaa.Vc
open Go.Proofs.Ythhgcjlgnafdcaa.Nu (I64 U64 I128 sgn wd num Num num_open num_mk Cs dig neg dig_zero dig_len cmp_c num_c fits128_c narrow_c mul_c add_c wide_c)
set_option maxRecDepth 100000 in
set_option maxHeartbeats 8000000 in
theorem walk (x : RA) (h : HA) (y : RA) {w : World} (g : GoodA w x) (gh : GoodH w h) (gy : GoodA w y) : Calls Try.prog 4 #[x.val, h.val, y.val] w fun e w' => e = .returned (.bool true) ∧ Below w.heap.size w w' := by
  have H0 : All w w [(fun k => k < w.heap.size, CR y.A (y.l.take 40)), (fun k => k < w.heap.size, CR h.A h.l), (fun k => k < w.heap.size, CR x.A (x.l.take 40))] :=
    (((All.start w).arg ((held_C g.rows).imp fun W h => C_cut h _)).arg (held_C gh.rows)).arg ((held_C gy.rows).imp fun W h => C_cut h _)
  have H1 := H0.box w.heap.size 41 #[.slice h.A h.l.length h.cap, .int .i64 (hiW h.x), .int .u64 (loW h.x)]
  have h1 := rows_c (qi := 3) (l := x.l) (ci := x.cap) H1 rfl g.cap
  have hl : (x.l.take 40).length ≤ 1000 := by rw [List.length_take]; omega
  have hyl : (y.l.take 40).length ≤ 1000 := by rw [List.length_take]; omega
  have hyg : ∀ r ∈ y.l.take 40, I64 r.2 := fun r hr => gy.i64 r (List.mem_of_mem_take hr)
  have hxg : ∀ r ∈ x.l.take 40, I64 r.2 := fun r hr => g.i64 r (List.mem_of_mem_take hr)
  have hhl : (h.l.take 30).length ≤ 1000 := by rw [List.length_take]; omega
  have hhg : ∀ r ∈ h.l.take 30, I64 r.2 := fun r hr => gh.i64 r (List.mem_of_mem_take hr)
  have hhc := gh.cap
  have hyc := gy.cap
  have hI := gh.x
  obtain ⟨A0, cap, l⟩ := x
  obtain ⟨Ah, ch, lh, xh⟩ := h
  obtain ⟨Ay, cy, ly⟩ := y
  simp only at *
  unfold RA.val HA.val
  simp only
  generalize l.take 40 = rs at *
  generalize hys : ly.take 40 = ys at *
  generalize hhs : lh.take 30 = hs at *
  replace hyg := Aside0.mk hyg
  replace hhg := Aside0.mk hhg
  replace hys := Aside0.mk hys
  replace hhs := Aside0.mk hhs
  clear g gh gy H0
  have ho := ofE_ok rs [] okP_nil
  obtain ⟨E, hE⟩ : ∃ E, (ofE [] rs).1 = E := ⟨_, rfl⟩
  obtain ⟨ql, hql⟩ : ∃ q, (ofE [] rs).2 = q := ⟨_, rfl⟩
  rw [hql] at ho
  have hrl : E = 0 → rofL rs = ql := fun h => by unfold rofL; rw [hE, if_pos h, hql]
  go_enter Try.func4, Try.ntmps4
  go_wp2_with fail
  refine h1.mono ?_
  rintro e w1 ⟨A, c, rfl, H2⟩
  have H3 := H2.turn 0 rfl (T' := CR A rs) ((H2.get 0 rfl).imp fun W hW => by
    obtain ⟨A', c', hA, -, -, hC⟩ := ow_C krow encR krow_mk (by decide) hW
    cases hA
    exact hC)
  have h2 := of_p (qi := 0) (ci := c) H3 rfl hl
  rw [hE] at h2
  clear h1 H1 H2
  go_wp2_with fail
  refine h2.mono ?_
  rintro e w2 ⟨p, rfl, hN⟩
  clear h2 H3
  by_cases h0 : E = 0
  · obtain ⟨b, Ap, cp, rfl, hb, H3⟩ := (hN.good h0).at_
    rw [hql] at H3
    have h3 := rof_c (qi := 6) (ci := cap) H3 rfl hl
    rw [hE, hrl h0] at h3
    subst h0
    clear hN hE hql hrl hb
    go_wp2_with fail
    refine h3.mono ?_
    rintro e w3 ⟨d, Ad, cd, rfl, hd, H4⟩
    have r0 := H4.rd 5 rfl
    clear h3 H3
    go_wp2_with fail
    refine (to_c (H4.at 7 rfl) hhc).on H4 fun v w4 H5 z5 => ?_
    rw [hhs.out] at H5
    obtain ⟨Ak, ck, rfl, hck, hho⟩ := hold_open (H5.get 0 rfl)
    have H6 := (H5.turn 0 rfl hho).box w4.heap.size 45 #[.slice Ak hs.length ck, .int .i64 (hiW xh), .int .u64 (loW xh)]
    have hv := value_c (q := 1) (ch := ck) (x := xh) H6 (ask_p (i := 4) (j := 5) rfl rfl ho) ho rfl hhl hck hhg.out hI
    obtain ⟨V1, hV1⟩ : ∃ v, valV ql hs xh = v := ⟨_, rfl⟩
    obtain ⟨E1, hE1⟩ : ∃ v, valE ql hs xh = v := ⟨_, rfl⟩
    rw [hV1, hE1] at hv
    have r6 := H6.rd 0 rfl
    clear H4 H5 r0
    go_wp2_with fail
    refine hv.mono ?_
    rintro e w5 ⟨rfl, H7⟩
    have H8 := H7.box w5.heap.size 43 #[.int .i64 (hiW V1), .int .u64 (loW V1)]
    have hr := rows_c (qi := 9) (l := ly) (ci := cy) H8 (by rw [hys.out]; rfl) hyc
    rw [hys.out] at hr
    clear H6 H7 hv r6
    go_wp2_with fail
    refine hr.mono ?_
    rintro e w6 ⟨Ar, cr, rfl, H9⟩
    have H10 := H9.turn 0 rfl (T' := CR Ar ys) ((H9.get 0 rfl).imp fun W hW => by
      obtain ⟨A', c', hA, -, -, hC⟩ := ow_C krow encR krow_mk (by decide) hW
      cases hA
      exact hC)
    have hwo := worth_c (q := 0) (ci := cr) H10 (ask_p (i := 6) (j := 7) rfl rfl ho) ho rfl hyl hyg.out
    obtain ⟨V2, hV2⟩ : ∃ v, sumsV ql ys 0 = v := ⟨_, rfl⟩
    obtain ⟨E2, hE2⟩ : ∃ v, sumsE ql ys 0 = v := ⟨_, rfl⟩
    rw [hV2, hE2] at hwo
    clear H8 H9 hr
    go_wp2_with fail
    refine hwo.mono ?_
    rintro e w7 ⟨rfl, H11⟩
    have H12 := H11.box w7.heap.size 43 #[.int .i64 (hiW V2), .int .u64 (loW V2)]
    have H13 := (H12.front 6 rfl).front 6 rfl
    have hrw := rworth_c (q := 9) (ci := cy) H13 rfl ho hyl hyg.out
    have hp2 : Aside0 ((priced ql ys = false → V2 = 0 ∧ E2 = 15) ∧ (priced ql ys = true → V2 = cut128 (worth ql ys) ∧ E2 = er128 (worth ql ys))) := ⟨by
      rw [← hV2, ← hE2]
      unfold sumsV sumsE
      constructor
      · intro h; rw [h]; exact ⟨rfl, rfl⟩
      · intro h; rw [if_pos h, if_pos h, Int.zero_add]; exact ⟨rfl, rfl⟩⟩
    generalize priced ql ys = pb2 at *
    clear H10 H11 H12 hwo hV2 hE2
    go_wp2_with fail
    refine hrw.mono ?_
    rintro e w8 ⟨X, Ax, cx, rfl, hX, hcx, hX9, ok1, H14⟩
    have H15 := H14.box w8.heap.size 52 #[.bool (neg X), .slice Ax (dig X).length cx]
    have ht := fun (w1 : World) (h1 : Held w1 ok1 (Cs Ax (dig X))) => told_c (V := V2) (E := E2) (pr := pb2) h1 hcx (Nat.le_trans hX9 (by decide)) hp2.out.1 (fun h => by rw [hX h]; exact hp2.out.2 h)
    clear H13 H14 hrw hp2 hX
    go_wp2_with fail
    refine known_c.on H15 fun w9 H16 => ?_
    have r16 := H16.rd 4 rfl
    have r16b := H16.rd 0 rfl
    clear H15
    go_wp2_with fail
    refine (ht _ (H16.get 1 rfl)).on H16 fun w10 H17 => ?_
    have r17 := H17.rd 7 rfl
    clear H16 r16 r16b ht
    go_wp2_with fail
    refine (of17_c (H17.at 8 rfl) hck hhl).on H17 fun v w11 H18 z18 => ?_
    obtain ⟨Ao, co, rfl, hco, hoo⟩ := hold_open (H18.get 0 rfl)
    have H19 := H18.turn 0 rfl hoo
    clear H17 H18 r17 hoo
    go_wp2_with fail
    refine (rright_c (H19.at 0 rfl) hco hhl).on H19 fun w12 H20 => ?_
    clear H19
    cases hR : rightB hs with
    | false =>
      obtain rfl : 0 = V1 := by rw [← hV1]; unfold valV; rw [hR]; rfl
      obtain rfl : 1 = E1 := by rw [← hE1]; unfold valE; rw [hR]; rfl
      have e0 : hiW 0 = 0 ∧ loW 0 = 0 := ⟨rfl, rfl⟩
      rw [e0.1, e0.2] at H20
      have r20 := H20.rd 7 rfl
      have hu := Try.underlying43
      clear hV1 hE1
      go_wp2
      go_ret
      exact ⟨rfl, H20.old⟩
    | true =>
      have r20 := H20.rd 8 rfl
      go_wp2_with fail
      refine (of17_c (H20.at 9 rfl) hck hhl).on H20 fun v w13 H21 z21 => ?_
      obtain ⟨Aq, cq, rfl, hcq, hpp⟩ := hold_open (H21.get 0 rfl)
      have H22 := H21.turn 0 rfl hpp
      have H23 := (H22.front 5 rfl).front 5 rfl
      have hrv := rvalue_c (q := 0) (ci := cq) (x := xh) H23 rfl ho hhl hhg.out hI
      have hp1 : Aside0 ((priced ql hs = false → V1 = 0 ∧ E1 = 15) ∧ (priced ql hs = true → V1 = cut128 (worth ql hs + xh) ∧ E1 = er128 (worth ql hs + xh))) := ⟨by
        rw [← hV1, ← hE1]
        unfold valV valE
        rw [if_pos hR, if_pos hR]
        unfold sumsV sumsE
        constructor
        · intro h; rw [h]; exact ⟨rfl, rfl⟩
        · intro h; rw [if_pos h, if_pos h, Int.add_comm xh]; exact ⟨rfl, rfl⟩⟩
      generalize priced ql hs = pb1 at *
      clear H20 H21 H22 hpp r20 hV1 hE1 hR
      go_wp2_with fail
      refine hrv.mono ?_
      rintro e w14 ⟨Y, A9, c9, rfl, hY, hc9, hY10, ok2, H24⟩
      have H25 := H24.box w14.heap.size 52 #[.bool (neg Y), .slice A9 (dig Y).length c9]
      have r25 := H25.rd 10 rfl
      have r25b := H25.rd 0 rfl
      have ht := told_c (V := V1) (E := E1) (pr := pb1) (H25.get 1 rfl) hc9 (Nat.le_trans hY10 (by decide)) hp1.out.1 (fun h => by rw [hY h]; exact hp1.out.2 h)
      clear H23 H24 hrv hY hp1
      go_wp2_with fail
      refine ht.on H25 fun w15 H26 => ?_
      go_wp2
      go_ret
      exact ⟨rfl, H26.old⟩
  · obtain ⟨rfl, H3⟩ := hN.bad h0
    have h3 := rof_c (qi := 4) (ci := cap) H3 rfl hl
    rw [hE] at h3
    have h0' : (E == 0) = false := by simpa using h0
    have h0'' : (E != 0) = true := by simpa using h0
    clear hN hE hql hrl ho hhg hyg hxg
    go_wp2_with fail
    refine h3.mono ?_
    rintro e w3 ⟨d, Ad, cd, rfl, hd, H4⟩
    clear h3 H3
    go_wp2_with fail
    refine known_c.on H4 fun w4 H5 => ?_
    go_wp2
    go_ret
    exact ⟨rfl, H5.old⟩
end Go.Proofs.Ythhgcjlgnafdcaa.Vd
end
