/- Texts of this seat, put together (ZT9). -/
import Derived.Lib.Strings
import Derived.Test.YtjbcigiffihjaaaZT7
import Derived.Test.YtjbcigiffihjaaaZT8
section
namespace Go.Proofs.Ytjbcigiffihjaaa.Fc
set_option linter.unusedSimpArgs false
set_option linter.unusedVariables false
open Go Go.RowKit Go.Proofs.Ytjbcigiffihjaaa.Fx Go.Proofs.YtjbcigiffihjaaaW.PrintWords Go.Proofs.YtjbcigiffihjaaaW.PrintMore Go.Proofs.Ytjbcigiffihjaaa.Fv
def dv (l : List Int) : Int := l.foldl (fun v c => 10 * v + (c - 48)) 0
def dg (c : Int) : Bool := decide (48 ≤ c) && decide (c ≤ 57)
def okBody (neg : Bool) (l : List Int) : Bool := !l.isEmpty && l.all dg && !(decide (rd l 0 = 48) && (decide (1 < l.length) || neg))
def hasMinus (l : List Int) : Bool := decide (rd l 0 = 45)
def body (l : List Int) : List Int := if hasMinus l = true then l.drop 1 else l
def valid (l : List Int) : Bool := okBody (hasMinus l) (body l)
def value (l : List Int) : Int := if hasMinus l = true then -dv (body l) else dv (body l)
theorem toList_nil (s : ByteArray) : s.toList = ([] : List UInt8) ↔ bytesOf s = [] := by
  rw [bytesOf, List.map_eq_nil_iff, ByteArray.toList_eq]
theorem toList_zero (s : ByteArray) : s.toList = ([48] : List UInt8) ↔ bytesOf s = [48] := by
  rw [ByteArray.toList_eq, bytesOf]
  constructor
  · intro h; rw [h]; rfl
  · intro h
    rw [List.map_eq_cons_iff] at h
    obtain ⟨a, t, h1, h2, h3⟩ := h
    rw [List.map_eq_nil_iff] at h3
    rw [h1, h3]
    have : a = 48 := UInt8.toNat.inj (by have e : (48 : UInt8).toNat = 48 := rfl; omega)
    rw [this]
theorem bytes_drop (s : ByteArray) : bytesOf (s.extract 1 s.size) = (bytesOf s).drop 1 := by
  have e : (s.extract 1 s.size).data.toList = s.data.toList.drop 1 := by
    rw [Lib.extract_data, List.take_of_length_le]
    rw [List.length_drop, Lib.size_eq]
    exact Nat.le_refl _
  rw [bytesOf, bytesOf, e, List.map_drop]
theorem rd_nil (i : Int) : rd ([] : List Int) i = 0 := by unfold rd; simp
theorem form_l0 (l : List Int) (hl : l.length ≤ 100000) : ∀ (n i : Nat), i + n = l.length → ∀ e, fixed_form.l0 (n + 1 + e) l (l.length : Int) (i : Int) = some ((l.drop i).all dg)
  | 0, i, hi, e => by
    rw [show 0 + 1 + e = e + 1 by omega, fixed_form.l0, if_neg (by omega), List.drop_eq_nil_of_le (by omega)]
    rfl
  | n + 1, i, hi, e => by
    have hlt : i < l.length := by omega
    have hr : rd l (i : Int) = l[i] := by unfold rd; rw [Int.toNat_natCast, List.getD_eq_getElem?_getD, List.getElem?_eq_getElem hlt]; rfl
    rw [show n + 1 + 1 + e = (n + 1 + e) + 1 by omega, fixed_form.l0, if_pos (by omega), if_pos (by omega), if_pos (by omega), hr, List.drop_eq_getElem_cons hlt, List.all_cons]
    by_cases c1 : l[i] < 48
    · rw [if_pos c1]
      simp [dg, show ¬ 48 ≤ l[i] by omega]
    · rw [if_neg c1]
      by_cases c2 : l[i] > 57
      · rw [if_pos c2]
        simp [dg, show ¬ l[i] ≤ 57 by omega]
      · rw [if_neg c2, w64 (by omega) (by omega), show (i : Int) + 1 = ((i + 1 : Nat) : Int) by omega, form_l0 l hl n (i + 1) (by omega) e]
        simp [dg, show 48 ≤ l[i] by omega, show l[i] ≤ 57 by omega]
theorem form_j1 (s : ByteArray) (hl : s.size ≤ 100000) (e : Nat) : fixed_form.j1 (s.size + 4 + e) s = some (okBody false (bytesOf s)) := by
  have hbl := bytesOf_length s
  rw [show s.size + 4 + e = (s.size + 3 + e) + 1 by omega, fixed_form.j1]
  by_cases c0 : bytesOf s = []
  · rw [if_pos ((toList_nil s).2 c0), show s.size + 3 + e = (s.size + 2 + e) + 1 by omega, fixed_form.j2, if_pos rfl, c0]
    rfl
  · have hpos : 0 < s.size := by rw [← hbl]; exact List.length_pos_iff.2 c0
    rw [if_neg (fun h => c0 ((toList_nil s).1 h)), if_pos (by omega), ← rd_bytesOf]
    have hj2 : ∀ b : Bool, fixed_form.j2 (s.size + 3 + e) s b = if b = true then some false else some ((bytesOf s).all dg) := fun b => by
      rw [show s.size + 3 + e = (s.size + 2 + e) + 1 by omega, fixed_form.j2]
      cases b
      · rw [if_neg (show ¬ (false = true) by simp), if_neg (show ¬ (false = true) by simp), if_pos (show s.size ≤ 9223372036854775807 by omega), Option.bind_some]
        have := form_l0 (bytesOf s) (by omega) s.size 0 (by omega) (e + 1)
        rw [show s.size + 1 + (e + 1) = s.size + 2 + e by omega] at this
        simpa using this
      · rfl
    have he : (bytesOf s).isEmpty = false := by cases h : bytesOf s <;> simp_all
    by_cases c1 : rd (bytesOf s) 0 = 48
    · rw [if_pos c1, hj2]
      unfold okBody
      rw [he, c1, hbl]
      by_cases c2 : (s.size : Int) > 1
      · rw [if_pos (by simpa using c2)]
        simp [show 1 < s.size by omega]
      · rw [if_neg (by simpa using c2)]
        simp [show ¬ 1 < s.size by omega]
    · rw [if_neg c1, hj2, if_neg (by simp)]
      unfold okBody
      rw [he]
      simp [c1]
theorem form_f (s : ByteArray) (hl : s.size ≤ 100000) (e : Nat) : fixed_form.f (s.size + 5 + e) s = some (valid (bytesOf s)) := by
  have hbl := bytesOf_length s
  unfold fixed_form.f
  have hj0 : ∀ b : Bool, b = hasMinus (bytesOf s) → fixed_form.j0 (s.size + 5 + e) s b = some (valid (bytesOf s)) := fun b hb => by
    rw [show s.size + 5 + e = (s.size + 4 + e) + 1 by omega, fixed_form.j0]
    unfold valid body
    rw [← hb]
    cases b
    · rw [if_neg (by simp), if_neg (by simp)]
      exact form_j1 s hl e
    · have hm : rd (bytesOf s) 0 = 45 := by unfold hasMinus at hb; simpa using hb.symm
      have hpos : 0 < s.size := by
        rcases Nat.eq_zero_or_pos s.size with h | h
        · have : bytesOf s = [] := List.eq_nil_of_length_eq_zero (by omega)
          rw [this, rd_nil] at hm
          omega
        · exact h
      rw [if_pos rfl, if_pos rfl, if_pos (by omega)]
      have hd := bytes_drop s
      have hsz : (s.extract 1 s.size).size = s.size - 1 := by rw [← bytesOf_length, hd, List.length_drop, hbl]
      by_cases c : bytesOf (s.extract 1 s.size) = [48]
      · rw [if_pos ((toList_zero _).2 c), ← hd, c]
        rfl
      · rw [if_neg (fun h => c ((toList_zero _).1 h))]
        have := form_j1 (s.extract 1 s.size) (by omega) (e + 1)
        rw [hsz, show s.size - 1 + 4 + (e + 1) = s.size + 4 + e by omega] at this
        rw [this, hd]
        congr 1
        rw [hd] at c
        unfold okBody
        generalize (bytesOf s).drop 1 = b at *
        by_cases h0 : rd b 0 = 48
        · by_cases h1 : 1 < b.length
          · simp [h0, h1]
          · match b, c, h0, h1 with
            | [], _, h0, _ => rw [rd_nil] at h0; omega
            | [x], c, h0, _ => exfalso; apply c; have : rd [x] 0 = x := rfl; rw [← this, h0]
            | x :: y :: r, _, _, h1 => simp at h1
        · simp [h0]
  by_cases c0 : bytesOf s = []
  · rw [if_pos ((toList_nil s).2 c0)]
    exact hj0 false (by unfold hasMinus; rw [c0, rd_nil]; rfl)
  · have hpos : 0 < s.size := by rw [← hbl]; exact List.length_pos_iff.2 c0
    rw [if_neg (fun h => c0 ((toList_nil s).1 h)), if_pos (by omega)]
    refine hj0 _ ?_
    unfold hasMinus
    rw [rd_bytesOf]
    rfl
end Go.Proofs.Ytjbcigiffihjaaa.Fc
end
section
namespace Go.Proofs.Ytjbcigiffihjaaa.Fc
set_option linter.unusedSimpArgs false
set_option linter.unusedVariables false
open Go Go.RowKit Go.Proofs.Ytjbcigiffihjaaa.Fx Go.Proofs.YtjbcigiffihjaaaW.PrintWords Go.Proofs.YtjbcigiffihjaaaW.PrintMore Go.Proofs.Ytjbcigiffihjaaa.Fv
theorem dv_snoc (l : List Int) (c : Int) : dv (l ++ [c]) = 10 * dv l + (c - 48) := by unfold dv; rw [List.foldl_append]; rfl
theorem rd_get {l : List Int} {i : Nat} (h : i < l.length) : rd l (i : Int) = l[i] := by unfold rd; rw [Int.toNat_natCast, List.getD_eq_getElem?_getD, List.getElem?_eq_getElem h]; rfl
theorem take_snoc {l : List Int} {i : Nat} (h : i < l.length) : l.take (i + 1) = l.take i ++ [rd l (i : Int)] := by
  rw [List.take_add_one, List.getElem?_eq_getElem h, rd_get h]
  rfl
theorem byte_range (s : ByteArray) (i : Int) : 0 ≤ rd (bytesOf s) i ∧ rd (bytesOf s) i ≤ 255 := by rw [rd_bytesOf]; exact bt_range s i
theorem dg_of {c : Int} : dg c = true ↔ 48 ≤ c ∧ c ≤ 57 := by unfold dg; simp
theorem dv_nonneg : ∀ (n : Nat) (l : List Int), l.length = n → l.all dg = true → 0 ≤ dv l
  | 0, l, h, _ => by rw [List.eq_nil_of_length_eq_zero h]; simp [dv]
  | n + 1, l, h, ha => by
    have e : l = l.dropLast ++ [l.getLast (by intro h2; rw [h2] at h; simp at h)] := (List.dropLast_concat_getLast _).symm
    rw [e, List.all_append, Bool.and_eq_true] at ha
    have h1 := dv_nonneg n l.dropLast (by rw [List.length_dropLast]; omega) ha.1
    have h2 := ha.2
    rw [List.all_cons, Bool.and_eq_true, dg_of] at h2
    rw [e, dv_snoc]
    omega
theorem Digits_l0 (s : ByteArray) (neg : Bool) (hl : s.size ≤ 1000) : ∀ (n i : Nat) (v : Int) (nn : Bool) (d : List Int), i + n = s.size → Nm v nn d → d.length ≤ 5 * i → v = dv ((bytesOf s).take i) → ((bytesOf s).take i).all dg = true →
    ∃ K n' d', (∀ e, clevisref01_Digits.l0 (K + e) s neg (i : Int) nn d = some (if (bytesOf s).all dg = true then (n', d', true) else (false, [], false))) ∧ ((bytesOf s).all dg = true → Nm (if neg = true then -dv (bytesOf s) else dv (bytesOf s)) n' d')
  | 0, i, v, nn, d, hi, hN, hd, hv, ha => by
    have hbl := bytesOf_length s
    rw [List.take_of_length_le (by omega)] at hv ha
    have h0 := dv_nonneg _ _ rfl ha
    have hV : V d = v := by have := hN.abs; omega
    obtain ⟨K, n', d', h1, h2, h3⟩ := clean_good neg d hN.ds hN.len (if neg = true then -dv (bytesOf s) else dv (bytesOf s)) (by unfold val; rw [hV, hv])
    refine ⟨K + 1, n', d', fun e => ?_, fun _ => h2⟩
    rw [show K + 1 + e = (K + e) + 1 by omega, clevisref01_Digits.l0, if_neg (by omega), h1, if_pos ha]
    rfl
  | n + 1, i, v, nn, d, hi, hN, hd, hv, ha => by
    have hbl := bytesOf_length s
    have hlt : i < (bytesOf s).length := by omega
    have hr := byte_range s (i : Int)
    have hts := take_snoc hlt
    have hbad : dg (rd (bytesOf s) (i : Int)) = false → (bytesOf s).all dg = false := fun h => by
      rw [Bool.eq_false_iff]
      intro h2
      have h3 := List.all_eq_true.1 h2 _ (List.getElem_mem hlt)
      rw [← rd_get hlt, h] at h3
      cases h3
    have hend : ∀ k x, dg (rd (bytesOf s) (i : Int)) = false → clevisref01_Digits.j4 (k + 1) s neg (i : Int) true nn d = some (if (bytesOf s).all dg = true then (x, d, true) else (false, [], false)) := fun k x h => by
      rw [clevisref01_Digits.j4, if_pos rfl, hbad h]
      rfl
    by_cases c1 : rd (bytesOf s) (i : Int) < 48
    · have hb : dg (rd (bytesOf s) (i : Int)) = false := by unfold dg; simp; omega
      refine ⟨2, nn, d, fun e => ?_, fun h => by rw [hbad hb] at h; cases h⟩
      rw [show 2 + e = (e + 1) + 1 by omega, clevisref01_Digits.l0, if_pos (by omega), if_pos (by omega), ← rd_bytesOf, if_pos c1, hend _ _ hb]
    · by_cases c2 : rd (bytesOf s) (i : Int) > 57
      · have hb : dg (rd (bytesOf s) (i : Int)) = false := by unfold dg; simp; omega
        refine ⟨2, nn, d, fun e => ?_, fun h => by rw [hbad hb] at h; cases h⟩
        rw [show 2 + e = (e + 1) + 1 by omega, clevisref01_Digits.l0, if_pos (by omega), if_pos (by omega), ← rd_bytesOf, if_neg c1, decide_eq_true c2, hend _ _ hb]
      · have hg : dg (rd (bytesOf s) (i : Int)) = true := dg_of.2 ⟨by omega, by omega⟩
        obtain ⟨K1, n1, d1, a1, a2, a3⟩ := Small_f 10 (by omega) (by omega)
        obtain ⟨K2, n2, d2, b1, b2, b3⟩ := Mul_f hN a2 (by omega) (by omega)
        obtain ⟨K3, n3, d3, f1, f2, f3⟩ := Small_f (rd (bytesOf s) (i : Int) - 48) (by omega) (by omega)
        obtain ⟨K4, n4, d4, g1, g2, g3⟩ := Add_f b2 f2 (by omega) (by omega)
        have hv4 : v * 10 + (rd (bytesOf s) (i : Int) - 48) = dv ((bytesOf s).take (i + 1)) := by rw [hts, dv_snoc, hv]; omega
        have ha4 : ((bytesOf s).take (i + 1)).all dg = true := by rw [hts, List.all_append, ha]; simp [hg]
        obtain ⟨K5, n', d', k1, k2⟩ := Digits_l0 s neg hl n (i + 1) _ n4 d4 (by omega) g2 (by omega) hv4 ha4
        refine ⟨K1 + K2 + K3 + K4 + K5 + 2, n', d', fun e => ?_, k2⟩
        dsimp only at a1 f1
        rw [show K1 + K2 + K3 + K4 + K5 + 2 + e = (K1 + K2 + K3 + K4 + K5 + e + 1) + 1 by omega, clevisref01_Digits.l0, if_pos (by omega), if_pos (by omega), ← rd_bytesOf, if_neg c1, decide_eq_false c2, clevisref01_Digits.j4, if_neg (by simp)]
        rw [show K1 + K2 + K3 + K4 + K5 + e = K1 + (K2 + K3 + K4 + K5 + e) by omega, a1, Option.bind_some, show K1 + (K2 + K3 + K4 + K5 + e) = K2 + (K1 + K3 + K4 + K5 + e) by omega, b1, Option.bind_some, if_pos (by omega), if_pos (by omega), ← rd_bytesOf, w64 (n := rd (bytesOf s) (i : Int)) (by omega) (by omega), w64 (by omega) (by omega), show K2 + (K1 + K3 + K4 + K5 + e) = K3 + (K1 + K2 + K4 + K5 + e) by omega, f1, Option.bind_some, show K3 + (K1 + K2 + K4 + K5 + e) = K4 + (K1 + K2 + K3 + K5 + e) by omega, g1, Option.bind_some, w64 (by omega) (by omega), show (i : Int) + 1 = ((i + 1 : Nat) : Int) by omega, show K4 + (K1 + K2 + K3 + K5 + e) = K5 + (K1 + K2 + K3 + K4 + e) by omega, k1]
theorem Digits_j1 (s : ByteArray) (neg : Bool) (hl : s.size ≤ 1000) : ∃ K n' d', (∀ e, clevisref01_Digits.j1 (K + e) s neg = some (if okBody neg (bytesOf s) = true then (n', d', true) else (false, [], false))) ∧ (okBody neg (bytesOf s) = true → Nm (if neg = true then -dv (bytesOf s) else dv (bytesOf s)) n' d') := by
  have hbl := bytesOf_length s
  obtain ⟨K, n', d', h1, h2⟩ := Digits_l0 s neg hl s.size 0 0 false [] (by omega) ⟨Ds.nil, fun h => absurd rfl h, fun h => by simp at h, rfl, by simp⟩ (by simp) (by simp [dv]) (by simp)
  have hj2 : ∀ b e, clevisref01_Digits.j2 (K + e + 1) s neg b = if b = true then some (false, [], false) else some (if (bytesOf s).all dg = true then (n', d', true) else (false, [], false)) := fun b e => by
    rw [clevisref01_Digits.j2]
    cases b
    · rw [if_neg (show ¬ (false = true) by simp), if_neg (show ¬ (false = true) by simp)]
      exact h1 e
    · rfl
  refine ⟨K + 2, n', d', fun e => ?_, fun h => ?_⟩
  · rw [show K + 2 + e = (K + e + 1) + 1 by omega, clevisref01_Digits.j1]
    by_cases c0 : s.size = 0
    · have hb : bytesOf s = [] := List.eq_nil_of_length_eq_zero (by omega)
      rw [if_pos (by omega), hj2, if_pos rfl, hb]
      rfl
    · have he : (bytesOf s).isEmpty = false := by cases h : bytesOf s <;> simp_all
      rw [if_neg (by omega), if_pos (by omega), ← rd_bytesOf]
      by_cases c1 : rd (bytesOf s) 0 = 48
      · rw [if_pos c1]
        by_cases c2 : (s.size : Int) > 1
        · rw [if_pos c2, hj2, if_pos rfl]
          unfold okBody
          rw [c1, hbl]
          simp [show 1 < s.size by omega]
        · rw [if_neg c2, hj2]
          unfold okBody
          rw [c1, hbl, he]
          cases neg
          · simp [show ¬ 1 < s.size by omega]
          · simp
      · rw [if_neg c1, hj2, if_neg (by simp)]
        unfold okBody
        rw [he]
        simp [c1]
  · apply h2
    unfold okBody at h
    simp only [Bool.and_eq_true] at h
    exact h.1.2
theorem Digits_f (s : ByteArray) (hl : s.size ≤ 1000) : ∃ K n' d', (∀ e, clevisref01_Digits.f (K + e) s = some (if valid (bytesOf s) = true then (n', d', true) else (false, [], false))) ∧ (valid (bytesOf s) = true → Nm (value (bytesOf s)) n' d') := by
  have hbl := bytesOf_length s
  have key : ∃ K n' d', (∀ e, clevisref01_Digits.j0 (K + e) s (hasMinus (bytesOf s)) = some (if valid (bytesOf s) = true then (n', d', true) else (false, [], false))) ∧ (valid (bytesOf s) = true → Nm (value (bytesOf s)) n' d') := by
    unfold valid value body
    by_cases hm : hasMinus (bytesOf s) = true
    · have hm2 : rd (bytesOf s) 0 = 45 := by unfold hasMinus at hm; simpa using hm
      have hpos : 0 < s.size := by
        rcases Nat.eq_zero_or_pos s.size with h | h
        · have : bytesOf s = [] := List.eq_nil_of_length_eq_zero (by omega)
          rw [this, rd_nil] at hm2
          omega
        · exact h
      have hd := bytes_drop s
      have hsz : (s.extract 1 s.size).size = s.size - 1 := by rw [← bytesOf_length, hd, List.length_drop, hbl]
      obtain ⟨K, n', d', h1, h2⟩ := Digits_j1 (s.extract 1 s.size) true (by omega)
      rw [hd] at h2
      refine ⟨K + 1, n', d', fun e => ?_, ?_⟩
      · rw [show K + 1 + e = (K + e) + 1 by omega, clevisref01_Digits.j0, hm, if_pos rfl, if_pos (by omega), h1, hd]
        rfl
      · rw [hm]
        exact h2
    · obtain ⟨K, n', d', h1, h2⟩ := Digits_j1 s false hl
      have hm3 : hasMinus (bytesOf s) = false := by simpa using hm
      refine ⟨K + 1, n', d', fun e => ?_, ?_⟩
      · rw [show K + 1 + e = (K + e) + 1 by omega, clevisref01_Digits.j0, hm3, if_neg (by simp), h1]
        rfl
      · rw [hm3]
        exact h2
  obtain ⟨K, n', d', h1, h2⟩ := key
  refine ⟨K, n', d', fun e => ?_, h2⟩
  unfold clevisref01_Digits.f
  by_cases c0 : s.size = 0
  · have hb : bytesOf s = [] := List.eq_nil_of_length_eq_zero (by omega)
    rw [if_neg (by omega)]
    have := h1 e
    rw [show hasMinus (bytesOf s) = false by rw [hb]; unfold hasMinus; rw [rd_nil]; rfl] at this
    exact this
  · rw [if_pos (by omega), if_pos (by omega)]
    have := h1 e
    unfold hasMinus at this
    rw [rd_bytesOf] at this
    exact this
end Go.Proofs.Ytjbcigiffihjaaa.Fc
end
