/- One byte of an ISIN turned: what ident.Isin says of it. -/
import Derived.Test.YtebdjhgboeadgaaTurnP
namespace Go.Proofs.Ytebdjhgboeadgaa.TurnP
set_option linter.unusedSimpArgs false
set_option linter.unusedVariables false
open Go Go.RowKit Go.Proofs.Ytebdjhgboeadgaa.Id Go.Proofs.YtebdjhgboeadgaaW.PrintWords Go.Proofs.YtebdjhgboeadgaaW.PrintLast Go.Proofs.YtebdjhgboeadgaaW.PrintMore Go.Proofs.Ytebdjhgboeadgaa.Ja Go.Proofs.Ytebdjhgboeadgaa.Jb Go.Proofs.Ytebdjhgboeadgaa.Jc Go.Proofs.Ytebdjhgboeadgaa.Pure
theorem bt_nums (l : List Int) (j : Nat) (hj : j < l.length) (h0 : 0 ≤ l[j]) (h1 : l[j] ≤ 255) : bt (strOfNums l) j = l[j] := by
  unfold bt
  have hs : (j : Int).toNat < (strOfNums l).size := by
    rw [strOfNums_size]
    omega
  rw [dif_pos hs]
  have e : (strOfNums l)[(j : Int).toNat]'hs = UInt8.ofNat l[j].toNat := by
    have e2 : (strOfNums l)[(j : Int).toNat]'hs = (l.map fun n => UInt8.ofNat n.toNat).toArray[j]'(by simpa using hj) := rfl
    rw [e2]
    simp
  rw [e, UInt8.toNat_ofNat']
  omega
theorem bt_cut (u : ByteArray) (n j : Nat) (hu : n ≤ u.size) (hj : j < n) : bt (u.extract 0 n) j = bt u j := by
  unfold bt
  have h1 : (j : Int).toNat < (u.extract 0 n).size := by rw [ByteArray.size_extract]; omega
  have h2 : (j : Int).toNat < u.size := by omega
  rw [dif_pos h1, dif_pos h2]
  simp [ByteArray.getElem_extract]
theorem bt_left (a b : ByteArray) (j : Nat) (hj : j < a.size) : bt (a ++ b) j = bt a j := by
  unfold bt
  have h1 : (j : Int).toNat < (a ++ b).size := by rw [ByteArray.size_append]; omega
  have h2 : (j : Int).toNat < a.size := by omega
  rw [dif_pos h1, dif_pos h2, ByteArray.getElem_append_left h2]
theorem allOk_of (s : ByteArray) : ∀ n i, (∀ j, i ≤ j → j < i + n → okAt j (bt s j) = true) → allOk s i n = true
  | 0, i, h => rfl
  | n + 1, i, h => by
    simp only [allOk, Bool.and_eq_true]
    exact ⟨h i (Nat.le_refl _) (by omega), allOk_of s n (i + 1) fun j a b => h j (by omega) (by omega)⟩
/-- The bytes of a text, one of them turned. -/
def turn (m : ByteArray) (p : Nat) (c : Int) : ByteArray := strOfNums ((bytesOf m).set p c)
theorem turn_size (m : ByteArray) (p : Nat) (c : Int) : (turn m p c).size = m.size := by rw [turn, strOfNums_size, List.length_set, bytesOf_length]
theorem turn_bt (m : ByteArray) (p : Nat) (c : Int) (h0 : 0 ≤ c) (h1 : c ≤ 255) (j : Nat) (hj : j < m.size) : bt (turn m p c) j = if p = j then c else bt m j := by
  have hl : j < ((bytesOf m).set p c).length := by rw [List.length_set, bytesOf_length]; exact hj
  have hl2 : j < (bytesOf m).length := by rw [bytesOf_length]; exact hj
  have hb : (bytesOf m)[j] = bt m j := by
    have h := rd_bytesOf m j
    rw [← h]
    simp [rd, List.getD_eq_getElem?_getD, hl2]
  have hr := bt_range m j
  have e : ((bytesOf m).set p c)[j] = if p = j then c else bt m j := by
    rw [List.getElem_set, hb]
  rw [turn, bt_nums _ j hl (by rw [e]; split <;> omega) (by rw [e]; split <;> omega), e]
theorem made_12 {a : ByteArray} (h : okS a = true) : (a ++ strOfNums [48 + chk a]).size = 12 := by rw [ByteArray.size_append, one_size, okS_size h]
theorem bt_ext {s t : ByteArray} (hs : s.size = t.size) (h : ∀ j : Nat, j < s.size → bt s j = bt t j) : s = t := by
  apply ByteArray.ext
  apply Array.ext
  · exact hs
  · intro j h1 h2
    have h3 := h j h1
    unfold bt at h3
    rw [dif_pos (show (j : Int).toNat < s.size from h1), dif_pos (show (j : Int).toNat < t.size from h2)] at h3
    have h4 : (s[j]'h1).toNat = (t[j]'h2).toNat := by exact_mod_cast h3
    exact UInt8.toNat_inj.1 h4
theorem turn_same (a : ByteArray) (h : okS a = true) (p : Nat) (hp : p < 12) (c : Int) (h0 : 0 ≤ c) (h1 : c ≤ 255) (e : bt (a ++ strOfNums [48 + chk a]) p = c) : isinE (turn (a ++ strOfNums [48 + chk a]) p c) = 0 := by
  have : turn (a ++ strOfNums [48 + chk a]) p c = a ++ strOfNums [48 + chk a] := by
    refine bt_ext (turn_size _ _ _) fun j hj => ?_
    rw [turn_size] at hj
    rw [turn_bt _ p c h0 h1 j hj]
    split
    · rename_i q; rw [← q, e]
    · rfl
  rw [this, isin_made a h]
theorem turn_other (a : ByteArray) (h : okS a = true) (p : Nat) (hp : p < 12) (c : Int) (h0 : 0 ≤ c) (h1 : c ≤ 255) (hd : isD (bt (a ++ strOfNums [48 + chk a]) p) = true) (hc : isD c = true) (e : bt (a ++ strOfNums [48 + chk a]) p ≠ c) : isinE (turn (a ++ strOfNums [48 + chk a]) p c) = 11 := by
  have hsz := made_12 h
  have has := okS_size h
  have hch := chk_range a
  have hb11 := bt_app a (48 + chk a) has (by omega) (by omega)
  have hleft : ∀ j : Nat, j < 11 → bt (a ++ strOfNums [48 + chk a]) j = bt a j := fun j hj => bt_left _ _ j (by omega)
  have hoka : ∀ j : Nat, j < 11 → okAt j (bt a j) = true := by
    simp only [okS, Bool.and_eq_true] at h
    exact fun j hj => allOk_at a 11 0 h.2 j (Nat.zero_le _) (by omega)
  generalize hm : a ++ strOfNums [48 + chk a] = m at *
  have hu : ∀ j : Nat, j < 12 → bt (turn m p c) j = if p = j then c else bt m j := fun j hj => turn_bt m p c h0 h1 j (by omega)
  have hus : (turn m p c).size = 12 := by rw [turn_size, hsz]
  generalize turn m p c = u at *
  have hcut : ∀ j : Nat, j < 11 → bt (u.extract 0 11) j = bt u j := fun j hj => bt_cut u 11 j (by omega) hj
  have hcs : (u.extract 0 11).size = 11 := by rw [ByteArray.size_extract]; omega
  have hu11 := hu 11 (by omega)
  rw [show ((11 : Nat) : Int) = 11 from rfl] at hu11
  unfold isinE
  generalize u.extract 0 11 = v at *
  have hch2 := chk_range v
  have hdm : ¬ isG (bt m p) = true := by
    have : 48 ≤ bt m p ∧ bt m p ≤ 57 := by simpa [isD] using hd
    simp [isG]; omega
  have hokv : okS v = true := by
    simp only [okS, Bool.and_eq_true, decide_eq_true_eq]
    refine ⟨hcs, allOk_of v 11 0 fun j _ hj => ?_⟩
    rw [hcut j (by omega), hu j (by omega)]
    split
    · rename_i q
      subst q
      have := hoka p (by omega)
      rw [← hleft p (by omega)] at this
      simp only [okAt, Bool.or_eq_true, Bool.and_eq_true] at this ⊢
      rcases this with k | k
      · exact absurd k hdm
      · exact Or.inr ⟨k.1, hc⟩
    · rw [hleft j (by omega)]
      exact hoka j (by omega)
  by_cases hp11 : p = 11
  · subst hp11
    rw [if_pos rfl] at hu11
    have hva : chk v = chk a := by
      unfold chk
      rw [row_same v a 11 0 fun j _ hj => by rw [hcut j (by omega), hu j (by omega), if_neg (by omega), hleft j (by omega)]]
    rw [hu11, if_pos ⟨hus, hc, hokv⟩, if_neg (by rw [hva]; intro q; exact e (by rw [show ((11 : Nat) : Int) = 11 from rfl, hb11]; exact q))]
  · rw [if_neg (by omega), hb11] at hu11
    have hne := chk_turned a v p (by omega) (by rw [← hleft p (by omega)]; exact hd) (by rw [hcut p (by omega), hu p (by omega), if_pos rfl]; exact hc) (by rw [← hleft p (by omega), hcut p (by omega), hu p (by omega), if_pos rfl]; exact e)
      (fun j hj hjp => by rw [hcut j hj, hu j (by omega), if_neg (by omega), hleft j hj])
    rw [hu11, if_pos ⟨hus, by simp [isD]; omega, hokv⟩, if_neg (by omega)]
end Go.Proofs.Ytebdjhgboeadgaa.TurnP
