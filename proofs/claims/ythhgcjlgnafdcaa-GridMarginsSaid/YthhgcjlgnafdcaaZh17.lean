/- Texts of this seat, put together (Zh17). -/
import Derived.Test.YthhgcjlgnafdcaaZh9
import Derived.Test.YthhgcjlgnafdcaaZh10
import Derived.Test.YthhgcjlgnafdcaaZh11
import Derived.Test.YthhgcjlgnafdcaaZh15
import Derived.Test.YthhgcjlgnafdcaaZh16
section
namespace Go.Proofs.Ythhgcjlgnafdcaa.Pp
set_option linter.unusedSimpArgs false
set_option linter.unusedVariables false
open Go Go.RowKit Go.Proofs.YthhgcjlgnafdcaaW.PrintWords Go.Proofs.YthhgcjlgnafdcaaW.PrintLast Go.Proofs.Ythhgcjlgnafdcaa.Hd Go.Proofs.Ythhgcjlgnafdcaa.Os Go.Proofs.Ythhgcjlgnafdcaa.Tb Go.Proofs.Ythhgcjlgnafdcaa.Tm Go.Proofs.Ythhgcjlgnafdcaa.Px Go.Proofs.Ythhgcjlgnafdcaa.Ip Go.Proofs.Ythhgcjlgnafdcaa.Wv
abbrev PR := List (ByteArray × Int)
def getV (l : PR) (s : ByteArray) : Int := (Tb.get cmpS l s).getD 0
def getE (l : PR) (s : ByteArray) : Int := if has cmpS l s = true then 0 else 15
def setE (l : PR) (s : ByteArray) (n : Int) : Int := if isinE s ≠ 0 then isinE s else if n < 0 ∨ n ≥ 2147483648 then 2 else if has cmpS l s = false ∧ 32 ≤ l.length then 7 else 0
def setL (l : PR) (s : ByteArray) (n : Int) : PR := if setE l s n = 0 then put cmpS l s n else l
theorem up_rows {l : PR} (h : Up cmpS l) : Up cmpS (Tj.rows l) := (up_map _).2 h
theorem has_rows (l : PR) (s : ByteArray) : has cmpS (Tj.rows l) s = has cmpS l s := has_map _
theorem get_rows (l : PR) (s : ByteArray) : (Tb.get cmpS (Tj.rows l) s).getD (.int .i64 0) = .int .i64 (getV l s) := by
  have : Tb.get cmpS (Tj.rows l) s = (Tb.get cmpS l s).map fun y : Int => Value.int .i64 y := get_map _
  rw [this]
  unfold getV
  cases Tb.get cmpS l s <;> rfl
theorem put_rows (l : PR) (s : ByteArray) (n : Int) : put cmpS (Tj.rows l) s (.int .i64 n) = Tj.rows (put cmpS l s n) := put_map (fun y : Int => Value.int .i64 y)
theorem ones_rows (l : PR) : Ones (Tj.rows l) := fun r hr => by
  obtain ⟨q, _, rfl⟩ := List.mem_map.1 hr
  rfl
section
variable {w0 w : World} {L : List F2} {b c i j lo : Nat} {A : Option Addr} {l : PR} {tt : TypeId} {s : ByteArray} {n : Int}
theorem get_nil : Tells Try.prog 29 #[.pointer none, .string s] w (.tuple #[.int .i64 0, .int .i64 15]) := by
  unfold Tells
  go_enter Try.func29, Try.ntmps29
  go_wp2
  go_ret2
  exact ⟨rfl, Below.refl _ _⟩
theorem get_p (H : All w0 w L) (hi : L[i]? = some (bx b tt #[.slice A l.length c])) (hj : L[j]? = some (ow lo 173 2 (.slice A l.length c) l.length (flat (Tj.rows l)))) (hu : Up cmpS l) (hl : l.length ≤ 1000) (s : ByteArray) :
    Tells Try.prog 29 #[.pointer (some ⟨b, 0, none⟩), .string s] w (.tuple #[.int .i64 (getV l s), .int .i64 (getE l s)]) := by
  have hg := Tj.get_c H hi hj (up_rows hu) (by omega) s
  rw [get_rows, has_rows] at hg
  have H' := All.start w
  unfold Tells getE
  cases hh : has cmpS l s with
  | true =>
    rw [hh] at hg
    go_enter Try.func29, Try.ntmps29
    go_wp2_with fail
    refine hg.on H' fun w1 H1 => ?_
    go_wp2
    go_ret2
    exact ⟨rfl, H1.old⟩
  | false =>
    have e : getV l s = 0 := by unfold getV Tb.get; rw [hh]; rfl
    rw [hh] at hg
    rw [e]
    go_enter Try.func29, Try.ntmps29
    go_wp2_with fail
    refine hg.on H' fun w1 H1 => ?_
    go_wp2
    go_ret2
    exact ⟨rfl, H1.old⟩
theorem tlen_c {bs : Array Value} {m : Nat} (H : All w0 w L) (hi : L[i]? = some (bx b tt bs)) (hcs : bs[0]? = some (.slice A m c) := by rfl) : Tells Try.prog 71 #[.pointer (some ⟨b, 0, none⟩)] w (.int .i64 m) := by
  have hall : ∀ w1, All w0 w1 L → Tells Try.prog 111 #[.pointer (some ⟨b, 0, none⟩)] w1 (.slice A m c) := fun w1 H1 => by
    unfold Tells
    have H2 := (All.start w1).arg (H1.get i hi)
    have r0 := (H2.rd 0 rfl 0).trans hcs
    go_enter Try.func111, Try.ntmps111
    go_wp2
    go_ret
    exact ⟨rfl, H2.old⟩
  have h := hall w H
  have H' := All.start w
  unfold Tells
  go_enter Try.func71, Try.ntmps71
  go_wp2_with fail
  refine h.on H' fun w1 H1 => ?_
  go_wp2
  go_ret
  exact ⟨rfl, H1.old⟩
theorem len_p (H : All w0 w L) (hi : L[i]? = some (bx b tt #[.slice A l.length c])) : Tells Try.prog 34 #[.pointer (some ⟨b, 0, none⟩)] w (.int .i64 l.length) := by
  have h := tlen_c (m := l.length) H hi
  have H' := All.start w
  unfold Tells
  go_enter Try.func34, Try.ntmps34
  go_wp2_with fail
  refine h.on H' fun w1 H1 => ?_
  go_wp2
  go_ret
  exact ⟨rfl, H1.old⟩
theorem len_nil : Tells Try.prog 34 #[.pointer none] w (.int .i64 0) := by
  unfold Tells
  go_enter Try.func34, Try.ntmps34
  go_wp2
  go_ret
  exact ⟨rfl, Below.refl _ _⟩
theorem set_nil : Tells Try.prog 27 #[.pointer none, .string s, .int .i64 n] w (.int .i64 10) := by
  unfold Tells
  go_enter Try.func27, Try.ntmps27
  go_wp2
  go_ret
  exact ⟨rfl, Below.refl _ _⟩
set_option maxRecDepth 100000 in
set_option maxHeartbeats 4000000 in
theorem set_p (H : All w0 w (bx b tt #[.slice A l.length c] :: ow w0.heap.size 173 2 (.slice A l.length c) l.length (flat (Tj.rows l)) :: L)) (hb : w0.heap.size ≤ b) (hu : Up cmpS l) (hl : l.length ≤ 1000) :
    Calls Try.prog 27 #[.pointer (some ⟨b, 0, none⟩), .string s, .int .i64 n] w fun e w' => e = .returned (.int .i64 (setE l s n)) ∧ w.heap.size ≤ w'.heap.size ∧
      ∃ A' c', All w0 w' (bx b tt #[.slice A' (setL l s n).length c'] :: ow w0.heap.size 173 2 (.slice A' (setL l s n).length c') (setL l s n).length (flat (Tj.rows (setL l s n))) :: L) := by
  have hi := fun w => ident_Isin.calls 1 s _ w (iIsin s 0)
  by_cases h0 : isinE s ≠ 0
  · have e1 : setE l s n = isinE s := by unfold setE; rw [if_pos h0]
    have e2 : setL l s n = l := by unfold setL; rw [e1, if_neg h0]
    rw [e1, e2]
    clear e1 e2
    go_enter Try.func27, Try.ntmps27
    go_wp2_with fail
    refine (hi w).mono fun e w1 ⟨he, hB⟩ => ?_
    subst he
    have hsz := hB.size
    go_wp2
    go_ret
    exact ⟨rfl, hsz, A, c, H.grow hB⟩
  have h0' : isinE s = 0 := by omega
  rw [h0'] at hi
  by_cases h1 : n < 0 ∨ n ≥ 2147483648
  · have e1 : setE l s n = 2 := by unfold setE; rw [if_neg h0, if_pos h1]
    have e2 : setL l s n = l := by unfold setL; rw [e1]; rfl
    rw [e1, e2]
    clear e1 e2 h0 h0'
    by_cases h2 : n < 0
    · have d1 : decide (n < 0) = true := decide_eq_true h2
      clear h1 h2
      go_enter Try.func27, Try.ntmps27
      go_wp2_with fail
      refine (hi w).mono fun e w1 ⟨he, hB⟩ => ?_
      subst he
      have hsz := hB.size
      go_wp2
      go_ret
      exact ⟨rfl, hsz, A, c, H.grow hB⟩
    · have d1 : decide (n < 0) = false := decide_eq_false h2
      have d2 : decide (n ≥ 2147483648) = true := decide_eq_true (by omega)
      clear h1 h2
      go_enter Try.func27, Try.ntmps27
      go_wp2_with fail
      refine (hi w).mono fun e w1 ⟨he, hB⟩ => ?_
      subst he
      have hsz := hB.size
      go_wp2
      go_ret
      exact ⟨rfl, hsz, A, c, H.grow hB⟩
  have d1 : decide (n < 0) = false := decide_eq_false (by omega)
  have d2 : decide (n ≥ 2147483648) = false := decide_eq_false (by omega)
  have hgt := fun w1 (H1 : All w0 w1 (bx b tt #[.slice A l.length c] :: ow w0.heap.size 173 2 (.slice A l.length c) l.length (flat (Tj.rows l)) :: L)) => Tj.get_c (i := 0) (j := 1) H1 rfl rfl (up_rows hu) (by omega) s
  have hln := fun w1 (H1 : All w0 w1 (bx b tt #[.slice A l.length c] :: ow w0.heap.size 173 2 (.slice A l.length c) l.length (flat (Tj.rows l)) :: L)) => tlen_c (i := 0) (m := l.length) H1 rfl
  have hpt := fun w1 (H1 : All w0 w1 (bx b tt #[.slice A l.length c] :: ow w0.heap.size 173 2 (.slice A l.length c) l.length (flat (Tj.rows l)) :: L)) => Tj.put_c (x := .int .i64 n) (k := s) (i := 0) (j := 1) n rfl H1 (by decide) rfl rfl hb (Nat.le_refl _) H1.old.size (up_rows hu) (ones_rows l) (by omega)
  simp only [get_rows, has_rows, put_rows, Tj.rows_length] at hgt hpt
  generalize getV l s = v at hgt
  have e0 : setE l s n = if has cmpS l s = false ∧ 32 ≤ l.length then 7 else 0 := by unfold setE; rw [if_neg h0, if_neg h1]
  clear h0 h0' h1
  cases hh : has cmpS l s with
  | true =>
    rw [hh] at hgt hpt e0
    have e1 : setE l s n = 0 := by rw [e0]; rfl
    have e2 : setL l s n = put cmpS l s n := by unfold setL; rw [if_pos e1]
    rw [e1, e2]
    clear e0 e1 e2
    generalize put cmpS l s n = l2 at *
    go_enter Try.func27, Try.ntmps27
    go_wp2_with fail
    refine (hi w).mono fun e w1 ⟨he, hB⟩ => ?_
    subst he
    have H1 := H.grow hB
    have hsz := hB.size
    go_wp2_with fail
    refine (hgt w1 H1).mono fun e w2 ⟨he, hB2⟩ => ?_
    subst he
    have H2 := H1.grow hB2
    have hsz2 := hB2.size
    go_wp2_with fail
    refine (hpt w2 H2).mono ?_
    rintro e w3 ⟨rfl, hsz3, A', c', H3⟩
    go_wp2
    go_ret
    exact ⟨rfl, Nat.le_trans hsz (Nat.le_trans hsz2 hsz3), A', c', H3⟩
  | false =>
    rw [hh] at hgt hpt e0
    by_cases h3 : 32 ≤ l.length
    · have e1 : setE l s n = 7 := by rw [e0, if_pos ⟨rfl, h3⟩]
      have e2 : setL l s n = l := by unfold setL; rw [e1]; rfl
      have d3 : decide ((l.length : Int) ≥ 32) = true := decide_eq_true (by omega)
      rw [e1, e2]
      clear e0 e1 e2 hpt h3
      go_enter Try.func27, Try.ntmps27
      go_wp2_with fail
      refine (hi w).mono fun e w1 ⟨he, hB⟩ => ?_
      subst he
      have H1 := H.grow hB
      have hsz := hB.size
      go_wp2_with fail
      refine (hgt w1 H1).mono fun e w2 ⟨he, hB2⟩ => ?_
      subst he
      have H2 := H1.grow hB2
      have hsz2 := hB2.size
      go_wp2_with fail
      refine (hln w2 H2).mono fun e w3 ⟨he, hB3⟩ => ?_
      subst he
      have H3 := H2.grow hB3
      have hsz3 := hB3.size
      go_wp2
      go_ret
      exact ⟨rfl, Nat.le_trans hsz (Nat.le_trans hsz2 hsz3), A, c, H3⟩
    · have e1 : setE l s n = 0 := by rw [e0, if_neg (fun h => h3 h.2)]
      have e2 : setL l s n = put cmpS l s n := by unfold setL; rw [if_pos e1]
      have d3 : decide ((l.length : Int) ≥ 32) = false := decide_eq_false (by omega)
      rw [e1, e2]
      clear e0 e1 e2 h3
      generalize put cmpS l s n = l2 at *
      go_enter Try.func27, Try.ntmps27
      go_wp2_with fail
      refine (hi w).mono fun e w1 ⟨he, hB⟩ => ?_
      subst he
      have H1 := H.grow hB
      have hsz := hB.size
      go_wp2_with fail
      refine (hgt w1 H1).mono fun e w2 ⟨he, hB2⟩ => ?_
      subst he
      have H2 := H1.grow hB2
      have hsz2 := hB2.size
      go_wp2_with fail
      refine (hln w2 H2).mono fun e w3 ⟨he, hB3⟩ => ?_
      subst he
      have H3 := H2.grow hB3
      have hsz3 := hB3.size
      go_wp2_with fail
      refine (hpt w3 H3).mono ?_
      rintro e w4 ⟨rfl, hsz4, A', c', H4⟩
      go_wp2
      go_ret
      exact ⟨rfl, Nat.le_trans hsz (Nat.le_trans hsz2 (Nat.le_trans hsz3 hsz4)), A', c', H4⟩
def ofE : PR → List (ByteArray × Int) → Int × PR
  | l, [] => (0, l)
  | l, r :: rs => if setE l r.1 r.2 ≠ 0 then (setE l r.1 r.2, l) else if has cmpS l r.1 = true then (6, l) else ofE (put cmpS l r.1 r.2) rs
structure OkP (l : PR) : Prop where
  up : Up cmpS l
  len : l.length ≤ 32
  val : ∀ s n, (s, n) ∈ l → 0 ≤ n ∧ n < 2147483648
theorem okP_nil : OkP [] := ⟨.nil, by decide, fun _ _ h => by cases h⟩
theorem OkP.set {l : PR} (h : OkP l) (s : ByteArray) (n : Int) : OkP (setL l s n) := by
  unfold setL
  split
  · rename_i h0
    unfold setE at h0
    split at h0
    · contradiction
    split at h0
    · contradiction
    split at h0
    · contradiction
    rename_i h1 h2
    refine ⟨put_up good_S h.up, ?_, fun k v hk => ?_⟩
    · cases hh : has cmpS l s with
      | true => rw [put_len_has hh]; exact h.len
      | false =>
        rw [put_len hh]
        have : ¬ 32 ≤ l.length := fun q => h2 ⟨hh, q⟩
        omega
    · rcases (put_mem good_S h.up).1 hk with ⟨_, rfl⟩ | ⟨_, h3⟩
      · omega
      · exact h.val k v h3
  · exact h
theorem setL_put {l : PR} {s : ByteArray} {n : Int} (h : setE l s n = 0) : setL l s n = put cmpS l s n := by unfold setL; rw [if_pos h]
theorem ofE_ok : ∀ (rs : List (ByteArray × Int)) (l : PR), OkP l → OkP (ofE l rs).2
  | [], l, h => h
  | r :: rs, l, h => by
    unfold ofE
    split
    · exact h
    · rename_i h0
      split
      · exact h
      · have := h.set r.1 r.2
        rw [setL_put (by omega)] at this
        exact ofE_ok rs _ this
structure HasP (w0 w : World) (l : PR) (L : List F2) (p : Option Addr) : Prop where
  at_ : ∃ b A c, p = some ⟨b, 0, none⟩ ∧ w0.heap.size ≤ b ∧ All w0 w (bx b 66 #[.slice A l.length c] :: ow w0.heap.size 173 2 (.slice A l.length c) l.length (flat (Tj.rows l)) :: L)
structure NewP (w0 w : World) (rs : List (ByteArray × Int)) (L : List F2) (p : Option Addr) (E : Int) : Prop where
  bad : E ≠ 0 → p = none ∧ All w0 w L
  good : E = 0 → HasP w0 w (ofE [] rs).2 L p
theorem at_krow {w : World} {A : Option Addr} {n : Nat} {xs : List (ByteArray × Int)} (h : Kd.C krow w A n xs) {i : Nat} (hi : i < xs.length) : ∃ ad, A = some ad ∧ w.cell? (ad.add (i * 2)) = some (.string xs[i].1) ∧ w.cell? ⟨(ad.add (i * 2)).block, (ad.add (i * 2)).off + 1, none⟩ = some (.int .i64 xs[i].2) := by
  obtain ⟨h1, h2, h3⟩ := h
  obtain ⟨ad, rfl, h4⟩ := h3 (by omega)
  obtain ⟨cs, hl, hK, hc⟩ := h4 i xs[i] (List.getElem?_eq_getElem hi)
  obtain rfl := krow_K hK
  refine ⟨ad, rfl, hc 0 _ rfl, ?_⟩
  have h5 : w.cell? (ad.add (i * 2 + 1)) = some (.int .i64 xs[i].2) := hc 1 _ rfl
  rw [add_field ad (i * 2) 1 (by decide)] at h5
  exact h5
set_option maxRecDepth 100000 in
set_option maxHeartbeats 4000000 in
theorem of_p {qi ci : Nat} {rs : List (ByteArray × Int)} {Ar : Option Addr} {okR : Nat → Prop} (H : All w0 w L) (hq : L[qi]? = some (okR, fun W => Kd.C krow W Ar rs.length rs)) (hl : rs.length ≤ 1000) :
    Calls Try.prog 13 #[.slice Ar rs.length ci] w fun e w' => ∃ p, e = .returned (.tuple #[.pointer p, .int .i64 (ofE [] rs).1]) ∧ NewP w0 w' rs L p (ofE [] rs).1 := by
  have H0 := ((H.row w0.heap.size 173 2).box w.heap.size 66 #[.slice none 0 0])
  have hb := H.old.size
  obtain ⟨E, hE⟩ : ∃ E, (ofE [] rs).1 = E := ⟨_, rfl⟩
  rw [hE]
  replace hE := Aside0.mk hE
  clear H
  go_enter Try.func13, Try.ntmps13
  go_wp2_with fail
  go_loopg [14] rs.length (fun kx s14 wr => ∃ (i : Nat) (l : PR) (A : Option Addr) (c : Nat), s14 = .int .i64 (i : Int) ∧ i ≤ rs.length ∧ rs.length - i ≤ kx ∧ Aside0 (OkP l ∧ ofE [] rs = ofE l (rs.drop i)) ∧
    All w0 wr (bx w.heap.size 66 #[.slice A l.length c] :: ow w0.heap.size 173 2 (.slice A l.length c) l.length (flat (Tj.rows l)) :: L))
  case atStart => exact ⟨0, [], none, 0, rfl, Nat.zero_le _, by omega, ⟨okP_nil, rfl⟩, H0⟩
  case round =>
    clear H0
    obtain ⟨i, l, A, c, rfl, hil, hik, hok, H⟩ := hrel
    by_cases hlt : i < rs.length
    · have hli : (i : Int) < (rs.length : Int) := Int.ofNat_lt.2 hlt
      obtain ⟨ad, rfl, hc0, hc1⟩ := at_krow (H.at (qi + 2) hq) hlt
      have e2 : ofE l (rs.drop i) = if setE l rs[i].1 rs[i].2 ≠ 0 then (setE l rs[i].1 rs[i].2, l) else if has cmpS l rs[i].1 = true then (6, l) else ofE (put cmpS l rs[i].1 rs[i].2) (rs.drop (i + 1)) := by rw [List.drop_eq_getElem_cons hlt, ofE]
      obtain ⟨r, hr⟩ : ∃ r, rs[i] = r := ⟨_, rfl⟩
      rw [hr] at hc0 hc1 e2
      obtain ⟨s, n⟩ := r
      simp only at hc0 hc1 e2
      have hll := Nat.le_trans hok.out.1.len (show 32 ≤ 1000 by decide)
      have e3 := hok.out.2.trans e2
      clear hr e2
      have H1 : All w0 (wr.alloc (.cells #[.string s, .int .i64 n] 79 (0, 0))) (bx w.heap.size 66 #[.slice A l.length c] :: ow w0.heap.size 173 2 (.slice A l.length c) l.length (flat (Tj.rows l)) :: bx wr.heap.size 79 #[.string s, .int .i64 n] :: L) := ((H.box wr.heap.size 79 #[.string s, .int .i64 n]).front 2 rfl).front 2 rfl
      have hgt := fun w1 (H1 : All w0 w1 (bx w.heap.size 66 #[.slice A l.length c] :: ow w0.heap.size 173 2 (.slice A l.length c) l.length (flat (Tj.rows l)) :: bx wr.heap.size 79 #[.string s, .int .i64 n] :: L)) => Tj.get_c (i := 0) (j := 1) H1 rfl rfl (up_rows hok.out.1.up) (Nat.lt_of_le_of_lt hll (by decide)) s
      have hst := fun w1 (H1 : All w0 w1 (bx w.heap.size 66 #[.slice A l.length c] :: ow w0.heap.size 173 2 (.slice A l.length c) l.length (flat (Tj.rows l)) :: bx wr.heap.size 79 #[.string s, .int .i64 n] :: L)) => set_p (s := s) (n := n) H1 hb hok.out.1.up hll
      simp only [get_rows, has_rows] at hgt
      have hok2 := Aside0.mk (hok.out.1.set s n)
      have hp0 := @setL_put l s n
      generalize getV l s = gv at hgt
      obtain ⟨sl, hsl⟩ : ∃ sl, setL l s n = sl := ⟨_, rfl⟩
      obtain ⟨se, hse⟩ : ∃ se, setE l s n = se := ⟨_, rfl⟩
      obtain ⟨hh, hhe⟩ : ∃ hh, has cmpS l s = hh := ⟨_, rfl⟩
      rw [hsl] at hst hok2 hp0
      rw [hse] at hst e3 hp0
      rw [hhe] at hgt e3
      replace e3 := Aside0.mk e3
      replace hp0 := Aside0.mk (Aside0.mk hp0)
      clear H hsl hse hhe
      by_cases h0 : se = 0
      · subst h0
        cases hh with
        | true =>
          obtain rfl : 6 = E := by rw [← hE.out, e3.out]; rfl
          go_wp2_with fail
          refine plan_ (true, [([], []), ([0], [0]), ([1], [1]), ([2], [2]), ([], []), ([4], [4]), ([3, 5], [3, 5]), ([6], [6]), ([7], [7]), ([7], [7]), ([8, 6, 0, 1, 2, 3, 4, 5, 6, 7, 8], [8]), ([9, 10, 0, 1, 2, 3, 4, 5, 6, 7, 8, 9, 10], [9])]) [.p 0, .p 1, .p 2, .p 3, .p 4, .t 5, .c 6, .p 7, .p 8, .p 9, .p 10, .p 11] H1 (by kernel_rfl) (by kernel_rfl) rfl rfl (by kernel_rfl) (by intro c a w d v h; cases d <;> exact h) (fun w1 H2 => ?_)
          refine pl_P (h := ?_)
          refine pl_P (h := ?_)
          refine pl_P (h := ?_)
          refine pl_P (h := ?_)
          refine pl_P (h := ?_)
          refine pl_L 2 0 H2 rfl (h := ?_)
          refine pl_S (hgt w1 H2) H2 Try.func58 (h := fun w2 H3 => ?_)
          repeat refine pl_P (h := ?_)
          refine pl_done ?_
          have r3 := H3.rd 2 rfl
          clear H1 H2 hgt
          go_wp2_with fail
          refine (hst w2 H3).mono ?_
          rintro e w3 ⟨rfl, hsz, A', c', H4⟩
          clear hst H3 r3
          go_wp2
          go_ret2
          exact ⟨none, rfl, ⟨fun _ => ⟨rfl, H4.drop 3⟩, fun h => absurd h (by decide)⟩⟩
        | false =>
          go_wp2_with fail
          refine plan_ (true, [([], []), ([0], [0]), ([1], [1]), ([2], [2]), ([], []), ([4], [4]), ([3, 5], [3, 5]), ([6], [6]), ([7], [7]), ([7], [7]), ([8, 6, 0, 1, 2, 3, 4, 5, 6, 7, 8], [8]), ([9, 10, 0, 1, 2, 3, 4, 5, 6, 7, 8, 9, 10], [9])]) [.p 0, .p 1, .p 2, .p 3, .p 4, .t 5, .c 6, .p 7, .p 8, .p 9, .p 10, .p 11] H1 (by kernel_rfl) (by kernel_rfl) rfl rfl (by kernel_rfl) (by intro c a w d v h; cases d <;> exact h) (fun w1 H2 => ?_)
          refine pl_P (h := ?_)
          refine pl_P (h := ?_)
          refine pl_P (h := ?_)
          refine pl_P (h := ?_)
          refine pl_P (h := ?_)
          refine pl_L 2 0 H2 rfl (h := ?_)
          refine pl_S (hgt w1 H2) H2 Try.func58 (h := fun w2 H3 => ?_)
          repeat refine pl_P (h := ?_)
          refine pl_done ?_
          have r3 := H3.rd 2 rfl
          clear H1 H2 hgt
          go_wp2_with fail
          refine (hst w2 H3).mono ?_
          rintro e w3 ⟨rfl, hsz, A', c', H4⟩
          clear hst H3 r3
          go_wp2_with fail
          go_roundg (rs.length - (i + 1))
          case measure => omega
          case rel => exact ⟨i + 1, sl, A', c', rfl, hlt, Nat.le_refl _, ⟨hok2.out, by rw [e3.out, hp0.out.out trivial]; rfl⟩, H4.cut 2⟩
      · obtain rfl : se = E := by rw [← hE.out, e3.out, if_pos h0]
        have h0' : (se == 0) = false := by simpa using h0
        have h0'' : (se != 0) = true := by simpa using h0
        go_wp2_with fail
        refine plan_ (true, [([], []), ([0], [0]), ([1], [1]), ([2], [2]), ([], []), ([4], [4]), ([3, 5], [3, 5]), ([6], [6]), ([7], [7]), ([7], [7]), ([8, 6, 0, 1, 2, 3, 4, 5, 6, 7, 8], [8]), ([9, 10, 0, 1, 2, 3, 4, 5, 6, 7, 8, 9, 10], [9])]) [.p 0, .p 1, .p 2, .p 3, .p 4, .t 5, .c 6, .p 7, .p 8, .p 9, .p 10, .p 11] H1 (by kernel_rfl) (by kernel_rfl) rfl rfl (by kernel_rfl) (by intro c a w d v h; cases d <;> exact h) (fun w1 H2 => ?_)
        refine pl_P (h := ?_)
        refine pl_P (h := ?_)
        refine pl_P (h := ?_)
        refine pl_P (h := ?_)
        refine pl_P (h := ?_)
        refine pl_L 2 0 H2 rfl (h := ?_)
        refine pl_S (hgt w1 H2) H2 Try.func58 (h := fun w2 H3 => ?_)
        repeat refine pl_P (h := ?_)
        refine pl_done ?_
        have r3 := H3.rd 2 rfl
        clear H1 H2 hgt
        go_wp2_with fail
        refine (hst w2 H3).mono ?_
        rintro e w3 ⟨rfl, hsz, A', c', H4⟩
        clear hst H3 r3
        go_wp2
        go_ret2
        exact ⟨none, rfl, ⟨fun _ => ⟨rfl, H4.drop 3⟩, fun h => absurd h h0⟩⟩
    · obtain rfl : i = rs.length := Nat.le_antisymm hil (Nat.le_of_not_lt hlt)
      have e3 : ofE [] rs = (0, l) := by rw [hok.out.2, List.drop_length, ofE]
      obtain rfl : 0 = E := by rw [← hE.out, e3]
      have e4 : (ofE [] rs).2 = l := by rw [e3]
      replace e4 := Aside0.mk e4
      go_wp2
      go_ret2
      exact ⟨some ⟨w.heap.size, 0, none⟩, rfl, ⟨fun h => absurd rfl h, fun _ => ⟨w.heap.size, A, c, rfl, hb, by rw [e4.out]; exact H⟩⟩⟩
end
end Go.Proofs.Ythhgcjlgnafdcaa.Pp
end
