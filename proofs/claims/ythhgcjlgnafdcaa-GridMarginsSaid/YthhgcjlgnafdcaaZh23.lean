/- Texts of this seat, put together (Zh23). -/
import Derived.Test.YthhgcjlgnafdcaaZh4
import Derived.Test.YthhgcjlgnafdcaaZh5
import Derived.Test.YthhgcjlgnafdcaaZh8
import Derived.Test.YthhgcjlgnafdcaaZh19
import Derived.Test.YthhgcjlgnafdcaaZh20
import Derived.Test.YthhgcjlgnafdcaaZh21
import Derived.Test.YthhgcjlgnafdcaaZh22
section
namespace Go.Proofs.Ythhgcjlgnafdcaa.Rr
set_option linter.unusedSimpArgs false
set_option linter.unusedVariables false
open Go Go.RowKit Go.ChangeShapes Go.WideShapes Go.ChangeAt Go.Deep Go.Proofs.YthhgcjlgnafdcaaW.PrintWords Go.Proofs.YthhgcjlgnafdcaaW.PrintMore Go.Proofs.YthhgcjlgnafdcaaW.PrintLast Go.Proofs.Ythhgcjlgnafdcaa.Hd Go.Proofs.Ythhgcjlgnafdcaa.Opn Go.Proofs.Ythhgcjlgnafdcaa.Pp Go.Proofs.Ythhgcjlgnafdcaa.Pq
open Go.Proofs.Ythhgcjlgnafdcaa.Nu (I64 U64 I128 sgn)
structure RA where
  A : Option Addr
  cap : Nat
  l : PR
def RA.val (x : RA) : Value := .slice x.A x.l.length x.cap
structure GoodA (w : World) (x : RA) : Prop where
  cap : x.l.length ≤ x.cap
  rows : CR x.A x.l w
  i64 : ∀ r ∈ x.l, I64 r.2
theorem arg_c {w : World} (x : RA) (g : GoodA w x) : All w w [(fun k => k < w.heap.size, CR x.A (x.l.take 40))] :=
  (All.start w).arg ((held_C g.rows).imp fun W h => C_cut h _)
section
variable {H : Type} {enc : TypeId × Value → H} {P : Program} {w : World} {base : Nat} {sp : Nat → Bool} {held : Bool} {t e : TypeId}
theorem openRow {n : Nat} {cs : List Value} {y : DataW H × List MemPlace} (h : DataW.trod enc Try.prog w base sp held n 71 cs = some y) : ∃ x : ByteArray × Int, krow.K w x cs ∧ I64 x.2 := by
  obtain ⟨m, hl, hf⟩ := trod_flat (flat_of (P := Try.prog) Try.underlying71 (by kernel_rfl)) h
  obtain ⟨v0, y0, e0, t0⟩ := hf 0 _ rfl
  obtain ⟨v1, y1, e1, t1⟩ := hf 1 _ rfl
  obtain ⟨x0, q0, _, _⟩ := DataW.trod_string Try.underlying9 t0
  obtain ⟨x1, q1, _, g1⟩ := DataW.trod_int Try.underlying2 t1
  simp only [List.cons.injEq, and_true] at q0 q1
  subst q0 q1
  refine ⟨(x0, x1), ?_, i64_of g1⟩
  have : cs = encR (x0, x1) := by
    match cs, hl with
    | [a, b], _ =>
      simp at e0 e1
      simp [e0, e1, encR]
  rw [this]
  exact krow_mk w (x0, x1)
set_option maxRecDepth 100000 in
theorem openA {v : Value} {d : DataW H} {ps : List MemPlace} {r : Reach} {b0 : Nat} (hval : Value.okWide Try.prog w r b0 22 v) (h : DataW.Trod enc Try.prog w base sp held 22 v d ps) : ∃ x : RA, v = x.val ∧ GoodA w x := by
  obtain ⟨A, len, cap, rfl⟩ := okWide_slice Try.underlying22 hval
  obtain ⟨l, rfl, hc, hC, hg⟩ := open_sliceK krow (ByteArray.empty, 0) (fun x => I64 x.2) Try.underlying22 (by kernel_rfl) (fun n cs y hy => openRow hy) h
  exact ⟨⟨A, cap, l⟩, rfl, hc, hC, hg⟩
end
end Go.Proofs.Ythhgcjlgnafdcaa.Rr
end
section
namespace Go.Proofs.Ythhgcjlgnafdcaa.Va
set_option linter.unusedSimpArgs false
set_option linter.unusedVariables false
open Go Go.RowKit Go.Proofs.YthhgcjlgnafdcaaW.PrintWords Go.Proofs.YthhgcjlgnafdcaaW.PrintLast Go.Proofs.Ythhgcjlgnafdcaa.Hd Go.Proofs.Ythhgcjlgnafdcaa.Os Go.Proofs.Ythhgcjlgnafdcaa.Tb Go.Proofs.Ythhgcjlgnafdcaa.Tm Go.Proofs.Ythhgcjlgnafdcaa.Px Go.Proofs.Ythhgcjlgnafdcaa.Wv Go.Proofs.Ythhgcjlgnafdcaa.Pp Go.Proofs.Ythhgcjlgnafdcaa.Pq Go.Proofs.Ythhgcjlgnafdcaa.Ps Go.Proofs.Ythhgcjlgnafdcaa.Rp Go.Proofs.Ythhgcjlgnafdcaa.Rw Go.Proofs.Ythhgcjlgnafdcaa.Rv
open Go.Proofs.Ythhgcjlgnafdcaa.Nu (I64 U64 I128 sgn wd)
section
variable {w : World} {A : Option Addr} {l : PR} {c : Nat} {hi lo : Int}
end
end Go.Proofs.Ythhgcjlgnafdcaa.Va
end
section
namespace Go.Proofs.Ythhgcjlgnafdcaa.Vb
set_option linter.unusedSimpArgs false
set_option linter.unusedVariables false
open Go Go.RowKit Go.Proofs.YthhgcjlgnafdcaaW.PrintWords Go.Proofs.YthhgcjlgnafdcaaW.PrintLast Go.Proofs.Ythhgcjlgnafdcaa.Hd Go.Proofs.Ythhgcjlgnafdcaa.Os Go.Proofs.Ythhgcjlgnafdcaa.Tb Go.Proofs.Ythhgcjlgnafdcaa.Tm Go.Proofs.Ythhgcjlgnafdcaa.Px Go.Proofs.Ythhgcjlgnafdcaa.Wv Go.Proofs.Ythhgcjlgnafdcaa.Pp Go.Proofs.Ythhgcjlgnafdcaa.Pq Go.Proofs.Ythhgcjlgnafdcaa.Ps Go.Proofs.Ythhgcjlgnafdcaa.Rp Go.Proofs.Ythhgcjlgnafdcaa.Rw Go.Proofs.Ythhgcjlgnafdcaa.Rv Go.Proofs.Ythhgcjlgnafdcaa.Va
open Go.Proofs.Ythhgcjlgnafdcaa.Nu (I64 U64 I128 sgn wd num Cs dig neg cmp_c)
section
variable {w0 w : World} {L : List F2} {A : Option Addr} {c : Nat} {x : Int} {ok : Nat → Prop}
end
end Go.Proofs.Ythhgcjlgnafdcaa.Vb
end
section
namespace Go.Proofs.Ythhgcjlgnafdcaa.Vc
set_option linter.unusedSimpArgs false
set_option linter.unusedVariables false
open Go Go.RowKit Go.ChangeShapes Go.WideShapes Go.ChangeAt Go.Deep Go.Proofs.YthhgcjlgnafdcaaW.PrintWords Go.Proofs.YthhgcjlgnafdcaaW.PrintMore Go.Proofs.YthhgcjlgnafdcaaW.PrintLast Go.Proofs.Ythhgcjlgnafdcaa.Hd Go.Proofs.Ythhgcjlgnafdcaa.Opn Go.Proofs.Ythhgcjlgnafdcaa.Tb Go.Proofs.Ythhgcjlgnafdcaa.Os Go.Proofs.Ythhgcjlgnafdcaa.Tm Go.Proofs.Ythhgcjlgnafdcaa.Px Go.Proofs.Ythhgcjlgnafdcaa.Wv Go.Proofs.Ythhgcjlgnafdcaa.Pp Go.Proofs.Ythhgcjlgnafdcaa.Pq Go.Proofs.Ythhgcjlgnafdcaa.Ps Go.Proofs.Ythhgcjlgnafdcaa.Pk Go.Proofs.Ythhgcjlgnafdcaa.Rp Go.Proofs.Ythhgcjlgnafdcaa.Ro Go.Proofs.Ythhgcjlgnafdcaa.Rw Go.Proofs.Ythhgcjlgnafdcaa.Rr Go.Proofs.Ythhgcjlgnafdcaa.Rv Go.Proofs.Ythhgcjlgnafdcaa.Va Go.Proofs.Ythhgcjlgnafdcaa.Vb
open Go.Proofs.Ythhgcjlgnafdcaa.Nu (I64 U64 I128 sgn wd num Cs dig neg cmp_c)
section
variable {w0 w : World} {L : List F2} {A : Option Addr} {c : Nat} {ok : Nat → Prop}
end
structure HA where
  A : Option Addr
  cap : Nat
  l : PR
  x : Int
def HA.val (h : HA) : Value := .agg #[.slice h.A h.l.length h.cap, .int .i64 (hiW h.x), .int .u64 (loW h.x)]
section
variable {H : Type} {enc : TypeId × Value → H} {P : Program} {w : World} {base : Nat} {sp : Nat → Bool} {held : Bool} {t e : TypeId}
theorem trod_sliceV (ht : P.underlying t = some (.slice e)) {n : Nat} {v : Value} {y : DataW H × List MemPlace} (h : DataW.trod enc P w base sp held n t [v] = some y) : ∃ A l c, v = .slice A l c := by
  rcases open_slice ht h with ⟨hcs, _⟩ | ⟨a, len', cap', m, n, D, Pl, hcs, _⟩
  · simp at hcs
    exact ⟨_, _, _, hcs⟩
  · simp at hcs
    exact ⟨_, _, _, hcs⟩
end
end Go.Proofs.Ythhgcjlgnafdcaa.Vc
end
section
namespace Go.Proofs.Ythhgcjlgnafdcaa.Ga
set_option linter.unusedSimpArgs false
set_option linter.unusedVariables false
open Go Go.RowKit Go.Proofs.YthhgcjlgnafdcaaW.PrintWords Go.Proofs.YthhgcjlgnafdcaaW.PrintLast Go.Proofs.Ythhgcjlgnafdcaa.Hd Go.Proofs.Ythhgcjlgnafdcaa.Os Go.Proofs.Ythhgcjlgnafdcaa.Tb Go.Proofs.Ythhgcjlgnafdcaa.Tm Go.Proofs.Ythhgcjlgnafdcaa.Px Go.Proofs.Ythhgcjlgnafdcaa.Wv Go.Proofs.Ythhgcjlgnafdcaa.Pp Go.Proofs.Ythhgcjlgnafdcaa.Pq Go.Proofs.Ythhgcjlgnafdcaa.Ps Go.Proofs.Ythhgcjlgnafdcaa.Rp Go.Proofs.Ythhgcjlgnafdcaa.Rw Go.Proofs.Ythhgcjlgnafdcaa.Rv
open Go.Proofs.Ythhgcjlgnafdcaa.Nu (I64 U64 I128 sgn)
abbrev Sc := Int × PR
def okN (n : Int) : Bool := decide (-10000 ≤ n) && decide (n ≤ 20000)
def badN (r : ByteArray × Int) : Bool := !okN r.2
def chk (s : Sc) : Int := if (!okN s.1 || s.2.any badN) = true then 1 else if sortedB s.2 = false then 8 else if 32 < s.2.length then 2 else 0
theorem chk_ok {s : Sc} (h : chk s = 0) : okN s.1 = true ∧ (∀ r ∈ s.2, okN r.2 = true) ∧ Up cmpS s.2 ∧ s.2.length ≤ 32 := by
  unfold chk at h
  split at h
  · cases h
  · rename_i h1
    split at h
    · cases h
    · rename_i h2
      split at h
      · cases h
      · rename_i h3
        simp only [Bool.or_eq_true, Bool.not_eq_true', not_or, Bool.not_eq_false, Bool.not_eq_true] at h1 h2
        refine ⟨h1.1, fun r hr => ?_, sortedB_iff.1 h2, by omega⟩
        have := List.any_eq_false.1 h1.2 r hr
        unfold badN at this
        simpa using this
section
variable {w : World} {A : Option Addr} {rs : PR} {c : Nat} {n : Int}
theorem gright_c : Tells Try.prog 81 #[.int .i64 n] w (.bool (okN n)) := by
  unfold Tells okN
  by_cases h1 : -10000 ≤ n
  · have d1 : decide (n ≥ -10000) = true := decide_eq_true h1
    rw [decide_eq_true h1]
    go_enter Try.func81, Try.ntmps81
    go_wp2
    go_ret
    exact ⟨rfl, Below.refl _ _⟩
  · have d1 : decide (n ≥ -10000) = false := decide_eq_false h1
    rw [decide_eq_false h1]
    go_enter Try.func81, Try.ntmps81
    go_wp2
    go_ret
    exact ⟨rfl, Below.refl _ _⟩
theorem badN_c (W : World) (r : ByteArray × Int) : Tells Try.prog 83 #[.agg #[.string r.1, .int .i64 r.2]] W (.bool (badN r)) := by
  unfold Tells badN
  obtain ⟨s, n⟩ := r
  simp only
  have H := (All.start W).box W.heap.size 79 #[.string s, .int .i64 n]
  generalize hq : okN n = q
  have hr := fun w => gright_c (w := w) (n := n)
  rw [hq] at hr
  go_enter Try.func83, Try.ntmps83
  go_wp2_with fail
  refine (hr _).on H fun w1 H1 => ?_
  go_wp2
  go_ret
  exact ⟨rfl, H1.old⟩
set_option maxRecDepth 100000 in
set_option maxHeartbeats 4000000 in
theorem gcheck_c (H : CR A rs w) (hc : rs.length ≤ c) (hl : rs.length ≤ 1000) : Tells Try.prog 41 #[.agg #[.int .i64 n, .slice A rs.length c]] w (.int .i64 (chk (n, rs))) := by
  have H0 := ((All.start w).arg (held_C H)).box w.heap.size 95 #[.int .i64 n, .slice A rs.length c]
  have h1 := fun W (h : CR A rs W) => sorted_c h hc hl
  have h2 := fun W (h : CR A rs W) => contains_c (c := c) (enters_of Try.func83 (by kernel_rfl) rfl) h hl badN_c
  have h3 := fun W => gright_c (w := W) (n := n)
  have hm : rs.length ≤ 9223372036854775807 := Nat.le_trans hl (by decide)
  unfold Tells chk
  simp only
  generalize rs.any badN = q at *
  generalize sortedB rs = u at *
  generalize okN n = k at *
  have r0 := H0.rd 0 rfl
  cases k with
  | false =>
    go_enter Try.func41, Try.ntmps41
    go_wp2_with fail
    refine (h3 _).on H0 fun w1 H1 => ?_
    go_wp2
    go_ret
    exact ⟨rfl, H1.old⟩
  | true =>
    cases q with
    | true =>
      go_enter Try.func41, Try.ntmps41
      go_wp2_with fail
      refine (h3 _).on H0 fun w1 H1 => ?_
      have r1 := H1.rd 0 rfl
      go_wp2_with fail
      refine (h2 _ (H1.at 1 rfl)).on H1 fun w2 H2 => ?_
      go_wp2
      go_ret
      exact ⟨rfl, H2.old⟩
    | false =>
      cases u with
      | false =>
        go_enter Try.func41, Try.ntmps41
        go_wp2_with fail
        refine (h3 _).on H0 fun w1 H1 => ?_
        have r1 := H1.rd 0 rfl
        go_wp2_with fail
        refine (h2 _ (H1.at 1 rfl)).on H1 fun w2 H2 => ?_
        have r2 := H2.rd 0 rfl
        go_wp2_with fail
        refine (h1 _ (H2.at 1 rfl)).on H2 fun w3 H3 => ?_
        go_wp2
        go_ret
        exact ⟨rfl, H3.old⟩
      | true =>
        obtain ⟨v, hv⟩ : ∃ v : Int, (if 32 < rs.length then 2 else 0 : Int) = v := ⟨_, rfl⟩
        simp only [Bool.not_true, Bool.or_false, Bool.false_eq_true, if_false, Bool.true_eq_false]
        rw [hv]
        replace hv := Aside0.mk hv
        go_enter Try.func41, Try.ntmps41
        go_wp2_with fail
        refine (h3 _).on H0 fun w1 H1 => ?_
        have r1 := H1.rd 0 rfl
        go_wp2_with fail
        refine (h2 _ (H1.at 1 rfl)).on H1 fun w2 H2 => ?_
        have r2 := H2.rd 0 rfl
        go_wp2_with fail
        refine (h1 _ (H2.at 1 rfl)).on H2 fun w3 H3 => ?_
        have r3 := H3.rd 0 rfl
        by_cases h32 : 32 < rs.length
        · have d1 : decide ((rs.length : Int) > 32) = true := decide_eq_true (by omega)
          obtain rfl : 2 = v := by rw [← hv.out, if_pos h32]
          clear hv
          go_wp2
          go_ret
          exact ⟨rfl, H3.old⟩
        · have d1 : decide ((rs.length : Int) > 32) = false := decide_eq_false (by omega)
          obtain rfl : 0 = v := by rw [← hv.out, if_neg h32]
          clear hv
          go_wp2
          go_ret
          exact ⟨rfl, H3.old⟩
set_option maxRecDepth 100000 in
set_option maxHeartbeats 4000000 in
theorem rcheck_c (H : CR A rs w) (hl : rs.length ≤ 1000) : Tells Try.prog 42 #[.agg #[.int .i64 n, .slice A rs.length c]] w (.int .i64 (chk (n, rs))) := by
  have H0 := ((All.start w).arg (held_C H)).box w.heap.size 98 #[.int .i64 n, .slice A rs.length c]
  have r0 := H0.rd 0 rfl
  obtain ⟨V, hV⟩ : ∃ V, chk (n, rs) = V := ⟨_, rfl⟩
  rw [hV]
  replace hV := Aside0.mk hV
  unfold Tells
  clear H
  by_cases a1 : n < -10000
  · have d1 : decide (n < -10000) = true := decide_eq_true a1
    obtain rfl : 1 = V := by rw [← hV.out]; unfold chk okN; simp only; rw [decide_eq_false (show ¬ -10000 ≤ n by omega)]; rfl
    clear hV a1
    go_enter Try.func42, Try.ntmps42
    go_wp2
    go_ret
    exact ⟨rfl, H0.old⟩
  have d1 : decide (n < -10000) = false := decide_eq_false a1
  by_cases a2 : n > 20000
  · have d2 : decide (n > 20000) = true := decide_eq_true a2
    obtain rfl : 1 = V := by rw [← hV.out]; unfold chk okN; simp only; rw [decide_eq_false (show ¬ n ≤ 20000 by omega), Bool.and_false]; rfl
    clear hV a1 a2
    go_enter Try.func42, Try.ntmps42
    go_wp2
    go_ret
    exact ⟨rfl, H0.old⟩
  have d2 : decide (n > 20000) = false := decide_eq_false a2
  have hk : chk (n, rs) = if rs.any badN = true then 1 else if sortedB rs = false then 8 else if 32 < rs.length then 2 else 0 := by
    unfold chk okN
    simp only
    rw [decide_eq_true (show -10000 ≤ n by omega), decide_eq_true (show n ≤ 20000 by omega)]
    simp only [Bool.and_self, Bool.not_true, Bool.false_or]
  rw [hk] at hV
  clear a1 a2 hk
  go_enter Try.func42, Try.ntmps42
  go_wp2_with fail
  clear r0
  go_loopg [3] rs.length (fun kx s3 wr => ∃ i : Nat, s3 = .int .i64 (i : Int) ∧ i ≤ rs.length ∧ rs.length - i ≤ kx ∧ Aside0 (rs.any badN = (rs.drop i).any badN) ∧ All w wr [bx w.heap.size 98 #[.int .i64 n, .slice A rs.length c], (fun k => k < w.heap.size, CR A rs)])
  case atStart => exact ⟨0, rfl, Nat.zero_le _, by omega, ⟨rfl⟩, H0⟩
  case round =>
    clear H0
    obtain ⟨i, rfl, hil, hik, hx, H⟩ := hrel
    have r0 := H.rd 0 rfl
    by_cases hlt : i < rs.length
    · have hli : (i : Int) < (rs.length : Int) := Int.ofNat_lt.2 hlt
      obtain ⟨ad, rfl, hc0, hc1⟩ := at_krow (H.at 1 rfl) hlt
      have e2 : rs.any badN = (badN rs[i] || (rs.drop (i + 1)).any badN) := by rw [hx.out, List.drop_eq_getElem_cons hlt, List.any_cons]
      obtain ⟨r, hr⟩ : ∃ r, rs[i] = r := ⟨_, rfl⟩
      rw [hr] at hc0 hc1 e2
      obtain ⟨s, p⟩ := r
      simp only at hc0 hc1
      clear hr hx hc0
      unfold badN okN at e2
      simp only at e2
      by_cases b1 : p < -10000
      · have q1 : decide (p < -10000) = true := decide_eq_true b1
        obtain rfl : 1 = V := by rw [← hV.out, if_pos]; unfold badN okN; rw [e2, decide_eq_false (show ¬ -10000 ≤ p by omega)]; rfl
        clear hV b1 e2
        go_wp2
        go_ret
        exact ⟨rfl, H.old⟩
      have q1 : decide (p < -10000) = false := decide_eq_false b1
      by_cases b2 : p > 20000
      · have q2 : decide (p > 20000) = true := decide_eq_true b2
        obtain rfl : 1 = V := by rw [← hV.out, if_pos]; unfold badN okN; rw [e2, decide_eq_false (show ¬ p ≤ 20000 by omega), Bool.and_false]; rfl
        clear hV b1 b2 e2
        go_wp2
        go_ret
        exact ⟨rfl, H.old⟩
      have q2 : decide (p > 20000) = false := decide_eq_false b2
      have e3 : Aside0 (rs.any badN = (rs.drop (i + 1)).any badN) := ⟨by
        unfold badN okN
        rw [e2, decide_eq_true (show -10000 ≤ p by omega), decide_eq_true (show p ≤ 20000 by omega)]
        rfl⟩
      clear b1 b2 e2
      go_wp2_with fail
      go_roundg (rs.length - (i + 1))
      case measure => exact En.meas hik hlt
      case rel => exact ⟨i + 1, rfl, hlt, Nat.le_refl _, e3, H⟩
    · obtain rfl : i = rs.length := Nat.le_antisymm hil (Nat.le_of_not_lt hlt)
      have e1 : rs.any badN = false := by rw [hx.out, List.drop_length]; rfl
      rw [e1] at hV
      simp only [Bool.false_eq_true, if_false] at hV
      clear hx e1 hik hil hlt
      have hlt2 : ¬ ((rs.length : Int) < (rs.length : Int)) := Int.lt_irrefl _
      go_wp2_with fail
      clear r0
      go_loopg [4] rs.length (fun kx s4 wr => ∃ i : Nat, s4 = .int .i64 ((i + 1 : Nat) : Int) ∧ i ≤ rs.length ∧ rs.length - i ≤ kx ∧ Aside0 (sortedB rs = sortedB (rs.drop i)) ∧ All w wr [bx w.heap.size 98 #[.int .i64 n, .slice A rs.length c], (fun k => k < w.heap.size, CR A rs)])
      case atStart => exact ⟨0, rfl, Nat.zero_le _, by omega, ⟨rfl⟩, H⟩
      case round =>
        clear H
        obtain ⟨i, rfl, hil, hik, hx, H⟩ := hrel
        have r0 := H.rd 0 rfl
        by_cases hlt : i + 1 < rs.length
        · have hli : ((i + 1 : Nat) : Int) < (rs.length : Int) := Int.ofNat_lt.2 hlt
          have h0 : i < rs.length := Nat.lt_of_succ_lt hlt
          have h0i : (i : Int) < (rs.length : Int) := Int.ofNat_lt.2 h0
          have hwp := En.wrap_pred (i := i) (by omega)
          have hwn := En.wrap_nat (j := i) (by omega)
          have hp1 : (0 : Int) ≤ (i : Int) + 1 := by omega
          have hcc : ∀ W, All w W [bx w.heap.size 98 #[.int .i64 n, .slice A rs.length c], (fun k => k < w.heap.size, CR A rs)] → ∃ ad, A = some ad ∧ W.cell? (ad.add (i * 2)) = some (.string rs[i].1) ∧ W.cell? (ad.add ((i + 1) * 2)) = some (.string rs[i + 1].1) := fun W hW => by
            obtain ⟨ad, rfl, c0, -⟩ := at_krow (hW.at 1 rfl) h0
            obtain ⟨ad', e, c1, -⟩ := at_krow (hW.at 1 rfl) hlt
            cases e
            exact ⟨ad, rfl, c0, c1⟩
          obtain ⟨ad, rfl, -, -⟩ := hcc _ H
          have hc : ∀ W, All w W [bx w.heap.size 98 #[.int .i64 n, .slice (some ad) rs.length c], (fun k => k < w.heap.size, CR (some ad) rs)] → W.cell? (ad.add (i * 2)) = some (.string rs[i].1) ∧ W.cell? (ad.add ((i + 1) * 2)) = some (.string rs[i + 1].1) := fun W hW => by
            obtain ⟨ad', e, c0, c1⟩ := hcc W hW
            cases e
            exact ⟨c0, c1⟩
          have e2 : sortedB rs = (decide (cmpS rs[i].1 rs[i + 1].1 = -1) && sortedB (rs.drop (i + 1))) := by
            rw [hx.out, List.drop_eq_getElem_cons h0, List.drop_eq_getElem_cons hlt, sortedB]
          have hq0 : Op.bytesLess rs[i].1.toList rs[i + 1].1.toList = decide (cmpS rs[i].1 rs[i + 1].1 = -1) := by
            rw [Bool.eq_iff_iff, decide_eq_true_eq]
            exact En.less_iff
          obtain ⟨ra, hra⟩ : ∃ r, rs[i].1 = r := ⟨_, rfl⟩
          obtain ⟨rb, hrb⟩ : ∃ r, rs[i + 1].1 = r := ⟨_, rfl⟩
          rw [hra, hrb] at hc e2 hq0
          generalize decide (cmpS ra rb = -1) = q at e2 hq0
          replace hc := Aside0.mk hc
          replace e2 := Aside0.mk e2
          clear hcc hra hrb hx
          go_wp2_with fail
          refine plan_ (true, [([], []), ([0], [0]), ([], []), ([2], [2]), ([1, 3], [1, 3]), ([4], [4]), ([5], [5]), ([], []), ([7], [7]), ([], []), ([8, 9], [8, 9]), ([10], [10]), ([11], [11]), ([6, 12], [6, 12])]) [.p 0, .t 1, .p 2, .p 3, .p 4, .p 5, .t 6, .p 7, .t 8, .p 9, .p 10, .p 11, .t 12, .p 13] H (by kernel_rfl) (by kernel_rfl) rfl rfl (by kernel_rfl) (by intro c a w d v h; cases d <;> exact h) (fun w3 H3 => ?_)
          refine pl_P (h := ?_)
          refine pl_L 0 1 H3 rfl (h := ?_)
          refine pl_P (h := ?_)
          refine pl_P (h := ?_)
          refine pl_P (h := ?_)
          refine pl_P (h := ?_)
          refine pl_C H3 (fun W hW => (hc.out W hW).1) (h := ?_)
          refine pl_P (h := ?_)
          refine pl_L 0 1 H3 rfl (h := ?_)
          refine pl_P (h := ?_)
          refine pl_P (h := ?_)
          refine pl_P (h := ?_)
          refine pl_C H3 (fun W hW => (hc.out W hW).2) (h := ?_)
          refine pl_P (h := ?_)
          refine pl_done ?_
          cases q with
          | false =>
            obtain rfl : 8 = V := by rw [← hV.out, e2.out]; rfl
            clear hV e2 r0 H
            go_wp2
            go_ret
            exact ⟨rfl, H3.old⟩
          | true =>
            rw [Bool.true_and] at e2
            clear r0 H
            go_wp2_with fail
            go_roundg (rs.length - (i + 1))
            case measure => exact En.meas hik h0
            case rel => exact ⟨i + 1, rfl, Nat.le_of_lt hlt, Nat.le_refl _, e2, H3⟩
        · have e1 : sortedB rs = true := by
            rw [hx.out]
            rcases Nat.lt_or_ge i rs.length with h | h
            · rw [List.drop_eq_getElem_cons h, List.drop_of_length_le (by omega)]
              rfl
            · rw [List.drop_of_length_le h]
              rfl
          rw [e1] at hV
          simp only [Bool.true_eq_false, if_false] at hV
          have hlt3 : ¬ (((i + 1 : Nat) : Int) < (rs.length : Int)) := fun h => hlt (Int.ofNat_lt.1 h)
          clear hx e1 hik hil hlt
          by_cases h32 : 32 < rs.length
          · have d3 : decide ((rs.length : Int) > 32) = true := decide_eq_true (by omega)
            obtain rfl : 2 = V := by rw [← hV.out, if_pos h32]
            clear hV
            go_wp2
            go_ret
            exact ⟨rfl, H.old⟩
          · have d3 : decide ((rs.length : Int) > 32) = false := decide_eq_false (by omega)
            obtain rfl : 0 = V := by rw [← hV.out, if_neg h32]
            clear hV
            go_wp2
            go_ret
            exact ⟨rfl, H.old⟩
end
end Go.Proofs.Ythhgcjlgnafdcaa.Ga
end
section
namespace Go.Proofs.Ythhgcjlgnafdcaa.Gb
set_option linter.unusedSimpArgs false
set_option linter.unusedVariables false
open Go Go.RowKit Go.Proofs.YthhgcjlgnafdcaaW.PrintWords Go.Proofs.YthhgcjlgnafdcaaW.PrintLast Go.Proofs.Ythhgcjlgnafdcaa.Hd Go.Proofs.Ythhgcjlgnafdcaa.Os Go.Proofs.Ythhgcjlgnafdcaa.Tb Go.Proofs.Ythhgcjlgnafdcaa.Tm Go.Proofs.Ythhgcjlgnafdcaa.Px Go.Proofs.Ythhgcjlgnafdcaa.Wv Go.Proofs.Ythhgcjlgnafdcaa.Pp Go.Proofs.Ythhgcjlgnafdcaa.Pq Go.Proofs.Ythhgcjlgnafdcaa.Ps Go.Proofs.Ythhgcjlgnafdcaa.Pk Go.Proofs.Ythhgcjlgnafdcaa.Rp Go.Proofs.Ythhgcjlgnafdcaa.Rw Go.Proofs.Ythhgcjlgnafdcaa.Rv Go.Proofs.Ythhgcjlgnafdcaa.Ga
open Go.Proofs.Ythhgcjlgnafdcaa.Nu (I64 U64 I128 sgn)
structure SM where
  rest : Int
  A : Option Addr
  c : Nat
  rows : PR
def encS (s : SM) : List Value := [.int .i64 s.rest, .slice s.A s.rows.length s.c]
abbrev kSM : Kd SM := Kd.iso (Kd.pair (Kd.int .i64) (Kd.scalar (fun s : SM => Value.slice s.A s.rows.length s.c) (fun _ => rfl))) fun s => (s.rest, s)
theorem kSM_K {w : World} {x : SM} {cs : List Value} (h : kSM.K w x cs) : cs = encS x := by
  obtain ⟨c1, c2, rfl, h1, h2⟩ := h
  rw [show c1 = [.int .i64 x.rest] from h1, show c2 = [.slice x.A x.rows.length x.c] from h2]
  rfl
theorem kSM_mk (w : World) (x : SM) : kSM.K w x (encS x) := ⟨[.int .i64 x.rest], [.slice x.A x.rows.length x.c], rfl, rfl, rfl⟩
theorem encS_one (x : SM) : ∀ u ∈ encS x, u.oneCell' = true := fun u hu => by
  simp only [encS, List.mem_cons, List.not_mem_nil, or_false] at hu
  rcases hu with rfl | rfl <;> rfl
def RW (ms : List SM) (W : World) : Prop := ∀ s ∈ ms, s.rows.length ≤ s.c ∧ CR s.A s.rows W
def SF (A : Option Addr) (ms : List SM) (W : World) : Prop := Kd.C kSM W A ms.length ms ∧ RW ms W
def pl (ms : List SM) : List Sc := ms.map fun s => (s.rest, s.rows)
def cutM (s : SM) : SM := { s with rows := s.rows.take 40 }
def cutS (l : List Sc) : List Sc := l.map fun s => (s.1, s.2.take 40)
theorem pl_len (ms : List SM) : (pl ms).length = ms.length := List.length_map _
theorem pl_cutM (ms : List SM) : pl (ms.map cutM) = cutS (pl ms) := by
  unfold pl cutS
  rw [List.map_map, List.map_map]
  rfl
theorem RW_nil (W : World) : RW [] W := fun s hs => by cases hs
theorem RW_snoc {ms : List SM} {s : SM} {W : World} (h : RW ms W) (hc : s.rows.length ≤ s.c) (h2 : CR s.A s.rows W) : RW (ms ++ [s]) W := fun x hx => by
  rcases List.mem_append.1 hx with hx | hx
  · exact h x hx
  · rw [List.mem_singleton.1 hx]
    exact ⟨hc, h2⟩
theorem RW_cut {ms : List SM} {W : World} (h : RW ms W) (i : Nat) : RW ((ms.take i).map cutM) W := fun x hx => by
  obtain ⟨y, hy, rfl⟩ := List.mem_map.1 hx
  obtain ⟨h1, h2⟩ := h y (List.mem_of_mem_take hy)
  exact ⟨by simp only [cutM, List.length_take]; omega, C_cut h2 40⟩
theorem at_sm {w : World} {A : Option Addr} {n : Nat} {l : List SM} (h : Kd.C kSM w A n l) {i : Nat} (hi : i < l.length) : ∃ ad, A = some ad ∧ w.cell? (ad.add (i * 2)) = some (.int .i64 l[i].rest) ∧ w.cell? ⟨(ad.add (i * 2)).block, (ad.add (i * 2)).off + 1, none⟩ = some (.slice l[i].A l[i].rows.length l[i].c) := by
  obtain ⟨h1, h2, h3⟩ := h
  obtain ⟨ad, rfl, h4⟩ := h3 (by omega)
  obtain ⟨cs, hl, hK, hc⟩ := h4 i l[i] (List.getElem?_eq_getElem hi)
  obtain rfl := kSM_K hK
  refine ⟨ad, rfl, hc 0 _ rfl, ?_⟩
  have h5 : w.cell? (ad.add (i * 2 + 1)) = some (.slice l[i].A l[i].rows.length l[i].c) := hc 1 _ rfl
  rw [add_field ad (i * 2) 1 (by decide)] at h5
  exact h5
theorem ow_SM {lo e c : Nat} {A : Option Addr} {ms : List SM} {W : World} (h : Ow lo e 2 (.slice A ms.length c) ms.length (ms.flatMap encS) W) : ms.length ≤ c ∧ Kd.C kSM W A ms.length ms := by
  obtain ⟨A', c', hA, -, hc, hC⟩ := ow_C kSM encS kSM_mk (by decide) h
  cases hA
  exact ⟨hc, hC⟩
theorem ow_CR {lo e c n : Nat} {A : Option Addr} {l : PR} {W : World} (h : Ow lo e 2 (.slice A l.length c) l.length (l.flatMap encR) W) : l.length ≤ c ∧ CR A l W := by
  obtain ⟨A', c', hA, -, hc, hC⟩ := ow_C krow encR krow_mk (by decide) h
  cases hA
  exact ⟨hc, hC⟩
theorem enc_snoc {S : Type} (enc : S → List Value) (l : List S) (x : S) : (l ++ [x]).flatMap enc = l.flatMap enc ++ enc x := by
  rw [List.flatMap_append]
  simp
def firstE : List Sc → Int
  | [] => 0
  | s :: r => if chk s ≠ 0 then chk s else firstE r
def gridE (l : List Sc) : Int := if firstE l ≠ 0 then firstE l else if 64 < l.length then 2 else 0
theorem firstE_all : ∀ {l : List Sc}, firstE l = 0 → ∀ s ∈ l, chk s = 0
  | [], _, s, hs => by cases hs
  | a :: r, h, s, hs => by
    unfold firstE at h
    split at h
    · rename_i h1
      exact absurd h h1
    · rename_i h1
      rcases List.mem_cons.1 hs with rfl | hs
      · exact Decidable.not_not.1 h1
      · exact firstE_all h s hs
theorem gridE_ok {l : List Sc} (h : gridE l = 0) : (∀ s ∈ l, chk s = 0) ∧ l.length ≤ 64 := by
  unfold gridE at h
  split at h
  · rename_i h1
    exact absurd h h1
  · rename_i h1
    split at h
    · cases h
    · exact ⟨firstE_all (Decidable.not_not.1 h1), by omega⟩
theorem is_nilR (A : Option Addr) (n c : Nat) (W : World) : (binOp .eql 23 (.slice A n c) (.slice none 0 0)).run Try.prog W = .ok (.bool A.isNone) W := by
  cases A <;> kernel_rfl
section
variable {w0 w : World} {L : List F2} {A : Option Addr} {c q : Nat}
set_option maxRecDepth 100000 in
set_option maxHeartbeats 4000000 in
theorem clone_c {rs : PR} (H : All w0 w L) (HR : ∀ W, All w0 W L → CR A rs W) (hl : rs.length ≤ 1000) : Calls Try.prog 85 #[.slice A rs.length c] w fun e w' => ∃ A' c', e = .returned (.slice A' rs.length c') ∧
    All w0 w' (ow w0.heap.size 79 2 (.slice A' rs.length c') rs.length (rs.flatMap encR) :: L) := by
  have hz := H.old.size
  have hnil := is_nilR
  cases A with
  | none =>
    obtain ⟨h1, h2, h3⟩ := HR _ H
    have h0 : rs = [] := by
      rcases Nat.eq_zero_or_pos rs.length with h | h
      · exact List.eq_nil_of_length_eq_zero h
      · obtain ⟨ad, h, _⟩ := h3 h
        cases h
    subst h0
    have H1 := H.row w0.heap.size 79 2
    clear h1 h2 h3 HR
    go_enter Try.func85, Try.ntmps85
    go_wp2
    go_ret
    exact ⟨none, 0, rfl, H1⟩
  | some ad =>
    have H1 : All w0 (w.alloc (.cells ([] : List Value).toArray 79)) (ow w0.heap.size 79 2 (.slice (some ⟨w.heap.size, 0, none⟩) 0 0) 0 [] :: L) :=
      H.new (below_alloc (Below.refl _ _) _) (held_own (own_new w (e := 79) (size := 2) (n := 0) (cs := []) hz rfl (by decide))) fun k hk => by
        have : some w.heap.size = some k := hk
        cases this
        exact Nat.le_refl _
    have hsz : (0 + rs.length) * 24 ≤ 140737488355328 := by omega
    have hR1 := HR _ H1.tail
    have hz1 := H1.old.size
    clear HR H
    go_enter Try.func85, Try.ntmps85
    go_wp2_with ((with_reducible refine gate_builtin (b := .append) rfl ?_); refine appC krow encR (fun _ _ _ h => krow_K h) (fun _ => rfl) rfl encR_one H1 0 rfl hR1 (Nat.le_refl _) hz1 hsz (.tmp 5) (.tmp 6) 23 (.agg #[.string ByteArray.empty, .int .i64 0]) (by kernel_rfl) Try.underlying23 rfl rfl rfl (by decide) (by decide) rfl rfl ?_; intro A2 c2 w3 H3 z3)
    go_ret
    rw [Nat.zero_add, List.nil_append] at H3
    exact ⟨A2, c2, rfl, H3⟩
set_option maxRecDepth 100000 in
set_option maxHeartbeats 8000000 in
theorem to_c20 {ok0 : Nat → Prop} {mf : List SM} {ci : Nat} (H : All w0 w L) (hq : L[q]? = some (ok0, SF A (mf.take 70))) (hok : ∀ k, ok0 k → k < w0.heap.size) (hci : mf.length ≤ ci) (hl : ∀ s ∈ mf.take 70, s.rows.length ≤ s.c) :
    Calls Try.prog 40 #[.slice A mf.length ci] w fun e w' => ∃ Ax cx Ad cd xs ds, e = .returned (.tuple #[.slice Ax xs.length cx, .slice Ad ds.length cd]) ∧ xs.length ≤ cx ∧ ds.length ≤ cd ∧ pl xs = cutS (pl (mf.take 70)) ∧ pl ds = cutS (pl (mf.take 70)) ∧ ∃ okx okd,
      All w0 w' ((okx, SF Ax xs) :: (okd, SF Ad ds) :: L) := by
  have m1 : min (mf.length : Int) 70 = ((mf.take 70).length : Int) := by rw [List.length_take]; omega
  have hxl : (mf.take 70).length ≤ 70 := by rw [List.length_take]; omega
  have hxc : (mf.take 70).length ≤ ci := by rw [List.length_take]; omega
  have hmi : (((mf.take 70).length : Nat) : Int) ≤ (ci : Int) := Int.ofNat_le.2 hxc
  have hw0 := H.old.size
  have H1 := ((H.nul.row w0.heap.size 98 2).row w0.heap.size 95 2)
  have H1' : All w0 w (ow w0.heap.size 95 2 (.slice none 0 0) 0 [] :: ow w0.heap.size 98 2 (.slice none 0 0) 0 [] :: ((fun _ => False), RW []) :: L) := H1.turn 2 rfl ⟨(fun k h => h.elim), fun W _ => RW_nil W⟩
  replace hok := Aside0.mk hok
  clear H H1
  obtain ⟨m, hmE⟩ : ∃ m, mf.length = m := ⟨_, rfl⟩
  rw [hmE] at m1 ⊢
  generalize mf.take 70 = ms at *
  clear hmE hci
  go_enter Try.func40, Try.ntmps40
  go_wp2_with fail
  go_loopg [4, 5, 6] ms.length (fun kx s4 s5 s6 wr => ∃ (i : Nat) (Ax Ad : Option Addr) (cx cd : Nat) (xs : List SM) (okx : Nat → Prop), s4 = .slice Ax i cx ∧ s5 = .slice Ad i cd ∧ s6 = .int .i64 (i : Int) ∧ i ≤ ms.length ∧ ms.length - i ≤ kx ∧ Aside0 (xs.length = i ∧ pl xs = cutS (pl (ms.take i))) ∧
    All w0 wr (ow w0.heap.size 95 2 (.slice Ax i cx) i (xs.flatMap encS) :: ow w0.heap.size 98 2 (.slice Ad i cd) i (((ms.take i).map cutM).flatMap encS) :: (okx, RW xs) :: L))
  case atStart => exact ⟨0, none, none, 0, 0, [], _, rfl, rfl, rfl, Nat.zero_le _, by omega, ⟨rfl, rfl⟩, H1'⟩
  case round =>
    clear H1'
    obtain ⟨i, Ax, Ad, cx, cd, xs, okx, rfl, rfl, rfl, hil, hik, hk, H⟩ := hrel
    by_cases hlt : i < ms.length
    · have hli : (i : Int) < (ms.length : Int) := Int.ofNat_lt.2 hlt
      obtain ⟨ad, rfl, -, -⟩ := at_sm (H.at (q + 3) hq).1 hlt
      have hc : ∀ W (L' : List F2), All w0 W (L' ++ L) → W.cell? (ad.add (i * 2)) = some (.int .i64 ms[i].rest) ∧ W.cell? ⟨(ad.add (i * 2)).block, (ad.add (i * 2)).off + 1, none⟩ = some (.slice ms[i].A ms[i].rows.length ms[i].c) := fun W L' hW => by
        obtain ⟨ad', e, h0, h1⟩ := at_sm ((hW.sub (List.sublist_append_right L' L)).at q hq).1 hlt
        cases e
        exact ⟨h0, h1⟩
      have hdn : (ms.take (i + 1)).map cutM = (ms.take i).map cutM ++ [cutM ms[i]] := by rw [List.take_succ_eq_append_getElem hlt, List.map_append]; rfl
      have hpn : cutS (pl (ms.take (i + 1))) = cutS (pl (ms.take i)) ++ [(ms[i].rest, ms[i].rows.take 40)] := by
        rw [List.take_succ_eq_append_getElem hlt]
        unfold cutS pl
        simp only [List.map_append, List.map_cons, List.map_nil]
      have hcl := hl _ (List.getElem_mem hlt)
      obtain ⟨r0, r1⟩ := hc _ [_, _, _] H
      have H2 : All w0 wr ((ok0, CR ms[i].A (ms[i].rows.take 40)) :: ow w0.heap.size 95 2 (.slice Ax i cx) i (xs.flatMap encS) :: ow w0.heap.size 98 2 (.slice Ad i cd) i (((ms.take i).map cutM).flatMap encS) :: (okx, RW xs) :: L) :=
        H.put ((H.get (q + 3) hq).imp fun W hW => C_cut (hW.2 _ (List.getElem_mem hlt)).2 40) fun _ _ k hk _ => hok.out k hk
      have hrw := rows_c (qi := 0) (l := ms[i].rows) (ci := ms[i].c) H2 rfl hcl
      obtain ⟨s, hs⟩ : ∃ s, ms[i] = s := ⟨_, rfl⟩
      rw [hs] at hc hdn hpn hcl r0 r1 H2 hrw
      obtain ⟨rest, sA, sc, srows⟩ := s
      simp only [cutM] at hc hdn hpn hcl r0 r1 H2 hrw
      replace hdn := Aside0.mk hdn
      replace hpn := Aside0.mk hpn
      replace hc := Aside0.mk hc
      have hsz : (i + 1) * 32 ≤ 140737488355328 := by omega
      generalize srows.take 40 = cr at *
      clear hs H
      go_wp2_with fail
      refine hrw.mono ?_
      rintro e w2 ⟨A3, c3, rfl, H3⟩
      obtain ⟨hcc3, -⟩ := ow_CR (n := 0) (H3.at 0 rfl)
      have H4 := (H3.turn 0 rfl (T' := CR A3 cr) ((H3.get 0 rfl).imp fun W hW => (ow_CR (n := 0) hW).2)).cut 1
      have H5 : All w0 w2 (((fun k => Ob (.slice A3 cr.length c3) k ∨ okx k), RW (xs ++ [⟨rest, A3, c3, cr⟩])) :: ow w0.heap.size 95 2 (.slice Ax i cx) i (xs.flatMap encS) :: ow w0.heap.size 98 2 (.slice Ad i cd) i (((ms.take i).map cutM).flatMap encS) :: L) := by
        have h := ((H4.front 3 rfl).front 1 rfl).join
        exact h.turn 0 rfl ((h.get 0 rfl).imp fun W hW => RW_snoc hW.2 hcc3 hW.1)
      obtain ⟨p0, p1⟩ := hc.out _ [_, _, _] H5
      clear H2 H3 H4 hrw r0 r1
      have hz5 := H5.old.size
      go_wp2_with (first
        | ((with_reducible refine gate_builtin (b := .append) rfl ?_); refine app_ (encS ⟨rest, A3, c3, cr⟩) H5 1 rfl (Nat.le_refl _) hz5 hsz (.tmp 29) (.tmp 37) 90 (.agg #[.int .i64 0, .slice none 0 0]) (by kernel_rfl) Try.underlying90 rfl rfl rfl (by decide) (by decide) rfl rfl rfl (encS_one _) ?_; intro A6 c6 w6 H6 z6; have hz6 := H6.old.size; obtain ⟨p6, p7⟩ := hc.out _ [_, _, _] H6; clear p0 p1)
        | ((with_reducible refine gate_builtin (b := .append) rfl ?_); refine app_ (encS ⟨rest, sA, sc, cr⟩) H6 2 rfl (Nat.le_refl _) hz6 hsz (.tmp 39) (.tmp 47) 89 (.agg #[.int .i64 0, .slice none 0 0]) (by kernel_rfl) Try.underlying89 rfl rfl rfl (by decide) (by decide) rfl rfl rfl (encS_one _) ?_; intro A7 c7 w7 H7 z7))
      go_roundg (ms.length - (i + 1))
      case measure => exact En.meas hik hlt
      case rel =>
        refine ⟨i + 1, A6, A7, c6, c7, xs ++ [⟨rest, A3, c3, cr⟩], (fun k => Ob (.slice A3 cr.length c3) k ∨ okx k), rfl, rfl, rfl, hlt, Nat.le_refl _, ⟨by rw [List.length_append, hk.out.1]; rfl, ?_⟩, ?_⟩
        · rw [hpn.out, ← hk.out.2]
          unfold pl
          rw [List.map_append]
          rfl
        · rw [hdn.out, enc_snoc, enc_snoc]
          exact (H7.front 2 rfl).front 2 rfl
    · obtain rfl : i = ms.length := Nat.le_antisymm hil (Nat.le_of_not_lt hlt)
      obtain ⟨hk1, hk2⟩ := hk.out
      rw [List.take_length] at hk2 H
      obtain ⟨ds, hds⟩ : ∃ ds, ms.map cutM = ds := ⟨_, rfl⟩
      have hdl : ds.length = ms.length := by rw [← hds, List.length_map]
      have hRW : ∀ W, SF A ms W → RW ds W := fun W hW => by
        have := RW_cut hW.2 ms.length
        rwa [List.take_length, hds] at this
      have hpd : pl ds = cutS (pl ms) := by rw [← hds, pl_cutM]
      rw [hds] at H
      have H2 := H.put ((H.get (q + 3) hq).imp hRW) fun _ _ k hk _ => hok.out k hk
      have H3 := (H2.front 2 rfl).join
      rw [← hdl] at H3
      have hcd := (ow_SM (H3.at 0 rfl).1).1
      have H4 := H3.turn 0 rfl (T' := SF Ad ds) ((H3.get 0 rfl).imp fun W hW => ⟨(ow_SM hW.1).2, hW.2⟩)
      rw [hdl, ← hk1] at H4
      have hcx := (ow_SM (H4.at 1 rfl)).1
      have H5 := (H4.cut 2 |>.front 0 rfl)
      have H6 := ((H4.front 2 rfl).front 2 rfl).join
      have H7 := H6.turn 0 rfl (T' := SF Ax xs) ((H6.get 0 rfl).imp fun W hW => ⟨(ow_SM hW.1).2, hW.2⟩)
      clear H H2 H3 H4 H5 H6 hk
      replace hk2 := Aside0.mk hk2
      replace hpd := Aside0.mk hpd
      go_wp2
      go_ret2
      exact ⟨Ax, cx, Ad, cd, xs, ds, by rw [hk1, hdl]; rfl, hcx, hcd, hk2.out, hpd.out, _, _, H7⟩
end
end Go.Proofs.Ythhgcjlgnafdcaa.Gb
end
section
namespace Go.Proofs.Ythhgcjlgnafdcaa.Gc
set_option linter.unusedSimpArgs false
set_option linter.unusedVariables false
open Go Go.RowKit Go.Proofs.YthhgcjlgnafdcaaW.PrintWords Go.Proofs.YthhgcjlgnafdcaaW.PrintLast Go.Proofs.Ythhgcjlgnafdcaa.Hd Go.Proofs.Ythhgcjlgnafdcaa.Os Go.Proofs.Ythhgcjlgnafdcaa.Tb Go.Proofs.Ythhgcjlgnafdcaa.Tm Go.Proofs.Ythhgcjlgnafdcaa.Px Go.Proofs.Ythhgcjlgnafdcaa.Wv Go.Proofs.Ythhgcjlgnafdcaa.Pp Go.Proofs.Ythhgcjlgnafdcaa.Pq Go.Proofs.Ythhgcjlgnafdcaa.Ps Go.Proofs.Ythhgcjlgnafdcaa.Pk Go.Proofs.Ythhgcjlgnafdcaa.Rp Go.Proofs.Ythhgcjlgnafdcaa.Rw Go.Proofs.Ythhgcjlgnafdcaa.Rv Go.Proofs.Ythhgcjlgnafdcaa.Ga Go.Proofs.Ythhgcjlgnafdcaa.Gb
open Go.Proofs.Ythhgcjlgnafdcaa.Nu (I64 U64 I128 sgn)
structure NewG (w0 w' : World) (l : List Sc) (L : List F2) (p : Option Addr) (E : Int) : Prop where
  bad : E ≠ 0 → p = none ∧ All w0 w' L
  good : E = 0 → ∃ b Ag cg gs okg, p = some ⟨b, 0, none⟩ ∧ w0.heap.size ≤ b ∧ pl gs = l ∧ gs.length ≤ cg ∧ All w0 w' (bx b 159 #[.slice Ag gs.length cg] :: (okg, SF Ag gs) :: L)
theorem NewG.tail {w0 w' : World} {l : List Sc} {L : List F2} {f : F2} {p : Option Addr} {E : Int} (h : NewG w0 w' l (f :: L) p E) : NewG w0 w' l L p E :=
  ⟨fun h0 => ⟨(h.bad h0).1, (h.bad h0).2.tail⟩, fun h0 => by
    obtain ⟨b, Ag, cg, gs, okg, h1, h2, h3, h4, H⟩ := h.good h0
    exact ⟨b, Ag, cg, gs, okg, h1, h2, h3, h4, H.cut 2⟩⟩
theorem held_SF {w : World} {A : Option Addr} {ms : List SM} (h : SF A ms w) : Held w (fun k => k < w.heap.size) (SF A ms) :=
  ⟨fun _ h => h, fun W hW => ⟨(held_C h.1).on W hW, fun s hs => ⟨(h.2 s hs).1, (held_C (h.2 s hs).2).on W hW⟩⟩⟩
theorem pl_drop {ms : List SM} {i : Nat} (h : i < ms.length) : pl (ms.drop i) = (ms[i].rest, ms[i].rows) :: pl (ms.drop (i + 1)) := by
  rw [List.drop_eq_getElem_cons h]
  rfl
theorem pl_take {ms : List SM} {i : Nat} (h : i < ms.length) : pl (ms.take (i + 1)) = pl (ms.take i) ++ [(ms[i].rest, ms[i].rows)] := by
  rw [List.take_succ_eq_append_getElem h]
  unfold pl
  rw [List.map_append]
  rfl
section
variable {w0 w : World} {L : List F2} {A : Option Addr} {c q : Nat}
set_option maxRecDepth 100000 in
set_option maxHeartbeats 8000000 in
theorem gnew_c {xs : List SM} (H : All w0 w L) (HX : ∀ W, All w0 W L → SF A xs W) (hl : xs.length ≤ 1000) (hr : ∀ s ∈ xs, s.rows.length ≤ 1000) :
    Calls Try.prog 43 #[.slice A xs.length c] w fun e w' => ∃ p, e = .returned (.tuple #[.pointer p, .int .i64 (gridE (pl xs))]) ∧ NewG w0 w' (pl xs) L p (gridE (pl xs)) := by
  have hb := H.old.size
  have H0 := (((H.nul.turn 0 rfl (T' := RW []) ⟨(fun k h => h.elim), fun W _ => RW_nil W⟩).row w0.heap.size 95 2).box w.heap.size 159 #[.slice none 0 0])
  obtain ⟨E, hE⟩ : ∃ E, gridE (pl xs) = E := ⟨_, rfl⟩
  rw [hE]
  replace hE := Aside0.mk hE
  replace hr := Aside0.mk hr
  replace HX := Aside0.mk HX
  clear H
  go_enter Try.func43, Try.ntmps43
  go_wp2_with fail
  go_loopg [12] xs.length (fun kx s12 wr => ∃ (i : Nat) (Ag : Option Addr) (cg : Nat) (gs : List SM) (okg : Nat → Prop), s12 = .int .i64 (i : Int) ∧ i ≤ xs.length ∧ xs.length - i ≤ kx ∧ Aside0 (gs.length = i ∧ pl gs = pl (xs.take i) ∧ firstE (pl xs) = firstE (pl (xs.drop i))) ∧
    All w0 wr (bx w.heap.size 159 #[.slice Ag i cg] :: ow w0.heap.size 95 2 (.slice Ag i cg) i (gs.flatMap encS) :: (okg, RW gs) :: L))
  case atStart => exact ⟨0, none, 0, [], _, rfl, Nat.zero_le _, by omega, ⟨rfl, rfl, rfl⟩, H0⟩
  case round =>
    clear H0
    obtain ⟨i, Ag, cg, gs, okg, rfl, hil, hik, hk, H⟩ := hrel
    by_cases hlt : i < xs.length
    · have hli : (i : Int) < (xs.length : Int) := Int.ofNat_lt.2 hlt
      have hS := HX.out _ (H.drop 3)
      obtain ⟨ad, rfl, hc0, hc1⟩ := at_sm hS.1 hlt
      have hrow := hS.2 _ (List.getElem_mem hlt)
      have hrl := hr.out _ (List.getElem_mem hlt)
      have hpd := pl_drop hlt
      have hpt := pl_take hlt
      have hRC : ∀ W, All w0 W L → CR xs[i].A xs[i].rows W := fun W hW => ((HX.out W hW).2 _ (List.getElem_mem hlt)).2
      obtain ⟨s, hs⟩ : ∃ s, xs[i] = s := ⟨_, rfl⟩
      rw [hs] at hc0 hc1 hrow hrl hpd hpt hRC
      obtain ⟨rest, sA, sc, srows⟩ := s
      simp only at hc0 hc1 hrow hrl hpd hpt hRC
      have hfe : firstE (pl xs) = if chk (rest, srows) ≠ 0 then chk (rest, srows) else firstE (pl (xs.drop (i + 1))) := by rw [hk.out.2.2, hpd, firstE]
      have HB := H.box wr.heap.size 95 #[.int .i64 rest, .slice sA srows.length sc]
      have hck := fun W (hW : All w0 W L) => gcheck_c (n := rest) (c := sc) (hRC W hW) hrow.1 hrl
      have hB0 := HB.rd 0 rfl
      have hsz : (i + 1) * 32 ≤ 140737488355328 := by omega
      generalize chk (rest, srows) = k at *
      clear hs hS hpd
      by_cases hk0 : k ≠ 0
      · have hE1 : Aside0 (E = k) := ⟨by rw [← hE.out]; unfold gridE; rw [hfe, if_pos hk0, if_pos hk0]⟩
        have d1 : (k != 0) = true := by simpa using hk0
        clear hfe hpt hk
        go_wp2_with fail
        refine (hck _ (HB.drop 4)).on HB fun w1 H1 => ?_
        clear HB hB0 hck H
        go_wp2_with fail
        go_ret2
        obtain rfl : E = k := hE1.out
        exact ⟨none, rfl, ⟨fun _ => ⟨rfl, H1.drop 4⟩, fun h => absurd h hk0⟩⟩
      · obtain rfl : k = 0 := Decidable.not_not.1 hk0
        rw [if_neg (by decide)] at hfe
        replace hfe := Aside0.mk hfe
        replace hpt := Aside0.mk hpt
        replace hRC := Aside0.mk hRC
        go_wp2_with fail
        refine (hck _ (HB.drop 4)).on HB fun w1 H1 => ?_
        clear HB hB0 hck H hc0 hc1
        go_wp2_with fail
        refine planD_ [12, 15] (true, [([], []), ([], []), ([1], [1]), ([2], [2]), ([3], [3]), ([], []), ([5], [5]), ([], []), ([7], [7]), ([8], [8]), ([6, 9], [6, 9]), ([10], [10]), ([4, 11, 9], [4, 11]), ([0, 0, 1, 2, 3, 4, 5, 6, 7, 8, 9, 10, 11, 12], [0]), ([13, 0, 1, 2, 3, 4, 5, 6, 7, 8, 9, 10, 11, 12], [13]), ([14, 12, 12, 0, 1, 2, 3, 4, 5, 6, 7, 8, 9, 10, 11, 12], [12, 14])]) [.p 0, .p 1, .p 2, .p 3, .t 4, .p 5, .t 6, .p 7, .t 8, .c 9, .p 10, .c 11, .l 12, .p 13, .p 14, .l 15] H1 (by kernel_rfl) (by kernel_rfl) rfl rfl (by kernel_rfl) (by intro c a w d v h; cases d <;> exact h) (fun w2 H2 => ?_)
        refine pl_P (h := ?_)
        refine pl_P (h := ?_)
        refine pl_P (h := ?_)
        refine pl_P (h := ?_)
        refine pl_L 1 0 H2 rfl (h := ?_)
        refine pl_P (h := ?_)
        refine pl_L 0 0 H2 rfl (h := ?_)
        refine pl_P (h := ?_)
        refine pl_L 0 1 H2 rfl (h := ?_)
        refine pl_K Try.func85 ((clone_c (A := sA) (c := sc) (rs := srows) H2 (fun W hW => hRC.out W (hW.drop 4)) hrl).mono ?_)
        rintro e w3 ⟨A3, c3, rfl, H3⟩
        refine ⟨_, rfl, H3.tail, ?_⟩
        refine pl_P (h := ?_)
        have hz3 := H3.old.size
        refine pl_R (H3.any (.cells #[.int .i64 rest, .slice A3 srows.length c3] 95 (0, 0))) (fun _ => ?_)
        refine pl_AL (encS ⟨rest, A3, c3, srows⟩) (.agg #[.int .i64 0, .slice none 0 0]) 3 H3 rfl (Nat.le_refl _) hz3 hsz (by kernel_rfl) Try.underlying90 rfl (by decide) (by decide) rfl (encS_one _) (h := fun A4 c4 w4 H4 hz4 => ?_)
        refine pl_P (h := ?_)
        refine pl_P (h := ?_)
        have r4 := H4.rd 2 rfl 0
        have f4 := H4.fz 2 rfl 0
        refine pl_WL (H4.set 2 rfl 0 (.slice A4 (i + 1) c4) hb) (fun H5 => ?_)
        refine pl_done ?_
        have hcc3 := (ow_CR (n := 0) (H5.at 0 rfl)).1
        have H6 := (H5.turn 0 rfl (T' := CR A3 srows) ((H5.get 0 rfl).imp fun W hW => (ow_CR (n := 0) hW).2)).cut 1
        have H7 := ((H6.front 3 rfl).front 1 rfl).join
        have H8 := H7.turn 0 rfl (T' := RW (gs ++ [⟨rest, A3, c3, srows⟩])) ((H7.get 0 rfl).imp fun W hW => RW_snoc hW.2 hcc3 hW.1)
        have H9 := (H8.front 2 rfl).front 2 rfl
        clear H1 H2 H3 H4 H5 H6 H7 H8
        go_wp2_with fail
        go_roundg (xs.length - (i + 1))
        case measure => exact En.meas hik hlt
        case rel =>
          refine ⟨i + 1, A4, c4, gs ++ [⟨rest, A3, c3, srows⟩], (fun k => Ob (.slice A3 srows.length c3) k ∨ okg k), rfl, hlt, Nat.le_refl _, ⟨by rw [List.length_append, hk.out.1]; rfl, ?_, hfe.out⟩, by rw [enc_snoc]; exact H9⟩
          rw [hpt.out, ← hk.out.2.1]
          unfold pl
          rw [List.map_append]
          rfl
    · obtain rfl : i = xs.length := Nat.le_antisymm hil (Nat.le_of_not_lt hlt)
      obtain ⟨k1, k2, k3⟩ := hk.out
      rw [List.take_length] at k2
      have hE1 : E = if 64 < xs.length then 2 else 0 := by
        rw [← hE.out]
        unfold gridE
        rw [k3, List.drop_length, if_neg (by simp [pl, firstE]), pl_len]
      have hm : xs.length ≤ 9223372036854775807 := Nat.le_trans hl (by decide)
      clear hk k3 hil hik hlt
      have hlt2 : ¬ ((xs.length : Int) < (xs.length : Int)) := Int.lt_irrefl _
      by_cases h64 : 64 < xs.length
      · have d3 : decide ((xs.length : Int) > 64) = true := decide_eq_true (by omega)
        obtain rfl : E = 2 := by rw [hE1, if_pos h64]
        clear hE1 hE
        go_wp2
        go_ret2
        exact ⟨none, rfl, ⟨fun _ => ⟨rfl, H.drop 3⟩, fun h => by cases h⟩⟩
      · have d3 : decide ((xs.length : Int) > 64) = false := decide_eq_false (by omega)
        obtain rfl : E = 0 := by rw [hE1, if_neg h64]
        rw [← k1] at H
        have hcg := (ow_SM (H.at 1 rfl)).1
        have H6 := ((H.front 2 rfl).front 2 rfl).join
        have H7 := (H6.turn 0 rfl (T' := SF Ag gs) ((H6.get 0 rfl).imp fun W hW => ⟨(ow_SM hW.1).2, hW.2⟩)).front 1 rfl
        replace k2 := Aside0.mk k2
        clear hE1 hE k1 H H6
        go_wp2
        go_ret2
        exact ⟨_, rfl, ⟨fun h => absurd rfl h, fun _ => ⟨w.heap.size, Ag, cg, gs, _, rfl, hb, k2.out, hcg, H7⟩⟩⟩
set_option maxRecDepth 100000 in
set_option maxHeartbeats 4000000 in
theorem rnew_c {xs : List SM} (HX : SF A xs w) (hl : xs.length ≤ 1000) (hr : ∀ s ∈ xs, s.rows.length ≤ 1000) : Tells Try.prog 44 #[.slice A xs.length c] w (.int .i64 (gridE (pl xs))) := by
  have H0 := (All.start w).arg (held_SF HX)
  obtain ⟨E, hE⟩ : ∃ E, gridE (pl xs) = E := ⟨_, rfl⟩
  rw [hE]
  replace hE := Aside0.mk hE
  replace hr := Aside0.mk hr
  unfold Tells
  clear HX
  go_enter Try.func44, Try.ntmps44
  go_wp2_with fail
  go_loopg [3] xs.length (fun kx s3 wr => ∃ i : Nat, s3 = .int .i64 (i : Int) ∧ i ≤ xs.length ∧ xs.length - i ≤ kx ∧ Aside0 (firstE (pl xs) = firstE (pl (xs.drop i))) ∧ All w wr [((fun k => k < w.heap.size), SF A xs)])
  case atStart => exact ⟨0, rfl, Nat.zero_le _, by omega, ⟨rfl⟩, H0⟩
  case round =>
    clear H0
    obtain ⟨i, rfl, hil, hik, hk, H⟩ := hrel
    by_cases hlt : i < xs.length
    · have hli : (i : Int) < (xs.length : Int) := Int.ofNat_lt.2 hlt
      have hS := H.at 0 rfl
      obtain ⟨ad, rfl, hc0, hc1⟩ := at_sm hS.1 hlt
      have hrow := hS.2 _ (List.getElem_mem hlt)
      have hrl := hr.out _ (List.getElem_mem hlt)
      have hpd := pl_drop hlt
      obtain ⟨s, hs⟩ : ∃ s, xs[i] = s := ⟨_, rfl⟩
      rw [hs] at hc0 hc1 hrow hrl hpd
      obtain ⟨rest, sA, sc, srows⟩ := s
      simp only at hc0 hc1 hrow hrl hpd
      have hfe : firstE (pl xs) = if chk (rest, srows) ≠ 0 then chk (rest, srows) else firstE (pl (xs.drop (i + 1))) := by rw [hk.out, hpd, firstE]
      have hck := rcheck_c (n := rest) (c := sc) hrow.2 hrl
      generalize chk (rest, srows) = k at *
      clear hs hS hpd
      by_cases hk0 : k ≠ 0
      · have hE1 : Aside0 (E = k) := ⟨by rw [← hE.out]; unfold gridE; rw [hfe, if_pos hk0, if_pos hk0]⟩
        have d1 : (k != 0) = true := by simpa using hk0
        clear hfe hk
        go_wp2_with fail
        refine hck.on H fun w1 H1 => ?_
        clear hck H
        go_wp2_with fail
        go_ret
        obtain rfl : E = k := hE1.out
        exact ⟨rfl, H1.old⟩
      · obtain rfl : k = 0 := Decidable.not_not.1 hk0
        rw [if_neg (by decide)] at hfe
        replace hfe := Aside0.mk hfe
        go_wp2_with fail
        refine hck.on H fun w1 H1 => ?_
        clear hck H hc0 hc1
        go_wp2_with fail
        go_roundg (xs.length - (i + 1))
        case measure => exact En.meas hik hlt
        case rel => exact ⟨i + 1, rfl, hlt, Nat.le_refl _, hfe, H1⟩
    · obtain rfl : i = xs.length := Nat.le_antisymm hil (Nat.le_of_not_lt hlt)
      have hE1 : E = if 64 < xs.length then 2 else 0 := by
        rw [← hE.out]
        unfold gridE
        rw [hk.out, List.drop_length, if_neg (by simp [pl, firstE]), pl_len]
      have hm : xs.length ≤ 9223372036854775807 := Nat.le_trans hl (by decide)
      clear hk hil hik hlt
      have hlt2 : ¬ ((xs.length : Int) < (xs.length : Int)) := Int.lt_irrefl _
      by_cases h64 : 64 < xs.length
      · have d3 : decide ((xs.length : Int) > 64) = true := decide_eq_true (by omega)
        obtain rfl : E = 2 := by rw [hE1, if_pos h64]
        clear hE1 hE
        go_wp2
        go_ret
        exact ⟨rfl, H.old⟩
      · have d3 : decide ((xs.length : Int) > 64) = false := decide_eq_false (by omega)
        obtain rfl : E = 0 := by rw [hE1, if_neg h64]
        clear hE1 hE
        go_wp2
        go_ret
        exact ⟨rfl, H.old⟩
def flatM (n : Int) : SM := ⟨n, none, 0, []⟩
theorem RW_flat (ps : List Int) (W : World) : RW (ps.map flatM) W := fun s hs => by
  obtain ⟨n, _, rfl⟩ := List.mem_map.1 hs
  exact ⟨Nat.le_refl _, Kd.C_nil _ W⟩
theorem pl_flat (ps : List Int) : pl (ps.map flatM) = ps.map fun n => (n, []) := by
  unfold pl
  rw [List.map_map]
  rfl
theorem int_some {w : World} {A : Option Addr} {n : Nat} {ps : List Int} (h : Kd.C (Kd.int .i64) w A n ps) {i : Nat} (hi : i < ps.length) : ∃ ad, A = some ad := by
  obtain ⟨h1, h2, h3⟩ := h
  obtain ⟨ad, rfl, h4⟩ := h3 (by omega)
  exact ⟨ad, rfl⟩
set_option maxRecDepth 100000 in
set_option maxHeartbeats 4000000 in
theorem gplain_c {ps : List Int} (H : All w0 w L) (HX : ∀ W, All w0 W L → Kd.C (Kd.int .i64) W A ps.length ps) (hl : ps.length ≤ 1000) :
    Calls Try.prog 45 #[.slice A ps.length c] w fun e w' => ∃ p, e = .returned (.tuple #[.pointer p, .int .i64 (gridE (ps.map fun n => (n, [])))]) ∧ NewG w0 w' (ps.map fun n => (n, [])) L p (gridE (ps.map fun n => (n, []))) := by
  have hb := H.old.size
  have H0 := H.row w0.heap.size 95 2
  replace HX := Aside0.mk HX
  obtain ⟨sl, hsl⟩ : ∃ sl : List Sc, (ps.map fun n => ((n, []) : Sc)) = sl := ⟨_, rfl⟩
  rw [hsl]
  obtain ⟨E, hE⟩ : ∃ E, gridE sl = E := ⟨_, rfl⟩
  rw [hE]
  replace hsl := Aside0.mk hsl
  replace hE := Aside0.mk hE
  clear H
  go_enter Try.func45, Try.ntmps45
  go_wp2_with fail
  go_loopg [4, 9] ps.length (fun kx s4 s9 wr => ∃ (i : Nat) (Ax : Option Addr) (cx : Nat), s4 = .slice Ax i cx ∧ s9 = .int .i64 (i : Int) ∧ i ≤ ps.length ∧ ps.length - i ≤ kx ∧
    All w0 wr (ow w0.heap.size 95 2 (.slice Ax i cx) i (((ps.take i).map flatM).flatMap encS) :: L))
  case atStart => exact ⟨0, none, 0, rfl, rfl, Nat.zero_le _, by omega, H0⟩
  case round =>
    clear H0
    obtain ⟨i, Ax, cx, rfl, rfl, hil, hik, H⟩ := hrel
    by_cases hlt : i < ps.length
    · have hli : (i : Int) < (ps.length : Int) := Int.ofNat_lt.2 hlt
      obtain ⟨ad, rfl⟩ := int_some (HX.out _ H.tail) hlt
      have hg : ps.getD i 0 = ps[i] := by rw [List.getD_eq_getElem?_getD, List.getElem?_eq_getElem hlt]; rfl
      have r0 := cs_at (HX.out _ H.tail) i hlt hg
      have hsn : (ps.take (i + 1)).map flatM = (ps.take i).map flatM ++ [flatM ps[i]] := by rw [List.take_succ_eq_append_getElem hlt, List.map_append]; rfl
      generalize ps[i] = p at *
      replace hsn := Aside0.mk hsn
      have hsz : (i + 1) * 32 ≤ 140737488355328 := by omega
      have hz := H.old.size
      clear hg
      go_wp2_with ((with_reducible refine gate_builtin (b := .append) rfl ?_); refine app_ (encS (flatM p)) H 0 rfl (Nat.le_refl _) hz hsz (.tmp 13) (.tmp 16) 90 (.agg #[.int .i64 0, .slice none 0 0]) (by kernel_rfl) Try.underlying90 rfl rfl rfl (by decide) (by decide) rfl rfl rfl (encS_one _) ?_; intro A2 c2 w3 H3 z3)
      go_roundg (ps.length - (i + 1))
      case measure => exact En.meas hik hlt
      case rel => exact ⟨i + 1, A2, c2, rfl, rfl, hlt, Nat.le_refl _, by rw [hsn.out, enc_snoc]; exact H3⟩
    · obtain rfl : i = ps.length := Nat.le_antisymm hil (Nat.le_of_not_lt hlt)
      rw [List.take_length] at H
      obtain ⟨xs, hxs⟩ : ∃ xs, ps.map flatM = xs := ⟨_, rfl⟩
      have hxl : xs.length = ps.length := by rw [← hxs, List.length_map]
      have hRW : ∀ W, RW xs W := fun W => hxs ▸ RW_flat ps W
      have hpx : pl xs = sl := by rw [← hxs, pl_flat, hsl.out]
      have hrl : ∀ s ∈ xs, s.rows.length ≤ 1000 := fun s hs => by
        rw [← hxs] at hs
        obtain ⟨n, _, rfl⟩ := List.mem_map.1 hs
        exact Nat.zero_le _
      rw [hxs, ← hxl] at H
      have H1 := H.turn 0 rfl (T' := SF Ax xs) ((H.get 0 rfl).imp fun W hW => ⟨(ow_SM hW).2, hRW W⟩)
      have hn := gnew_c (A := Ax) (c := cx) (xs := xs) H1 (fun W hW => hW.at 0 rfl) (by omega) hrl
      rw [hpx, hE.out] at hn
      rw [← hxl]
      have hlt2 : ¬ ((xs.length : Int) < (xs.length : Int)) := Int.lt_irrefl _
      have hm : xs.length ≤ 9223372036854775807 := by omega
      clear hxs hRW hpx hrl H H1 hil hik hlt HX
      clear hxl
      clear hl
      go_wp2_with fail
      refine hn.mono ?_
      rintro e w4 ⟨p, rfl, hN⟩
      go_wp2
      go_ret2
      exact ⟨p, rfl, hN.tail⟩
theorem glen_c {b n : Nat} {Ag : Option Addr} {cg i : Nat} (H : All w0 w L) (hi : L[i]? = some (bx b 159 #[.slice Ag n cg])) : Tells Try.prog 47 #[.pointer (some ⟨b, 0, none⟩)] w (.int .i64 n) := by
  unfold Tells
  have H2 := (All.start w).arg (H.get i hi)
  have r0 := H2.rd 0 rfl
  go_enter Try.func47, Try.ntmps47
  go_wp2
  go_ret
  exact ⟨rfl, H2.old⟩
theorem glen_nil : Tells Try.prog 47 #[.pointer none] w (.int .i64 0) := by
  unfold Tells
  go_enter Try.func47, Try.ntmps47
  go_wp2
  go_ret
  exact ⟨rfl, Below.refl _ _⟩
end
end Go.Proofs.Ythhgcjlgnafdcaa.Gc
end
section
namespace Go.Proofs.Ythhgcjlgnafdcaa.Pm
set_option linter.unusedSimpArgs false
set_option linter.unusedVariables false
open Go Go.RowKit Go.Proofs.YthhgcjlgnafdcaaW.PrintWords Go.Proofs.YthhgcjlgnafdcaaW.PrintLast Go.Proofs.Ythhgcjlgnafdcaa.Hd Go.Proofs.Ythhgcjlgnafdcaa.Os Go.Proofs.Ythhgcjlgnafdcaa.Tb Go.Proofs.Ythhgcjlgnafdcaa.Tm Go.Proofs.Ythhgcjlgnafdcaa.Px Go.Proofs.Ythhgcjlgnafdcaa.Wv Go.Proofs.Ythhgcjlgnafdcaa.Pp Go.Proofs.Ythhgcjlgnafdcaa.Pq Go.Proofs.Ythhgcjlgnafdcaa.Ps Go.Proofs.Ythhgcjlgnafdcaa.Pk Go.Proofs.Ythhgcjlgnafdcaa.Rp Go.Proofs.Ythhgcjlgnafdcaa.Ro Go.Proofs.Ythhgcjlgnafdcaa.Rw Go.Proofs.Ythhgcjlgnafdcaa.Rr
open Go.Proofs.Ythhgcjlgnafdcaa.Nu (I64 U64 I128 sgn)
theorem rmoved_c {n p q : Int} {w : World} (h : wrap64 (Int.tdiv (wrap64 (n * wrap64 (10000 + p))) 10000) = q) : Tells Try.prog 18 #[.int .i64 n, .int .i64 p] w (.int .i64 q) := by
  subst h
  unfold Tells
  go_enter Try.func18, Try.ntmps18
  go_wp2
  go_ret
  exact ⟨by first | rfl | simp, Below.refl _ _⟩
theorem mov_eq {n p : Int} (hn : 0 ≤ n ∧ n < 2147483648) (hp : -10000 ≤ p ∧ p ≤ 20000) : wrap64 (Int.tdiv (wrap64 (n * wrap64 (10000 + p))) 10000) = n * (10000 + p) / 10000 := by
  have h1 : wrap64 (10000 + p) = 10000 + p := by unfold wrap64; omega
  rw [h1]
  have h2 := mov_rng hn hp
  generalize n * (10000 + p) = X at *
  have h3 : wrap64 X = X := by unfold wrap64; omega
  rw [h3, Int.tdiv_eq_ediv_of_nonneg h2.1]
  unfold wrap64
  omega
set_option maxRecDepth 100000 in
set_option maxHeartbeats 8000000 in
theorem walk (x : RA) (s : ByteArray) (pts : Int) (hp : I64 pts) {w : World} (g : GoodA w x) : Calls Try.prog 3 #[x.val, .string s, .int .i64 pts] w fun e w' => e = .returned (.bool true) ∧ Below w.heap.size w w' := by
  have H0 := arg_c x g
  have h1 := rows_c (qi := 0) (l := x.l) (ci := x.cap) H0 rfl g.cap
  have hl : (x.l.take 40).length ≤ 1000 := by rw [List.length_take]; omega
  obtain ⟨A0, cap, l⟩ := x
  simp only at *
  unfold RA.val
  simp only
  generalize l.take 40 = rs at *
  clear g H0
  have ho := ofE_ok rs [] okP_nil
  obtain ⟨E, hE⟩ : ∃ E, (ofE [] rs).1 = E := ⟨_, rfl⟩
  obtain ⟨ql, hql⟩ : ∃ q, (ofE [] rs).2 = q := ⟨_, rfl⟩
  rw [hql] at ho
  have hrl : E = 0 → rofL rs = ql := fun h => by unfold rofL; rw [hE, if_pos h, hql]
  go_enter Try.func3, Try.ntmps3
  go_wp2_with fail
  refine h1.mono ?_
  rintro e w1 ⟨A, c, rfl, H1⟩
  have H2 := H1.turn 0 rfl (T' := CR A rs) ((H1.get 0 rfl).imp fun W hW => by
    obtain ⟨A', c', hA, -, -, hC⟩ := ow_C krow encR krow_mk (by decide) hW
    cases hA
    exact hC)
  have h2 := of_p (qi := 0) (ci := c) H2 rfl hl
  rw [hE] at h2
  clear h1 H1
  go_wp2_with fail
  refine h2.mono ?_
  rintro e w2 ⟨p, rfl, hN⟩
  clear h2 H2
  by_cases h0 : E = 0
  · obtain ⟨b, Ap, cp, rfl, hb, H3⟩ := (hN.good h0).at_
    rw [hql] at H3
    have h3 := rof_c (qi := 3) (ci := cap) H3 rfl hl
    rw [hE, hrl h0] at h3
    subst h0
    clear hN hE hql hrl hb
    go_wp2_with fail
    refine h3.mono ?_
    rintro e w3 ⟨d, Ad, cd, rfl, hd, H4⟩
    have hm := moved_c (s := s) (pts := pts) H4 (ask_p (i := 2) (j := 3) rfl rfl ho) ho hp
    have hlen := Nat.le_trans ho.len (show 32 ≤ 1000 by decide)
    have hgr := getV_rng ho s
    have hrg := fun W (hW : All w W _) => rget_c (d := d) (A := Ad) (l := ql) (c := cd) (L := [bx b 66 #[.slice Ap ql.length cp], ow w.heap.size 173 2 (.slice Ap ql.length cp) ql.length (flat (Tj.rows ql)), (Ob (Value.slice A rs.length c), CR A rs), ((fun k => k < w.heap.size), CR A0 rs)]) hW hlen s
    clear h3 H3 ho hlen
    unfold rgetV at hrg
    unfold movV movE at hm
    cases hh : has cmpS ql s with
    | false =>
      simp only [hh, Bool.false_eq_true, if_false, false_and] at hm hrg
      go_wp2_with fail
      refine hm.mono ?_
      rintro e w4 ⟨rfl, H5⟩
      clear hm H4
      go_wp2_with fail
      refine (hrg _ H5).on H5 fun w5 H6 => ?_
      clear H5 hrg
      go_wp2_with fail
      refine known_c.on H6 fun w6 H7 => ?_
      go_wp2
      go_ret
      exact ⟨rfl, H7.old⟩
    | true =>
      simp only [hh, if_true, true_and] at hm hrg
      generalize getV ql s = gv at *
      have d0 : decide (gv < 0) = false := decide_eq_false (by omega)
      by_cases h5 : -10000 ≤ pts ∧ pts ≤ 20000
      · rw [if_pos h5, if_pos h5] at hm
        have d1 : decide (pts < -10000) = false := decide_eq_false (by omega)
        have d2 : decide (pts > 20000) = false := decide_eq_false (by omega)
        have hmv := fun w => rmoved_c (w := w) (mov_eq hgr h5)
        have hr := mov_rng hgr h5
        have hq0 : 0 ≤ gv * (10000 + pts) / 10000 := by omega
        generalize gv * (10000 + pts) / 10000 = q at *
        have d3 : decide (q ≥ 0) = true := decide_eq_true hq0
        clear h5 hr hq0 hgr hp
        go_wp2_with fail
        refine hm.mono ?_
        rintro e w4 ⟨rfl, H5⟩
        clear hm H4
        go_wp2_with fail
        refine (hrg _ H5).on H5 fun w5 H6 => ?_
        clear H5 hrg
        go_wp2_with fail
        refine known_c.on H6 fun w6 H7 => ?_
        clear H6
        go_wp2_with fail
        refine (hmv _).on H7 fun w7 H8 => ?_
        go_wp2
        go_ret
        exact ⟨rfl, H8.old⟩
      · rw [if_neg h5, if_neg h5] at hm
        by_cases h6 : pts < -10000
        · have d1 : decide (pts < -10000) = true := decide_eq_true h6
          clear h5 h6
          go_wp2_with fail
          refine hm.mono ?_
          rintro e w4 ⟨rfl, H5⟩
          clear hm H4
          go_wp2_with fail
          refine (hrg _ H5).on H5 fun w5 H6 => ?_
          clear H5 hrg
          go_wp2_with fail
          refine known_c.on H6 fun w6 H7 => ?_
          go_wp2
          go_ret
          exact ⟨rfl, H7.old⟩
        · have d1 : decide (pts < -10000) = false := decide_eq_false h6
          have d2 : decide (pts > 20000) = true := decide_eq_true (by omega)
          clear h5 h6
          go_wp2_with fail
          refine hm.mono ?_
          rintro e w4 ⟨rfl, H5⟩
          clear hm H4
          go_wp2_with fail
          refine (hrg _ H5).on H5 fun w5 H6 => ?_
          clear H5 hrg
          go_wp2_with fail
          refine known_c.on H6 fun w6 H7 => ?_
          go_wp2
          go_ret
          exact ⟨rfl, H7.old⟩
  · obtain ⟨rfl, H3⟩ := hN.bad h0
    have h3 := rof_c (qi := 1) (ci := cap) H3 rfl hl
    rw [hE] at h3
    have h0' : (E == 0) = false := by simpa using h0
    have h0'' : (E != 0) = true := by simpa using h0
    clear hN hE hql hrl ho
    go_wp2_with fail
    refine h3.mono ?_
    rintro e w3 ⟨d, Ad, cd, rfl, hd, H4⟩
    clear h3 H3
    go_wp2_with fail
    refine known_c.on H4 fun w4 H5 => ?_
    go_wp2
    go_ret
    exact ⟨rfl, H5.old⟩
end Go.Proofs.Ythhgcjlgnafdcaa.Pm
end
section
namespace Go.Proofs.Ythhgcjlgnafdcaa.Gd
set_option linter.unusedSimpArgs false
set_option linter.unusedVariables false
open Go Go.RowKit Go.Proofs.YthhgcjlgnafdcaaW.PrintWords Go.Proofs.YthhgcjlgnafdcaaW.PrintLast Go.Proofs.Ythhgcjlgnafdcaa.Hd Go.Proofs.Ythhgcjlgnafdcaa.Os Go.Proofs.Ythhgcjlgnafdcaa.Tb Go.Proofs.Ythhgcjlgnafdcaa.Tm Go.Proofs.Ythhgcjlgnafdcaa.Px Go.Proofs.Ythhgcjlgnafdcaa.Wv Go.Proofs.Ythhgcjlgnafdcaa.Pp Go.Proofs.Ythhgcjlgnafdcaa.Pq Go.Proofs.Ythhgcjlgnafdcaa.Ps Go.Proofs.Ythhgcjlgnafdcaa.Pk Go.Proofs.Ythhgcjlgnafdcaa.Rp Go.Proofs.Ythhgcjlgnafdcaa.Rw Go.Proofs.Ythhgcjlgnafdcaa.Rv Go.Proofs.Ythhgcjlgnafdcaa.Rc Go.Proofs.Ythhgcjlgnafdcaa.Ga Go.Proofs.Ythhgcjlgnafdcaa.Gb Go.Proofs.Ythhgcjlgnafdcaa.Gc
open Go.Proofs.Ythhgcjlgnafdcaa.Nu (I64 U64 I128 sgn)
def pts (s : Sc) (n : ByteArray) : Int := (Tb.get cmpS s.2 n).getD s.1
def diff (l : PR) (s : Sc) (n : ByteArray) : Int := getV l n - getV l n * (10000 + pts s n) / 10000
def loss (l : PR) (s : Sc) (rs : PR) : Int := (rs.map fun r => r.2 * diff l s r.1).sum
def lossV (l : PR) (s : Sc) (rs : PR) : Int := if priced l rs = true then cut128 (loss l s rs) else 0
def lossE (l : PR) (s : Sc) (rs : PR) : Int := if priced l rs = true then er128 (loss l s rs) else 15
theorem pts_rng {s : Sc} (h : chk s = 0) (n : ByteArray) : -10000 ≤ pts s n ∧ pts s n ≤ 20000 := by
  obtain ⟨h1, h2, h3, _⟩ := chk_ok h
  have ho : ∀ x, okN x = true → -10000 ≤ x ∧ x ≤ 20000 := fun x hx => by
    unfold okN at hx
    rw [Bool.and_eq_true, decide_eq_true_eq, decide_eq_true_eq] at hx
    exact hx
  unfold pts
  cases hg : Tb.get cmpS s.2 n with
  | none => exact ho _ h1
  | some v => exact ho _ (h2 _ ((get_iff good_S h3).1 hg))
theorem diff_rng {l : PR} (ho : OkP l) {s : Sc} (h : chk s = 0) (n : ByteArray) : -6442450944 ≤ diff l s n ∧ diff l s n ≤ 2147483648 := by
  have h1 := getV_rng ho n
  have h2 := mov_rng h1 (pts_rng h n)
  unfold diff
  generalize getV l n * (10000 + pts s n) = X at *
  omega
theorem mulw_128 {a b : Int} (ha : I64 a) (hb : -8589934592 ≤ b ∧ b ≤ 8589934592) : (a * b).natAbs ≤ 79228162514264337593543950336 := by
  rw [Int.natAbs_mul]
  have h1 : a.natAbs ≤ 9223372036854775808 := by unfold I64 at ha; omega
  have h2 : b.natAbs ≤ 8589934592 := by omega
  exact Nat.le_trans (Nat.mul_le_mul h1 h2) (by decide)
section
variable {w0 w : World} {L : List F2} {A As Ar : Option Addr} {c cs ci q : Nat} {rest : Int} {srows rs l : PR} {p : Value}
set_option maxRecDepth 100000 in
set_option maxHeartbeats 4000000 in
theorem gof_c (H : All w0 w L) (HS : ∀ W, All w0 W L → CR As srows W) (hl : srows.length ≤ 1000) (hu : Up cmpS srows) :
    Calls Try.prog 86 #[.agg #[.int .i64 rest, .slice As srows.length cs]] w fun e w' => ∃ b A' c', e = .returned (.pointer (some ⟨b, 0, none⟩)) ∧ w0.heap.size ≤ b ∧
      All w0 w' (bx b 200 #[.slice A' srows.length c', .int .i64 rest] :: ow w0.heap.size 173 2 (.slice A' srows.length c') srows.length (flat (Tj.rows srows)) :: L) := by
  have hb := H.old.size
  have H0 := ((H.row w0.heap.size 173 2).box w.heap.size 95 #[.int .i64 rest, .slice As srows.length cs]).box (w.heap.size + 1) 200 #[.slice none 0 0, .int .i64 rest]
  have H2 : All w0 _ (bx (w.heap.size + 1) 200 #[.slice none 0 0, .int .i64 rest] :: ow w0.heap.size 173 2 (.slice none 0 0) 0 [] :: L) := H0.cut 1
  have r0 := H0.rd 1 rfl
  replace HS := Aside0.mk HS
  have hm : srows.length ≤ 9223372036854775807 := Nat.le_trans hl (by decide)
  clear H H0
  go_enter Try.func86, Try.ntmps86
  go_wp2_with fail
  clear r0
  go_loopg [13] srows.length (fun kx s13 wr => ∃ (i : Nat) (ql : PR) (A1 : Option Addr) (c1 : Nat), s13 = .int .i64 (i : Int) ∧ i ≤ srows.length ∧ srows.length - i ≤ kx ∧ Aside0 (ql = srows.take i) ∧
    All w0 wr (bx (w.heap.size + 1) 200 #[.slice A1 ql.length c1, .int .i64 rest] :: ow w0.heap.size 173 2 (.slice A1 ql.length c1) ql.length (flat (Tj.rows ql)) :: L))
  case atStart => exact ⟨0, [], none, 0, rfl, Nat.zero_le _, by omega, ⟨rfl⟩, H2⟩
  case round =>
    clear H2
    obtain ⟨i, ql, A1, c1, rfl, hil, hik, hql, H⟩ := hrel
    by_cases hlt : i < srows.length
    · have hli : (i : Int) < (srows.length : Int) := Int.ofNat_lt.2 hlt
      obtain ⟨ad, rfl, hc0, hc1⟩ := at_krow (HS.out _ (H.drop 2)) hlt
      have hqu : Up cmpS ql := by rw [hql.out]; exact List.Pairwise.sublist (List.take_sublist _ _) hu
      have hqlen : ql.length ≤ 1000 := by rw [hql.out, List.length_take]; omega
      have hput : put cmpS ql srows[i].1 srows[i].2 = srows.take (i + 1) := by rw [hql.out]; exact put_last hu hlt
      obtain ⟨r, hr⟩ : ∃ r, srows[i] = r := ⟨_, rfl⟩
      rw [hr] at hc0 hc1 hput
      obtain ⟨s, n⟩ := r
      simp only at hc0 hc1 hput
      have hput := Aside0.mk hput
      clear hr hql
      have H1 := H.box wr.heap.size 79 #[.string s, .int .i64 n]
      have hpt := fun w1 (H1 : All w0 w1 (bx wr.heap.size 79 #[.string s, .int .i64 n] :: bx (w.heap.size + 1) 200 #[.slice A1 ql.length c1, .int .i64 rest] :: ow w0.heap.size 173 2 (.slice A1 ql.length c1) ql.length (flat (Tj.rows ql)) :: L)) =>
        Tj.put_c (x := .int .i64 n) (k := s) (i := 1) (j := 2) n rfl H1 (by decide) rfl rfl (Nat.le_succ_of_le hb) (Nat.le_refl _) H1.old.size (up_rows hqu) (ones_rows ql) (by omega)
      simp only [has_rows, put_rows, Tj.rows_length] at hpt
      generalize has cmpS ql s = hh at hpt
      go_wp2_with fail
      refine planD_ [7] (true, [([], []), ([0], [0]), ([1], [1]), ([], []), ([3], [3]), ([], []), ([5], [5]), ([2, 4, 6], [2, 4, 6])]) [.p 0, .p 1, .p 2, .p 3, .t 4, .p 5, .t 6, .l 7] H1 (by kernel_rfl) (by kernel_rfl) rfl rfl (by kernel_rfl) (by intro c a w d v h; cases d <;> exact h) (fun w2 H2 => ?_)
      refine pl_P (h := ?_)
      refine pl_P (h := ?_)
      refine pl_P (h := ?_)
      refine pl_P (h := ?_)
      refine pl_L 0 0 H2 rfl (h := ?_)
      refine pl_P (h := ?_)
      refine pl_L 0 1 H2 rfl (h := ?_)
      refine pl_callL Try.func72 #[.pointer (some ⟨w.heap.size + 1, 0, none⟩), .string s, .int .i64 n] ?_
      refine (hpt w2 H2).mono ?_
      rintro e w3 ⟨rfl, hsz3, A', c', H4⟩
      refine ⟨_, rfl, pl_done ?_⟩
      clear H1 H2 hpt hc0 hc1
      go_wp2_with fail
      go_roundg (srows.length - (i + 1))
      case measure => exact En.meas hik hlt
      case rel => exact ⟨i + 1, put cmpS ql s n, A', c', rfl, hlt, Nat.le_refl _, ⟨hput.out⟩, H4.tail⟩
    · obtain rfl : i = srows.length := Nat.le_antisymm hil (Nat.le_of_not_lt hlt)
      obtain rfl : ql = srows := by rw [hql.out, List.take_length]
      have hlt2 : ¬ ((ql.length : Int) < (ql.length : Int)) := Int.lt_irrefl _
      go_wp2
      go_ret
      exact ⟨w.heap.size + 1, rfl, Nat.le_succ_of_le hb, A1, c1, H⟩
theorem points_c {b i j lo : Nat} {s : ByteArray} (H : All w0 w L) (hi : L[i]? = some (bx b 200 #[.slice A srows.length c, .int .i64 rest])) (hj : L[j]? = some (ow lo 173 2 (.slice A srows.length c) srows.length (flat (Tj.rows srows)))) (hu : Up cmpS srows) (hl : srows.length ≤ 1000) :
    Tells Try.prog 87 #[.pointer (some ⟨b, 0, none⟩), .string s] w (.int .i64 (pts (rest, srows) s)) := by
  have hg := Tj.get_c H hi hj (up_rows hu) (by omega) s
  rw [get_rows, has_rows] at hg
  have H' := (All.start w).arg (H.get i hi)
  unfold Tells pts
  simp only
  cases hh : has cmpS srows s with
  | true =>
    have e : (Tb.get cmpS srows s).getD rest = getV srows s := by
      unfold getV
      cases hq : Tb.get cmpS srows s with
      | none =>
        have := (get_none good_S hu).1 hq
        rw [hh] at this
        cases this
      | some v => rfl
    rw [hh] at hg
    rw [e]
    go_enter Try.func87, Try.ntmps87
    go_wp2_with fail
    refine hg.on H' fun w1 H1 => ?_
    go_wp2
    go_ret
    exact ⟨rfl, H1.old⟩
  | false =>
    have e : (Tb.get cmpS srows s).getD rest = rest := by unfold Tb.get; rw [hh]; rfl
    rw [hh] at hg
    rw [e]
    go_enter Try.func87, Try.ntmps87
    go_wp2_with fail
    refine hg.on H' fun w1 H1 => ?_
    have r1 := H1.rd 0 rfl
    go_wp2
    go_ret
    exact ⟨rfl, H1.old⟩
set_option maxRecDepth 100000 in
set_option maxHeartbeats 8000000 in
theorem loss_c (H : All w0 w L) (Q : PAsk w0 L p l) (ho : OkP l) (HR : ∀ W, All w0 W L → CR Ar rs W) (HS : ∀ W, All w0 W L → CR As srows W) (hcs : srows.length ≤ cs) (hk : chk (rest, srows) = 0) (hl : rs.length ≤ 1000) (hg : ∀ r ∈ rs, I64 r.2) :
    Calls Try.prog 49 #[p, .agg #[.int .i64 rest, .slice As srows.length cs], .slice Ar rs.length ci] w fun e w' => e = .returned (.tuple #[wv (lossV l (rest, srows) rs), .int .i64 (lossE l (rest, srows) rs)]) ∧ All w0 w' L := by
  have hb := H.old.size
  obtain ⟨-, -, hu, h32⟩ := chk_ok hk
  have hs1 := Nat.le_trans h32 (show 32 ≤ 1000 by decide)
  have H0 := (H.box w.heap.size 95 #[.int .i64 rest, .slice As srows.length cs]).box (w.heap.size + 1) 43 #[.int .i64 0, .int .u64 0]
  have hck := fun W (hW : All w0 W L) => gcheck_c (n := rest) (c := cs) (HS W hW) hcs hs1
  rw [hk] at hck
  have hof := fun w1 (H1 : All w0 w1 (bx (w.heap.size + 1) 43 #[.int .i64 0, .int .u64 0] :: bx w.heap.size 95 #[.int .i64 rest, .slice As srows.length cs] :: L)) => gof_c (rest := rest) (As := As) (cs := cs) H1 (fun W hW => HS W (hW.drop 2)) hs1 hu
  obtain ⟨V, hV⟩ : ∃ V, lossV l (rest, srows) rs = V := ⟨_, rfl⟩
  obtain ⟨E, hE⟩ : ∃ E, lossE l (rest, srows) rs = E := ⟨_, rfl⟩
  have hrg := fun s => pts_rng hk s
  have hdr := fun s => diff_rng ho hk s
  rw [hV, hE]
  replace hV := Aside0.mk hV
  replace hE := Aside0.mk hE
  replace hg := Aside0.mk hg
  replace HR := Aside0.mk HR
  replace hrg := Aside0.mk hrg
  replace hdr := Aside0.mk hdr
  have r0 := H0.rd 1 rfl
  have hm : rs.length ≤ 9223372036854775807 := Nat.le_trans hl (by decide)
  clear H hk
  go_enter Try.func49, Try.ntmps49
  go_wp2_with fail
  refine (hck _ (H0.drop 2)).on H0 fun w1 H1 => ?_
  have r1 := H1.rd 1 rfl
  have ho1 := hof _ H1
  clear hck H0 r0 hof
  go_wp2_with fail
  refine ho1.mono ?_
  rintro e w2 ⟨b, At, ct, rfl, hbb, H2⟩
  have H3 := H2.row w0.heap.size 43 2
  clear ho1 H1 H2 r1
  go_wp2_with fail
  go_loopg [10, 26] rs.length (fun kx s10 s26 wr => ∃ (i : Nat) (ys : List Int) (A1 : Option Addr) (c1 : Nat), s10 = .slice A1 ys.length c1 ∧ s26 = .int .i64 (i : Int) ∧ i ≤ rs.length ∧ rs.length - i ≤ kx ∧ Aside0 (ys = (rs.take i).map (fun r => r.2 * diff l (rest, srows) r.1) ∧ priced l (rs.take i) = true) ∧
    All w0 wr (ow w0.heap.size 43 2 (.slice A1 ys.length c1) ys.length (ys.flatMap encW) :: bx b 200 #[.slice At srows.length ct, .int .i64 rest] :: ow w0.heap.size 173 2 (.slice At srows.length ct) srows.length (flat (Tj.rows srows)) :: bx (w.heap.size + 1) 43 #[.int .i64 0, .int .u64 0] :: bx w.heap.size 95 #[.int .i64 rest, .slice As srows.length cs] :: L))
  case atStart => exact ⟨0, [], none, 0, rfl, rfl, Nat.zero_le _, by omega, ⟨rfl, rfl⟩, H3⟩
  case round =>
    clear H3
    obtain ⟨i, ys, A1, c1, rfl, rfl, hil, hik, hk, H⟩ := hrel
    by_cases hlt : i < rs.length
    · have hli : (i : Int) < (rs.length : Int) := Int.ofNat_lt.2 hlt
      obtain ⟨ad, rfl, hc0, hc1⟩ := at_krow (HR.out _ (H.drop 5)) hlt
      obtain ⟨r, hr⟩ : ∃ r, rs[i] = r := ⟨_, rfl⟩
      have hr2 : I64 r.2 := hg.out r (by rw [← hr]; exact List.getElem_mem hlt)
      have hpr : priced l (rs.take (i + 1)) = has cmpS l r.1 := by
        have := hk.out.2
        unfold priced at this ⊢
        rw [List.take_succ_eq_append_getElem hlt, List.all_append, this, Bool.true_and, hr]
        simp
      have hys : (rs.take (i + 1)).map (fun r => r.2 * diff l (rest, srows) r.1) = ys ++ [r.2 * diff l (rest, srows) r.1] := by
        rw [List.take_succ_eq_append_getElem hlt, List.map_append, ← hk.out.1, hr]
        rfl
      have hbad : has cmpS l r.1 = false → priced l rs = false := fun h => by
        cases hp : priced l rs with
        | false => rfl
        | true =>
          have : r ∈ rs := by rw [← hr]; exact List.getElem_mem hlt
          have := List.all_eq_true.1 hp r this
          rw [h] at this
          cases this
      rw [hr] at hc0 hc1
      obtain ⟨s, n⟩ := r
      simp only at hc0 hc1 hr2 hpr hys hbad
      have hyl : ys.length ≤ 1000 := by rw [hk.out.1, List.length_map, List.length_take]; omega
      have HB := H.box wr.heap.size 79 #[.string s, .int .i64 n]
      have hB0 := HB.rd 0 rfl
      have hsz : (ys.length + 1) * 16 ≤ 140737488355328 := by omega
      have hgt := fun W (hW : All w0 W L) => Q.get W s hW
      unfold getE at hgt
      clear hr
      cases hh : has cmpS l s with
      | true =>
        rw [hh] at hpr
        simp only [hh, if_true] at hgt
        have hP := hrg.out s
        have hD := hdr.out s
        have hI : I64 (pts (rest, srows) s) := by unfold I64; omega
        have hmv := fun w1 (H1 : All w0 w1 (bx wr.heap.size 79 #[.string s, .int .i64 n] :: ow w0.heap.size 43 2 (.slice A1 ys.length c1) ys.length (ys.flatMap encW) :: bx b 200 #[.slice At srows.length ct, .int .i64 rest] :: ow w0.heap.size 173 2 (.slice At srows.length ct) srows.length (flat (Tj.rows srows)) :: bx (w.heap.size + 1) 43 #[.int .i64 0, .int .u64 0] :: bx w.heap.size 95 #[.int .i64 rest, .slice As srows.length cs] :: L)) =>
          moved_c (s := s) (pts := pts (rest, srows) s) H1 (Q.more fun W h => h.drop 6) ho hI
        have e1 : movV l s (pts (rest, srows) s) = getV l s * (10000 + pts (rest, srows) s) / 10000 := by unfold movV; rw [if_pos ⟨hh, hP⟩]
        have e2 : movE l s (pts (rest, srows) s) = 0 := by unfold movE; rw [if_pos hh, if_pos hP]
        simp only [e1, e2] at hmv
        have hpt := fun w1 (H1 : All w0 w1 (bx wr.heap.size 79 #[.string s, .int .i64 n] :: ow w0.heap.size 43 2 (.slice A1 ys.length c1) ys.length (ys.flatMap encW) :: bx b 200 #[.slice At srows.length ct, .int .i64 rest] :: ow w0.heap.size 173 2 (.slice At srows.length ct) srows.length (flat (Tj.rows srows)) :: bx (w.heap.size + 1) 43 #[.int .i64 0, .int .u64 0] :: bx w.heap.size 95 #[.int .i64 rest, .slice As srows.length cs] :: L)) =>
          points_c (s := s) H1 (i := 2) (j := 3) rfl rfl hu hs1
        have hdf : getV l s - getV l s * (10000 + pts (rest, srows) s) / 10000 = diff l (rest, srows) s := rfl
        generalize getV l s * (10000 + pts (rest, srows) s) / 10000 = qv at *
        generalize pts (rest, srows) s = pv at *
        generalize diff l (rest, srows) s = dv at *
        generalize getV l s = gv at *
        have hw : wrap64 (gv - qv) = dv := by unfold wrap64; omega
        have htm := fun w => times_c (w := w) hr2 (show I64 dv by unfold I64; omega)
        replace hpr := Aside0.mk hpr
        replace hys := Aside0.mk hys
        clear hbad hh hk H hP hD hdf e1 e2 hI
        go_wp2_with fail
        refine (hgt _ (HB.drop 6)).on HB fun w3 H4 => ?_
        have r4 := H4.rd 0 rfl
        clear HB hB0 hc0 hc1
        go_wp2_with fail
        refine plan_ (true, [([], []), ([], []), ([1], [1]), ([], []), ([], []), ([4], [4]), ([3, 5], [3, 5]), ([0, 2, 6, 6], [0, 2, 6]), ([7], [7]), ([8], [8]), ([8], [8]), ([9, 7, 0, 1, 2, 3, 4, 5, 6, 7, 8, 9], [9]), ([10, 11, 0, 1, 2, 3, 4, 5, 6, 7, 8, 9, 10, 11], [10])]) [.p 0, .p 1, .t 2, .p 3, .p 4, .t 5, .c 6, .c 7, .p 8, .p 9, .p 10, .p 11, .p 12] H4 (by kernel_rfl) (by kernel_rfl) rfl rfl (by kernel_rfl) (by intro c a w d v h; cases d <;> exact h) (fun w4 H5 => ?_)
        refine pl_P (h := ?_)
        refine pl_P (h := ?_)
        refine pl_L 0 0 H5 rfl (h := ?_)
        refine pl_P (h := ?_)
        refine pl_P (h := ?_)
        refine pl_L 0 0 H5 rfl (h := ?_)
        refine pl_S (hpt _ H5) H5 Try.func87 (h := fun w5 H6 => ?_)
        refine pl_K Try.func16 ((hmv w5 H6).mono ?_)
        rintro e w6 ⟨rfl, H7⟩
        refine ⟨_, rfl, H7, ?_⟩
        refine pl_P (h := ?_)
        refine pl_P (h := ?_)
        refine pl_P (h := ?_)
        refine pl_P (h := ?_)
        refine pl_P (h := ?_)
        refine pl_done ?_
        have r7 := H7.rd 0 rfl
        clear H4 H5 H6 hpt hmv hgt r4
        go_wp2_with fail
        refine (htm _).on H7 fun w7 H8 => ?_
        have hz := H8.old.size
        clear H7 r7 htm
        go_wp2_with ((with_reducible refine gate_builtin (b := .append) rfl ?_); refine app_ (encW (n * dv)) H8 1 rfl (Nat.le_refl _) hz hsz (.tmp 56) (.tmp 63) 111 (.agg #[.int .i64 0, .int .u64 0]) (by kernel_rfl) Try.underlying111 rfl rfl rfl (by decide) (by decide) rfl rfl rfl (encW_one _) ?_; intro A2 c2 w8 H9 z9)
        go_roundg (rs.length - (i + 1))
        case measure => exact En.meas hik hlt
        case rel => exact ⟨i + 1, ys ++ [n * dv], A2, c2, by rw [List.length_append]; rfl, rfl, hlt, Nat.le_refl _, ⟨⟨hys.out.symm, hpr.out⟩⟩, by rw [List.length_append, List.flatMap_append, List.flatMap_singleton]; exact H9.tail⟩
      | false =>
        have hp := hbad hh
        obtain rfl : 0 = V := by rw [← hV.out]; unfold lossV; rw [hp]; rfl
        obtain rfl : 15 = E := by rw [← hE.out]; unfold lossE; rw [hp]; rfl
        simp only [hh, Bool.false_eq_true, if_false] at hgt
        clear hbad hpr hys hh hk hr2 H hp hsz hyl
        go_wp2_with fail
        refine (hgt _ (HB.drop 6)).on HB fun w1 H1 => ?_
        have r1 := H1.rd 4 rfl
        have f1 := H1.fz 4 rfl
        have H2 := (H1.set 4 rfl 0 (.int .i64 0) (by omega)).set 4 rfl 1 (.int .u64 0) (by omega)
        clear HB hB0 hgt H1
        go_wp2_with fail
        refine H2.ret2 4 rfl rfl rfl rfl Try.underlying43 rfl (by kernel_rfl) rfl ⟨rfl, H2.drop 6⟩
    · obtain rfl : i = rs.length := Nat.le_antisymm hil (Nat.le_of_not_lt hlt)
      rw [List.take_length] at hk
      have hyl : ys.length ≤ 1000 := by rw [hk.out.1, List.length_map]; exact hl
      have hsum : ys.sum = loss l (rest, srows) rs := by rw [hk.out.1]; rfl
      have hyI : ∀ y ∈ ys, I128 y := fun y hy => by
        rw [hk.out.1] at hy
        obtain ⟨r, hr, rfl⟩ := List.mem_map.1 hy
        have h1 := hdr.out r.1
        have := mulw_128 (hg.out r hr) (show -8589934592 ≤ diff l (rest, srows) r.1 ∧ diff l (rest, srows) r.1 ≤ 8589934592 by omega)
        unfold I128
        omega
      have hcw : ∀ W, Ow w0.heap.size 43 2 (.slice A1 ys.length c1) ys.length (ys.flatMap encW) W → ys.length ≤ c1 ∧ Kd.C kW W A1 ys.length ys := fun W hW => by
        obtain ⟨A', c', hA, -, hcc, hC⟩ := ow_C kW encW kW_mk (by decide) hW
        cases hA
        exact ⟨hcc, hC⟩
      have hpl := plus_c (hcw _ (H.at 0 rfl)).2 (hcw _ (H.at 0 rfl)).1 (by omega) hyI
      rw [hsum] at hpl
      have e1 : cut128 (loss l (rest, srows) rs) = V := by rw [← hV.out]; unfold lossV; rw [hk.out.2]; rfl
      have e2 : er128 (loss l (rest, srows) rs) = E := by rw [← hE.out]; unfold lossE; rw [hk.out.2]; rfl
      rw [e1, e2] at hpl
      clear hk hsum hyI hcw e1 e2
      go_wp2_with fail
      refine hpl.mono fun e w1 ⟨he, hB⟩ => ?_
      subst he
      have H1 := H.grow hB
      have r1 := H1.rd 3 rfl
      have f1 := H1.fz 3 rfl
      have H2 := (H1.set 3 rfl 0 (.int .i64 (hiW V)) (by omega)).set 3 rfl 1 (.int .u64 (loW V)) (by omega)
      clear H H1 hpl
      go_wp2_with fail
      refine H2.ret2 3 rfl rfl rfl rfl Try.underlying43 rfl (by kernel_rfl) rfl ⟨rfl, H2.drop 5⟩
end
end Go.Proofs.Ythhgcjlgnafdcaa.Gd
end
section
namespace Go.Proofs.Ythhgcjlgnafdcaa.Ge
set_option linter.unusedSimpArgs false
set_option linter.unusedVariables false
open Go Go.RowKit Go.Shelf Go.Proofs.YthhgcjlgnafdcaaW.PrintWords Go.Proofs.YthhgcjlgnafdcaaW.PrintLast Go.Proofs.Ythhgcjlgnafdcaa.Hd Go.Proofs.Ythhgcjlgnafdcaa.Os Go.Proofs.Ythhgcjlgnafdcaa.Tb Go.Proofs.Ythhgcjlgnafdcaa.Tm Go.Proofs.Ythhgcjlgnafdcaa.Px Go.Proofs.Ythhgcjlgnafdcaa.Wv Go.Proofs.Ythhgcjlgnafdcaa.Pp Go.Proofs.Ythhgcjlgnafdcaa.Pq Go.Proofs.Ythhgcjlgnafdcaa.Ps Go.Proofs.Ythhgcjlgnafdcaa.Pk Go.Proofs.Ythhgcjlgnafdcaa.Rp Go.Proofs.Ythhgcjlgnafdcaa.Rw Go.Proofs.Ythhgcjlgnafdcaa.Rv Go.Proofs.Ythhgcjlgnafdcaa.Rc Go.Proofs.Ythhgcjlgnafdcaa.Ga Go.Proofs.Ythhgcjlgnafdcaa.Gb Go.Proofs.Ythhgcjlgnafdcaa.Gc Go.Proofs.Ythhgcjlgnafdcaa.Gd
open Go.Proofs.Ythhgcjlgnafdcaa.Nu (I64 U64 I128 sgn)
def PT (p : Value) (l : PR) (W : World) : Prop := (p = .pointer none ∧ l = []) ∨ ∃ b A c lo tt, p = .pointer (some ⟨b, 0, none⟩) ∧ Box b tt #[.slice A l.length c] W ∧ Ow lo 173 2 (.slice A l.length c) l.length (flat (Tj.rows l)) W
theorem PT.tells {p : Value} {l : PR} {w : World} (h : PT p l w) (ho : OkP l) (s : ByteArray) : Tells Try.prog 29 #[p, .string s] w (.tuple #[.int .i64 (getV l s), .int .i64 (getE l s)]) := by
  rcases h with ⟨rfl, rfl⟩ | ⟨b, A, c, lo, tt, rfl, h1, h2⟩
  · exact get_nil
  · exact get_p (((All.start w).arg (held_own h2)).arg (held_box h1)) (i := 0) (j := 1) rfl rfl ho.up (Nat.le_trans ho.len (by decide)) s
theorem held_PT {p : Value} {l : PR} {w : World} (h : PT p l w) : Held w (fun k => k < w.heap.size) (PT p l) := by
  refine ⟨fun _ h => h, fun W hW => ?_⟩
  rcases h with ⟨rfl, rfl⟩ | ⟨b, A, c, lo, tt, rfl, h1, h2⟩
  · exact .inl ⟨rfl, rfl⟩
  · exact .inr ⟨b, A, c, lo, tt, rfl, (held_box h1).on W fun k hk => hW k ((held_box h1).lt k hk), (held_own h2).on W fun k hk => hW k ((held_own h2).lt k hk)⟩
def GB (ga : Option Addr) (gs : List SM) (W : World) : Prop := (ga = none ∧ gs = []) ∨ ∃ b Ag cg, ga = some ⟨b, 0, none⟩ ∧ Box b 159 #[.slice Ag gs.length cg] W ∧ SF Ag gs W
structure GT (ga : Option Addr) (gs : List SM) (Ar : Option Addr) (rs : PR) (p : Value) (l : PR) (W : World) : Prop where
  gb : GB ga gs W
  rows : CR Ar rs W
  pt : PT p l W
def seqG (l : PR) (gs : List SM) (rs : PR) : List (Int × Int) := (pl gs).map fun s => (lossV l s rs, lossE l s rs)
theorem seqG_len (l : PR) (gs : List SM) (rs : PR) : (seqG l gs rs).length = gs.length := by unfold seqG; rw [List.length_map, pl_len]
theorem seqG_at {l : PR} {gs : List SM} {rs : PR} {i : Nat} (h : i < gs.length) : (seqG l gs rs)[i]'(by rw [seqG_len]; exact h) = (lossV l (gs[i].rest, gs[i].rows) rs, lossE l (gs[i].rest, gs[i].rows) rs) := by
  unfold seqG pl
  simp
def SG (l : PR) (gs : List SM) (rs : PR) (xs : List (Int × Int)) : Prop := (xs = seqG l gs rs ∧ ∀ r ∈ xs, r.2 = 0) ∨ ∃ r ∈ xs, r.2 ≠ 0
def SpG (l : PR) (gs : List SM) (rs : PR) (xs : List (Int × Int)) : Prop := ∃ i, i < gs.length ∧ xs = (seqG l gs rs).take (i + 1) ∧ ∀ r ∈ (seqG l gs rs).take i, r.2 = 0
section
attribute [local go_sem] Oper.semAt_some
set_option maxRecDepth 100000 in
set_option maxHeartbeats 8000000 in
theorem grid_stops (n : Nat) (hn : 2 ≤ n) (Bg Bp Br : Nat) {ga Ar : Option Addr} {cr : Nat} {gs : List SM} {rs l : PR} {p : Value} (w : World) (ok : Nat → Prop) (ho : OkP l) (hchk : ∀ s ∈ pl gs, chk s = 0) (hl : rs.length ≤ 1000) (hgl : gs.length ≤ 1000) (hg : ∀ r ∈ rs, I64 r.2)
    (hH : Held w ok fun W => Box Bg 99 #[.pointer ga] W ∧ Box Bp 26 #[p] W ∧ Box Br 23 #[.slice Ar rs.length cr] W ∧ GT ga gs Ar rs p l W) :
    SeqStopsK Fence.wide n Try.prog 119 #[.pointer (some ⟨Bg, 0, none⟩), .pointer (some ⟨Bp, 0, none⟩), .pointer (some ⟨Br, 0, none⟩)] (fun r : Int × Int => #[wv r.1, .int .i64 r.2]) (fun W W' => ∀ k, ok k → W'.heap[k]? = W.heap[k]?) (SG l gs rs) (SpG l gs rs) gs.length w := fun lp J Jx W hW hJ hJx hY h0 => by
  have hHW : ∀ W', (∀ k, ok k → W'.heap[k]? = W.heap[k]?) → Box Bg 99 #[.pointer ga] W' ∧ Box Bp 26 #[p] W' ∧ Box Br 23 #[.slice Ar rs.length cr] W' ∧ GT ga gs Ar rs p l W' := fun W' h => hH.on W' fun k hk => (h k hk).trans (hW.block k (hH.lt k hk))
  have hok : ∀ k, ok k → k < W.heap.size := fun k hk => Nat.lt_of_lt_of_le (hH.lt k hk) hW.size
  have hT := hHW W fun _ _ => rfl
  have hc := blk_cell hT.1 0
  have hln : Tells Try.prog 47 #[.pointer ga] W (.int .i64 gs.length) := by
    rcases hT.2.2.2.gb with ⟨rfl, rfl⟩ | ⟨b, Ag, cg, rfl, h1, h2⟩
    · exact glen_nil
    · exact glen_c ((All.start W).arg (held_box h1)) (i := 0) rfl
  obtain ⟨sq, hsq⟩ : ∃ sq, seqG l gs rs = sq := ⟨_, rfl⟩
  have hsl : sq.length = gs.length := by rw [← hsq, seqG_len]
  have hsa := fun (i : Nat) (h : i < gs.length) => seqG_at (l := l) (rs := rs) h
  replace hsl := Aside0.mk hsl
  replace hHW := Aside0.mk hHW
  replace hok := Aside0.mk hok
  replace hchk := Aside0.mk hchk
  replace hg := Aside0.mk hg
  replace hsa := Aside0.mk hsa
  replace hsq := Aside0.mk hsq
  clear hH hT
  refine callsIn_of_wp Try.func119 rfl trivial ?_ rfl
  simp only [Try.ntmps119, List.size_toArray, List.length_cons, List.length_nil, Nat.reduceAdd, Nat.reduceSub, Array.replicate_succ, Array.replicate_zero, List.push_toArray, List.append_toArray, List.nil_append, List.cons_append]
  gi_wp2
  refine ⟨trivial, fun _ => by omega, ?_⟩
  refine (callsIn_wide.2 hln).mono ?_
  rintro e W1 ⟨rfl, hb1⟩
  have h1 : J [] W1 := hJ _ _ _ none h0 (grown_of hb1) (fun r e => by cases e)
  have hk1 : Aside0 (∀ q, ok q → W1.heap[q]? = W.heap[q]?) := ⟨fun q hq => hb1.block q (hok.out q hq)⟩
  clear hln h0 hb1 hc
  gi_wp2
  gi_loopw [10] (fun p wr => ∃ k : Nat, k ≤ gs.length ∧ p = .int .i64 (k : Int) ∧ J (sq.take k) wr ∧ Aside0 ((∀ q, ok q → wr.heap[q]? = W.heap[q]?) ∧ ∀ r ∈ sq.take k, r.2 = 0)) (fun p _ => gs.length - (intOf p).toNat)
  case atStart => exact ⟨0, Nat.zero_le _, rfl, h1, ⟨hk1.out, fun r hr => by cases hr⟩⟩
  case round =>
    clear h1 hk1
    obtain ⟨k, hk, rfl, hj, HB⟩ := hrel
    by_cases hks : k < gs.length
    · have hT := hHW.out wr HB.out.1
      have hki : (k : Int) < (gs.length : Int) := Int.ofNat_lt.2 hks
      obtain ⟨b, Ag, cg, rfl, hgb, hsf⟩ : ∃ b Ag cg, ga = some ⟨b, 0, none⟩ ∧ Box b 159 #[.slice Ag gs.length cg] wr ∧ SF Ag gs wr := by
        rcases hT.2.2.2.gb with ⟨_, h⟩ | h
        · subst h
          exact absurd hks (Nat.not_lt_zero _)
        · exact h
      have H0 : All wr wr [bx Bg 99 #[.pointer (some ⟨b, 0, none⟩)], bx Bp 26 #[p], bx Br 23 #[.slice Ar rs.length cr], bx b 159 #[.slice Ag gs.length cg], (fun k => k < wr.heap.size, SF Ag gs), (fun k => k < wr.heap.size, CR Ar rs), (fun k => k < wr.heap.size, PT p l)] :=
        (((((((All.start wr).arg (held_PT hT.2.2.2.pt)).arg (held_C hT.2.2.2.rows)).arg (held_SF hsf)).arg (held_box hgb)).arg (held_box hT.2.2.1)).arg (held_box hT.2.1)).arg (held_box hT.1)
      obtain ⟨ad, rfl, -, -⟩ := at_sm (H0.at 4 rfl).1 hks
      have hc : ∀ W, All wr W [bx Bg 99 #[.pointer (some ⟨b, 0, none⟩)], bx Bp 26 #[p], bx Br 23 #[.slice Ar rs.length cr], bx b 159 #[.slice (some ad) gs.length cg], (fun k => k < wr.heap.size, SF (some ad) gs), (fun k => k < wr.heap.size, CR Ar rs), (fun k => k < wr.heap.size, PT p l)] → W.cell? (ad.add (k * 2)) = some (.int .i64 gs[k].rest) ∧ W.cell? ⟨(ad.add (k * 2)).block, (ad.add (k * 2)).off + 1, none⟩ = some (.slice gs[k].A gs[k].rows.length gs[k].c) := fun W hW => by
        obtain ⟨ad', e, q0, q1⟩ := at_sm (hW.at 4 rfl).1 hks
        cases e
        exact ⟨q0, q1⟩
      have hck : chk (gs[k].rest, gs[k].rows) = 0 := hchk.out _ (List.mem_map_of_mem (List.getElem_mem hks))
      have hcl := ((H0.at 4 rfl).2 _ (List.getElem_mem hks)).1
      have hls := fun w1 (L : List F2) (H1 : All wr w1 (L ++ [bx Bg 99 #[.pointer (some ⟨b, 0, none⟩)], bx Bp 26 #[p], bx Br 23 #[.slice Ar rs.length cr], bx b 159 #[.slice (some ad) gs.length cg], (fun k => k < wr.heap.size, SF (some ad) gs), (fun k => k < wr.heap.size, CR Ar rs), (fun k => k < wr.heap.size, PT p l)])) =>
        loss_c (p := p) (l := l) (rest := gs[k].rest) (srows := gs[k].rows) (As := gs[k].A) (cs := gs[k].c) (Ar := Ar) (rs := rs) (ci := cr) H1 ⟨fun w s H => ((H.sub (List.sublist_append_right L _)).at 6 rfl : PT p l w).tells ho s⟩ ho (fun W hW => (hW.sub (List.sublist_append_right L _)).at 5 rfl) (fun W hW => (((hW.sub (List.sublist_append_right L _)).at 4 rfl : SF (some ad) gs W).2 _ (List.getElem_mem hks)).2) hcl hck hl hg.out
      have hat := hsa.out k hks
      have htk : sq.take (k + 1) = sq.take k ++ [(lossV l (gs[k].rest, gs[k].rows) rs, lossE l (gs[k].rest, gs[k].rows) rs)] := by
        rw [List.take_succ_eq_append_getElem (by rw [hsl.out]; exact hks), ← hat]
        congr 2
        simp only [hsq.out]
      generalize lossV l (gs[k].rest, gs[k].rows) rs = V at *
      generalize lossE l (gs[k].rest, gs[k].rows) rs = E at *
      generalize gs[k] = sm at *
      have hyk := fun W1 (h : J (sq.take k) W1) => hY (sq.take k) (V, E) W1 h (by rw [List.length_take, hsl.out]; omega)
      replace hc := Aside0.mk hc
      replace htk := Aside0.mk htk
      clear hY hT hck hcl hat
      gi_wp2
      refine wpIn_wide.2 ?_
      refine planT_ (true, [([], []), ([], []), ([1], [1]), ([2], [2]), ([3], [3]), ([], []), ([4, 5], [4, 5]), ([6], [6]), ([], []), ([0, 7, 8], [0, 7, 8]), ([9], [9]), ([10], [10]), ([10], [10]), ([], []), ([13, 11, 9, 0, 1, 2, 3, 4, 5, 6, 7, 8, 9, 10, 11, 13], [11, 13]), ([12, 14, 0, 1, 2, 3, 4, 5, 6, 7, 8, 9, 10, 11, 12, 13, 14], [12])]) (.fork [.t 0, .t 1, .p 2, .p 3, .t 4, .p 5, .p 6, .t 7, .t 8] 9 13 (.leaf [.p 10, .p 11, .p 12, .c 13, .c 14, .p 15]) (.leaf [.c 9, .p 10, .p 11, .p 12, .c 14, .p 15])) H0 (by kernel_rfl) (by kernel_rfl) rfl rfl (by kernel_rfl) (by intro c a w d v h; cases d <;> exact h) (fun w2 H2 => ?_)
      refine pl_fork ?_
      refine pl_L 1 0 H2 rfl (h := ?_)
      refine pl_L 0 0 H2 rfl (h := ?_)
      refine pl_P (h := ?_)
      refine pl_P (h := ?_)
      refine pl_L 3 0 H2 rfl (h := ?_)
      refine pl_P (h := ?_)
      refine pl_P (h := ?_)
      refine pl_C2 H2 (fun W hW => hc.out W hW) (h := ?_)
      refine pl_L 2 0 H2 rfl (h := ?_)
      refine pl_done ⟨?_, ?_⟩
      · refine pl_K Try.func49 ((hls w2 [] H2).mono ?_)
        rintro e w3 ⟨rfl, H3⟩
        refine ⟨_, rfl, H3, ?_⟩
        refine pl_done (pl_leaf ?_)
        refine pl_P (h := ?_)
        refine pl_P (h := ?_)
        refine pl_P (h := ?_)
        refine pl_R (H3.box w3.heap.size 43 #[.int .i64 0, .int .u64 0]) (fun H4 => ?_)
        refine pl_WR 0 #[.int .i64 (hiW V), .int .u64 (loW V)] H4 rfl H3.old.size (fun H5 => ?_) (by kernel_rfl) rfl
        refine pl_P (h := ?_)
        refine pl_done ?_
        have H6 := H5
        clear H2 H3 H4 H5
        have r6 := H6.rd 0 rfl
        obtain ⟨f1, t1, a1, b1', hy1, hR1⟩ := hyk _ (hJ _ _ _ none hj (grown_of H6.old) (fun r e => by cases e))
        have hkw := fun q (hq : ok q) => H6.old.block q (by
          have h1 := HB.out.1 q hq
          rw [Array.getElem?_eq_getElem (hok.out q hq)] at h1
          exact (Array.getElem?_eq_some_iff.1 h1).1)
        replace hkw := Aside0.mk hkw
        clear hyk hls H0 hc hJ
        gi_wp2
        refine ⟨fun _ => by omega, ?_⟩
        refine hR1.mono ?_
        rintro e W2 (⟨rfl, hJ1, hk1⟩ | ⟨rfl, hx1⟩)
        · have hk2 : ∀ q, ok q → W2.heap[q]? = W.heap[q]? := fun q hq => ((hk1 q hq).trans (hkw.out q hq)).trans (HB.out.1 q hq)
          by_cases hE : E = 0
          · have hz : ∀ r ∈ sq.take (k + 1), r.2 = 0 := fun r hr => by
              rw [htk.out] at hr
              rcases List.mem_append.1 hr with hr | hr
              · exact HB.out.2 r hr
              · rw [List.mem_singleton.1 hr]
                exact hE
            have d1 : (E != 0) = false := by simpa using hE
            replace hk2 := Aside0.mk (And.intro hk2 hz)
            clear hk1 hz hE
            gi_wp2
            exact ⟨⟨k + 1, by omega, rfl, by rw [htk.out]; exact hJ1, hk2⟩, by simp [intOf]; omega⟩
          · have d1 : (E != 0) = true := by simpa using hE
            clear hk1 hk2
            gi_wp2
            refine bodyPost_ret (results_none rfl _ _ _) rfl ?_
            exact ⟨⟨_, rfl⟩, .inl ⟨_, .inr ⟨(V, E), List.mem_append_right _ (List.mem_singleton.2 rfl), hE⟩, hJ1⟩⟩
        · gi_wp2
          refine bodyPost_ret (results_none rfl _ _ _) rfl ?_
          exact ⟨⟨_, rfl⟩, .inr ⟨_, ⟨k, hks, by rw [hsq.out, htk.out], by rw [hsq.out]; exact HB.out.2⟩, hx1⟩⟩
      · refine pl_R (H2.box w2.heap.size 43 #[.int .i64 0, .int .u64 0]) (fun H3 => ?_)
        refine pl_done (pl_leaf ?_)
        refine pl_K Try.func49 ((hls _ [_] H3).mono ?_)
        rintro e w3 ⟨rfl, H4⟩
        refine ⟨_, rfl, H4.tail, ?_⟩
        refine pl_P (h := ?_)
        refine pl_P (h := ?_)
        refine pl_P (h := ?_)
        refine pl_WR 0 #[.int .i64 (hiW V), .int .u64 (loW V)] H4 rfl H2.old.size (fun H5 => ?_) (by kernel_rfl) rfl
        refine pl_P (h := ?_)
        refine pl_done ?_
        have H6 := H5
        clear H2 H3 H4 H5
        have r6 := H6.rd 0 rfl
        obtain ⟨f1, t1, a1, b1', hy1, hR1⟩ := hyk _ (hJ _ _ _ none hj (grown_of H6.old) (fun r e => by cases e))
        have hkw := fun q (hq : ok q) => H6.old.block q (by
          have h1 := HB.out.1 q hq
          rw [Array.getElem?_eq_getElem (hok.out q hq)] at h1
          exact (Array.getElem?_eq_some_iff.1 h1).1)
        replace hkw := Aside0.mk hkw
        clear hyk hls H0 hc hJ
        gi_wp2
        refine ⟨fun _ => by omega, ?_⟩
        refine hR1.mono ?_
        rintro e W2 (⟨rfl, hJ1, hk1⟩ | ⟨rfl, hx1⟩)
        · have hk2 : ∀ q, ok q → W2.heap[q]? = W.heap[q]? := fun q hq => ((hk1 q hq).trans (hkw.out q hq)).trans (HB.out.1 q hq)
          by_cases hE : E = 0
          · have hz : ∀ r ∈ sq.take (k + 1), r.2 = 0 := fun r hr => by
              rw [htk.out] at hr
              rcases List.mem_append.1 hr with hr | hr
              · exact HB.out.2 r hr
              · rw [List.mem_singleton.1 hr]
                exact hE
            have d1 : (E != 0) = false := by simpa using hE
            replace hk2 := Aside0.mk (And.intro hk2 hz)
            clear hk1 hz hE
            gi_wp2
            exact ⟨⟨k + 1, by omega, rfl, by rw [htk.out]; exact hJ1, hk2⟩, by simp [intOf]; omega⟩
          · have d1 : (E != 0) = true := by simpa using hE
            clear hk1 hk2
            gi_wp2
            refine bodyPost_ret (results_none rfl _ _ _) rfl ?_
            exact ⟨⟨_, rfl⟩, .inl ⟨_, .inr ⟨(V, E), List.mem_append_right _ (List.mem_singleton.2 rfl), hE⟩, hJ1⟩⟩
        · gi_wp2
          refine bodyPost_ret (results_none rfl _ _ _) rfl ?_
          exact ⟨⟨_, rfl⟩, .inr ⟨_, ⟨k, hks, by rw [hsq.out, htk.out], by rw [hsq.out]; exact HB.out.2⟩, hx1⟩⟩
    · gi_wp2
      go_end0
      obtain rfl : k = gs.length := by omega
      have e : sq.take gs.length = sq := by rw [← hsl.out, List.take_length]
      rw [e] at hj HB
      exact ⟨⟨_, rfl⟩, .inl ⟨_, .inl ⟨hsq.out.symm, HB.out.2⟩, hj⟩⟩
end
end Go.Proofs.Ythhgcjlgnafdcaa.Ge
end
section
namespace Go.Proofs.Ythhgcjlgnafdcaa.Gf
set_option linter.unusedSimpArgs false
set_option linter.unusedVariables false
open Go Go.RowKit Go.Shelf Go.Proofs.YthhgcjlgnafdcaaW.PrintWords Go.Proofs.YthhgcjlgnafdcaaW.PrintLast Go.Proofs.Ythhgcjlgnafdcaa.Hd Go.Proofs.Ythhgcjlgnafdcaa.Os Go.Proofs.Ythhgcjlgnafdcaa.Tb Go.Proofs.Ythhgcjlgnafdcaa.Tm Go.Proofs.Ythhgcjlgnafdcaa.Px Go.Proofs.Ythhgcjlgnafdcaa.Wv Go.Proofs.Ythhgcjlgnafdcaa.Pp Go.Proofs.Ythhgcjlgnafdcaa.Pq Go.Proofs.Ythhgcjlgnafdcaa.Ps Go.Proofs.Ythhgcjlgnafdcaa.Pk Go.Proofs.Ythhgcjlgnafdcaa.Rp Go.Proofs.Ythhgcjlgnafdcaa.Rw Go.Proofs.Ythhgcjlgnafdcaa.Rv Go.Proofs.Ythhgcjlgnafdcaa.Rc Go.Proofs.Ythhgcjlgnafdcaa.Ga Go.Proofs.Ythhgcjlgnafdcaa.Gb Go.Proofs.Ythhgcjlgnafdcaa.Gc Go.Proofs.Ythhgcjlgnafdcaa.Gd Go.Proofs.Ythhgcjlgnafdcaa.Ge
open Go.Proofs.Ythhgcjlgnafdcaa.Nu (I64 U64 I128 sgn)
def lsE (l : PR) (rs : PR) : List Sc → Int
  | [] => 0
  | s :: r => if lossE l s rs ≠ 0 then lossE l s rs else lsE l rs r
def lsV (l : PR) (rs : PR) (sl : List Sc) : List Int := if lsE l rs sl = 0 then sl.map (fun s => lossV l s rs) else []
theorem lsE_zero {l rs : PR} : ∀ {sl : List Sc}, (∀ s ∈ sl, lossE l s rs = 0) → lsE l rs sl = 0
  | [], _ => rfl
  | s :: r, h => by
    unfold lsE
    rw [h s List.mem_cons_self, if_neg (by decide)]
    exact lsE_zero fun x hx => h x (List.mem_cons_of_mem _ hx)
theorem lsE_at {l rs : PR} : ∀ {sl : List Sc} {i : Nat} (h : i < sl.length), (∀ s ∈ sl.take i, lossE l s rs = 0) → lossE l sl[i] rs ≠ 0 → lsE l rs sl = lossE l sl[i] rs
  | [], i, h, _, _ => by simp at h
  | s :: r, 0, h, _, h2 => by
    unfold lsE
    exact if_pos h2
  | s :: r, i + 1, h, h1, h2 => by
    unfold lsE
    rw [h1 s (by simp), if_neg (by decide)]
    exact lsE_at (sl := r) (by simpa using h) (fun x hx => h1 x (by simp [hx])) h2
theorem lsE_all {l rs : PR} : ∀ {sl : List Sc}, lsE l rs sl = 0 → ∀ s ∈ sl, lossE l s rs = 0
  | [], _, s, hs => by cases hs
  | a :: r, h, s, hs => by
    unfold lsE at h
    split at h
    · rename_i h1
      exact absurd h h1
    · rename_i h1
      rcases List.mem_cons.1 hs with rfl | hs
      · exact Decidable.not_not.1 h1
      · exact lsE_all h s hs
section
variable {w0 w : World} {L : List F2} {Ar : Option Addr} {cr : Nat} {gs : List SM} {rs l : PR} {ga pa : Option Addr}
theorem geach_c (H : All w0 w L) : Calls Try.prog 89 #[.pointer ga, .pointer pa, .slice Ar rs.length cr] w fun e w' => ∃ Bg Bp Br, e = .returned (.func (.func 119) #[] #[.pointer (some ⟨Bg, 0, none⟩), .pointer (some ⟨Bp, 0, none⟩), .pointer (some ⟨Br, 0, none⟩)]) ∧
    All w0 w' (bx Br 23 #[.slice Ar rs.length cr] :: bx Bp 26 #[.pointer pa] :: bx Bg 99 #[.pointer ga] :: L) := by
  have H1 := ((H.box w.heap.size 99 #[.pointer ga]).box (w.heap.size + 1) 26 #[.pointer pa]).box (w.heap.size + 2) 23 #[.slice Ar rs.length cr]
  go_enter Try.func89, Try.ntmps89
  go_wp2
  go_ret
  exact ⟨_, _, _, rfl, H1⟩
abbrev Mls (w : World) (lo : Nat) (pre : List (Int × Int)) (p : Option Addr × Nat × Int) : List F2 :=
  ow lo 43 2 (.slice p.1 pre.length p.2.1) pre.length ((pre.map (·.1)).flatMap encW) :: bx (w.heap.size + 2) 111 #[.slice p.1 pre.length p.2.1] :: bx (w.heap.size + 1) 27 #[.int .i64 0] :: bx w.heap.size 111 #[.slice none 0 0] :: [((fun _ => False), fun _ => ∀ r ∈ pre, r.2 = 0)]
abbrev MXls (w : World) (c : Code) (pre : List (Int × Int)) (p : Option Addr × Nat × Int) : List F2 :=
  bx (w.heap.size + 1) 27 #[.int .i64 p.2.2] :: bx w.heap.size 111 #[.slice none 0 0] :: [((fun _ => False), fun _ => c = .ret ∧ ∃ pre' x, pre = pre' ++ [x] ∧ x.2 = p.2.2 ∧ x.2 ≠ 0)]
theorem cells_pure {B : Nat} {T : World → Prop} {M : List F2} (hM : Cells B M) : Cells B (((fun _ => False), T) :: M) := cells_cons (fun W k _ h _ => h.elim) hM
section
attribute [local go_sem] Oper.semAt_some
set_option maxRecDepth 100000 in
set_option maxHeartbeats 8000000 in
theorem losses_c (H : All w0 w L) (hT : ∀ W, Fx L W → GT ga gs Ar rs (.pointer pa) l W) (ho : OkP l) (hchk : ∀ s ∈ pl gs, chk s = 0) (hl : rs.length ≤ 1000) (hgl : gs.length ≤ 1000) (hg : ∀ r ∈ rs, I64 r.2) :
    Calls Try.prog 52 #[.pointer ga, .pointer pa, .slice Ar rs.length cr] w fun e w' => ∃ A c, e = .returned (.tuple #[.slice A (lsV l rs (pl gs)).length c, .int .i64 (lsE l rs (pl gs))]) ∧
      All w0 w' (ow w0.heap.size 43 2 (.slice A (lsV l rs (pl gs)).length c) (lsV l rs (pl gs)).length ((lsV l rs (pl gs)).flatMap encW) :: L) := by
  have hw0 := H.old.size
  have H1 := ((H.box w.heap.size 111 #[.slice none 0 0]).box (w.heap.size + 1) 27 #[.int .i64 0]).box (w.heap.size + 2) 111 #[.slice none 0 0]
  have hea := fun w1 (L1 : List F2) (H1 : All w0 w1 L1) => geach_c (ga := ga) (pa := pa) (Ar := Ar) (rs := rs) (cr := cr) H1
  obtain ⟨VS, hVS⟩ : ∃ v, lsV l rs (pl gs) = v := ⟨_, rfl⟩
  obtain ⟨E, hE⟩ : ∃ v, lsE l rs (pl gs) = v := ⟨_, rfl⟩
  rw [hVS, hE]
  replace hVS := Aside0.mk hVS
  replace hE := Aside0.mk hE
  obtain ⟨N, hN⟩ : ∃ n : Nat, 5 ≤ n := ⟨5, by omega⟩
  refine (callsIn_wide (n := N)).1 ?_
  refine callsIn_of_wp_marks Try.func52 rfl trivial ?_ rfl
  simp only [Try.ntmps52, List.size_toArray, List.length_cons, List.length_nil, Nat.reduceAdd, Nat.reduceSub, Array.replicate_succ, Array.replicate_zero, List.push_toArray, List.append_toArray, List.nil_append, List.cons_append]
  gi_wp2
  refine ⟨trivial, fun _ => by omega, ?_⟩
  refine (callsIn_wide.2 (hea _ _ H1)).mono ?_
  rintro e w1 ⟨Bg, Bp, Br, rfl, H2⟩
  clear hea
  have H3 : All w0 w1 ((bx (w.heap.size + 2) 111 #[.slice none 0 0] :: bx (w.heap.size + 1) 27 #[.int .i64 0] :: [bx w.heap.size 111 #[.slice none 0 0]]) ++ (bx Br 23 #[.slice Ar rs.length cr] :: bx Bp 26 #[.pointer pa] :: bx Bg 99 #[.pointer ga] :: L)) :=
    ((H2.front 5 rfl).front 5 rfl).front 5 rfl
  obtain ⟨LL, hLL⟩ : ∃ LL, (bx Br 23 #[.slice Ar rs.length cr] :: bx Bp 26 #[.pointer pa] :: bx Bg 99 #[.pointer ga] :: L) = LL := ⟨_, rfl⟩
  have hTL : ∀ W, Fx LL W → Box Bg 99 #[.pointer ga] W ∧ Box Bp 26 #[.pointer pa] W ∧ Box Br 23 #[.slice Ar rs.length cr] W ∧ GT ga gs Ar rs (.pointer pa) l W := fun W h => by
    rw [← hLL] at h
    exact ⟨Fx.at h (i := 2) rfl, Fx.at h (i := 1) rfl, Fx.at h (i := 0) rfl, hT W fun f hf => h f (by simp [hf])⟩
  rw [hLL] at H3
  have hrest := H3.rest hTL
  have hseq := (grid_stops (N - 1) (by omega) Bg Bp Br (cr := cr) w1 (fun k => (frz w1 LL).1 k ∨ nul.1 k) ho hchk hl hgl hg (hrest.wide (fun k hk => .inl hk) fun k hk => hk.elim (fun h => hrest.lt k h) (fun h => h.elim)))
  have hz0 := H3.old.size
  have H4 : All w0 w1 (frz w1 LL :: nul :: Mls w w0.heap.size [] (none, 0, 0)) := by
    have h := ((H3.freeze.nul.put (ok := fun _ => False) (T := fun _ => ∀ r ∈ ([] : List (Int × Int)), r.2 = 0) ⟨(fun k h => h.elim), fun W _ r hr => by cases hr⟩ (fun _ _ _ h => h.elim)).row w0.heap.size 43 2)
    exact (((((h.front 6 rfl).front 6 rfl).front 6 rfl).front 3 rfl).front 5 rfl).front 6 rfl
  have hCM : ∀ s p, Cells w1.heap.size (frz w1 LL :: nul :: Mls w w0.heap.size s p) := fun s p => cells_rest H3 (cells_nul (cells_ow (cells_bx (cells_bx (cells_bx (cells_pure cells_nil))))))
  have hCX : ∀ c s p, Cells w1.heap.size (frz w1 LL :: nul :: MXls w c s p) := fun c s p => cells_rest H3 (cells_nul (cells_bx (cells_bx (cells_pure cells_nil))))
  gi_wp2
  refine rangeB (n := N) (M := Mls w w0.heap.size) (by omega) (gf := 119) (lb := #[.pointer (some ⟨Bg, 0, none⟩), .pointer (some ⟨Bp, 0, none⟩), .pointer (some ⟨Br, 0, none⟩)]) rfl (enters_of Try.func119 (by kernel_rfl) rfl) (fun _ => rfl)
    (MXls w) hCM hCX (none, 0, 0) H4 (SeqY.of hseq) 43 (fun x => #[.int .i64 (hiW x.1), .int .u64 (loW x.1)]) ?a1 ?assign (fun pre x W W' row h _ _ => h) ?body ?done ?stop
  case assign =>
    intro l x W K hK
    gi_wp2
    generalize W.heap.size = b at hK ⊢
    exact hK
  case body =>
    intro l' pre p x W bb H hlen hbb
    obtain ⟨V, E⟩ := x
    obtain ⟨A1, c1, e1⟩ := p
    have hz := H.old.size
    have hlen2 : pre.length < gs.length := hlen
    have hsz : (pre.length + 1) * 16 ≤ 140737488355328 := by omega
    have r3 := H.rd 3 rfl
    have r5 := H.rd 5 rfl
    have hpz : ∀ r ∈ pre, r.2 = 0 := H.at 8 rfl
    replace hpz := Aside0.mk hpz
    clear H1 H2 H3 H4 hseq hrest hTL hCM hCX hT hlen hgl
    by_cases hE0 : E = 0
    · have d1 : (E != 0) = false := by simpa using hE0
      have hz2 : ∀ r ∈ pre ++ [(V, E)], r.2 = 0 := fun r hr => by
        rcases List.mem_append.1 hr with hr | hr
        · exact hpz.out r hr
        · rw [List.mem_singleton.1 hr]; exact hE0
      replace hz2 := Aside0.mk hz2
      clear hE0
      gi_wp2_with (gi_at_builtin; refine appIn (encW V) H 4 rfl (Nat.le_refl _) hz hsz (.tmp 20) (.tmp 22) 111 (.agg #[.int .i64 0, .int .u64 0]) (by kernel_rfl) Try.underlying111 rfl rfl rfl (by decide) (by decide) rfl rfl rfl (encW_one _) ?_; intro A2 c2 w4 H4 z4; have rl4 := H4.rd 5 rfl; have fl4 := H4.fz 5 rfl)
      have H5 := ((H4.set 5 rfl 0 (.slice A2 (pre.length + 1) c2) (by omega)).cut 3).turn 7 rfl (T' := fun _ => ∀ r ∈ pre ++ [(V, E)], r.2 = 0) (Held.pure hz2.out)
      have e1 : (pre ++ [(V, E)]).length = pre.length + 1 := by rw [List.length_append]; rfl
      have e2 : ((pre ++ [(V, E)]).map (·.1)).flatMap encW = (pre.map (·.1)).flatMap encW ++ encW V := by rw [List.map_append, List.flatMap_append]; simp
      refine .inl ⟨A2, c2, 0, ?_⟩
      unfold Mls
      rw [e1, e2]
      exact H5
    · have d1 : (E != 0) = true := by simpa using hE0
      have r6 := H.rd 6 rfl
      have r7 := H.rd 7 rfl
      have f6 := H.fz 6 rfl
      have f7 := H.fz 7 rfl
      have H6 := (H.set 7 rfl 0 (.slice none 0 0) (by omega)).set 6 rfl 0 (.int .i64 E) (by omega)
      gi_wp2
      refine ⟨.ret, .ret, none, 0, E, ?_⟩
      have H7 := (((H6.cut 3).cut 3).cut 3).turn 5 rfl (T' := fun _ => Code.ret = .ret ∧ ∃ pre' x, pre ++ [(V, E)] = pre' ++ [x] ∧ x.2 = E ∧ x.2 ≠ 0) (Held.pure ⟨rfl, pre, (V, E), rfl, rfl, hE0⟩)
      exact H7
  case done =>
    rintro D xs ⟨A1, c1, e1⟩ W hD hS H hk
    have hz : ∀ r ∈ xs, r.2 = 0 := H.at 6 rfl
    have hxs : xs = seqG l gs rs := by
      rcases hS with ⟨h, _⟩ | ⟨r, hr, h⟩
      · exact h
      · exact absurd (hz r hr) h
    have hzE : ∀ s ∈ pl gs, lossE l s rs = 0 := fun s hs => hz (lossV l s rs, lossE l s rs) (by rw [hxs]; exact List.mem_map_of_mem hs)
    have hE2 : lsE l rs (pl gs) = 0 := lsE_zero hzE
    obtain rfl : 0 = E := by rw [← hE.out, hE2]
    have hV2 : VS = xs.map (·.1) := by
      rw [← hVS.out, hxs]
      unfold lsV seqG
      rw [if_pos hE2, List.map_map]
      rfl
    have hVl : VS.length = xs.length := by rw [hV2, List.length_map]
    unfold Mls at H
    dsimp only at H
    rw [← hV2, ← hVl] at H
    have r3 := H.rd 3 rfl
    have r4 := H.rd 4 rfl
    have r5 := H.rd 5 rfl
    have f4 := H.fz 4 rfl
    have f5 := H.fz 5 rfl
    have hne : ∀ b, (∃ o : Obj, W.heap[b]? = some o ∧ o.isCells = true) → D ≠ b := fun b ⟨o, h1, h2⟩ e => by
      subst e
      rw [hk] at h1
      cases h1
      cases h2
    have n4 := hne _ ⟨_, H.at 4 rfl, rfl⟩
    have n5 := hne _ ⟨_, H.at 5 rfl, rfl⟩
    have H5 := (H.set 5 rfl 0 (.slice A1 VS.length c1) (by omega)).set 4 rfl 0 (.int .i64 0) (by omega)
    have hk5 := ((Below.heap_setCell (W.setCell ⟨w.heap.size, 0, none⟩ (.slice A1 VS.length c1)) ⟨w.heap.size + 1, 0, none⟩ (.int .i64 0) D n4).trans (Below.heap_setCell W ⟨w.heap.size, 0, none⟩ (.slice A1 VS.length c1) D n5)).trans hk
    have H6 := H5.putF hz0 (cells_rest H3 (cells_nul (cells_ow (cells_bx (cells_bx (cells_bx (cells_pure cells_nil))))))) (o' := .deferred none) hD hk5 rfl
    have q4 := H6.rd 4 rfl
    have q5 := H6.rd 5 rfl
    clear H1 H2 H4 hseq hrest hTL hCM hCX hT hgl hS hz hxs hzE hE2 hV2 hVl
    gi_wp2
    refine mark_ret rfl hk5 (v := .tuple #[.slice A1 VS.length c1, .int .i64 0]) (by simp [results, Try.results52, go_sem, q4, q5]) ⟨A1, c1, rfl, ?_⟩
    have H7 := (H6.front 2 rfl).sub (L' := ow w0.heap.size 43 2 (.slice A1 VS.length c1) VS.length (VS.flatMap encW) :: [frz w1 LL]) (by
      refine .cons_cons _ (.cons_cons _ (List.nil_sublist _)))
    have H8 := H3.thaw (M := [ow w0.heap.size 43 2 (.slice A1 VS.length c1) VS.length (VS.flatMap encW)]) (H7.front 1 rfl)
    rw [← hLL] at H8
    exact ((H8.cut 1).cut 1).cut 1
  case stop =>
    rintro D c xs ⟨A1, c1, e1⟩ W hD hS H hk
    obtain ⟨hc, pre', x, hx1, hx2, hx3⟩ : c = .ret ∧ ∃ pre' x, xs = pre' ++ [x] ∧ x.2 = e1 ∧ x.2 ≠ 0 := H.at 4 rfl
    subst hc
    obtain ⟨i, hi, hx4, hz⟩ := hS
    have hil : i < (pl gs).length := by rw [pl_len]; exact hi
    have hsl : i < (seqG l gs rs).length := by rw [seqG_len]; exact hi
    have hxi : x = (lossV l (pl gs)[i] rs, lossE l (pl gs)[i] rs) := by
      rw [List.take_succ_eq_append_getElem hsl, hx1] at hx4
      have h := (List.append_inj' hx4 rfl).2
      have h2 : x = (seqG l gs rs)[i] := by simpa using h
      have h3 : (seqG l gs rs)[i]? = some (lossV l (pl gs)[i] rs, lossE l (pl gs)[i] rs) := by
        unfold seqG
        rw [List.getElem?_map, List.getElem?_eq_getElem hil]
        rfl
      rw [List.getElem?_eq_getElem hsl] at h3
      rw [h2]
      exact Option.some.inj h3
    have hz2 : ∀ s ∈ (pl gs).take i, lossE l s rs = 0 := fun s hs => hz (lossV l s rs, lossE l s rs) (by
      unfold seqG
      rw [← List.map_take]
      exact List.mem_map_of_mem hs)
    rw [hxi] at hx2 hx3
    have hE2 : lsE l rs (pl gs) = e1 := (lsE_at hil hz2 hx3).trans hx2
    have he0 : e1 ≠ 0 := by rw [← hx2]; exact hx3
    obtain rfl : e1 = E := by rw [← hE.out, hE2]
    obtain rfl : [] = VS := by
      rw [← hVS.out]
      unfold lsV
      rw [hE2, if_neg he0]
    have H6 := H.putF hz0 (hCX .ret xs (A1, c1, e1)) (o' := .deferred none) hD hk rfl
    have q4 := H6.rd 2 rfl
    have q5 := H6.rd 3 rfl
    clear H1 H2 H4 hseq hrest hTL hCM hCX hT hgl hz hz2 hxi hx1 hx4 hx3 hx2
    gi_wp2
    refine mark_ret rfl hk (v := .tuple #[.slice none 0 0, .int .i64 e1]) (by simp [results, Try.results52, go_sem, q4, q5]) ⟨none, 0, rfl, ?_⟩
    have H7 := (H6.drop 0).sub (L' := [frz w1 LL]) (.cons_cons _ (List.nil_sublist _))
    have H8 := H3.thaw (M := []) H7
    rw [← hLL] at H8
    exact (H8.drop 3).row _ _ _
end
end
end Go.Proofs.Ythhgcjlgnafdcaa.Gf
end
section
namespace Go.Proofs.Ythhgcjlgnafdcaa.Gg
set_option linter.unusedSimpArgs false
set_option linter.unusedVariables false
open Go Go.RowKit Go.Proofs.YthhgcjlgnafdcaaW.PrintWords Go.Proofs.YthhgcjlgnafdcaaW.PrintLast Go.Proofs.Ythhgcjlgnafdcaa.Hd Go.Proofs.Ythhgcjlgnafdcaa.Os Go.Proofs.Ythhgcjlgnafdcaa.Tb Go.Proofs.Ythhgcjlgnafdcaa.Tm Go.Proofs.Ythhgcjlgnafdcaa.Px Go.Proofs.Ythhgcjlgnafdcaa.Wv Go.Proofs.Ythhgcjlgnafdcaa.Pp Go.Proofs.Ythhgcjlgnafdcaa.Pq Go.Proofs.Ythhgcjlgnafdcaa.Ps Go.Proofs.Ythhgcjlgnafdcaa.Pk Go.Proofs.Ythhgcjlgnafdcaa.Rp Go.Proofs.Ythhgcjlgnafdcaa.Rw Go.Proofs.Ythhgcjlgnafdcaa.Rv Go.Proofs.Ythhgcjlgnafdcaa.Rc Go.Proofs.Ythhgcjlgnafdcaa.Ga Go.Proofs.Ythhgcjlgnafdcaa.Gb Go.Proofs.Ythhgcjlgnafdcaa.Gc Go.Proofs.Ythhgcjlgnafdcaa.Gd Go.Proofs.Ythhgcjlgnafdcaa.Ge Go.Proofs.Ythhgcjlgnafdcaa.Gf
open Go.Proofs.Ythhgcjlgnafdcaa.Nu (I64 U64 I128 sgn)
def mx (ys : List Int) : Int := ys.foldl (fun m v => if m < v then v else m) 0
def wix (ys : List Int) : Nat → Nat
  | 0 => 0
  | i + 1 => if ys.getD (wix ys i) 0 < ys.getD i 0 then i else wix ys i
def margV (l : PR) (rs : PR) (sl : List Sc) : Int := if lsE l rs sl = 0 then mx (lsV l rs sl) else 0
def worstV (l : PR) (rs : PR) (sl : List Sc) : Int := if lsE l rs sl = 0 then (wix (lsV l rs sl) (lsV l rs sl).length : Nat) else 0
def worstE (l : PR) (rs : PR) (sl : List Sc) : Int := if lsE l rs sl = 0 then if (lsV l rs sl).length = 0 then 13 else 0 else lsE l rs sl
theorem mx_snoc (ys : List Int) (v : Int) : mx (ys ++ [v]) = if mx ys < v then v else mx ys := by unfold mx; rw [List.foldl_append]; rfl
theorem mx_128 {ys : List Int} (h : ∀ y ∈ ys, I128 y) : ∀ i, I128 (mx (ys.take i)) := by
  intro i
  induction i with
  | zero => unfold I128; simp [mx]
  | succ i ih =>
    rcases Nat.lt_or_ge i ys.length with hi | hi
    · rw [List.take_succ_eq_append_getElem hi, mx_snoc]
      split
      · exact h _ (List.getElem_mem hi)
      · exact ih
    · rw [List.take_of_length_le (by omega)]
      rwa [List.take_of_length_le hi] at ih
theorem wix_lt {ys : List Int} : ∀ i, i ≤ ys.length → 0 < ys.length → wix ys i < ys.length
  | 0, _, h => h
  | i + 1, hi, h => by
    unfold wix
    split
    · omega
    · exact wix_lt i (by omega) h
theorem lossV_128 (l : PR) (s : Sc) (rs : PR) : I128 (lossV l s rs) := by
  unfold lossV
  split
  · exact cut_I128 _
  · unfold I128; omega
theorem lsV_128 (l : PR) (rs : PR) (sl : List Sc) : ∀ y ∈ lsV l rs sl, I128 y := fun y hy => by
  unfold lsV at hy
  split at hy
  · obtain ⟨s, _, rfl⟩ := List.mem_map.1 hy
    exact lossV_128 l s rs
  · cases hy
theorem lsV_len (l : PR) (rs : PR) (sl : List Sc) : (lsV l rs sl).length ≤ sl.length := by
  unfold lsV
  split
  · rw [List.length_map]; exact Nat.le_refl _
  · exact Nat.zero_le _
theorem at_kW {w : World} {A : Option Addr} {n : Nat} {xs : List Int} (h : Kd.C kW w A n xs) {i : Nat} (hi : i < xs.length) : ∃ ad, A = some ad ∧ w.cell? (ad.add (i * 2)) = some (.int .i64 (hiW xs[i])) ∧ w.cell? ⟨(ad.add (i * 2)).block, (ad.add (i * 2)).off + 1, none⟩ = some (.int .u64 (loW xs[i])) := by
  obtain ⟨h1, h2, h3⟩ := h
  obtain ⟨ad, rfl, h4⟩ := h3 (by omega)
  obtain ⟨cs, hl, hK, hc⟩ := h4 i xs[i] (List.getElem?_eq_getElem hi)
  obtain rfl := kW_K hK
  refine ⟨ad, rfl, hc 0 _ rfl, ?_⟩
  have h5 : w.cell? (ad.add (i * 2 + 1)) = some (.int .u64 (loW xs[i])) := hc 1 _ rfl
  rw [add_field ad (i * 2) 1 (by decide)] at h5
  exact h5
theorem ow_kW {lo e c : Nat} {A : Option Addr} {ys : List Int} {W : World} (h : Ow lo e 2 (.slice A ys.length c) ys.length (ys.flatMap encW) W) : ys.length ≤ c ∧ Kd.C kW W A ys.length ys := by
  obtain ⟨A', c', hA, -, hcc, hC⟩ := ow_C kW encW kW_mk (by decide) h
  cases hA
  exact ⟨hcc, hC⟩
section
variable {w0 w : World} {L : List F2} {Ar : Option Addr} {cr : Nat} {gs : List SM} {rs l : PR} {ga pa : Option Addr}
set_option maxRecDepth 100000 in
set_option maxHeartbeats 4000000 in
theorem margin_c (H : All w0 w L) (hT : ∀ W, Fx L W → GT ga gs Ar rs (.pointer pa) l W) (ho : OkP l) (hchk : ∀ s ∈ pl gs, chk s = 0) (hl : rs.length ≤ 1000) (hgl : gs.length ≤ 1000) (hg : ∀ r ∈ rs, I64 r.2) :
    Calls Try.prog 53 #[.pointer ga, .pointer pa, .slice Ar rs.length cr] w fun e w' => e = .returned (.tuple #[wv (margV l rs (pl gs)), .int .i64 (lsE l rs (pl gs))]) ∧ All w0 w' L := by
  have hb := H.old.size
  have H0 := H.box w.heap.size 43 #[.int .i64 0, .int .u64 0]
  have hls := losses_c (cr := cr) H0 (fun W hW => hT W fun f hf => hW f (List.mem_cons_of_mem _ hf)) ho hchk hl hgl hg
  have hV1 := lsV_128 l rs (pl gs)
  have hV2 := Nat.le_trans (lsV_len l rs (pl gs)) (show (pl gs).length ≤ 1000 by rw [pl_len]; exact hgl)
  obtain ⟨V, hV⟩ : ∃ V, margV l rs (pl gs) = V := ⟨_, rfl⟩
  rw [hV]
  unfold margV at hV
  generalize lsV l rs (pl gs) = ys at *
  generalize lsE l rs (pl gs) = E at *
  have hm : ys.length ≤ 9223372036854775807 := Nat.le_trans hV2 (by decide)
  clear H hT
  go_enter Try.func53, Try.ntmps53
  go_wp2_with fail
  refine hls.mono ?_
  rintro e w1 ⟨A, c, rfl, H1⟩
  clear hls H0
  by_cases hE : E = 0
  · subst hE
    rw [if_pos rfl] at hV
    replace hV := Aside0.mk hV
    have hmx := mx_128 hV1
    replace hmx := Aside0.mk hmx
    replace hV1 := Aside0.mk hV1
    have H2 := H1.box w1.heap.size 43 #[.int .i64 0, .int .u64 0]
    have hz1 := H1.old.size
    clear H1
    go_wp2_with fail
    go_loopg [26] ys.length (fun kx s26 wr => ∃ (i : Nat) (m : Int), s26 = .int .i64 (i : Int) ∧ i ≤ ys.length ∧ ys.length - i ≤ kx ∧ Aside0 (m = mx (ys.take i)) ∧
      All w0 wr (bx w1.heap.size 43 #[.int .i64 (hiW m), .int .u64 (loW m)] :: ow w0.heap.size 43 2 (.slice A ys.length c) ys.length (ys.flatMap encW) :: bx w.heap.size 43 #[.int .i64 0, .int .u64 0] :: L))
    case atStart => exact ⟨0, 0, rfl, Nat.zero_le _, by omega, ⟨rfl⟩, H2⟩
    case round =>
      clear H2
      obtain ⟨i, m, rfl, hil, hik, hk, H⟩ := hrel
      have r0 := H.rd 0 rfl
      by_cases hlt : i < ys.length
      · have hli : (i : Int) < (ys.length : Int) := Int.ofNat_lt.2 hlt
        obtain ⟨ad, rfl, hc0, hc1⟩ := at_kW (ow_kW (H.at 1 rfl)).2 hlt
        have hyI := hV1.out _ (List.getElem_mem hlt)
        have hmI : I128 m := by rw [hk.out]; exact hmx.out i
        have hsn : mx (ys.take (i + 1)) = if m < ys[i] then ys[i] else m := by rw [List.take_succ_eq_append_getElem hlt, mx_snoc, ← hk.out]
        obtain ⟨y, hy⟩ : ∃ y, ys[i] = y := ⟨_, rfl⟩
        rw [hy] at hc0 hc1 hyI hsn
        have hcm := fun w => compare_c (w := w) hyI hmI
        have HB := H.box wr.heap.size 43 #[.int .i64 (hiW y), .int .u64 (loW y)]
        have hB0 := HB.rd 0 rfl
        have hB1 := HB.rd 1 rfl
        clear hy hyI hmI hk
        by_cases hmy : m < y
        · have hs : sgn y m = 1 := by unfold sgn; rw [if_neg (by omega), if_pos hmy]
          have hsn2 : Aside0 (y = mx (ys.take (i + 1))) := ⟨by rw [hsn, if_pos hmy]⟩
          rw [hs] at hcm
          clear hs hmy hsn
          go_wp2_with fail
          refine (hcm _).on HB fun w2 H2 => ?_
          have r2 := H2.rd 0 rfl
          have r3 := H2.rd 1 rfl
          have f3 := H2.fz 1 rfl
          have H3 := (H2.set 1 rfl 0 (.int .i64 (hiW y)) (by omega)).set 1 rfl 1 (.int .u64 (loW y)) (by omega)
          clear HB hB0 hB1 hcm H r0
          go_wp2_with fail
          go_roundg (ys.length - (i + 1))
          case measure => exact En.meas hik hlt
          case rel => exact ⟨i + 1, y, rfl, hlt, Nat.le_refl _, hsn2, H3.tail⟩
        · have hs : ¬ (sgn y m > 0) := by unfold sgn; split <;> (try split) <;> omega
          have d1 : decide (sgn y m > 0) = false := decide_eq_false hs
          have hsn2 : Aside0 (m = mx (ys.take (i + 1))) := ⟨by rw [hsn, if_neg hmy]⟩
          generalize sgn y m = sg at *
          clear hs hmy hsn
          go_wp2_with fail
          refine (hcm _).on HB fun w2 H2 => ?_
          clear HB hB0 hB1 hcm H r0
          go_wp2_with fail
          go_roundg (ys.length - (i + 1))
          case measure => exact En.meas hik hlt
          case rel => exact ⟨i + 1, m, rfl, hlt, Nat.le_refl _, hsn2, H2.tail⟩
      · obtain rfl : i = ys.length := Nat.le_antisymm hil (Nat.le_of_not_lt hlt)
        obtain rfl : m = V := by rw [hk.out, List.take_length]; exact hV.out
        have hlt2 : ¬ ((ys.length : Int) < (ys.length : Int)) := Int.lt_irrefl _
        have r2 := H.rd 2 rfl
        have f2 := H.fz 2 rfl
        have H2 := (H.set 2 rfl 0 (.int .i64 (hiW m)) hb).set 2 rfl 1 (.int .u64 (loW m)) hb
        clear H hk hlt
        go_wp2_with fail
        refine H2.ret2 2 rfl rfl rfl rfl Try.underlying43 rfl (by kernel_rfl) rfl ⟨rfl, H2.drop 3⟩
  · rw [if_neg hE] at hV
    subst hV
    have d1 : (E != 0) = true := by simpa using hE
    have r1 := H1.rd 1 rfl
    have f1 := H1.fz 1 rfl
    have H2 := (H1.set 1 rfl 0 (.int .i64 0) hb).set 1 rfl 1 (.int .u64 0) hb
    clear H1 hE
    go_wp2_with fail
    refine H2.ret2 1 rfl rfl rfl rfl Try.underlying43 rfl (by kernel_rfl) rfl ⟨rfl, H2.drop 2⟩
set_option maxRecDepth 100000 in
set_option maxHeartbeats 4000000 in
theorem worst_c (H : All w0 w L) (hT : ∀ W, Fx L W → GT ga gs Ar rs (.pointer pa) l W) (ho : OkP l) (hchk : ∀ s ∈ pl gs, chk s = 0) (hl : rs.length ≤ 1000) (hgl : gs.length ≤ 1000) (hg : ∀ r ∈ rs, I64 r.2) :
    Calls Try.prog 54 #[.pointer ga, .pointer pa, .slice Ar rs.length cr] w fun e w' => e = .returned (.tuple #[.int .i64 (worstV l rs (pl gs)), .int .i64 (worstE l rs (pl gs))]) ∧ All w0 w' L := by
  have hb := H.old.size
  have hls := losses_c (cr := cr) H hT ho hchk hl hgl hg
  have hV1 := lsV_128 l rs (pl gs)
  have hV2 := Nat.le_trans (lsV_len l rs (pl gs)) (show (pl gs).length ≤ 1000 by rw [pl_len]; exact hgl)
  obtain ⟨V, hV⟩ : ∃ V, worstV l rs (pl gs) = V := ⟨_, rfl⟩
  obtain ⟨F, hF⟩ : ∃ F, worstE l rs (pl gs) = F := ⟨_, rfl⟩
  rw [hV, hF]
  unfold worstV at hV
  unfold worstE at hF
  generalize lsV l rs (pl gs) = ys at *
  generalize lsE l rs (pl gs) = E at *
  have hm : ys.length ≤ 9223372036854775807 := Nat.le_trans hV2 (by decide)
  clear H hT
  go_enter Try.func54, Try.ntmps54
  go_wp2_with fail
  refine hls.mono ?_
  rintro e w1 ⟨A, c, rfl, H1⟩
  clear hls
  by_cases hE : E = 0
  · subst hE
    rw [if_pos rfl] at hV hF
    by_cases h0 : ys.length = 0
    · rw [if_pos h0] at hF
      obtain rfl : ys = [] := List.eq_nil_of_length_eq_zero h0
      subst hF
      obtain rfl : 0 = V := by rw [← hV]; rfl
      clear h0 hV
      go_wp2
      go_ret2
      exact ⟨rfl, H1.tail⟩
    · rw [if_neg h0] at hF
      subst hF
      replace hV := Aside0.mk hV
      replace hV1 := Aside0.mk hV1
      have hwl := fun i hi => wix_lt (ys := ys) i hi (Nat.pos_of_ne_zero h0)
      replace hwl := Aside0.mk hwl
      have d0 : ((ys.length : Int) == 0) = false := by simpa using h0
      clear h0
      go_wp2_with fail
      go_loopg [10, 30] ys.length (fun kx s10 s30 wr => ∃ (i m : Nat), s10 = .int .i64 (m : Int) ∧ s30 = .int .i64 (i : Int) ∧ i ≤ ys.length ∧ ys.length - i ≤ kx ∧ Aside0 (m = wix ys i) ∧
        All w0 wr (ow w0.heap.size 43 2 (.slice A ys.length c) ys.length (ys.flatMap encW) :: L))
      case atStart => exact ⟨0, 0, rfl, rfl, Nat.zero_le _, by omega, ⟨rfl⟩, H1⟩
      case round =>
        clear H1
        obtain ⟨i, m, rfl, rfl, hil, hik, hk, H⟩ := hrel
        by_cases hlt : i < ys.length
        · have hli : (i : Int) < (ys.length : Int) := Int.ofNat_lt.2 hlt
          have hml : m < ys.length := by rw [hk.out]; exact hwl.out i hil
          have hmi : (m : Int) < (ys.length : Int) := Int.ofNat_lt.2 hml
          obtain ⟨ad, rfl, hc0, hc1⟩ := at_kW (ow_kW (H.at 0 rfl)).2 hlt
          have hyI := hV1.out _ (List.getElem_mem hlt)
          have hmI := hV1.out _ (List.getElem_mem hml)
          have hsn : wix ys (i + 1) = if ys[m] < ys[i] then i else m := by
            rw [wix, ← hk.out, List.getD_eq_getElem?_getD, List.getD_eq_getElem?_getD, List.getElem?_eq_getElem hml, List.getElem?_eq_getElem hlt]
            rfl
          have hc : ∀ W, All w0 W (bx wr.heap.size 43 #[.int .i64 (hiW ys[i]), .int .u64 (loW ys[i])] :: ow w0.heap.size 43 2 (.slice (some ad) ys.length c) ys.length (ys.flatMap encW) :: L) → W.cell? (ad.add (m * 2)) = some (.int .i64 (hiW ys[m])) ∧ W.cell? ⟨(ad.add (m * 2)).block, (ad.add (m * 2)).off + 1, none⟩ = some (.int .u64 (loW ys[m])) := fun W hW => by
            obtain ⟨ad', e, q0, q1⟩ := at_kW (ow_kW (hW.at 1 rfl)).2 hml
            cases e
            exact ⟨q0, q1⟩
          obtain ⟨y, hy⟩ : ∃ y, ys[i] = y := ⟨_, rfl⟩
          obtain ⟨z, hz⟩ : ∃ z, ys[m] = z := ⟨_, rfl⟩
          rw [hy] at hc0 hc1 hyI hsn hc
          rw [hz] at hmI hsn hc
          have hcm := fun w => compare_c (w := w) hyI hmI
          have HB := H.box wr.heap.size 43 #[.int .i64 (hiW y), .int .u64 (loW y)]
          obtain ⟨q, hq⟩ : ∃ q, decide (sgn y z > 0) = q := ⟨_, rfl⟩
          have hsn2 : Aside0 (wix ys (i + 1) = if q = true then i else m) := ⟨by
            rw [hsn, ← hq]
            by_cases hzy : z < y
            · have hs : sgn y z = 1 := by unfold sgn; rw [if_neg (by omega), if_pos hzy]
              rw [if_pos hzy, hs]
              rfl
            · have hs : ¬ (sgn y z > 0) := by unfold sgn; split <;> (try split) <;> omega
              rw [if_neg hzy, decide_eq_false hs]
              rfl⟩
          generalize sgn y z = sg at *
          replace hc := Aside0.mk hc
          clear hy hz hyI hmI hk hsn H
          go_wp2_with fail
          refine plan_ (true, [([], []), ([], []), ([], []), ([1, 2], [1, 2]), ([3], [3]), ([0, 4], [0, 4]), ([5], [5])]) [.t 0, .p 1, .p 2, .p 3, .t 4, .c 5, .p 6] HB (by kernel_rfl) (by kernel_rfl) rfl rfl (by kernel_rfl) (by intro c a w d v h; cases d <;> exact h) (fun w2 H2 => ?_)
          refine pl_B 0 H2 rfl (h := ?_)
          refine pl_P (h := ?_)
          refine pl_P (h := ?_)
          refine pl_P (h := ?_)
          refine pl_C2 H2 (fun W hW => hc.out W hW) (h := ?_)
          refine pl_S (hcm _) H2 Try.func56 (h := fun w3 H3 => ?_)
          refine pl_P (h := ?_)
          refine pl_done ?_
          clear HB H2 hcm hc hc0 hc1
          cases q with
          | true =>
            go_wp2_with fail
            go_roundg (ys.length - (i + 1))
            case measure => exact En.meas hik hlt
            case rel => exact ⟨i + 1, i, rfl, rfl, hlt, Nat.le_refl _, ⟨by rw [hsn2.out]; rfl⟩, H3.tail⟩
          | false =>
            go_wp2_with fail
            go_roundg (ys.length - (i + 1))
            case measure => exact En.meas hik hlt
            case rel => exact ⟨i + 1, m, rfl, rfl, hlt, Nat.le_refl _, ⟨by rw [hsn2.out]; rfl⟩, H3.tail⟩
        · obtain rfl : i = ys.length := Nat.le_antisymm hil (Nat.le_of_not_lt hlt)
          obtain rfl : (m : Int) = V := by rw [← hV.out, hk.out]
          have hlt2 : ¬ ((ys.length : Int) < (ys.length : Int)) := Int.lt_irrefl _
          clear hk hlt
          go_wp2
          go_ret2
          exact ⟨rfl, H.tail⟩
  · rw [if_neg hE] at hV hF
    subst hV hF
    have d1 : (E != 0) = true := by simpa using hE
    clear hE
    go_wp2
    go_ret2
    exact ⟨rfl, H1.tail⟩
end
end Go.Proofs.Ythhgcjlgnafdcaa.Gg
end
section
namespace Go.Proofs.Ythhgcjlgnafdcaa.Gh
set_option linter.unusedSimpArgs false
set_option linter.unusedVariables false
open Go Go.RowKit Go.Proofs.YthhgcjlgnafdcaaW.PrintWords Go.Proofs.YthhgcjlgnafdcaaW.PrintLast Go.Proofs.Ythhgcjlgnafdcaa.Hd Go.Proofs.Ythhgcjlgnafdcaa.Os Go.Proofs.Ythhgcjlgnafdcaa.Tb Go.Proofs.Ythhgcjlgnafdcaa.Tm Go.Proofs.Ythhgcjlgnafdcaa.Px Go.Proofs.Ythhgcjlgnafdcaa.Wv Go.Proofs.Ythhgcjlgnafdcaa.Pp Go.Proofs.Ythhgcjlgnafdcaa.Pq Go.Proofs.Ythhgcjlgnafdcaa.Ps Go.Proofs.Ythhgcjlgnafdcaa.Pk Go.Proofs.Ythhgcjlgnafdcaa.Rp Go.Proofs.Ythhgcjlgnafdcaa.Rw Go.Proofs.Ythhgcjlgnafdcaa.Rv Go.Proofs.Ythhgcjlgnafdcaa.Rc Go.Proofs.Ythhgcjlgnafdcaa.Ga Go.Proofs.Ythhgcjlgnafdcaa.Gb Go.Proofs.Ythhgcjlgnafdcaa.Gc Go.Proofs.Ythhgcjlgnafdcaa.Gd Go.Proofs.Ythhgcjlgnafdcaa.Ge Go.Proofs.Ythhgcjlgnafdcaa.Gf Go.Proofs.Ythhgcjlgnafdcaa.Gg
open Go.Proofs.Ythhgcjlgnafdcaa.Nu (I64 U64 I128 sgn)
def twoS : List Sc := [(-1000, []), (500, [])]
theorem grid_two : gridE twoS = 0 := by decide
theorem marg_two : margV [(us, 100)] [(us, 10)] twoS = 100 ∧ lsE [(us, 100)] [(us, 10)] twoS = 0 ∧ margV [(us, 100)] [(us, -10)] twoS = 50 ∧ lsE [(us, 100)] [(us, -10)] twoS = 0 := by
  refine ⟨by kernel_rfl, by kernel_rfl, by kernel_rfl, by kernel_rfl⟩
set_option maxRecDepth 100000 in
set_option maxHeartbeats 4000000 in
theorem gknown_c {w : World} : Tells Try.prog 46 #[] w (.bool true) := by
  unfold Tells
  have H0 := All.rowsR (All.start w) [(us, 100)] 79 w.heap.size rfl
  have hof := of_p (qi := 0) (ci := 1) H0 rfl (by decide)
  rw [of_us 100 (by decide)] at hof
  have ho : OkP [(us, 100)] := by have := ofE_ok [(us, 100)] [] okP_nil; rwa [of_us 100 (by decide)] at this
  have hOf := fun w => of_c (w := w) (a := 100) (by unfold I64; omega)
  have hOf2 := fun w => of_c (w := w) (a := 50) (by unfold I64; omega)
  go_enter Try.func46, Try.ntmps46
  go_wp2_with fail
  refine hof.mono ?_
  rintro e w1 ⟨p, rfl, hN⟩
  obtain ⟨b, A, c, rfl, hb, H1⟩ := (hN.good rfl).at_
  rw [of_us 100 (by decide)] at H1
  have H2 := H1.lit .i64 w1.heap.size [-1000, 500] 3 rfl
  have hpl := gplain_c (A := some ⟨w1.heap.size, 0, none⟩) (c := 2) (ps := [-1000, 500]) H2 (fun W hW => hW.at 0 rfl) (by decide)
  rw [show ([-1000, 500] : List Int).map (fun n => ((n, []) : Sc)) = twoS from rfl, grid_two] at hpl
  clear hof hN H0 H1
  go_wp2_with fail
  refine hpl.mono ?_
  rintro e w2 ⟨g, rfl, hG⟩
  obtain ⟨bg, Ag, cg, gs, okg, rfl, hbg, hpg, hcg, H3⟩ := hG.good rfl
  have H4 := All.rowsR H3 [(us, 10)] 79 w2.heap.size rfl
  have hchk : ∀ s ∈ pl gs, chk s = 0 := by rw [hpg]; exact (gridE_ok grid_two).1
  have hgl : gs.length ≤ 1000 := by rw [← pl_len, hpg]; decide
  have hm1 := margin_c (cr := 1) (ga := some ⟨bg, 0, none⟩) (pa := some ⟨b, 0, none⟩) (Ar := some ⟨w2.heap.size, 0, none⟩) (gs := gs) (rs := [(us, 10)]) (l := [(us, 100)]) H4 (fun W h => ⟨.inr ⟨bg, Ag, cg, rfl, Fx.at h (i := 1) rfl, Fx.at h (i := 2) rfl⟩, Fx.at h (i := 0) rfl, .inr ⟨b, A, c, _, _, rfl, Fx.at h (i := 4) rfl, Fx.at h (i := 5) rfl⟩⟩) ho hchk (by decide) hgl (fun r hr => by rw [List.mem_singleton.1 hr]; unfold I64; exact ⟨by decide, by decide⟩)
  rw [hpg, marg_two.1, marg_two.2.1] at hm1
  clear hpl hG H2 H3
  go_wp2_with fail
  refine hm1.mono ?_
  rintro e w3 ⟨rfl, H5⟩
  have H6 := H5.box w3.heap.size 43 #[.int .i64 (hiW 100), .int .u64 (loW 100)]
  have H7 := All.rowsR H6 [(us, -10)] 79 (w3.heap.size + 1) (by simp)
  have hm2 := margin_c (cr := 1) (ga := some ⟨bg, 0, none⟩) (pa := some ⟨b, 0, none⟩) (Ar := some ⟨w3.heap.size + 1, 0, none⟩) (gs := gs) (rs := [(us, -10)]) (l := [(us, 100)]) H7 (fun W h => ⟨.inr ⟨bg, Ag, cg, rfl, Fx.at h (i := 3) rfl, Fx.at h (i := 4) rfl⟩, Fx.at h (i := 0) rfl, .inr ⟨b, A, c, _, _, rfl, Fx.at h (i := 6) rfl, Fx.at h (i := 7) rfl⟩⟩) ho hchk (by decide) hgl (fun r hr => by rw [List.mem_singleton.1 hr]; unfold I64; exact ⟨by decide, by decide⟩)
  rw [hpg, marg_two.2.2.1, marg_two.2.2.2] at hm2
  clear hm1 H4 H5 H6
  go_wp2_with fail
  refine hm2.mono ?_
  rintro e w4 ⟨rfl, H8⟩
  have H9 := H8.box w4.heap.size 43 #[.int .i64 (hiW 50), .int .u64 (loW 50)]
  clear hm2 H7 H8 hchk hpg hgl
  go_wp2_with fail
  refine plan_ (true, [([], []), ([0], [0]), ([1], [1]), ([2], [2]), ([3, 2], [2, 3]), ([2, 4], [2, 4]), ([5, 2], [5]), ([6], [6]), ([7, 6], [6, 7]), ([6, 8], [6, 8]), ([9, 6], [9]), ([10], [10]), ([10, 10], [10]), ([11, 12, 10], [10, 11, 12]), ([10, 13], [10, 13]), ([14, 12], [14]), ([15], [15]), ([16, 15], [15, 16]), ([15, 17], [15, 17]), ([18, 15], [18]), ([19], [19]), ([19, 19], [19]), ([20, 21, 19], [19, 20, 21]), ([19, 22], [19, 22]), ([23, 21, 0, 1, 2, 3, 4, 5, 6, 7, 8, 9, 10, 11, 12, 13, 14, 15, 16, 17, 18, 19, 20, 21, 22, 23], [23])]) [.p 0, .p 1, .p 2, .p 3, .p 4, .p 5, .p 6, .p 7, .p 8, .p 9, .p 10, .t 11, .c 12, .p 13, .p 14, .p 15, .p 16, .p 17, .p 18, .p 19, .t 20, .c 21, .p 22, .p 23, .p 24] H9 (by kernel_rfl) (by kernel_rfl) rfl rfl (by kernel_rfl) (by intro c a w d v h; cases d <;> exact h) (fun w5 J => ?_)
  repeat refine pl_P (h := ?_)
  refine pl_B 2 J rfl (h := ?_)
  refine pl_S (hOf _) J Try.func35 (h := fun w6 J => ?_)
  repeat refine pl_P (h := ?_)
  refine pl_B 0 J rfl (h := ?_)
  refine pl_S (hOf2 _) J Try.func35 (h := fun w7 J => ?_)
  repeat refine pl_P (h := ?_)
  refine pl_done ?_
  go_wp2
  go_ret
  exact ⟨rfl, J.old⟩
set_option maxRecDepth 100000 in
set_option maxHeartbeats 8000000 in
theorem walk (n : Int) (hn : I64 n) (w : World) : Calls Try.prog 11 #[.int .i64 n] w fun e w' => e = .returned (.bool true) ∧ Below w.heap.size w w' := by
  have H0 := All.rowsR (All.start w) [(us, 5)] 79 w.heap.size rfl
  have hof := of_p (qi := 0) (ci := 1) H0 rfl (by decide)
  rw [of_us 5 (by decide)] at hof
  have ho : OkP [(us, 5)] := by have := ofE_ok [(us, 5)] [] okP_nil; rwa [of_us 5 (by decide)] at this
  have hsg := fun w => sign_c (w := w) (v := 0) (by unfold I128; omega)
  have hs0 : sgn 0 0 = 0 := rfl
  rw [hs0] at hsg
  go_enter Try.func11, Try.ntmps11
  go_wp2_with fail
  refine hof.mono ?_
  rintro e w1 ⟨p, rfl, hN⟩
  obtain ⟨b, A, c, rfl, hb, H1⟩ := (hN.good rfl).at_
  rw [of_us 5 (by decide)] at H1
  have H2 := All.rowsR H1 [(us, n)] 79 w1.heap.size rfl (Nat.le_of_ble_eq_true rfl)
  have hm := margin_c (cr := 1) (ga := none) (pa := some ⟨b, 0, none⟩) (Ar := some ⟨w1.heap.size, 0, none⟩) (gs := []) (rs := [(us, n)]) (l := [(us, 5)]) H2 (fun W h => ⟨.inl ⟨rfl, rfl⟩, Fx.at h (i := 0) rfl, .inr ⟨b, A, c, _, _, rfl, Fx.at h (i := 1) rfl, Fx.at h (i := 2) rfl⟩⟩) ho (fun s hs => by cases hs) (Nat.le_of_ble_eq_true rfl) (by decide) (fun r hr => by rw [List.mem_singleton.1 hr]; exact hn)
  have e1 : margV [(us, 5)] [(us, n)] (pl []) = 0 ∧ lsE [(us, 5)] [(us, n)] (pl []) = 0 := ⟨rfl, rfl⟩
  rw [e1.1, e1.2] at hm
  clear hof hN H0 H1 e1
  go_wp2_with fail
  refine hm.mono ?_
  rintro e w2 ⟨rfl, H3⟩
  have H4 := H3.box w2.heap.size 43 #[.int .i64 (hiW 0), .int .u64 (loW 0)]
  have hwo := worst_c (cr := 0) (ga := none) (pa := some ⟨b, 0, none⟩) (Ar := none) (gs := []) (rs := []) (l := [(us, 5)]) H4 (fun W h => ⟨.inl ⟨rfl, rfl⟩, Kd.C_nil _ W, .inr ⟨b, A, c, _, _, rfl, Fx.at h (i := 2) rfl, Fx.at h (i := 3) rfl⟩⟩) ho (fun s hs => by cases hs) (by decide) (by decide) (fun r hr => by cases hr)
  have e2 : worstV [(us, 5)] [] (pl []) = 0 ∧ worstE [(us, 5)] [] (pl []) = 13 := ⟨rfl, rfl⟩
  rw [e2.1, e2.2] at hwo
  clear hm H2 H3 e2
  go_wp2_with fail
  refine hwo.mono ?_
  rintro e w3 ⟨rfl, H5⟩
  have hls := losses_c (cr := 0) (ga := none) (pa := none) (Ar := none) (gs := []) (rs := []) (l := []) H5 (fun W h => ⟨.inl ⟨rfl, rfl⟩, Kd.C_nil _ W, .inl ⟨rfl, rfl⟩⟩) okP_nil (fun s hs => by cases hs) (by decide) (by decide) (fun r hr => by cases hr)
  have e3 : lsV [] [] (pl []) = [] ∧ lsE [] [] (pl []) = 0 := ⟨rfl, rfl⟩
  rw [e3.1, e3.2] at hls
  clear hwo H4 e3
  go_wp2_with fail
  refine hls.mono ?_
  rintro e w4 ⟨A4, c4, rfl, H6⟩
  clear hls H5
  go_wp2_with fail
  refine gknown_c.on H6 fun w5 H7 => ?_
  clear H6
  go_wp2_with fail
  refine glen_nil.on H7 fun w6 H8 => ?_
  have r8 := H8.rd 1 rfl
  clear H7
  go_wp2_with fail
  refine (hsg _).on H8 fun w7 H9 => ?_
  go_wp2
  go_ret
  exact ⟨rfl, H9.old⟩
end Go.Proofs.Ythhgcjlgnafdcaa.Gh
end
section
namespace Go.Proofs.Ythhgcjlgnafdcaa.Gi
set_option linter.unusedSimpArgs false
set_option linter.unusedVariables false
open Go Go.RowKit Go.ChangeShapes Go.WideShapes Go.ChangeAt Go.Deep Go.Proofs.YthhgcjlgnafdcaaW.PrintWords Go.Proofs.YthhgcjlgnafdcaaW.PrintMore Go.Proofs.YthhgcjlgnafdcaaW.PrintLast Go.Proofs.Ythhgcjlgnafdcaa.Hd Go.Proofs.Ythhgcjlgnafdcaa.Opn Go.Proofs.Ythhgcjlgnafdcaa.Os Go.Proofs.Ythhgcjlgnafdcaa.Tb Go.Proofs.Ythhgcjlgnafdcaa.Tm Go.Proofs.Ythhgcjlgnafdcaa.Px Go.Proofs.Ythhgcjlgnafdcaa.Wv Go.Proofs.Ythhgcjlgnafdcaa.Pp Go.Proofs.Ythhgcjlgnafdcaa.Pq Go.Proofs.Ythhgcjlgnafdcaa.Ps Go.Proofs.Ythhgcjlgnafdcaa.Pk Go.Proofs.Ythhgcjlgnafdcaa.Rp Go.Proofs.Ythhgcjlgnafdcaa.Rr Go.Proofs.Ythhgcjlgnafdcaa.Rw Go.Proofs.Ythhgcjlgnafdcaa.Rv Go.Proofs.Ythhgcjlgnafdcaa.Rc Go.Proofs.Ythhgcjlgnafdcaa.Vc Go.Proofs.Ythhgcjlgnafdcaa.Ga Go.Proofs.Ythhgcjlgnafdcaa.Gb Go.Proofs.Ythhgcjlgnafdcaa.Gc Go.Proofs.Ythhgcjlgnafdcaa.Gd Go.Proofs.Ythhgcjlgnafdcaa.Ge Go.Proofs.Ythhgcjlgnafdcaa.Gf Go.Proofs.Ythhgcjlgnafdcaa.Gg Go.Proofs.Ythhgcjlgnafdcaa.Gh
open Go.Proofs.Ythhgcjlgnafdcaa.Nu (I64 U64 I128 sgn)
structure SA where
  A : Option Addr
  cap : Nat
  l : List SM
def SA.val (x : SA) : Value := .slice x.A x.l.length x.cap
structure GoodS (w : World) (x : SA) : Prop where
  cap : x.l.length ≤ x.cap
  sf : SF x.A x.l w
  rest : ∀ s ∈ x.l, I64 s.rest
  rows : ∀ s ∈ x.l, ∀ r ∈ s.rows, I64 r.2
structure NA where
  A : Option Addr
  cap : Nat
  l : List Int
def NA.val (x : NA) : Value := .slice x.A x.l.length x.cap
structure GoodN (w : World) (x : NA) : Prop where
  cap : x.l.length ≤ x.cap
  ints : Kd.C (Kd.int .i64) w x.A x.l.length x.l
  i64 : ∀ n ∈ x.l, I64 n
theorem SF_cut {A : Option Addr} {l : List SM} {w : World} (h : SF A l w) (m : Nat) : SF A (l.take m) w := ⟨C_cut h.1 m, fun s hs => h.2 s (List.mem_of_mem_take hs)⟩
section
variable {H : Type} {enc : TypeId × Value → H} {P : Program} {w : World} {base : Nat} {sp : Nat → Bool} {held : Bool} {t e : TypeId}
set_option maxRecDepth 100000 in
theorem openSM {n : Nat} {cs : List Value} {y : DataW H × List MemPlace} (h : DataW.trod enc Try.prog w base sp held n 98 cs = some y) : ∃ x : SM, kSM.K w x cs ∧ (I64 x.rest ∧ x.rows.length ≤ x.c ∧ CR x.A x.rows w ∧ ∀ r ∈ x.rows, I64 r.2) := by
  obtain ⟨m, hl, hf⟩ := trod_flat (flat_of (P := Try.prog) Try.underlying98 (by kernel_rfl)) h
  obtain ⟨v0, y0, e0, t0⟩ := hf 0 _ rfl
  obtain ⟨v1, y1, e1, t1⟩ := hf 1 _ rfl
  obtain ⟨x0, q0, _, g0⟩ := DataW.trod_int Try.underlying3 t0
  simp only [List.cons.injEq, and_true] at q0
  subst q0
  obtain ⟨A1, l1, c1, rfl⟩ := trod_sliceV Try.underlying22 t1
  obtain ⟨rs, rfl, hc, hC, hG⟩ := open_sliceK krow (ByteArray.empty, 0) (fun x => I64 x.2) Try.underlying22 (by kernel_rfl) (fun n cs y hy => openRow hy) ⟨_, t1⟩
  refine ⟨⟨x0, A1, c1, rs⟩, ?_, i64_of g0, hc, hC, hG⟩
  have : cs = encS ⟨x0, A1, c1, rs⟩ := by
    match cs, hl with
    | [a, b], _ =>
      simp at e0 e1
      simp [e0, e1, encS]
  rw [this]
  exact kSM_mk w _
set_option maxRecDepth 100000 in
theorem openS {v : Value} {d : DataW H} {ps : List MemPlace} {r : Reach} {b0 : Nat} (hval : Value.okWide Try.prog w r b0 89 v) (h : DataW.Trod enc Try.prog w base sp held 89 v d ps) : ∃ x : SA, v = x.val ∧ GoodS w x := by
  obtain ⟨A, len, cap, rfl⟩ := okWide_slice Try.underlying89 hval
  obtain ⟨l, rfl, hc, hC, hg⟩ := open_sliceK kSM ⟨0, none, 0, []⟩ (fun x => I64 x.rest ∧ x.rows.length ≤ x.c ∧ CR x.A x.rows w ∧ ∀ r ∈ x.rows, I64 r.2) Try.underlying89 (by kernel_rfl) (fun n cs y hy => openSM hy) h
  exact ⟨⟨A, cap, l⟩, rfl, hc, ⟨hC, fun s hs => ⟨(hg s hs).2.1, (hg s hs).2.2.1⟩⟩, fun s hs => (hg s hs).1, fun s hs => (hg s hs).2.2.2⟩
end
theorem rows_cut {xs : List SM} {ms : List SM} (h : pl xs = cutS (pl ms)) : ∀ s ∈ xs, s.rows.length ≤ 40 := fun s hs => by
  have h1 : (s.rest, s.rows) ∈ pl xs := List.mem_map_of_mem hs
  rw [h] at h1
  obtain ⟨q, _, e⟩ := List.mem_map.1 h1
  injection e with e1 e2
  rw [← e2, List.length_take]
  omega
theorem pl_at {xs ds : List SM} (h : pl xs = pl ds) {i : Nat} (h1 : i < xs.length) (h2 : i < ds.length) : (xs[i].rest, xs[i].rows) = (ds[i].rest, ds[i].rows) := by
  have e1 : (pl xs)[i]? = some (xs[i].rest, xs[i].rows) := by unfold pl; rw [List.getElem?_map, List.getElem?_eq_getElem h1]; rfl
  have e2 : (pl ds)[i]? = some (ds[i].rest, ds[i].rows) := by unfold pl; rw [List.getElem?_map, List.getElem?_eq_getElem h2]; rfl
  rw [h, e2] at e1
  exact (Option.some.inj e1).symm
theorem newG_any {w0 w' : World} {l : List Sc} {L : List F2} {p : Option Addr} {E : Int} (h : NewG w0 w' l L p E) : ∃ L2 : List F2, All w0 w' (L2 ++ L) ∧ (E ≠ 0 → p = none) ∧ (E = 0 → (∃ b, p = some b) ∧ ∀ (W : World) (L' : List F2), All w0 W (L' ++ (L2 ++ L)) → Tells Try.prog 47 #[.pointer p] W (.int .i64 l.length)) := by
  by_cases h0 : E = 0
  · obtain ⟨b, Ag, cg, gs, okg, rfl, hb, hp, hc, H⟩ := h.good h0
    refine ⟨[bx b 159 #[.slice Ag gs.length cg], (okg, SF Ag gs)], H, fun h => absurd h0 h, fun _ => ⟨⟨_, rfl⟩, fun W L' hW => ?_⟩⟩
    have := glen_c (hW.sub (List.sublist_append_right L' _)) (i := 0) rfl
    rw [← hp, pl_len]
    exact this
  · exact ⟨[], (h.bad h0).2, fun _ => (h.bad h0).1, fun h => absurd h h0⟩
set_option maxRecDepth 100000 in
set_option maxHeartbeats 8000000 in
theorem walk (x : SA) (y : NA) {w : World} (g : GoodS w x) (gy : GoodN w y) : Calls Try.prog 8 #[x.val, y.val] w fun e w' => e = .returned (.bool true) ∧ Below w.heap.size w w' := by
  have H0 : All w w [(fun k => k < w.heap.size, SF x.A (x.l.take 70)), (fun k => k < w.heap.size, fun W => Kd.C (Kd.int .i64) W y.A (y.l.take 70).length (y.l.take 70))] :=
    ((All.start w).arg ((held_C gy.ints).imp fun W h => C_cut h _)).arg (held_SF (SF_cut g.sf 70))
  have h1 := to_c20 (q := 0) (mf := x.l) (ci := x.cap) H0 rfl (fun k h => h) g.cap (fun s hs => (g.sf.2 s (List.mem_of_mem_take hs)).1)
  have hyc := gy.cap
  have hyl : (y.l.take 70).length ≤ 70 := by rw [List.length_take]; omega
  have m1 : min (y.l.length : Int) 70 = ((y.l.take 70).length : Int) := by rw [List.length_take]; omega
  have hpc : (y.l.take 70).length ≤ y.cap := by rw [List.length_take]; omega
  have hmi : (((y.l.take 70).length : Nat) : Int) ≤ (y.cap : Int) := Int.ofNat_le.2 hpc
  have hsl : (cutS (pl (x.l.take 70))).length ≤ 70 := by unfold cutS; rw [List.length_map, pl_len, List.length_take]; omega
  have hrc : ∀ xs : List SM, pl xs = cutS (pl (x.l.take 70)) → ∀ s ∈ xs, s.rows.length ≤ 1000 := fun xs h s hs => Nat.le_trans (rows_cut h s hs) (by decide)
  obtain ⟨A0, cap, l⟩ := x
  obtain ⟨Ay, cy, ly⟩ := y
  simp only at *
  unfold SA.val NA.val
  simp only
  obtain ⟨my, hmy⟩ : ∃ m, ly.length = m := ⟨_, rfl⟩
  rw [hmy] at m1 ⊢
  generalize ly.take 70 = ps at *
  generalize cutS (pl (l.take 70)) = sl at *
  clear g gy hmy hyc
  go_enter Try.func8, Try.ntmps8
  go_wp2_with fail
  refine h1.mono ?_
  rintro e w1 ⟨Ax, cx, Ad, cd, xs, ds, rfl, hcx, hcd, hpx, hpd, okx, okd, H1⟩
  have hxl : xs.length ≤ 70 := by rw [← pl_len, hpx]; exact hsl
  have hxd : xs.length = ds.length := by rw [← pl_len, ← pl_len ds, hpx, hpd]
  have hrx := hrc xs hpx
  have hrd := hrc ds hpd
  have hat := fun (i : Nat) (h : i < xs.length) (h2 : i < ds.length) => pl_at (hpx.trans hpd.symm) h h2
  replace hrx := Aside0.mk hrx
  replace hrd := Aside0.mk hrd
  replace hxd := Aside0.mk hxd
  replace hat := Aside0.mk hat
  replace hpx := Aside0.mk hpx
  replace hpd := Aside0.mk hpd
  clear h1 H0 hrc
  go_wp2_with fail
  go_loopg [7] xs.length (fun kx s7 wr => ∃ i : Nat, s7 = .int .i64 (i : Int) ∧ i ≤ xs.length ∧ xs.length - i ≤ kx ∧
    All w wr [(okx, SF Ax xs), (okd, SF Ad ds), (fun k => k < w.heap.size, SF A0 (l.take 70)), (fun k => k < w.heap.size, fun W => Kd.C (Kd.int .i64) W Ay ps.length ps)])
  case atStart => exact ⟨0, rfl, Nat.zero_le _, by omega, H1⟩
  case round =>
    clear H1
    obtain ⟨i, rfl, hil, hik, H⟩ := hrel
    by_cases hlt : i < xs.length
    · have hli : (i : Int) < (xs.length : Int) := Int.ofNat_lt.2 hlt
      have hltd : i < ds.length := by rw [← hxd.out]; exact hlt
      have hlid : (i : Int) < (ds.length : Int) := Int.ofNat_lt.2 hltd
      obtain ⟨ad, rfl, -, -⟩ := at_sm (H.at 0 rfl).1 hlt
      obtain ⟨dd, rfl, -, -⟩ := at_sm (H.at 1 rfl).1 hltd
      have hc0 : ∀ W, All w W [(okx, SF (some ad) xs), (okd, SF (some dd) ds), (fun k => k < w.heap.size, SF A0 (l.take 70)), (fun k => k < w.heap.size, fun W => Kd.C (Kd.int .i64) W Ay ps.length ps)] → W.cell? (ad.add (i * 2)) = some (.int .i64 xs[i].rest) ∧ W.cell? ⟨(ad.add (i * 2)).block, (ad.add (i * 2)).off + 1, none⟩ = some (.slice xs[i].A xs[i].rows.length xs[i].c) := fun W hW => by
        obtain ⟨ad', e, q0, q1⟩ := at_sm (hW.at 0 rfl).1 hlt
        cases e
        exact ⟨q0, q1⟩
      have hc1 : ∀ W, All w W [(okx, SF (some ad) xs), (okd, SF (some dd) ds), (fun k => k < w.heap.size, SF A0 (l.take 70)), (fun k => k < w.heap.size, fun W => Kd.C (Kd.int .i64) W Ay ps.length ps)] → W.cell? (dd.add (i * 2)) = some (.int .i64 ds[i].rest) ∧ W.cell? ⟨(dd.add (i * 2)).block, (dd.add (i * 2)).off + 1, none⟩ = some (.slice ds[i].A ds[i].rows.length ds[i].c) := fun W hW => by
        obtain ⟨ad', e, q0, q1⟩ := at_sm (hW.at 1 rfl).1 hltd
        cases e
        exact ⟨q0, q1⟩
      have hk0 := fun W (hW : All w W [(okx, SF (some ad) xs), (okd, SF (some dd) ds), (fun k => k < w.heap.size, SF A0 (l.take 70)), (fun k => k < w.heap.size, fun W => Kd.C (Kd.int .i64) W Ay ps.length ps)]) => gcheck_c (n := xs[i].rest) (c := xs[i].c) ((hW.at 0 rfl).2 _ (List.getElem_mem hlt)).2 ((hW.at 0 rfl).2 _ (List.getElem_mem hlt)).1 (hrx.out _ (List.getElem_mem hlt))
      have hk1 := fun W (hW : All w W [(okx, SF (some ad) xs), (okd, SF (some dd) ds), (fun k => k < w.heap.size, SF A0 (l.take 70)), (fun k => k < w.heap.size, fun W => Kd.C (Kd.int .i64) W Ay ps.length ps)]) => rcheck_c (n := ds[i].rest) (c := ds[i].c) ((hW.at 1 rfl).2 _ (List.getElem_mem hltd)).2 (hrd.out _ (List.getElem_mem hltd))
      rw [← hat.out i hlt hltd] at hk1
      generalize chk (xs[i].rest, xs[i].rows) = k at *
      generalize xs[i] = sx at *
      generalize ds[i] = sd at *
      replace hc0 := Aside0.mk hc0
      replace hc1 := Aside0.mk hc1
      go_wp2_with fail
      refine plan_ (true, [([], []), ([], []), ([0, 1], [0, 1]), ([2], [2]), ([3], [3]), ([], []), ([], []), ([5, 6], [5, 6]), ([7], [7]), ([8, 4], [8]), ([4, 9], [4, 9])]) [.p 0, .p 1, .p 2, .t 3, .p 5, .p 6, .p 7, .t 8, .c 4, .c 9, .p 10] H (by kernel_rfl) (by kernel_rfl) rfl rfl (by kernel_rfl) (by intro c a w d v h; cases d <;> exact h) (fun w2 H2 => ?_)
      refine pl_P (h := ?_)
      refine pl_P (h := ?_)
      refine pl_P (h := ?_)
      refine pl_C2 H2 (fun W hW => hc0.out W hW) (h := ?_)
      refine pl_P (h := ?_)
      refine pl_P (h := ?_)
      refine pl_P (h := ?_)
      refine pl_C2 H2 (fun W hW => hc1.out W hW) (h := ?_)
      refine pl_S (hk0 _ H2) H2 Try.func41 (h := fun w3 H3 => ?_)
      refine pl_S (hk1 _ H3) H3 Try.func42 (h := fun w4 H4 => ?_)
      refine pl_P (h := ?_)
      refine pl_done ?_
      have hkk : (k != k) = false := by simp
      clear H H2 H3 hk0 hk1 hc0 hc1
      go_wp2_with fail
      go_roundg (xs.length - (i + 1))
      case measure => exact En.meas hik hlt
      case rel => exact ⟨i + 1, rfl, hlt, Nat.le_refl _, H4⟩
    · obtain rfl : i = xs.length := Nat.le_antisymm hil (Nat.le_of_not_lt hlt)
      have hlt2 : ¬ ((xs.length : Int) < (xs.length : Int)) := Int.lt_irrefl _
      clear hlt hik hil hat
      have hn := gnew_c (A := Ax) (c := cx) (xs := xs) H (fun W hW => hW.at 0 rfl) (by omega) hrx.out
      have hrn := fun W (h : SF Ad ds W) => rnew_c (A := Ad) (c := cd) (w := W) h (by rw [← hxd.out]; omega) hrd.out
      rw [hpx.out] at hn
      simp only [hpd.out] at hrn
      obtain ⟨E, hE⟩ : ∃ E, gridE sl = E := ⟨_, rfl⟩
      rw [hE] at hn
      simp only [hE] at hrn
      go_wp2_with fail
      refine hn.mono ?_
      rintro e w2 ⟨p, rfl, hN⟩
      clear hn H
      obtain ⟨L2, H2, hp1, hp2⟩ := newG_any hN
      have hsd : sl.length = ds.length := by rw [← hpd.out, pl_len]
      rw [hsd] at hp2
      obtain ⟨LB, hLB⟩ : ∃ LB, L2 ++ [(okx, SF Ax xs), (okd, SF Ad ds), ((fun k => k < w.heap.size), SF A0 (l.take 70)), ((fun k => k < w.heap.size), fun W => Kd.C (Kd.int .i64) W Ay ps.length ps)] = LB := ⟨_, rfl⟩
      rw [hLB] at H2
      simp only [hLB] at hp2
      have hI : ∀ W, All w W LB → Kd.C (Kd.int .i64) W Ay ps.length ps := fun W hW => by
        rw [← hLB] at hW
        exact (hW.sub (List.sublist_append_right L2 _)).at 3 rfl
      have hD : ∀ W, All w W LB → SF Ad ds W := fun W hW => by
        rw [← hLB] at hW
        exact (hW.sub (List.sublist_append_right L2 _)).at 1 rfl
      replace hI := Aside0.mk hI
      clear hN hLB hsd
      have hrn1 := hrn _ (hD _ H2)
      go_wp2_with fail
      refine hrn1.on H2 fun w3 H3 => ?_
      have H4 := H3.row w.heap.size 98 2
      clear hrn hrn1 H2 H3 hD
      go_wp2_with fail
      go_loopg [11, 12] ps.length (fun kx s11 s12 wr => ∃ (i : Nat) (Az : Option Addr) (cz : Nat), s11 = .slice Az i cz ∧ s12 = .int .i64 (i : Int) ∧ i ≤ ps.length ∧ ps.length - i ≤ kx ∧
        All w wr (ow w.heap.size 98 2 (.slice Az i cz) i (((ps.take i).map flatM).flatMap encS) :: LB))
      case atStart => exact ⟨0, none, 0, rfl, rfl, Nat.zero_le _, by omega, H4⟩
      case round =>
        clear H4
        obtain ⟨i, Az, cz, rfl, rfl, hil, hik, H⟩ := hrel
        by_cases hlt : i < ps.length
        · have hli : (i : Int) < (ps.length : Int) := Int.ofNat_lt.2 hlt
          obtain ⟨ad, rfl⟩ := int_some (hI.out _ H.tail) hlt
          have hg : ps.getD i 0 = ps[i] := by rw [List.getD_eq_getElem?_getD, List.getElem?_eq_getElem hlt]; rfl
          have r0 := cs_at (hI.out _ H.tail) i hlt hg
          have hsn : (ps.take (i + 1)).map flatM = (ps.take i).map flatM ++ [flatM ps[i]] := by rw [List.take_succ_eq_append_getElem hlt, List.map_append]; rfl
          generalize ps[i] = pt at *
          replace hsn := Aside0.mk hsn
          have hsz : (i + 1) * 32 ≤ 140737488355328 := by omega
          have hz := H.old.size
          clear hg
          go_wp2_with ((with_reducible refine gate_builtin (b := .append) rfl ?_); refine app_ (encS (flatM pt)) H 0 rfl (Nat.le_refl _) hz hsz (.tmp 55) (.tmp 61) 89 (.agg #[.int .i64 0, .slice none 0 0]) (by kernel_rfl) Try.underlying89 rfl rfl rfl (by decide) (by decide) rfl rfl rfl (encS_one _) ?_; intro A2 c2 w3 H3 z3)
          go_roundg (ps.length - (i + 1))
          case measure => exact En.meas hik hlt
          case rel => exact ⟨i + 1, A2, c2, rfl, rfl, hlt, Nat.le_refl _, by rw [hsn.out, enc_snoc]; exact H3⟩
        · obtain rfl : i = ps.length := Nat.le_antisymm hil (Nat.le_of_not_lt hlt)
          have hlt3 : ¬ ((ps.length : Int) < (ps.length : Int)) := Int.lt_irrefl _
          rw [List.take_length] at H
          clear hlt hik hil
          have hn := gplain_c (A := Ay) (c := cy) (ps := ps) H (fun W hW => hI.out W hW.tail) (by omega)
          obtain ⟨zs, hzs⟩ : ∃ zs, ps.map flatM = zs := ⟨_, rfl⟩
          have hzl : zs.length = ps.length := by rw [← hzs, List.length_map]
          have hpz : pl zs = ps.map fun n => ((n, []) : Sc) := by rw [← hzs, pl_flat]
          have hRz : ∀ W, RW zs W := fun W => hzs ▸ RW_flat ps W
          have hrz : ∀ s ∈ zs, s.rows.length ≤ 1000 := fun s hs => by
            rw [← hzs] at hs
            obtain ⟨n, _, rfl⟩ := List.mem_map.1 hs
            exact Nat.zero_le _
          have hrnz := fun W (h : SF Az zs W) => rnew_c (A := Az) (c := cz) (w := W) h (by omega) hrz
          rw [hpz] at hrnz
          have hpl0 : (ps.map fun n => ((n, []) : Sc)).length = zs.length := by rw [List.length_map, hzl]
          rw [hzs] at H hn
          generalize (ps.map fun n => ((n, []) : Sc)) = pz at *
          obtain ⟨F, hF⟩ : ∃ F, gridE pz = F := ⟨_, rfl⟩
          rw [hF] at hn hrnz
          go_wp2_with fail
          refine hn.mono ?_
          rintro e w4 ⟨p2, rfl, hN2⟩
          obtain ⟨L3, H5, hq1, hq2⟩ := newG_any hN2
          rw [hpl0] at hq2
          have hZ : ∀ W, All w W (L3 ++ ow w.heap.size 98 2 (.slice Az ps.length cz) ps.length (zs.flatMap encS) :: LB) → SF Az zs W := fun W hW => by
            have h := (hW.sub (List.sublist_append_right L3 _)).at 0 rfl
            rw [← hzl] at h
            exact ⟨(ow_SM h).2, hRz W⟩
          have hrz2 := fun W hW => hrnz W (hZ W hW)
          have hlx : ∀ W, E = 0 → All w W (L3 ++ ow w.heap.size 98 2 (.slice Az ps.length cz) ps.length (zs.flatMap encS) :: LB) → Tells Try.prog 47 #[.pointer p] W (.int .i64 ds.length) := fun W h0 hW => (hp2 h0).2 W (L3 ++ [ow w.heap.size 98 2 (.slice Az ps.length cz) ps.length (zs.flatMap encS)]) (by rw [List.append_assoc]; exact hW)
          have hly : ∀ W, F = 0 → All w W (L3 ++ ow w.heap.size 98 2 (.slice Az ps.length cz) ps.length (zs.flatMap encS) :: LB) → Tells Try.prog 47 #[.pointer p2] W (.int .i64 zs.length) := fun W h0 hW => (hq2 h0).2 W [] hW
          have hp3 : E = 0 → ∃ b, p = some b := fun h => (hp2 h).1
          rw [← hzl] at hrz2 hlx hly H5 ⊢
          clear hn H hN2 hq1 hq2 hZ hrnz hp2 hRz hzs hF hzl hpl0 hrz hpz hI
          generalize L3 ++ ow w.heap.size 98 2 (.slice Az zs.length cz) zs.length (zs.flatMap encS) :: LB = LZ at *
          by_cases hE0 : E = 0
          · subst hE0
            obtain ⟨bp, rfl⟩ := hp3 rfl
            have hlx0 := fun W => hlx W rfl
            by_cases hF0 : F = 0
            · subst hF0
              have hly0 := fun W => hly W rfl
              clear hlx hly hp1 hp3
              go_wp2_with fail
              refine gknown_c.on H5 fun w5 H6 => ?_
              clear H5
              go_wp2_with fail
              refine (hlx0 _ H6).on H6 fun w6 H7 => ?_
              clear H6
              go_wp2_with fail
              refine (hrz2 _ H7).on H7 fun w7 H8 => ?_
              clear H7
              go_wp2_with fail
              refine (hly0 _ H8).on H8 fun w8 H9 => ?_
              go_wp2
              go_ret
              exact ⟨rfl, H9.old⟩
            · have dF : (F != 0) = true := by simpa using hF0
              clear hF0
              clear hlx hly hp1 hp3
              go_wp2_with fail
              refine gknown_c.on H5 fun w5 H6 => ?_
              clear H5
              go_wp2_with fail
              refine (hlx0 _ H6).on H6 fun w6 H7 => ?_
              clear H6
              go_wp2_with fail
              refine (hrz2 _ H7).on H7 fun w7 H8 => ?_
              clear H7
              go_wp2
              go_ret
              exact ⟨rfl, H8.old⟩
          · obtain rfl := hp1 hE0
            have dE : (E != 0) = true := by simpa using hE0
            clear hE0
            by_cases hF0 : F = 0
            · subst hF0
              have hly0 := fun W => hly W rfl
              clear hlx hly hp1 hp3
              go_wp2_with fail
              refine gknown_c.on H5 fun w5 H6 => ?_
              clear H5
              go_wp2_with fail
              refine (hrz2 _ H6).on H6 fun w7 H8 => ?_
              clear H6
              go_wp2_with fail
              refine (hly0 _ H8).on H8 fun w8 H9 => ?_
              go_wp2
              go_ret
              exact ⟨rfl, H9.old⟩
            · have dF : (F != 0) = true := by simpa using hF0
              clear hF0
              clear hlx hly hp1 hp3
              go_wp2_with fail
              refine gknown_c.on H5 fun w5 H6 => ?_
              clear H5
              go_wp2_with fail
              refine (hrz2 _ H6).on H6 fun w7 H8 => ?_
              clear H6
              go_wp2
              go_ret
              exact ⟨rfl, H8.old⟩
end Go.Proofs.Ythhgcjlgnafdcaa.Gi
end
section
namespace Go.Proofs.Ythhgcjlgnafdcaa.Gm
set_option linter.unusedSimpArgs false
set_option linter.unusedVariables false
open Go Go.RowKit Go.Proofs.YthhgcjlgnafdcaaW.PrintWords Go.Proofs.YthhgcjlgnafdcaaW.PrintMore Go.Proofs.YthhgcjlgnafdcaaW.PrintLast Go.Proofs.Ythhgcjlgnafdcaa.Hd Go.Proofs.Ythhgcjlgnafdcaa.Os Go.Proofs.Ythhgcjlgnafdcaa.Tb Go.Proofs.Ythhgcjlgnafdcaa.Tm Go.Proofs.Ythhgcjlgnafdcaa.Px Go.Proofs.Ythhgcjlgnafdcaa.Wv Go.Proofs.Ythhgcjlgnafdcaa.Pp Go.Proofs.Ythhgcjlgnafdcaa.Pq Go.Proofs.Ythhgcjlgnafdcaa.Ps Go.Proofs.Ythhgcjlgnafdcaa.Pk Go.Proofs.Ythhgcjlgnafdcaa.Rp Go.Proofs.Ythhgcjlgnafdcaa.Ro Go.Proofs.Ythhgcjlgnafdcaa.Rr Go.Proofs.Ythhgcjlgnafdcaa.Rw Go.Proofs.Ythhgcjlgnafdcaa.Rv Go.Proofs.Ythhgcjlgnafdcaa.Rc Go.Proofs.Ythhgcjlgnafdcaa.Ga Go.Proofs.Ythhgcjlgnafdcaa.Gb Go.Proofs.Ythhgcjlgnafdcaa.Gc Go.Proofs.Ythhgcjlgnafdcaa.Gd Go.Proofs.Ythhgcjlgnafdcaa.Ge Go.Proofs.Ythhgcjlgnafdcaa.Gf Go.Proofs.Ythhgcjlgnafdcaa.Gg Go.Proofs.Ythhgcjlgnafdcaa.Gh Go.Proofs.Ythhgcjlgnafdcaa.Gi
open Go.Proofs.Ythhgcjlgnafdcaa.Nu (I64 U64 I128 sgn)
theorem fold_ge : ∀ (b : List Int) (m : Int), m ≤ b.foldl (fun m v => if m < v then v else m) m
  | [], m => Int.le_refl _
  | v :: b, m => by
    rw [List.foldl_cons]
    refine Int.le_trans ?_ (fold_ge b _)
    split <;> omega
theorem mx_append (a b : List Int) : mx a ≤ mx (a ++ b) := by
  unfold Gg.mx
  rw [List.foldl_append]
  exact fold_ge b _
theorem mx_nonneg (b : List Int) : 0 ≤ mx b := fold_ge b 0
theorem mx_zeros : ∀ {b : List Int}, (∀ v ∈ b, v = 0) → mx b = 0
  | [], _ => rfl
  | v :: b, h => by
    have h1 := mx_zeros (b := b) fun x hx => h x (List.mem_cons_of_mem _ hx)
    unfold Gg.mx at h1 ⊢
    rw [List.foldl_cons, h v List.mem_cons_self]
    exact h1
theorem lsE_left {l rs : PR} {a b : List Sc} (h : lsE l rs (a ++ b) = 0) : lsE l rs a = 0 := lsE_zero fun s hs => lsE_all h s (List.mem_append_left _ hs)
theorem marg_mono {l rs : PR} {a b : List Sc} (h : lsE l rs (a ++ b) = 0) : margV l rs a ≤ margV l rs (a ++ b) := by
  unfold margV
  rw [if_pos (lsE_left h), if_pos h]
  unfold lsV
  rw [if_pos (lsE_left h), if_pos h, List.map_append]
  exact mx_append _ _
theorem marg_nonneg (l rs : PR) (a : List Sc) : 0 ≤ margV l rs a := by
  unfold margV
  split
  · exact mx_nonneg _
  · exact Int.le_refl _
def both (rs : PR) : PR := rs.flatMap fun r => [r, (r.1, -r.2)]
theorem both_snoc (rs : PR) (r : ByteArray × Int) : both (rs ++ [r]) = both rs ++ [r, (r.1, -r.2)] := by unfold both; rw [List.flatMap_append]; simp
theorem both_len : ∀ rs : PR, (both rs).length = 2 * rs.length
  | [] => rfl
  | r :: rs => by
    have h := both_len rs
    unfold both at h ⊢
    rw [List.flatMap_cons, List.length_append, h, List.length_cons]
    simp
    omega
theorem both_loss (l : PR) (s : Sc) : ∀ rs : PR, loss l s (both rs) = 0
  | [] => rfl
  | r :: rs => by
    have h := both_loss l s rs
    unfold both loss at h ⊢
    rw [List.flatMap_cons, List.map_append, List.sum_append, h]
    simp
    rw [Int.neg_mul]
    omega
theorem both_priced (l : PR) : ∀ rs : PR, priced l (both rs) = priced l rs
  | [] => rfl
  | r :: rs => by
    have h := both_priced l rs
    unfold both priced at h ⊢
    rw [List.flatMap_cons, List.all_append, h, List.all_cons]
    simp
theorem both_lossE {l rs : PR} {s : Sc} (h : lossE l s rs = 0) : lossE l s (both rs) = 0 ∧ lossV l s (both rs) = 0 := by
  have hp : priced l rs = true := by
    unfold lossE at h
    split at h
    · assumption
    · cases h
  unfold lossE lossV
  rw [both_priced, hp, both_loss]
  exact ⟨by decide, by decide⟩
theorem both_marg {l rs : PR} {sl : List Sc} (h : lsE l rs sl = 0) : lsE l (both rs) sl = 0 ∧ margV l (both rs) sl = 0 := by
  have h1 := lsE_all h
  have h2 : lsE l (both rs) sl = 0 := lsE_zero fun s hs => (both_lossE (h1 s hs)).1
  refine ⟨h2, ?_⟩
  unfold margV lsV
  rw [if_pos h2, if_pos h2]
  refine mx_zeros fun v hv => ?_
  obtain ⟨s, hs, rfl⟩ := List.mem_map.1 hv
  exact (both_lossE (h1 s hs)).2
theorem margV_128 (l rs : PR) (sl : List Sc) : I128 (margV l rs sl) := by
  unfold margV
  split
  · have := mx_128 (lsV_128 l rs sl) (lsV l rs sl).length
    rwa [List.take_length] at this
  · unfold I128; omega
theorem both_I64 {rs : PR} (h : ∀ r ∈ rs, I64 r.2) (h2 : ∀ r ∈ rs, I64 (-r.2)) : ∀ r ∈ both rs, I64 r.2 := fun r hr => by
  obtain ⟨q, hq, hm⟩ := List.mem_flatMap.1 hr
  rcases List.mem_cons.1 hm with rfl | hm
  · exact h _ hq
  · rw [List.mem_singleton.1 hm]
    exact h2 q hq
set_option maxRecDepth 100000 in
set_option maxHeartbeats 16000000 in
theorem walk (x : RA) (z : SA) (u : SA) (y : RA) {w : World} (g : GoodA w x) (gz : GoodS w z) (gu : GoodS w u) (gy : GoodA w y) : Calls Try.prog 10 #[x.val, z.val, u.val, y.val] w fun e w' => e = .returned (.bool true) ∧ Below w.heap.size w w' := by
  have H0 : All w w [(fun k => k < w.heap.size, CR y.A (y.l.take 40)), (fun k => k < w.heap.size, SF u.A (u.l.take 70)), (fun k => k < w.heap.size, SF z.A (z.l.take 70)), (fun k => k < w.heap.size, CR x.A (x.l.take 40))] :=
    ((((All.start w).arg ((held_C g.rows).imp fun W h => C_cut h _)).arg (held_SF (SF_cut gz.sf 70))).arg (held_SF (SF_cut gu.sf 70))).arg ((held_C gy.rows).imp fun W h => C_cut h _)
  have h1 := rows_c (qi := 3) (l := x.l) (ci := x.cap) H0 rfl g.cap
  have hl : (x.l.take 40).length ≤ 1000 := by rw [List.length_take]; omega
  have hyl : (y.l.take 40).length ≤ 40 := by rw [List.length_take]; omega
  have hyg : ∀ r ∈ y.l.take 40, I64 r.2 := fun r hr => gy.i64 r (List.mem_of_mem_take hr)
  have hsl : (cutS (pl (z.l.take 70))).length ≤ 70 := by unfold cutS; rw [List.length_map, pl_len, List.length_take]; omega
  have hul : (cutS (pl (u.l.take 70))).length ≤ 70 := by unfold cutS; rw [List.length_map, pl_len, List.length_take]; omega
  have hrc : ∀ xs : List SM, pl xs = cutS (pl (z.l.take 70)) → ∀ s ∈ xs, s.rows.length ≤ 1000 := fun xs h s hs => Nat.le_trans (rows_cut h s hs) (by decide)
  have hru : ∀ xs : List SM, pl xs = cutS (pl (u.l.take 70)) → ∀ s ∈ xs, s.rows.length ≤ 1000 := fun xs h s hs => Nat.le_trans (rows_cut h s hs) (by decide)
  have hzc := gz.cap
  have huc := gu.cap
  have hyc := gy.cap
  have hzr : ∀ s ∈ z.l.take 70, s.rows.length ≤ s.c := fun s hs => (gz.sf.2 s (List.mem_of_mem_take hs)).1
  have hur : ∀ s ∈ u.l.take 70, s.rows.length ≤ s.c := fun s hs => (gu.sf.2 s (List.mem_of_mem_take hs)).1
  obtain ⟨A0, cap, l⟩ := x
  obtain ⟨Az, cz, lz⟩ := z
  obtain ⟨Au, cu, lu⟩ := u
  obtain ⟨Ay, cy, ly⟩ := y
  simp only at *
  unfold RA.val SA.val
  simp only
  generalize l.take 40 = rs at *
  generalize hys : ly.take 40 = ys at *
  replace hyg := Aside0.mk hyg
  replace hys := Aside0.mk hys
  replace hrc := Aside0.mk hrc
  replace hru := Aside0.mk hru
  replace hzr := Aside0.mk hzr
  replace hur := Aside0.mk hur
  clear g gz gy gu
  have ho := ofE_ok rs [] okP_nil
  obtain ⟨E, hE⟩ : ∃ E, (ofE [] rs).1 = E := ⟨_, rfl⟩
  obtain ⟨ql, hql⟩ : ∃ q, (ofE [] rs).2 = q := ⟨_, rfl⟩
  rw [hql] at ho
  go_enter Try.func10, Try.ntmps10
  go_wp2_with fail
  refine h1.mono ?_
  rintro e w1 ⟨A, c, rfl, H2⟩
  have H3 := H2.turn 0 rfl (T' := CR A rs) ((H2.get 0 rfl).imp fun W hW => (ow_CR (n := 0) hW).2)
  have h2 := of_p (qi := 0) (ci := c) H3 rfl hl
  rw [hE] at h2
  clear h1 H0 H2
  go_wp2_with fail
  refine h2.mono ?_
  rintro e w2 ⟨p, rfl, hN⟩
  -- prices, or none
  obtain ⟨LP, H4, hp, hP⟩ : ∃ LP : List F2, All w w2 (LP ++ [(Ob (.slice A rs.length c), CR A rs), ((fun k => k < w.heap.size), CR Ay ys), ((fun k => k < w.heap.size), SF Au (lu.take 70)), ((fun k => k < w.heap.size), SF Az (lz.take 70)), ((fun k => k < w.heap.size), CR A0 rs)]) ∧ (E ≠ 0 → p = none) ∧ (E = 0 → ∀ W, Fx LP W → PT (.pointer p) ql W) := by
    by_cases h0 : E = 0
    · obtain ⟨b, Ap, cp, rfl, hb, H4⟩ := (hN.good h0).at_
      rw [hql] at H4
      exact ⟨[bx b 66 #[.slice Ap ql.length cp], ow w.heap.size 173 2 (.slice Ap ql.length cp) ql.length (flat (Tj.rows ql))], H4, fun h => absurd h0 h, fun _ W h => .inr ⟨b, Ap, cp, _, _, rfl, Fx.at h (i := 0) rfl, Fx.at h (i := 1) rfl⟩⟩
    · obtain ⟨rfl, H4⟩ := hN.bad h0
      exact ⟨[], H4, fun _ => rfl, fun h => absurd h h0⟩
  replace hP := Aside0.mk hP
  clear h2 H3 hN hE hql
  have H5 : All w w2 (((fun k => k < w.heap.size), SF Az (lz.take 70)) :: ((fun k => k < w.heap.size), SF Au (lu.take 70)) :: ((fun k => k < w.heap.size), CR Ay ys) :: LP) := by
    have H4' : All w w2 ((Ob (.slice A rs.length c), CR A rs) :: ((fun k => k < w.heap.size), CR Ay ys) :: ((fun k => k < w.heap.size), SF Au (lu.take 70)) :: ((fun k => k < w.heap.size), SF Az (lz.take 70)) :: ((fun k => k < w.heap.size), CR A0 rs) :: LP) := H4.perm List.perm_append_comm
    exact (((H4'.cut 4).cut 0).front 1 rfl).front 2 rfl
  have h4 := to_c20 (q := 0) (mf := lz) (ci := cz) H5 rfl (fun k h => h) hzc hzr.out
  clear H4
  go_wp2_with fail
  refine h4.mono ?_
  rintro e w4 ⟨Ax, cx, Ae, ce, xs, ds, rfl, hcx, hce, hpx, hpd, okx, okd, H6⟩
  have h5 := to_c20 (q := 3) (mf := lu) (ci := cu) H6 rfl (fun k h => h) huc hur.out
  clear h4 H5
  go_wp2_with fail
  refine h5.mono ?_
  rintro e w5 ⟨Bx, dx, Be, de, us_, es, rfl, hdx, hde, hpu, hpe, oku, oke, H7⟩
  have hxl : xs.length ≤ 70 := by rw [← pl_len, hpx]; exact hsl
  have hvl : us_.length ≤ 70 := by rw [← pl_len, hpu]; exact hul
  have hn := gnew_c (A := Ax) (c := cx) (xs := xs) H7 (fun W hW => hW.at 2 rfl) (by omega) (hrc.out xs hpx)
  have hrr : ∀ s ∈ xs ++ us_, s.rows.length ≤ 1000 := fun s hs => by
    rcases List.mem_append.1 hs with hs | hs
    · exact hrc.out xs hpx s hs
    · exact hru.out us_ hpu s hs
  have hpp : pl (xs ++ us_) = pl xs ++ pl us_ := by unfold pl; rw [List.map_append]
  generalize pl xs = sa at *
  generalize pl us_ = sb at *
  replace hpp := Aside0.mk hpp
  replace hrr := Aside0.mk hrr
  obtain ⟨G, hG⟩ : ∃ G, gridE sa = G := ⟨_, rfl⟩
  rw [hG] at hn
  clear h5 H6 hzc hzr hrc hru hur huc hpx hpd hpu hpe
  go_wp2_with fail
  refine hn.mono ?_
  rintro e w6 ⟨gp, rfl, hNG⟩
  -- a grid, or none
  obtain ⟨LG, H8, hg1, hg2⟩ : ∃ LG : List F2, All w w6 (LG ++ ((oku, SF Bx us_) :: (okx, SF Ax xs) :: ((fun k => k < w.heap.size), CR Ay ys) :: LP)) ∧ (G ≠ 0 → gp = none) ∧ (G = 0 → ∃ gs, pl gs = sa ∧ ∀ W, Fx LG W → GB gp gs W) := by
    have sub : (((oku, SF Bx us_) :: (okx, SF Ax xs) :: ((fun k => k < w.heap.size), CR Ay ys) :: LP) : List F2).Sublist ((oku, SF Bx us_) :: (oke, SF Be es) :: (okx, SF Ax xs) :: (okd, SF Ae ds) :: ((fun k => k < w.heap.size), SF Az (lz.take 70)) :: ((fun k => k < w.heap.size), SF Au (lu.take 70)) :: ((fun k => k < w.heap.size), CR Ay ys) :: LP) :=
      .cons_cons _ (.cons _ (.cons_cons _ (.cons _ (.cons _ (.cons _ (.cons_cons _ (List.Sublist.refl LP)))))))
    by_cases h0 : G = 0
    · obtain ⟨b, Ag, cg, gs, okg, rfl, hb, hpg, hcg, H8⟩ := hNG.good h0
      exact ⟨[bx b 159 #[.slice Ag gs.length cg], (okg, SF Ag gs)], H8.sub (.cons_cons _ (.cons_cons _ sub)), fun h => absurd h0 h, fun _ => ⟨gs, hpg, fun W h => .inr ⟨b, Ag, cg, rfl, Fx.at h (i := 0) rfl, Fx.at h (i := 1) rfl⟩⟩⟩
    · obtain ⟨rfl, H8⟩ := hNG.bad h0
      exact ⟨[], H8.sub sub, fun _ => rfl, fun h => absurd h h0⟩
  clear hNG hn H7
  have H9 : All w w6 ((oku, SF Bx us_) :: (okx, SF Ax xs) :: ((fun k => k < w.heap.size), CR Ay ys) :: (LP ++ LG)) := H8.perm List.perm_append_comm
  have H10 : All w (w6.alloc (.cells ([] : List Value).toArray 95)) (ow w.heap.size 95 2 (.slice (some ⟨w6.heap.size, 0, none⟩) 0 0) 0 [] :: (oku, SF Bx us_) :: (okx, SF Ax xs) :: ((fun k => k < w.heap.size), CR Ay ys) :: (LP ++ LG)) :=
    H9.new (below_alloc (Below.refl _ _) _) (held_own (own_new w6 (e := 95) (size := 2) (n := 0) (cs := []) H9.old.size rfl (by decide))) fun k hk => by
      have : some w6.heap.size = some k := hk
      cases this
      exact Nat.le_refl _
  have hsz1 : (0 + xs.length) * 32 ≤ 140737488355328 := by omega
  have hsz2 : (xs.length + us_.length) * 32 ≤ 140737488355328 := by omega
  have hz1 := H10.old.size
  have hR1 : Kd.C kSM (w6.alloc (.cells ([] : List Value).toArray 95)) Ax xs.length xs := (H10.at 2 rfl).1
  clear H8 H9
  go_wp2_with (first
    | ((with_reducible refine gate_builtin (b := .append) rfl ?_); refine appC kSM encS (fun _ _ _ h => kSM_K h) (fun _ => rfl) rfl encS_one H10 0 rfl hR1 (Nat.le_refl _) hz1 hsz1 (.tmp 59) (.tmp 60) 90 (.agg #[.int .i64 0, .slice none 0 0]) (by kernel_rfl) Try.underlying90 rfl rfl rfl (by decide) (by decide) rfl rfl ?_; intro A5 c5 w7 H11 z11; rw [Nat.zero_add, List.nil_append] at H11; have hz11 := H11.old.size; have hR2 : Kd.C kSM w7 Bx us_.length us_ := (H11.at 1 rfl).1; clear hR1)
    | ((with_reducible refine gate_builtin (b := .append) rfl ?_); refine appC kSM encS (fun _ _ _ h => kSM_K h) (fun _ => rfl) rfl encS_one H11 0 rfl hR2 (Nat.le_refl _) hz11 hsz2 (.tmp 61) (.tmp 62) 90 (.agg #[.int .i64 0, .slice none 0 0]) (by kernel_rfl) Try.underlying90 rfl rfl rfl (by decide) (by decide) rfl rfl ?_; intro A6 c6 w8 H12 z12))
  obtain ⟨vs, hvs⟩ : ∃ vs, xs ++ us_ = vs := ⟨_, rfl⟩
  have hvlen : vs.length = xs.length + us_.length := by rw [← hvs, List.length_append]
  have hflat : (xs.flatMap encS ++ us_.flatMap encS) = vs.flatMap encS := by rw [← hvs, List.flatMap_append]
  have hSV : ∀ W, RW xs W → RW us_ W → RW vs W := fun W h1 h2 s hs => by
    rw [← hvs] at hs
    rcases List.mem_append.1 hs with hs | hs
    · exact h1 s hs
    · exact h2 s hs
  rw [hvs] at hpp hrr
  have H13 : All w w8 (ow w.heap.size 95 2 (.slice A6 vs.length c6) vs.length (vs.flatMap encS) :: (oku, SF Bx us_) :: (okx, SF Ax xs) :: ((fun k => k < w.heap.size), CR Ay ys) :: (LP ++ LG)) := by
    rw [hvlen, ← hflat]
    exact H12
  have hn2 := gnew_c (A := A6) (c := c6) (xs := vs) H13 (fun W hW => ⟨(ow_SM (hW.at 0 rfl)).2, hSV W (hW.at 2 rfl : SF Ax xs W).2 (hW.at 1 rfl : SF Bx us_ W).2⟩) (by omega) hrr.out
  rw [hpp.out, hvlen] at hn2
  obtain ⟨K, hK⟩ : ∃ K, gridE (sa ++ sb) = K := ⟨_, rfl⟩
  rw [hK] at hn2
  clear H10 H11 H12 hflat hvs hSV hrr hR2 hvlen hpp
  refine hn2.mono ?_
  rintro e w9 ⟨hp_, rfl, hNH⟩
  obtain ⟨LH, H14, hh1, hh2⟩ : ∃ LH : List F2, All w w9 (LH ++ (((fun k => k < w.heap.size), CR Ay ys) :: (LP ++ LG))) ∧ (K ≠ 0 → hp_ = none) ∧ (K = 0 → ∃ hs, pl hs = sa ++ sb ∧ ∀ W, Fx LH W → GB hp_ hs W) := by
    by_cases h0 : K = 0
    · obtain ⟨b, Ag, cg, gs, okg, rfl, hb, hpg, hcg, H8⟩ := hNH.good h0
      exact ⟨[bx b 159 #[.slice Ag gs.length cg], (okg, SF Ag gs)], ((H8.cut 2).cut 2).cut 2, fun h => absurd h0 h, fun _ => ⟨gs, hpg, fun W h => .inr ⟨b, Ag, cg, rfl, Fx.at h (i := 0) rfl, Fx.at h (i := 1) rfl⟩⟩⟩
    · obtain ⟨rfl, H8⟩ := hNH.bad h0
      exact ⟨[], ((H8.cut 0).cut 0).cut 0, fun _ => rfl, fun h => absurd h h0⟩
  have H15 : All w w9 (((fun k => k < w.heap.size), CR Ay ys) :: (LH ++ (LP ++ LG))) := H14.perm List.perm_middle
  replace hh2 := Aside0.mk hh2
  replace hg2 := Aside0.mk hg2
  clear hNH hn2 H13 H14
  by_cases hE0 : E = 0
  rotate_left
  · have dE : (E != 0) = true := by simpa using hE0
    clear hE0 hp hg1 hh1
    go_wp2_with fail
    refine gknown_c.on H15 fun w10 H16 => ?_
    go_wp2
    go_ret
    exact ⟨rfl, H16.old⟩
  by_cases hG0 : G = 0
  rotate_left
  · have dG : (G != 0) = true := by simpa using hG0
    subst hE0
    clear hG0 hp hg1 hh1
    go_wp2_with fail
    refine gknown_c.on H15 fun w10 H16 => ?_
    go_wp2
    go_ret
    exact ⟨rfl, H16.old⟩
  by_cases hK0 : K = 0
  rotate_left
  · have dK : (K != 0) = true := by simpa using hK0
    subst hE0 hG0
    clear hK0 hp hg1 hh1
    go_wp2_with fail
    refine gknown_c.on H15 fun w10 H16 => ?_
    go_wp2
    go_ret
    exact ⟨rfl, H16.old⟩
  subst hE0 hG0 hK0
  obtain ⟨gs, hpg, hGB⟩ := hg2.out rfl
  obtain ⟨hs, hph, hHB⟩ := hh2.out rfl
  have hPT := hP.out rfl
  obtain ⟨TL, hTL⟩ : ∃ TL, LH ++ (LP ++ LG) = TL := ⟨_, rfl⟩
  have hF : ∀ W, Fx TL W → GB gp gs W ∧ GB hp_ hs W ∧ PT (.pointer p) ql W := fun W h => by
    rw [← hTL] at h
    exact ⟨hGB W fun f hf => h f (by simp [hf]), hHB W fun f hf => h f (by simp [hf]), hPT W fun f hf => h f (by simp [hf])⟩
  obtain ⟨hchk, h64⟩ := gridE_ok hK
  rw [hTL] at H15
  have hgl : gs.length ≤ 1000 := by rw [← pl_len, hpg]; rw [List.length_append] at h64; omega
  have hhl : hs.length ≤ 1000 := by rw [← pl_len, hph]; omega
  have hck1 : ∀ s ∈ pl gs, chk s = 0 := by rw [hpg]; exact (gridE_ok hG).1
  have hck2 : ∀ s ∈ pl hs, chk s = 0 := by rw [hph]; exact hchk
  replace hF := Aside0.mk hF
  replace hck1 := Aside0.mk hck1
  replace hck2 := Aside0.mk hck2
  replace hpg := Aside0.mk hpg
  replace hph := Aside0.mk hph
  have hr := rows_c (qi := 0) (l := ly) (ci := cy) H15 (by rw [hys.out]; rfl) hyc
  rw [hys.out] at hr
  clear hg2 hh2 hP hGB hHB hPT hTL hchk h64 hG hK hp hg1 hh1
  go_wp2_with fail
  refine hr.mono ?_
  rintro e w10 ⟨Ar, cr, rfl, H16⟩
  have H17 := H16.turn 0 rfl (T' := CR Ar ys) ((H16.get 0 rfl).imp fun W hW => (ow_CR (n := 0) hW).2)
  have H18 := H17.row w.heap.size 79 2
  have hyl2 := Nat.le_trans hyl (show 40 ≤ 1000 by decide)
  clear hr H15 H16 H17
  go_wp2_with fail
  go_loopg [23, 24] ys.length (fun kx s23 s24 wr => ∃ (i : Nat) (Ab : Option Addr) (cb : Nat), s23 = .slice Ab (both (ys.take i)).length cb ∧ s24 = .int .i64 (i : Int) ∧ i ≤ ys.length ∧ ys.length - i ≤ kx ∧ Aside0 (∀ r ∈ ys.take i, I64 (-r.2)) ∧
    All w wr (ow w.heap.size 79 2 (.slice Ab (both (ys.take i)).length cb) (both (ys.take i)).length ((both (ys.take i)).flatMap encR) :: (Ob (.slice Ar ys.length cr), CR Ar ys) :: ((fun k => k < w.heap.size), CR Ay ys) :: TL))
  case atStart => exact ⟨0, none, 0, rfl, rfl, Nat.zero_le _, by omega, ⟨fun r hr => by cases hr⟩, H18⟩
  case round =>
    clear H18
    obtain ⟨i, Ab, cb, rfl, rfl, hil, hik, hni, H⟩ := hrel
    by_cases hlt : i < ys.length
    · have hli : (i : Int) < (ys.length : Int) := Int.ofNat_lt.2 hlt
      obtain ⟨ad, rfl, hc0, hc1⟩ := at_krow (H.at 1 rfl) hlt
      have hcc : ∀ W, CR (some ad) ys W → W.cell? (ad.add (i * 2)) = some (.string ys[i].1) ∧ W.cell? ⟨(ad.add (i * 2)).block, (ad.add (i * 2)).off + 1, none⟩ = some (.int .i64 ys[i].2) := fun W hW => by
        obtain ⟨ad', e, q0, q1⟩ := at_krow hW hlt
        cases e
        exact ⟨q0, q1⟩
      have hnI := hyg.out _ (List.getElem_mem hlt)
      have hbn : both (ys.take (i + 1)) = both (ys.take i) ++ [ys[i], (ys[i].1, -ys[i].2)] := by rw [List.take_succ_eq_append_getElem hlt, both_snoc]
      have hbl : (both (ys.take i)).length ≤ 80 := by rw [both_len, List.length_take]; omega
      have hnn : I64 (-ys[i].2) → ∀ r ∈ ys.take (i + 1), I64 (-r.2) := fun h r hr => by
        rw [List.take_succ_eq_append_getElem hlt] at hr
        rcases List.mem_append.1 hr with hr | hr
        · exact hni.out r hr
        · rw [List.mem_singleton.1 hr]; exact h
      obtain ⟨r, hr⟩ : ∃ r, ys[i] = r := ⟨_, rfl⟩
      rw [hr] at hc0 hc1 hcc hnI hbn hnn
      obtain ⟨s, n⟩ := r
      simp only at hc0 hc1 hcc hnI hbn hnn
      have hsb := fun w => sub_c (w := w) (a := 0) (b := n) (by unfold I64; omega) hnI
      replace hcc := Aside0.mk hcc
      replace hbn := Aside0.mk hbn
      clear hr hc0
      by_cases hI : I64 (0 - n)
      · have e1 : cut64 (0 - n) = -n := by unfold cut64; rw [if_pos hI]; omega
        have e2 : er64 (0 - n) = 0 := by unfold er64; rw [if_pos hI]
        have hI2 : I64 (-n) := by unfold I64 at hI ⊢; omega
        simp only [e1, e2] at hsb
        have hnn2 := Aside0.mk (hnn hI2)
        generalize both (ys.take i) = bo at *
        have hsz : (bo.length + 2) * 24 ≤ 140737488355328 := by omega
        clear e1 e2 hI hnn hI2
        go_wp2_with fail
        refine (hsb _).on H fun w11 H2 => ?_
        clear H hsb hc1
        go_wp2_with fail
        refine planD_ [13] (true, [([], []), ([], []), ([], []), ([1, 2], [1, 2]), ([3], [3]), ([], []), ([], []), ([5, 6], [5, 6]), ([7], [7]), ([8], [8]), ([], []), ([9, 10], [9, 10]), ([4, 11], [4, 11]), ([0, 12], [0, 12]), ([13, 13, 0, 1, 2, 3, 4, 5, 6, 7, 8, 9, 10, 11, 12, 13], [0, 13])]) [.p 0, .p 1, .p 2, .p 3, .t 4, .p 5, .p 6, .p 7, .p 8, .t 9, .p 10, .p 11, .c 12, .l 13, .p 14] H2 (by kernel_rfl) (by kernel_rfl) rfl rfl (by kernel_rfl) (by intro c a w d v h; cases d <;> exact h) (fun w12 H3 => ?_)
        refine pl_P (h := ?_)
        refine pl_P (h := ?_)
        refine pl_P (h := ?_)
        refine pl_P (h := ?_)
        refine pl_C2 H3 (fun W hW => hcc.out W (hW.at 1 rfl)) (h := ?_)
        refine pl_P (h := ?_)
        refine pl_P (h := ?_)
        refine pl_P (h := ?_)
        refine pl_P (h := ?_)
        refine pl_C H3 (fun W hW => (hcc.out W (hW.at 1 rfl)).1) (h := ?_)
        refine pl_P (h := ?_)
        refine pl_P (h := ?_)
        have HL : All w (w12.alloc (.cells #[.string s, .int .i64 n, .string s, .int .i64 (-n)] 79)) (_ :: _) := All.rowsR H3 [(s, n), (s, -n)] 79 w12.heap.size rfl (Nat.le_of_ble_eq_true rfl)
        refine pl_R HL (fun H4 => ?_)
        refine pl_ACL krow encR (fun _ _ _ h => krow_K h) (fun _ => rfl) rfl encR_one (ys := [(s, n), (s, -n)]) (.agg #[.string ByteArray.empty, .int .i64 0]) 1 H4 rfl (H4.at 0 rfl) (Nat.le_refl _) H4.old.size hsz (by kernel_rfl) Try.underlying23 rfl (by decide) (by decide) (h := fun A1 c1 w13 H5 z5 => ?_)
        refine pl_P (h := ?_)
        refine pl_done ?_
        clear H2 H3 H4
        go_wp2_with fail
        go_roundg (ys.length - (i + 1))
        case measure => exact En.meas hik hlt
        case rel => exact ⟨i + 1, A1, c1, by rw [hbn.out, List.length_append]; rfl, rfl, hlt, Nat.le_refl _, hnn2, by rw [hbn.out, List.length_append, List.flatMap_append]; exact H5.tail⟩
      · have e2 : er64 (0 - n) = 4 := by unfold er64; rw [if_neg hI]
        simp only [e2] at hsb
        clear hI hnn e2
        go_wp2_with fail
        refine (hsb _).on H fun w11 H2 => ?_
        clear H hsb hc1
        go_wp2_with fail
        refine gknown_c.on H2 fun w12 H3 => ?_
        go_wp2
        go_ret
        exact ⟨rfl, H3.old⟩
    · obtain rfl : i = ys.length := Nat.le_antisymm hil (Nat.le_of_not_lt hlt)
      rw [List.take_length] at H hni
      rw [List.take_length]
      have hbI := both_I64 hyg.out hni.out
      have hbl : (both ys).length ≤ 1000 := by rw [both_len]; omega
      have hlt2 : ¬ ((ys.length : Int) < (ys.length : Int)) := Int.lt_irrefl _
      clear hlt hik hil hni
      have hFs : ∀ (L' : List F2) W, Fx (L' ++ TL) W → GB gp gs W ∧ GB hp_ hs W ∧ PT (.pointer p) ql W := fun L' W h => hF.out W fun f hf => h f (List.mem_append_right _ hf)
      have hm1 := margin_c (cr := cr) (ga := gp) (pa := p) (gs := gs) (rs := ys) (l := ql) (Ar := Ar) H (fun W h => ⟨(hFs [_, _, _] W h).1, Fx.at h (i := 1) rfl, (hFs [_, _, _] W h).2.2⟩) ho hck1.out hyl2 hgl hyg.out
      rw [hpg.out] at hm1
      have hU := margV_128 ql ys sa
      have hV := margV_128 ql ys (sa ++ sb)
      have hU0 := marg_nonneg ql ys sa
      have hV0 := marg_nonneg ql ys (sa ++ sb)
      have hle := marg_mono (l := ql) (rs := ys) (a := sa) (b := sb)
      have hlf := lsE_left (l := ql) (rs := ys) (a := sa) (b := sb)
      have hbo := both_marg (l := ql) (rs := ys) (sl := sa ++ sb)
      obtain ⟨U, hUe⟩ : ∃ U, margV ql ys sa = U := ⟨_, rfl⟩
      obtain ⟨EU, hEU⟩ : ∃ U, lsE ql ys sa = U := ⟨_, rfl⟩
      rw [hUe, hEU] at hm1
      go_wp2_with fail
      refine hm1.mono ?_
      rintro e w11 ⟨rfl, H2⟩
      have H3 := H2.box w11.heap.size 43 #[.int .i64 (hiW U), .int .u64 (loW U)]
      have hm2 := margin_c (cr := cr) (ga := hp_) (pa := p) (gs := hs) (rs := ys) (l := ql) (Ar := Ar) H3 (fun W h => ⟨(hFs [_, _, _, _] W h).2.1, Fx.at h (i := 2) rfl, (hFs [_, _, _, _] W h).2.2⟩) ho hck2.out hyl2 hhl hyg.out
      rw [hph.out] at hm2
      obtain ⟨V, hVe⟩ : ∃ U, margV ql ys (sa ++ sb) = U := ⟨_, rfl⟩
      obtain ⟨EV, hEV⟩ : ∃ U, lsE ql ys (sa ++ sb) = U := ⟨_, rfl⟩
      rw [hVe, hEV] at hm2
      clear hm1 H H2
      go_wp2_with fail
      refine hm2.mono ?_
      rintro e w12 ⟨rfl, H4⟩
      have H5 := H4.box w12.heap.size 43 #[.int .i64 (hiW V), .int .u64 (loW V)]
      have hm3 := margin_c (cr := cb) (ga := hp_) (pa := p) (gs := hs) (rs := both ys) (l := ql) (Ar := Ab) H5 (fun W h => ⟨(hFs [_, _, _, _, _] W h).2.1, (ow_CR (n := 0) (Fx.at h (i := 2) rfl)).2, (hFs [_, _, _, _, _] W h).2.2⟩) ho hck2.out hbl hhl hbI
      rw [hph.out] at hm3
      obtain ⟨X, hXe⟩ : ∃ U, margV ql (both ys) (sa ++ sb) = U := ⟨_, rfl⟩
      obtain ⟨EX, hEX⟩ : ∃ U, lsE ql (both ys) (sa ++ sb) = U := ⟨_, rfl⟩
      rw [hXe, hEX] at hm3
      rw [hUe] at hU hU0 hle
      rw [hVe] at hV hV0 hle
      rw [hEV] at hle hlf hbo
      rw [hEU] at hlf
      rw [hEX, hXe] at hbo
      clear hm2 H3 H4 hUe hEU hVe hEV hXe hEX hF hFs hck1 hck2 hpg hph hbI
      generalize both ys = bo at *
      go_wp2_with fail
      refine hm3.mono ?_
      rintro e w13 ⟨rfl, H6⟩
      have H7 := H6.box w13.heap.size 43 #[.int .i64 (hiW X), .int .u64 (loW X)]
      clear hm3 H5 H6
      by_cases hk : EV = 0
      · obtain rfl := hlf hk
        obtain ⟨hx1, hx2⟩ := hbo hk
        have hle2 := hle hk
        subst hk hx1 hx2
        have c1 := fun w => compare_c (w := w) hU hV
        have c2 := fun w => sign_c (w := w) hU
        have c3 := fun w => sign_c (w := w) hV
        have c4 := fun w => sign_c (w := w) (v := 0) (by unfold I128; omega)
        have hs0 : sgn 0 0 = 0 := rfl
        rw [hs0] at c4
        have d1 : decide (sgn U V > 0) = false := decide_eq_false (by unfold sgn; split <;> (try split) <;> omega)
        have d2 : decide (sgn U 0 < 0) = false := decide_eq_false (by unfold sgn; split <;> (try split) <;> omega)
        have d3 : decide (sgn V 0 < 0) = false := decide_eq_false (by unfold sgn; split <;> (try split) <;> omega)
        generalize sgn U V = g1 at *
        generalize sgn U 0 = g2 at *
        generalize sgn V 0 = g3 at *
        have r0 := H7.rd 1 rfl
        have r1 := H7.rd 2 rfl
        clear hle hlf hbo hU hV hU0 hV0 hle2 hs0
        go_wp2_with fail
        refine (c1 _).on H7 fun w14 H8 => ?_
        have r2 := H8.rd 2 rfl
        clear H7 r0 r1
        go_wp2_with fail
        refine (c2 _).on H8 fun w15 H9 => ?_
        have r3 := H9.rd 1 rfl
        clear H8 r2
        go_wp2_with fail
        refine (c3 _).on H9 fun w16 H10 => ?_
        clear H9 r3
        go_wp2_with fail
        refine gknown_c.on H10 fun w17 H11 => ?_
        have r4 := H11.rd 0 rfl
        clear H10
        go_wp2_with fail
        refine (c4 _).on H11 fun w18 H12 => ?_
        go_wp2
        go_ret
        exact ⟨rfl, H12.old⟩
      · have dE : (EV == 0) = false := by simpa using hk
        have dE2 : (EV != 0) = true := by simpa using hk
        clear hk hle hlf hbo
        go_wp2_with fail
        refine gknown_c.on H7 fun w14 H8 => ?_
        go_wp2
        go_ret
        exact ⟨rfl, H8.old⟩
end Go.Proofs.Ythhgcjlgnafdcaa.Gm
end
