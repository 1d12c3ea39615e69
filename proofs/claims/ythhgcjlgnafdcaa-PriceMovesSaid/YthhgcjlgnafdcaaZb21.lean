/- Texts of this seat, put together (Zb21). -/
import Derived.Test.YthhgcjlgnafdcaaZb3
import Derived.Test.YthhgcjlgnafdcaaZb20
section
namespace Go.Proofs.Ythhgcjlgnafdcaa.Rr
set_option linter.unusedSimpArgs false
set_option linter.unusedVariables false
open Go Go.RowKit Go.ChangeShapes Go.WideShapes Go.ChangeAt Go.Deep Go.Proofs.YthhgcjlgnafdcaaW.PrintWords Go.Proofs.YthhgcjlgnafdcaaW.PrintMore Go.Proofs.YthhgcjlgnafdcaaW.PrintLast Go.Proofs.Ythhgcjlgnafdcaa.Hd Go.Proofs.Ythhgcjlgnafdcaa.Opn Go.Proofs.Ythhgcjlgnafdcaa.Pp Go.Proofs.Ythhgcjlgnafdcaa.Pq
open Go.Proofs.Ythhgcjlgnafdcaa.Nu (I64 U64 I128 sgn)
structure RA where
  A : Option Addr
  cap : Nat
  l : PR
def RA.val (x : RA) : Value := .slice x.A x.l.length x.cap
structure GoodA (w : World) (x : RA) : Prop where
  cap : x.l.length ≤ x.cap
  rows : CR x.A x.l w
  i64 : ∀ r ∈ x.l, I64 r.2
theorem arg_c {w : World} (x : RA) (g : GoodA w x) : All w w [(fun k => k < w.heap.size, CR x.A (x.l.take 40))] :=
  (All.start w).arg ((held_C g.rows).imp fun W h => C_cut h _)
section
variable {H : Type} {enc : TypeId × Value → H} {P : Program} {w : World} {base : Nat} {sp : Nat → Bool} {held : Bool} {t e : TypeId}
theorem openRow {n : Nat} {cs : List Value} {y : DataW H × List MemPlace} (h : DataW.trod enc Try.prog w base sp held n 71 cs = some y) : ∃ x : ByteArray × Int, krow.K w x cs ∧ I64 x.2 := by
  obtain ⟨m, hl, hf⟩ := trod_flat (flat_of (P := Try.prog) Try.underlying71 (by kernel_rfl)) h
  obtain ⟨v0, y0, e0, t0⟩ := hf 0 _ rfl
  obtain ⟨v1, y1, e1, t1⟩ := hf 1 _ rfl
  obtain ⟨x0, q0, _, _⟩ := DataW.trod_string Try.underlying9 t0
  obtain ⟨x1, q1, _, g1⟩ := DataW.trod_int Try.underlying2 t1
  simp only [List.cons.injEq, and_true] at q0 q1
  subst q0 q1
  refine ⟨(x0, x1), ?_, i64_of g1⟩
  have : cs = encR (x0, x1) := by
    match cs, hl with
    | [a, b], _ =>
      simp at e0 e1
      simp [e0, e1, encR]
  rw [this]
  exact krow_mk w (x0, x1)
set_option maxRecDepth 100000 in
theorem openA {v : Value} {d : DataW H} {ps : List MemPlace} {r : Reach} {b0 : Nat} (hval : Value.okWide Try.prog w r b0 22 v) (h : DataW.Trod enc Try.prog w base sp held 22 v d ps) : ∃ x : RA, v = x.val ∧ GoodA w x := by
  obtain ⟨A, len, cap, rfl⟩ := okWide_slice Try.underlying22 hval
  obtain ⟨l, rfl, hc, hC, hg⟩ := open_sliceK krow (ByteArray.empty, 0) (fun x => I64 x.2) Try.underlying22 (by kernel_rfl) (fun n cs y hy => openRow hy) h
  exact ⟨⟨A, cap, l⟩, rfl, hc, hC, hg⟩
end
end Go.Proofs.Ythhgcjlgnafdcaa.Rr
end
section
namespace Go.Proofs.Ythhgcjlgnafdcaa.Pm
set_option linter.unusedSimpArgs false
set_option linter.unusedVariables false
open Go Go.RowKit Go.Proofs.YthhgcjlgnafdcaaW.PrintWords Go.Proofs.YthhgcjlgnafdcaaW.PrintLast Go.Proofs.Ythhgcjlgnafdcaa.Hd Go.Proofs.Ythhgcjlgnafdcaa.Os Go.Proofs.Ythhgcjlgnafdcaa.Tb Go.Proofs.Ythhgcjlgnafdcaa.Tm Go.Proofs.Ythhgcjlgnafdcaa.Px Go.Proofs.Ythhgcjlgnafdcaa.Wv Go.Proofs.Ythhgcjlgnafdcaa.Pp Go.Proofs.Ythhgcjlgnafdcaa.Pq Go.Proofs.Ythhgcjlgnafdcaa.Ps Go.Proofs.Ythhgcjlgnafdcaa.Pk Go.Proofs.Ythhgcjlgnafdcaa.Rp Go.Proofs.Ythhgcjlgnafdcaa.Ro Go.Proofs.Ythhgcjlgnafdcaa.Rw Go.Proofs.Ythhgcjlgnafdcaa.Rr
open Go.Proofs.Ythhgcjlgnafdcaa.Nu (I64 U64 I128 sgn)
theorem rmoved_c {n p q : Int} {w : World} (h : wrap64 (Int.tdiv (wrap64 (n * wrap64 (10000 + p))) 10000) = q) : Tells Try.prog 18 #[.int .i64 n, .int .i64 p] w (.int .i64 q) := by
  subst h
  unfold Tells
  go_enter Try.func18, Try.ntmps18
  go_wp2
  go_ret
  exact ⟨by first | rfl | simp, Below.refl _ _⟩
theorem mov_eq {n p : Int} (hn : 0 ≤ n ∧ n < 2147483648) (hp : -10000 ≤ p ∧ p ≤ 20000) : wrap64 (Int.tdiv (wrap64 (n * wrap64 (10000 + p))) 10000) = n * (10000 + p) / 10000 := by
  have h1 : wrap64 (10000 + p) = 10000 + p := by unfold wrap64; omega
  rw [h1]
  have h2 := mov_rng hn hp
  generalize n * (10000 + p) = X at *
  have h3 : wrap64 X = X := by unfold wrap64; omega
  rw [h3, Int.tdiv_eq_ediv_of_nonneg h2.1]
  unfold wrap64
  omega
set_option maxRecDepth 100000 in
set_option maxHeartbeats 8000000 in
theorem walk (x : RA) (s : ByteArray) (pts : Int) (hp : I64 pts) {w : World} (g : GoodA w x) : Calls Try.prog 3 #[x.val, .string s, .int .i64 pts] w fun e w' => e = .returned (.bool true) ∧ Below w.heap.size w w' := by
  have H0 := arg_c x g
  have h1 := rows_c (qi := 0) (l := x.l) (ci := x.cap) H0 rfl g.cap
  have hl : (x.l.take 40).length ≤ 1000 := by rw [List.length_take]; omega
  obtain ⟨A0, cap, l⟩ := x
  simp only at *
  unfold RA.val
  simp only
  generalize l.take 40 = rs at *
  clear g H0
  have ho := ofE_ok rs [] okP_nil
  obtain ⟨E, hE⟩ : ∃ E, (ofE [] rs).1 = E := ⟨_, rfl⟩
  obtain ⟨ql, hql⟩ : ∃ q, (ofE [] rs).2 = q := ⟨_, rfl⟩
  rw [hql] at ho
  have hrl : E = 0 → rofL rs = ql := fun h => by unfold rofL; rw [hE, if_pos h, hql]
  go_enter Try.func3, Try.ntmps3
  go_wp2_with fail
  refine h1.mono ?_
  rintro e w1 ⟨A, c, rfl, H1⟩
  have H2 := H1.turn 0 rfl (T' := CR A rs) ((H1.get 0 rfl).imp fun W hW => by
    obtain ⟨A', c', hA, -, -, hC⟩ := ow_C krow encR krow_mk (by decide) hW
    cases hA
    exact hC)
  have h2 := of_p (qi := 0) (ci := c) H2 rfl hl
  rw [hE] at h2
  clear h1 H1
  go_wp2_with fail
  refine h2.mono ?_
  rintro e w2 ⟨p, rfl, hN⟩
  clear h2 H2
  by_cases h0 : E = 0
  · obtain ⟨b, Ap, cp, rfl, hb, H3⟩ := (hN.good h0).at_
    rw [hql] at H3
    have h3 := rof_c (qi := 3) (ci := cap) H3 rfl hl
    rw [hE, hrl h0] at h3
    subst h0
    clear hN hE hql hrl hb
    go_wp2_with fail
    refine h3.mono ?_
    rintro e w3 ⟨d, Ad, cd, rfl, hd, H4⟩
    have hm := moved_c (s := s) (pts := pts) H4 (ask_p (i := 2) (j := 3) rfl rfl ho) ho hp
    have hlen := Nat.le_trans ho.len (show 32 ≤ 1000 by decide)
    have hgr := getV_rng ho s
    have hrg := fun W (hW : All w W _) => rget_c (d := d) (A := Ad) (l := ql) (c := cd) (L := [bx b 66 #[.slice Ap ql.length cp], ow w.heap.size 173 2 (.slice Ap ql.length cp) ql.length (flat (Tj.rows ql)), (Ob (Value.slice A rs.length c), CR A rs), ((fun k => k < w.heap.size), CR A0 rs)]) hW hlen s
    clear h3 H3 ho hlen
    unfold rgetV at hrg
    unfold movV movE at hm
    cases hh : has cmpS ql s with
    | false =>
      simp only [hh, Bool.false_eq_true, if_false, false_and] at hm hrg
      go_wp2_with fail
      refine hm.mono ?_
      rintro e w4 ⟨rfl, H5⟩
      clear hm H4
      go_wp2_with fail
      refine (hrg _ H5).on H5 fun w5 H6 => ?_
      clear H5 hrg
      go_wp2_with fail
      refine known_c.on H6 fun w6 H7 => ?_
      go_wp2
      go_ret
      exact ⟨rfl, H7.old⟩
    | true =>
      simp only [hh, if_true, true_and] at hm hrg
      generalize getV ql s = gv at *
      have d0 : decide (gv < 0) = false := decide_eq_false (by omega)
      by_cases h5 : -10000 ≤ pts ∧ pts ≤ 20000
      · rw [if_pos h5, if_pos h5] at hm
        have d1 : decide (pts < -10000) = false := decide_eq_false (by omega)
        have d2 : decide (pts > 20000) = false := decide_eq_false (by omega)
        have hmv := fun w => rmoved_c (w := w) (mov_eq hgr h5)
        have hr := mov_rng hgr h5
        have hq0 : 0 ≤ gv * (10000 + pts) / 10000 := by omega
        generalize gv * (10000 + pts) / 10000 = q at *
        have d3 : decide (q ≥ 0) = true := decide_eq_true hq0
        clear h5 hr hq0 hgr hp
        go_wp2_with fail
        refine hm.mono ?_
        rintro e w4 ⟨rfl, H5⟩
        clear hm H4
        go_wp2_with fail
        refine (hrg _ H5).on H5 fun w5 H6 => ?_
        clear H5 hrg
        go_wp2_with fail
        refine known_c.on H6 fun w6 H7 => ?_
        clear H6
        go_wp2_with fail
        refine (hmv _).on H7 fun w7 H8 => ?_
        go_wp2
        go_ret
        exact ⟨rfl, H8.old⟩
      · rw [if_neg h5, if_neg h5] at hm
        by_cases h6 : pts < -10000
        · have d1 : decide (pts < -10000) = true := decide_eq_true h6
          clear h5 h6
          go_wp2_with fail
          refine hm.mono ?_
          rintro e w4 ⟨rfl, H5⟩
          clear hm H4
          go_wp2_with fail
          refine (hrg _ H5).on H5 fun w5 H6 => ?_
          clear H5 hrg
          go_wp2_with fail
          refine known_c.on H6 fun w6 H7 => ?_
          go_wp2
          go_ret
          exact ⟨rfl, H7.old⟩
        · have d1 : decide (pts < -10000) = false := decide_eq_false h6
          have d2 : decide (pts > 20000) = true := decide_eq_true (by omega)
          clear h5 h6
          go_wp2_with fail
          refine hm.mono ?_
          rintro e w4 ⟨rfl, H5⟩
          clear hm H4
          go_wp2_with fail
          refine (hrg _ H5).on H5 fun w5 H6 => ?_
          clear H5 hrg
          go_wp2_with fail
          refine known_c.on H6 fun w6 H7 => ?_
          go_wp2
          go_ret
          exact ⟨rfl, H7.old⟩
  · obtain ⟨rfl, H3⟩ := hN.bad h0
    have h3 := rof_c (qi := 1) (ci := cap) H3 rfl hl
    rw [hE] at h3
    have h0' : (E == 0) = false := by simpa using h0
    have h0'' : (E != 0) = true := by simpa using h0
    clear hN hE hql hrl ho
    go_wp2_with fail
    refine h3.mono ?_
    rintro e w3 ⟨d, Ad, cd, rfl, hd, H4⟩
    clear h3 H3
    go_wp2_with fail
    refine known_c.on H4 fun w4 H5 => ?_
    go_wp2
    go_ret
    exact ⟨rfl, H5.old⟩
end Go.Proofs.Ythhgcjlgnafdcaa.Pm
end
