/- Texts of this seat, put together (Zc24). -/
import Derived.Deep.DeepCutAuto
import Derived.Deep.CutBlock
import Derived.Test.YthhgcjlgnafdcaaZc21
import Derived.Test.YthhgcjlgnafdcaaZc23
section
namespace Go.Proofs.Ythhgcjlgnafdcaa.Pt
set_option linter.unusedSimpArgs false
set_option linter.unusedVariables false
open Go Go.RowKit Go.Proofs.YthhgcjlgnafdcaaW.PrintWords Go.Proofs.YthhgcjlgnafdcaaW.PrintLast Go.Proofs.Ythhgcjlgnafdcaa.Hd Go.Proofs.Ythhgcjlgnafdcaa.Os Go.Proofs.Ythhgcjlgnafdcaa.Tb Go.Proofs.Ythhgcjlgnafdcaa.Tm Go.Proofs.Ythhgcjlgnafdcaa.Px Go.Proofs.Ythhgcjlgnafdcaa.Wv Go.Proofs.Ythhgcjlgnafdcaa.Pp Go.Proofs.Ythhgcjlgnafdcaa.Pq Go.Proofs.Ythhgcjlgnafdcaa.Ps Go.Proofs.Ythhgcjlgnafdcaa.Pk Go.Proofs.Ythhgcjlgnafdcaa.Rp Go.Proofs.Ythhgcjlgnafdcaa.Ro Go.Proofs.Ythhgcjlgnafdcaa.Rw Go.Proofs.Ythhgcjlgnafdcaa.Rr Go.Proofs.Ythhgcjlgnafdcaa.Rx Go.Proofs.Ythhgcjlgnafdcaa.Rc Go.Proofs.Ythhgcjlgnafdcaa.Rv
open Go.Proofs.Ythhgcjlgnafdcaa.Nu (I64 U64 I128 sgn)
section
variable {P : Program} {ops : Array Oper} {Q : Exit → Act → World → Prop} {w0 w : World} {L : List F2} {a : Act}
theorem planW_ {id n : Nat} (L2 : List F2) (ds : List Nat) (T : Bool × List (List Nat × List Nat)) (pl : List St) (H : All w0 w L) (hs : ∀ W, All w0 W L → All w0 W L2) (hm : P.follows .mixedOrders = true) (hT : rtab .any ops = T) (hn : ops.size = n) (hl : pl.length = n) (hc : planB ds T (List.replicate n false) (.leaf pl) = true)
    (hQ : ∀ c a w d v, Q (.panic c) (Act.put a d v) w → Q (.panic c) a w)
    (h : ∀ w1, All w0 w1 L → wpPl P ops Q (fun W => All w0 W L2) (Q .normal) pl a w1) : (Code.region id ops true).wp P Q a w := by
  refine start_ (S := fun W => All w0 W L2) (ds := ds) (Array.replicate n false) hm hn rfl (hs _ H.drew) fun hS => ?_
  have hl' : (Pl.leaf pl).len = n := hl
  rw [← hl']
  exact wpT_any hT hQ (.leaf pl) _ _ _ (by rw [Array.toList_replicate, hl']; exact hc) (h _ H.drew)
end
theorem flat_rows : ∀ l : PR, flat (Tj.rows l) = l.flatMap encR
  | [] => rfl
  | r :: l => by
    rw [List.flatMap_cons, ← flat_rows l]
    rfl
def ifF (E : Int) (F : F2) : F2 := if E = 0 then F else ((fun _ => False), fun _ => True)
theorem ifF_no {E : Int} (h : E ≠ 0) (F : F2) : ifF E F = ((fun _ => False), fun _ => True) := if_neg h
theorem All.none {w0 w : World} {L : List F2} (H : All w0 w L) : All w0 w (((fun _ => False), fun _ => True) :: L) :=
  H.put (ok := fun _ => False) (T := fun _ => True) ⟨(fun k h => h.elim), fun W _ => trivial⟩ (fun _ _ _ h => h.elim)
theorem NewP.facts {w0 w : World} {rs : PR} {L : List F2} {p : Option Addr} {E : Int} (h : NewP w0 w rs L p E) : ∃ b A c, (E = 0 → p = some ⟨b, 0, none⟩) ∧ (E ≠ 0 → p = none) ∧ (E = 0 → w0.heap.size ≤ b) ∧
    All w0 w (ifF E (bx b 66 #[.slice A (ofE [] rs).2.length c]) :: ifF E (ow w0.heap.size 173 2 (.slice A (ofE [] rs).2.length c) (ofE [] rs).2.length (flat (Tj.rows (ofE [] rs).2))) :: L) := by
  by_cases h0 : E = 0
  · obtain ⟨b, A, c, hp, hb, H⟩ := (h.good h0).at_
    subst h0
    exact ⟨b, A, c, fun _ => hp, fun h => absurd rfl h, fun _ => hb, H⟩
  · obtain ⟨hp, H⟩ := h.bad h0
    refine ⟨0, Option.none, 0, fun h => absurd h h0, fun _ => hp, fun h => absurd h h0, ?_⟩
    rw [ifF_no h0, ifF_no h0]
    exact All.none (All.none H)
set_option maxRecDepth 100000 in
set_option maxHeartbeats 8000000 in
theorem walk (x y : RA) {w : World} (g : GoodA w x) (g2 : GoodA w y) : Calls Try.prog 5 #[x.val, y.val] w fun e w' => e = .returned (.bool true) ∧ Below w.heap.size w w' := by
  have H0 := (arg_c x g).arg ((held_C g2.rows).imp fun W h => C_cut h 40)
  have h1 := rows_c (qi := 1) (l := x.l) (ci := x.cap) H0 rfl g.cap
  have hr2 := fun {L : List F2} (q : Nat) (w1 : World) (H : All w w1 L) (hq : L[q]? = some ((fun k => k < w.heap.size), CR y.A (y.l.take 40))) => rows_c (qi := q) (l := y.l) (ci := y.cap) H hq g2.cap
  have hl : (x.l.take 40).length ≤ 1000 := by rw [List.length_take]; omega
  have hz : (y.l.take 40).length ≤ 1000 := by rw [List.length_take]; omega
  obtain ⟨A0, cap, l⟩ := x
  obtain ⟨A9, cap9, l9⟩ := y
  simp only at *
  unfold RA.val
  simp only
  generalize l.take 40 = rs at *
  generalize l9.take 40 = zs at *
  clear g g2 H0
  have ho := ofE_ok rs [] okP_nil
  obtain ⟨E, hE⟩ : ∃ E, (ofE [] rs).1 = E := ⟨_, rfl⟩
  obtain ⟨ql, hql⟩ : ∃ q, (ofE [] rs).2 = q := ⟨_, rfl⟩
  have hrl : rofL rs = if E = 0 then ql else [] := by unfold rofL; rw [hE, hql]
  rw [hql] at ho
  replace hr2 := fun {L : List F2} q w1 => Aside0.mk (@hr2 L q w1)
  go_enter Try.func5, Try.ntmps5
  go_wp2_with fail
  refine h1.mono ?_
  rintro e w1 ⟨A, c, rfl, H1⟩
  have H2 := H1.turn 0 rfl (T' := CR A rs) ((H1.get 0 rfl).imp fun W hW => by
    obtain ⟨A', c', hA, -, -, hC⟩ := ow_C krow encR krow_mk (by decide) hW
    cases hA
    exact hC)
  have h2 := of_p (qi := 0) (ci := c) H2 rfl hl
  rw [hE] at h2
  clear h1 H1
  go_wp2_with fail
  refine h2.mono ?_
  rintro e w2 ⟨p, rfl, hN⟩
  obtain ⟨b, Ap, cp, hp0, hp1, hb, H3⟩ := Pt.NewP.facts hN
  rw [hql] at H3
  have h3 := rof_c (qi := 4) (ci := cap) H3 rfl hl
  rw [hE, hrl] at h3
  clear h2 H2 hN hE hql hrl
  obtain ⟨R, hR⟩ : ∃ R, (if E = 0 then ql else []) = R := ⟨_, rfl⟩
  rw [hR] at h3
  replace hp0 := Aside0.mk hp0
  replace hp1 := Aside0.mk hp1
  replace hb := Aside0.mk hb
  replace hR := Aside0.mk hR
  go_wp2_with fail
  refine h3.mono ?_
  rintro e w3 ⟨d, Ad, cd, rfl, hd, H4⟩
  clear h3 H3
  go_upto_region 4 with fail
  go_cut [45] (fun s45 wx => s45 = .bool false ∧ All w wx (bx d 68 #[.slice Ad R.length cd] :: owR w.heap.size Ad R cd :: ifF E (bx b 66 #[.slice Ap ql.length cp]) :: ifF E (ow w.heap.size 173 2 (.slice Ap ql.length cp) ql.length (flat (Tj.rows ql))) :: (Ob (.slice A rs.length c), CR A rs) :: ((fun k => k < w.heap.size), CR A9 zs) :: [((fun k => k < w.heap.size), CR A0 rs)]))
  case first =>
    by_cases h0 : E = 0
    · obtain rfl := hp0.out h0
      subst h0
      go_wp2_with fail
      go_meet
      exact ⟨rfl, H4⟩
    · obtain rfl := hp1.out h0
      have h0' : (E == 0) = false := by simpa using h0
      have h0'' : (E != 0) = true := by simpa using h0
      go_wp2_with fail
      go_meet
      exact ⟨rfl, H4⟩
  case rest =>
  obtain ⟨rfl, H5⟩ := hcut
  clear H4
  have mk : ∀ W, All w W [((fun k => k < w.heap.size), CR A9 zs), ((fun k => k < w.heap.size), CR A0 rs)] → All w ((W.alloc (.cells #[.slice none 0 0] 66 (0, 0))).alloc (.cells #[.slice none 0 0] 68 (0, 0)))
      (bx (W.heap.size + 1) 68 #[.slice none 0 0] :: owR w.heap.size none [] 0 :: bx W.heap.size 66 #[.slice none 0 0] :: ow w.heap.size 173 2 (.slice none 0 0) 0 [] :: [((fun k => k < w.heap.size), CR A9 zs)]) := fun W H =>
    ((((H.cut 1).row w.heap.size 173 2).box W.heap.size 66 #[.slice none 0 0]).row w.heap.size 71 2).box (W.heap.size + 1) 68 #[.slice none 0 0]
  go_upto_if 47 with fail
  go_cut [7, 9] (fun s7 s9 wx => ∃ (b d : Nat) (l : PR) (Ap : Option Addr) (cp : Nat) (Ad : Option Addr) (cd : Nat), s7 = .pointer (some ⟨b, 0, none⟩) ∧ s9 = .pointer (some ⟨d, 0, none⟩) ∧ w.heap.size ≤ b ∧ w.heap.size ≤ d ∧ OkP l ∧
    All w wx (bx d 68 #[.slice Ad l.length cd] :: owR w.heap.size Ad l cd :: bx b 66 #[.slice Ap l.length cp] :: ow w.heap.size 173 2 (.slice Ap l.length cp) l.length (flat (Tj.rows l)) :: [((fun k => k < w.heap.size), CR A9 zs)]))
  case first =>
    by_cases h0 : E = 0
    · obtain rfl := hp0.out h0
      subst h0
      have hbb := hb.out rfl
      obtain rfl : ql = R := hR.out
      go_wp2_with fail
      go_meet
      exact ⟨b, d, ql, Ap, cp, Ad, cd, rfl, rfl, hbb, hd, ho, (H5.cut 4).cut 5⟩
    · have hbb := H5.old.size
      have hbb2 := Nat.le_succ_of_le hbb
      have h0'' : (E != 0) = true := by simpa using h0
      have H6 := mk _ (H5.drop 5)
      clear H5 mk
      go_wp2_with fail
      go_meet
      exact ⟨_, _, [], none, 0, none, 0, rfl, rfl, hbb, hbb2, okP_nil, H6⟩
  case rest =>
  obtain ⟨b, d, l, Ap, cp, Ad, cd, rfl, rfl, hb, hd, ho, H6⟩ := hcut
  clear mk H5
  go_wp2_with fail
  refine ((hr2 4 _).out H6 rfl).mono ?_
  rintro e w4 ⟨Az, cz, rfl, H7⟩
  have H8 := (H7.tail.front 3 rfl).front 3 rfl
  clear H6 H7 hr2
  go_wp2_with fail
  go_loopg [13] zs.length (fun kx s13 wr => ∃ (i : Nat) (l : PR) (Ap : Option Addr) (cp : Nat) (Ad : Option Addr) (cd : Nat), s13 = .int .i64 (i : Int) ∧ i ≤ zs.length ∧ zs.length - i ≤ kx ∧ OkP l ∧
    All w wr (bx b 66 #[.slice Ap l.length cp] :: ow w.heap.size 173 2 (.slice Ap l.length cp) l.length (flat (Tj.rows l)) :: bx d 68 #[.slice Ad l.length cd] :: owR w.heap.size Ad l cd :: [((fun k => k < w.heap.size), CR A9 zs)]))
  case atStart => exact ⟨0, l, Ap, cp, Ad, cd, rfl, Nat.zero_le _, by omega, ho, H8⟩
  case round =>
    clear H8 ho
    obtain ⟨i, l, Ap, cp, Ad, cd, rfl, hil, hik, ho, H⟩ := hrel
    by_cases hlt : i < zs.length
    · have hli : (i : Int) < (zs.length : Int) := Int.ofNat_lt.2 hlt
      obtain ⟨ad, rfl, hc0, hc1⟩ := at_krow (H.at 4 rfl) hlt
      have hc : ∀ W, All w W [((fun k => k < w.heap.size), CR (some ad) zs)] → W.cell? (ad.add (i * 2)) = some (.string zs[i].1) ∧ W.cell? ⟨(ad.add (i * 2)).block, (ad.add (i * 2)).off + 1, none⟩ = some (.int .i64 zs[i].2) := fun W hW => by
        obtain ⟨ad', e, q0, q1⟩ := at_krow (hW.at 0 rfl) hlt
        cases e
        exact ⟨q0, q1⟩
      obtain ⟨r, hr⟩ : ∃ r, zs[i] = r := ⟨_, rfl⟩
      rw [hr] at hc0 hc1 hc
      obtain ⟨s, n⟩ := r
      simp only at hc0 hc1 hc
      replace hc := Aside0.mk hc
      clear hr hc0 hc1
      have hll := Nat.le_trans ho.len (show 32 ≤ 1000 by decide)
      have hok2 := ho.set s n
      have hst1 := fun w1 H1 => set_p (w0 := w) (w := w1) (L := [bx d 68 #[.slice Ad l.length cd], owR w.heap.size Ad l cd, ((fun k => k < w.heap.size), CR (some ad) zs)]) (b := b) (c := cp) (A := Ap) (l := l) (tt := 66) (s := s) (n := n) H1 hb ho.up hll
      have hst2 := fun w1 (F G : F2) H1 => rset_c (w0 := w) (w := w1) (L := [F, G, ((fun k => k < w.heap.size), CR (some ad) zs)]) (d := d) (c := cd) (A := Ad) (l := l) (s := s) (n := n) H1 hd hll
      obtain ⟨sl, hsl⟩ : ∃ sl, setL l s n = sl := ⟨_, rfl⟩
      obtain ⟨se, hse⟩ : ∃ se, setE l s n = se := ⟨_, rfl⟩
      rw [hsl, hse] at hst1
      simp only [hsl, hse] at hst2
      rw [hsl] at hok2
      clear hsl hse
      go_wp2_with fail
      refine planW_ [((fun k => k < w.heap.size), CR (some ad) zs)] [23] (true, [([], []), ([], []), ([], []), ([1, 2], [1, 2]), ([3], [3]), ([4], [4]), ([], []), ([], []), ([6, 7], [6, 7]), ([8], [8]), ([9], [9]), ([0, 5, 10], [0, 5, 10]), ([], []), ([], []), ([], []), ([13, 14], [13, 14]), ([15], [15]), ([16], [16]), ([], []), ([], []), ([18, 19], [18, 19]), ([20], [20]), ([21], [21]), ([12, 17, 22, 11], [12, 17, 22]), ([11, 23], [11, 23])]) [.p 0, .p 1, .p 2, .p 3, .p 4, .t 5, .p 6, .p 7, .p 8, .p 9, .t 10, .p 12, .p 13, .p 14, .p 15, .p 16, .t 17, .p 18, .p 19, .p 20, .p 21, .t 22, .c 11, .l 23, .p 24] H (fun _ h => h.drop 4) (by kernel_rfl) (by kernel_rfl) rfl rfl (by kernel_rfl) (by intro c a w d v h; cases d <;> exact h) (fun w5 H5 => ?_)
      refine pl_P (h := ?_)
      refine pl_P (h := ?_)
      refine pl_P (h := ?_)
      refine pl_P (h := ?_)
      refine pl_P (h := ?_)
      refine pl_C H5 (fun W hW => (hc.out W hW).1) (h := ?_)
      refine pl_P (h := ?_)
      refine pl_P (h := ?_)
      refine pl_P (h := ?_)
      refine pl_P (h := ?_)
      refine pl_C H5 (fun W hW => (hc.out W hW).2) (h := ?_)
      refine pl_P (h := ?_)
      refine pl_P (h := ?_)
      refine pl_P (h := ?_)
      refine pl_P (h := ?_)
      refine pl_P (h := ?_)
      refine pl_C H5 (fun W hW => (hc.out W hW).1) (h := ?_)
      refine pl_P (h := ?_)
      refine pl_P (h := ?_)
      refine pl_P (h := ?_)
      refine pl_P (h := ?_)
      refine pl_C H5 (fun W hW => (hc.out W hW).2) (h := ?_)
      refine pl_K Try.func27 ((hst1 w5 H5).mono ?_)
      rintro e w6 ⟨rfl, hsz, A2, c2, H6⟩
      refine ⟨_, rfl, H6.drop 4, ?_⟩
      refine pl_callL Try.func28 #[.pointer (some ⟨d, 0, none⟩), .string s, .int .i64 n] ?_
      refine (hst2 w6 _ _ ((H6.front 3 rfl).front 3 rfl)).mono ?_
      rintro e w7 ⟨rfl, A3, c3, H7⟩
      refine ⟨_, rfl, ?_⟩
      refine pl_P (h := ?_)
      refine pl_done ?_
      have H8 := (H7.front 3 rfl).front 3 rfl
      have hll2 := Nat.le_trans hok2.len (show 32 ≤ 1000 by decide)
      have hg := fun w8 H8 => get_p (w0 := w) (w := w8) (L := [bx b 66 #[.slice A2 sl.length c2], ow w.heap.size 173 2 (.slice A2 sl.length c2) sl.length (flat (Tj.rows sl)), bx d 68 #[.slice A3 sl.length c3], owR w.heap.size A3 sl c3, ((fun k => k < w.heap.size), CR (some ad) zs)]) (i := 0) (j := 1) H8 rfl rfl hok2.up hll2 s
      have hrg := fun w8 H8 => rget_c (w0 := w) (w := w8) (L := [bx b 66 #[.slice A2 sl.length c2], ow w.heap.size 173 2 (.slice A2 sl.length c2) sl.length (flat (Tj.rows sl)), ((fun k => k < w.heap.size), CR (some ad) zs)]) (d := d) (A := A3) (l := sl) (c := c3) H8 hll2 s
      have hgr := getV_rng hok2 s
      obtain ⟨r0, r1⟩ := hc.out w7 (H8.drop 4)
      clear H H5 H6 H7 hst1 hst2 ho hll hll2
      unfold getE at hg
      unfold rgetV at hrg
      cases hh : has cmpS sl s with
      | true =>
        simp only [hh, if_true] at hg hrg
        generalize getV sl s = gv at *
        have d0 : decide (gv < 0) = false := decide_eq_false (by omega)
        have d1 : decide (gv ≥ 0) = true := decide_eq_true hgr.1
        clear hh hgr
        go_wp2_with fail
        refine (hg _ H8).on H8 fun w8 H9 => ?_
        obtain ⟨r2, r3⟩ := hc.out w8 (H9.drop 4)
        clear H8 hg
        go_wp2_with fail
        refine (hrg _ ((H9.front 3 rfl).front 3 rfl)).on H9 fun w9 H10 => ?_
        clear H9 hrg r0 r1 r2 r3
        go_wp2_with fail
        go_roundg (zs.length - (i + 1))
        case measure => exact En.meas hik hlt
        case rel => exact ⟨i + 1, sl, A2, c2, A3, c3, rfl, hlt, Nat.le_refl _, hok2, H10⟩
      | false =>
        have e : getV sl s = 0 := by unfold getV Tb.get; rw [hh]; rfl
        simp only [hh, Bool.false_eq_true, if_false, e] at hg hrg
        clear hh hgr e
        go_wp2_with fail
        refine (hg _ H8).on H8 fun w8 H9 => ?_
        obtain ⟨r2, r3⟩ := hc.out w8 (H9.drop 4)
        clear H8 hg
        go_wp2_with fail
        refine (hrg _ ((H9.front 3 rfl).front 3 rfl)).on H9 fun w9 H10 => ?_
        clear H9 hrg r0 r1 r2 r3
        go_wp2_with fail
        go_roundg (zs.length - (i + 1))
        case measure => exact En.meas hik hlt
        case rel => exact ⟨i + 1, sl, A2, c2, A3, c3, rfl, hlt, Nat.le_refl _, hok2, H10⟩
    · obtain rfl : i = zs.length := Nat.le_antisymm hil (Nat.le_of_not_lt hlt)
      have hll := Nat.le_trans ho.len (show 32 ≤ 1000 by decide)
      have hcp := copy_p (L := [bx d 68 #[.slice Ad l.length cd], owR w.heap.size Ad l cd]) (cells_bx (cells_ow cells_nil)) hll ho.up (H.cut 4)
      have hrw := fun w1 b' A' c' H1 => rows_p (w0 := w) (w := w1) (b := b) (A := Ap) (c := cp) (l := l) (L := [bx b' 66 #[.slice A' l.length c'], ow w.heap.size 173 2 (.slice A' l.length c') l.length (flat (Tj.rows l)), bx d 68 #[.slice Ad l.length cd], owR w.heap.size Ad l cd]) (cells_bx (cells_ow (cells_bx (cells_ow cells_nil)))) hll H1
      clear H hik hil hlt hz
      have hi0 : ¬ ((zs.length : Int) < (zs.length : Int)) := Int.lt_irrefl _
      go_wp2_with fail
      refine hcp.mono ?_
      rintro e w5 ⟨b', A', c', rfl, hb', H1⟩
      have hr2 := hrw w5 b' A' c' ((H1.front 3 rfl).front 3 rfl)
      clear hcp H1
      go_wp2_with fail
      refine hr2.mono ?_
      rintro e w6 ⟨Ar, cr, rfl, H2⟩
      clear hr2 hrw
      have hCn : ∀ W (L : List F2), All w W (ow w.heap.size 79 2 (.slice Ar l.length cr) l.length (l.flatMap encR) :: L) → CR Ar l W := fun W L hW => by
        obtain ⟨A', c', hA, -, -, hC⟩ := ow_C krow encR krow_mk (by decide) (hW.at 0 rfl)
        cases hA
        exact hC
      replace hCn := Aside0.mk hCn
      go_wp2_with fail
      refine plan_ (true, [([], []), ([0], [0]), ([1], [1]), ([], []), ([3], [3]), ([4], [4]), ([5], [5]), ([6], [6]), ([2, 7, 1], [2, 7]), ([8, 8, 0, 1, 2, 3, 4, 5, 6, 7, 8], [8])]) [.p 0, .p 3, .p 4, .p 5, .t 6, .p 7, .c 1, .p 2, .c 8, .p 9] H2 (by kernel_rfl) (by kernel_rfl) rfl rfl (by kernel_rfl) (by intro c a w d v h; cases d <;> exact h) (fun w7 H3 => ?_)
      refine pl_P (h := ?_)
      refine pl_P (h := ?_)
      refine pl_P (h := ?_)
      refine pl_P (h := ?_)
      refine pl_L 5 0 H3 rfl (h := ?_)
      refine pl_P (h := ?_)
      refine pl_K Try.func33 ((ofrows_c (ys := l) (A0 := Ar) (ci := cr) H3 (fun W hW => hCn.out W _ hW) hll).mono ?_)
      rintro e w8 ⟨Ao, co, rfl, H4⟩
      refine ⟨_, rfl, H4.tail, ?_⟩
      refine pl_P (h := ?_)
      refine pl_S (same_c (owR_C (H4.at 0 rfl)).2 (owR_C (H4.at 0 rfl)).1 (owR_C (H4.at 7 rfl)).2 (owR_C (H4.at 7 rfl)).1 hll) H4 Try.func32 (h := fun w9 H5 => ?_)
      refine pl_P (h := ?_)
      refine pl_done ?_
      have H6 := H5.tail
      clear H2 H3 H4 H5 hCn
      go_wp2_with fail
      refine plan_ (true, [([], []), ([0], [0]), ([1], [1]), ([2], [2]), ([3, 2], [2, 3]), ([2, 4], [2, 4]), ([5, 2], [5]), ([6], [6]), ([7, 6, 6], [6, 7]), ([6], [6]), ([9, 6], [6, 9]), ([10, 6], [6, 10]), ([11, 6], [6, 11]), ([12, 6], [6, 12]), ([8, 13, 6], [6, 8, 13]), ([6, 14], [6, 14])]) [.p 0, .p 1, .p 2, .p 3, .p 4, .p 5, .p 6, .p 7, .p 9, .p 10, .p 11, .t 12, .p 13, .c 8, .p 14, .p 15] H6 (by kernel_rfl) (by kernel_rfl) rfl rfl (by kernel_rfl) (by intro c a w d v h; cases d <;> exact h) (fun w10 H7 => ?_)
      refine pl_P (h := ?_)
      refine pl_P (h := ?_)
      refine pl_P (h := ?_)
      refine pl_P (h := ?_)
      refine pl_P (h := ?_)
      refine pl_P (h := ?_)
      refine pl_P (h := ?_)
      refine pl_P (h := ?_)
      refine pl_P (h := ?_)
      refine pl_P (h := ?_)
      refine pl_P (h := ?_)
      refine pl_L 5 0 H7 rfl (h := ?_)
      refine pl_P (h := ?_)
      refine pl_S (len_p (l := l) (i := 1) H7 rfl) H7 Try.func34 (h := fun w11 H8 => ?_)
      refine pl_P (h := ?_)
      refine pl_P (h := ?_)
      refine pl_done ?_
      have hst := set_p (s := us) (n := 7) ((H8.front 4 rfl).front 4 rfl) hb' ho.up hll
      clear H6 H7 H8
      go_wp2_with fail
      refine hst.mono ?_
      rintro e w12 ⟨rfl, hsz, A2, c2, H9⟩
      have H10 := H9.drop 2
      rw [← flat_rows] at H10
      clear hst H9
      go_wp2_with fail
      go_loopg [20] l.length (fun kx s20 wr => ∃ (i : Nat) (xs : Rws), s20 = .int .i64 (i : Int) ∧ i ≤ l.length ∧ l.length - i ≤ kx ∧ Aside0 (xs.length = l.length) ∧
        All w wr (ow w.heap.size 79 2 (.slice Ar l.length cr) l.length (flat xs) :: bx b 66 #[.slice Ap l.length cp] :: ow w.heap.size 173 2 (.slice Ap l.length cp) l.length (flat (Tj.rows l)) :: bx d 68 #[.slice Ad l.length cd] :: owR w.heap.size Ad l cd :: []))
      case atStart => exact ⟨0, Tj.rows l, rfl, Nat.zero_le _, by omega, ⟨Tj.rows_length l⟩, H10⟩
      case round =>
        clear H10
        obtain ⟨i, xs, rfl, hil, hik, hxs, H⟩ := hrel
        by_cases hlt : i < l.length
        · have hli : (i : Int) < (l.length : Int) := Int.ofNat_lt.2 hlt
          rcases ow_cases (H.at 0 rfl) with ⟨-, h, -⟩ | ⟨g, cur, rfl, hg, hbk, hnc, hm, hcs, htk⟩
          · exact absurd hlt (by rw [h]; exact Nat.not_lt_zero _)
          · have hj : i * 2 + 1 < cur.size := by omega
            have hbx : Box g 79 cur _ := hbk
            have r0 := (blk_cell hbx (i * 2 + 1)).trans (Array.getElem?_eq_getElem hj)
            have f0 := blk_frozen hbx (i * 2 + 1)
            have H' := all_val H (j := 0) rfl (p := i) (by rw [hxs.out]; exact hlt) (Nat.le_refl _) (.int .i64 (-1))
            generalize cur[i * 2 + 1] = u at r0
            clear hbk hbx htk hcs hm hnc hj H
            go_wp2_with fail
            go_roundg (l.length - (i + 1))
            case measure => exact En.meas hik hlt
            case rel => exact ⟨i + 1, _, rfl, hlt, Nat.le_refl _, ⟨by rw [List.length_set]; exact hxs.out⟩, H'⟩
        · obtain rfl : i = l.length := Nat.le_antisymm hil (Nat.le_of_not_lt hlt)
          have H11 := H.tail
          have hi1 : ¬ ((l.length : Int) < (l.length : Int)) := Int.lt_irrefl _
          clear H
          go_wp2_with fail
          refine plan_ (true, [([], []), ([0, 0], [0]), ([1], [1]), ([2, 1, 1], [1, 2]), ([3, 3, 1], [1, 3]), ([4, 1], [1, 4]), ([1], [1]), ([6, 1], [1, 6]), ([7, 1], [1, 7]), ([8, 1], [1, 8]), ([9, 1], [1, 9]), ([5, 10, 4, 1], [1, 5, 10]), ([1, 11], [1, 11]), ([12, 11, 0, 1, 2, 3, 4, 5, 6, 7, 8, 9, 10, 11, 12], [12])]) [.c 0, .p 1, .p 2, .p 6, .p 7, .p 8, .t 9, .p 10, .c 3, .c 4, .p 5, .c 11, .p 12, .p 13] H11 (by kernel_rfl) (by kernel_rfl) rfl rfl (by kernel_rfl) (by intro c a w d v h; cases d <;> exact h) (fun w13 H12 => ?_)
          refine pl_S known_c H12 Try.func15 (h := fun w14 H13 => ?_)
          refine pl_P (h := ?_)
          refine pl_P (h := ?_)
          refine pl_P (h := ?_)
          refine pl_P (h := ?_)
          refine pl_P (h := ?_)
          refine pl_L 2 0 H13 rfl (h := ?_)
          refine pl_P (h := ?_)
          refine pl_K Try.func31 ((rows_p (cells_bx (cells_ow cells_nil)) hll H13).mono ?_)
          rintro e w15 ⟨A6, c6, rfl, H14⟩
          refine ⟨_, rfl, H14.tail, ?_⟩
          have hCn : ∀ W (L : List F2), All w W (ow w.heap.size 79 2 (.slice A6 l.length c6) l.length (l.flatMap encR) :: L) → CR A6 l W := fun W L hW => by
            obtain ⟨A', c', hA, -, -, hC⟩ := ow_C krow encR krow_mk (by decide) (hW.at 0 rfl)
            cases hA
            exact hC
          refine pl_K Try.func33 ((ofrows_c (ys := l) (A0 := A6) (ci := c6) H14 (fun W hW => hCn W _ hW) hll).mono ?_)
          rintro e w16 ⟨Ao, co, rfl, H15⟩
          refine ⟨_, rfl, H15.drop 2, ?_⟩
          refine pl_P (h := ?_)
          refine pl_S (same_c (owR_C (H15.at 0 rfl)).2 (owR_C (H15.at 0 rfl)).1 (owR_C (H15.at 5 rfl)).2 (owR_C (H15.at 5 rfl)).1 hll) H15 Try.func32 (h := fun w17 H16 => ?_)
          refine pl_P (h := ?_)
          refine pl_P (h := ?_)
          refine pl_done ?_
          go_wp2
          go_ret
          exact ⟨rfl, H16.old⟩
end Go.Proofs.Ythhgcjlgnafdcaa.Pt
end
