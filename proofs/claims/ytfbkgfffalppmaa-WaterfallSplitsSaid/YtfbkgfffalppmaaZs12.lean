/- Texts of this seat, put together (Zs12). -/
import Derived.Test.YtfbkgfffalppmaaZs7
import Derived.Test.YtfbkgfffalppmaaZs9
import Derived.Test.YtfbkgfffalppmaaZs11
section
namespace Go.Proofs.Ytfbkgfffalppmaa.Nu
set_option linter.unusedSimpArgs false
set_option linter.unusedVariables false
open Go Go.RowKit Go.Proofs.YtfbkgfffalppmaaW.PrintWords Go.Proofs.YtfbkgfffalppmaaW.PrintLast Go.Proofs.YtfbkgfffalppmaaW.PrintMore Go.Proofs.Ytfbkgfffalppmaa.Hd
open Go.Proofs.Ytfbkgfffalppmaa.Wf (S41 S74 k41 at_T41 rd_T41 z41)
open Go.Proofs.Ytfbkgfffalppmaa.Wq (cp Gd tt tt_mem base base_len base_le spl spl_len gv gv_left cnt spl_all por por_fl por_range take_snoc')
theorem base_get {loss : Int} {ps : List S74} {i : Nat} (h : i < ps.length) (h' : i < (base loss ps).length) : (base loss ps)[i] = if tt ps > 0 then por loss (tt ps) ps[i] else 0 := by
  unfold base at h' ⊢
  by_cases c : tt ps > 0
  · simp only [if_pos c, List.getElem_map]
  · simp only [if_neg c, List.getElem_map]
theorem s_at (p : List S41) (loss : Int) (N : List Int) (hNl : N.length = p.length) (hG : Gd (p.map cp)) (hl : 0 ≤ loss) (hla : loss ≤ tt (p.map cp)) (ht : 0 < tt (p.map cp)) (i : Nat) (hil : i < p.length) (hilN : i < N.length)
    (hQ : ∃ Q, 0 ≤ Q ∧ N.drop i = (gv ((p.map cp).drop i) ((base loss (p.map cp)).drop i) Q).1) :
    (∃ Q, 0 ≤ Q ∧ N.drop (i + 1) = (gv ((p.map cp).drop (i + 1)) ((base loss (p.map cp)).drop (i + 1)) Q).1) ∧ 0 ≤ N[i] ∧ N[i] ≤ 9223372036854775807 ∧
    ((decide (N[i] * tt (p.map cp) ≤ (p[i]).f1 * loss ∧ (p[i]).f1 * loss < N[i] * tt (p.map cp) + tt (p.map cp)) = true ∧ ((base loss (p.map cp)).take (i + 1)).sum = ((base loss (p.map cp)).take i).sum + N[i]) ∨
     (decide (N[i] * tt (p.map cp) ≤ (p[i]).f1 * loss ∧ (p[i]).f1 * loss < N[i] * tt (p.map cp) + tt (p.map cp)) = false ∧ 1 ≤ N[i] ∧ decide ((N[i] - 1) * tt (p.map cp) ≤ (p[i]).f1 * loss ∧ (p[i]).f1 * loss < (N[i] - 1) * tt (p.map cp) + tt (p.map cp)) = true ∧ ((base loss (p.map cp)).take (i + 1)).sum = ((base loss (p.map cp)).take i).sum + (N[i] - 1))) := by
  obtain ⟨Q, hQ0, hQ⟩ := hQ
  have hilp : i < (p.map cp).length := by rw [List.length_map]; exact hil
  have hilb : i < (base loss (p.map cp)).length := by rw [base_len]; exact hilp
  have hb := base_get (loss := loss) hilp hilb
  rw [if_pos ht] at hb
  have hb0 := (base_le hl hG.pos).2 _ (List.getElem_mem hilb)
  have hpm := List.getElem_mem hilp
  have hpt := (tt_mem hG.pos).2 _ hpm
  have hf := hG.fit
  have hpr := por_range (hG.pos _ hpm) hpt hl ht
  have hcp : ((p.map cp)[i]).f1 = (p[i]).f1 := by simp [cp]
  have hs : ((base loss (p.map cp)).take (i + 1)).sum = ((base loss (p.map cp)).take i).sum + (base loss (p.map cp))[i] := by
    rw [take_snoc' _ _ hilb, List.sum_append]
    simp
  have hfl := por_fl (loss := loss) ht (p.map cp)[i]
  rw [hcp] at hfl
  rw [List.drop_eq_getElem_cons hilp, List.drop_eq_getElem_cons hilb, gv, List.drop_eq_getElem_cons hilN, hcp] at hQ
  by_cases c : Q > 0 ∧ (base loss (p.map cp))[i] < (p[i]).f1
  · rw [if_pos c] at hQ
    injection hQ with h3 h4
    refine ⟨⟨Q - 1, by omega, h4⟩, by omega, by omega, .inr ⟨decide_eq_false (fun h => hfl.2 ?_), by omega, decide_eq_true ?_, by rw [hs]; omega⟩⟩
    · rw [h3, hb] at h
      exact h.1
    · rw [h3, hb, show por loss (tt (p.map cp)) (p.map cp)[i] + 1 - 1 = por loss (tt (p.map cp)) (p.map cp)[i] by omega]
      exact hfl.1
  · rw [if_neg c] at hQ
    injection hQ with h3 h4
    refine ⟨⟨Q, hQ0, h4⟩, by omega, by omega, .inl ⟨decide_eq_true ?_, by rw [hs, h3]⟩⟩
    rw [h3, hb]
    exact hfl.1
theorem s_two (p : List S41) (loss : Int) (N : List Int) (hG : Gd (p.map cp)) (hl : 0 ≤ loss) (hla : loss ≤ tt (p.map cp)) (i : Nat) (hil : i < p.length) (hilN : i < N.length) (R : Int)
    (hQ : N.drop i = (gv ((p.map cp).drop i) ((base loss (p.map cp)).drop i) R).1) (hQ2 : (gv ((p.map cp).drop i) ((base loss (p.map cp)).drop i) R).2 = 0) :
    0 ≤ N[i] ∧ N[i] ≤ 9223372036854775807 ∧
    ((0 < tt (p.map cp) ∧ 0 < R ∧ 1 ≤ N[i] ∧ N[i] - 1 < (p[i]).f1 ∧ decide (N[i] * tt (p.map cp) ≤ (p[i]).f1 * loss ∧ (p[i]).f1 * loss < N[i] * tt (p.map cp) + tt (p.map cp)) = false ∧ N.drop (i + 1) = (gv ((p.map cp).drop (i + 1)) ((base loss (p.map cp)).drop (i + 1)) (R - 1)).1 ∧ (gv ((p.map cp).drop (i + 1)) ((base loss (p.map cp)).drop (i + 1)) (R - 1)).2 = 0) ∨
     ((R ≤ 0 ∨ ¬ N[i] < (p[i]).f1) ∧ (N.drop (i + 1) = (gv ((p.map cp).drop (i + 1)) ((base loss (p.map cp)).drop (i + 1)) R).1 ∧ (gv ((p.map cp).drop (i + 1)) ((base loss (p.map cp)).drop (i + 1)) R).2 = 0) ∧
      ((0 < tt (p.map cp) ∧ decide (N[i] * tt (p.map cp) ≤ (p[i]).f1 * loss ∧ (p[i]).f1 * loss < N[i] * tt (p.map cp) + tt (p.map cp)) = true) ∨ (tt (p.map cp) ≤ 0 ∧ N[i] = 0)))) := by
  have hilp : i < (p.map cp).length := by rw [List.length_map]; exact hil
  have hilb : i < (base loss (p.map cp)).length := by rw [base_len]; exact hilp
  have hb := base_get (loss := loss) hilp hilb
  have hb0 := (base_le hl hG.pos).2 _ (List.getElem_mem hilb)
  have hpm := List.getElem_mem hilp
  have hpt := (tt_mem hG.pos).2 _ hpm
  have hp0 := hG.pos _ hpm
  have hf := hG.fit
  have hcp : ((p.map cp)[i]).f1 = (p[i]).f1 := by simp [cp]
  rw [List.drop_eq_getElem_cons hilp, List.drop_eq_getElem_cons hilb, gv, hcp] at hQ hQ2
  rw [List.drop_eq_getElem_cons hilN] at hQ
  rw [hcp] at hpt hp0
  by_cases ht : 0 < tt (p.map cp)
  · rw [if_pos ht] at hb
    have hpr := por_range (by rw [hcp]; exact hp0) (by rw [hcp]; exact hpt) hl ht (p := (p.map cp)[i])
    have hfl := por_fl (loss := loss) ht (p.map cp)[i]
    rw [hcp] at hfl
    by_cases c : R > 0 ∧ (base loss (p.map cp))[i] < (p[i]).f1
    · rw [if_pos c] at hQ hQ2
      injection hQ with h3 h4
      refine ⟨by omega, by omega, .inl ⟨ht, c.1, by omega, by omega, decide_eq_false (fun h => hfl.2 ?_), h4, hQ2⟩⟩
      rw [h3, hb] at h
      exact h.1
    · rw [if_neg c] at hQ hQ2
      injection hQ with h3 h4
      refine ⟨by omega, by omega, .inr ⟨by omega, ⟨h4, hQ2⟩, .inl ⟨ht, decide_eq_true ?_⟩⟩⟩
      rw [h3, hb]
      exact hfl.1
  · rw [if_neg ht] at hb
    rw [if_neg (by omega)] at hQ hQ2
    injection hQ with h3 h4
    exact ⟨by omega, by omega, .inr ⟨by omega, ⟨h4, hQ2⟩, .inr ⟨by omega, by omega⟩⟩⟩
theorem mul_abs {x y : Int} (h0 : 0 ≤ x) (h1 : x ≤ 9223372036854775807) (h2 : 0 ≤ y) (h3 : y ≤ 9223372036854775807) : (x * y).natAbs < 340282366920938463463374607431768211456 := by
  have h4 : x * y ≤ 9223372036854775807 * 9223372036854775807 := Int.mul_le_mul h1 h3 h2 (by omega)
  have h5 := Int.mul_nonneg h0 h2
  omega
theorem dig_pos {x : Int} (h : 0 ≤ x) : (0 < (dig x).length) ↔ 0 < x := by
  have h1 := (dig_nm x).2.2
  constructor
  · intro hl
    have := V_pos (dig_nm x).1 (dig_nm x).2.1 (by intro e; rw [e] at hl; simp at hl)
    omega
  · intro hx
    rcases Nat.eq_zero_or_pos (dig x).length with e | e
    · rw [List.eq_nil_of_length_eq_zero e] at h1
      have : (0 : Int) = x.natAbs := h1
      omega
    · exact e
theorem base_in {loss : Int} {ps : List S74} (hG : Gd ps) (hl : 0 ≤ loss) (i : Nat) : 0 ≤ ((base loss ps).take i).sum ∧ ((base loss ps).take i).sum ≤ loss := by
  have h := base_le hl hG.pos
  have key : ∀ (l : List Int) (i : Nat), (∀ o ∈ l, 0 ≤ o) → 0 ≤ (l.take i).sum ∧ (l.take i).sum ≤ l.sum := by
    intro l
    induction l with
    | nil => intro i _; simp
    | cons x r ih =>
      intro i ho
      have h1 := ih (i - 1) (fun o ho2 => ho o (by simp [ho2]))
      have h2 := ho x (by simp)
      have h3 := ih r.length (fun o ho2 => ho o (by simp [ho2]))
      rw [List.take_length] at h3
      cases i with
      | zero => simp; omega
      | succ i => simp at h1 ⊢; omega
  have h2 := key _ i h.2
  omega
theorem len9 {x : Int} (h : x.natAbs < 340282366920938463463374607431768211456) : (dig x).length ≤ 8 := dig_len (by rw [B8]; omega)
def sn : Nat → Code → Code
  | n + 1, .seq _ d => sn n d
  | _, c => c
set_option maxRecDepth 100000 in
set_option maxHeartbeats 4000000 in
theorem split_t {w W : World} {ok ok2 okT okR : Nat → Prop} {A A2 AT AR : Option Addr} {c c2 cT cR b7 b12 : Nat} (p : List S41) (loss : Int) (N : List Int) (T R : Int) (hp : p.length ≤ 100) (hNl : N.length = p.length) (hG : Gd (p.map cp)) (hl : 0 ≤ loss) (hla : loss ≤ tt (p.map cp)) (hT : tt (p.map cp) = T)
    (hR0 : 0 ≤ R) (hR1 : R ≤ loss) (hQ : N = (gv (p.map cp) (base loss (p.map cp)) R).1) (hQ2 : (gv (p.map cp) (base loss (p.map cp)) R).2 = 0)
    (hc : p.length ≤ c) (hc2 : p.length ≤ c2) (hcT : (dig T).length ≤ cT) (hcR : (dig R).length ≤ cR) (hoR : ∀ k, okR k → w.heap.size ≤ k) (hb : w.heap.size ≤ b12)
    (H : All w W [(okR, Cs AR (dig R)), bx b12 38 #[.bool (neg R), .slice AR (dig R).length cR], bx b7 38 #[.bool (neg T), .slice AT (dig T).length cT], (okT, Cs AT (dig T)), (ok2, Cs A2 N), (ok, fun W => Kd.C k41 W A p.length p)])
    {u3 u4 u5 u6 u8 u9 u10 u11 u13 u14 u15 u16 u17 u18 u19 u20 u21 u22 u23 u24 u25 u26 u27 u28 u29 u30 u31 u32 u33 u34 u35 u36 u37 u38 u39 u40 u41 u42 u43 u44 u45 u46 u47 u48 u49 u50 u51 u52 u53 u54 u55 u56 u57 u58 u59 u60 u61 u62 u63 u64 u65 u66 u67 u68 u69 u70 u71 u72 u73 u74 u75 u76 u77 u78 u79 u80 u81 u82 u83 u84 u85 u86 u87 u88 u89 u90 u91 u92 u93 u94 u95 u96 u97 u98 u99 u100 u101 u102 u103 u104 u105 u106 u107 u108 u109 u110 u111 u112 u113 u114 u115 u116 u117 u118 u119 u120 u121 u122 u123 u124 u125 u126 u127 u128 u129 u130 u131 u132 u133 u134 u135 u136 u137 u138 u139 u140 u141 u142 u143 u144 u145 u146 u147 u148 u149 u150 u151 u152 u153 u154 u155 u156 u157 u158 u159 u160 u161 u162 : Value} : Code.wp Try.prog (sn 6 (Try.f16.body.getD .skip)) (bodyPost Try.prog Try.f16 fun e w' => e = .returned (.bool true) ∧ Below w.heap.size w w') { tmps := #[.int .i64 loss, .slice A p.length c, .slice A2 p.length c2, u3, u4, u5, u6, .pointer (some ⟨b7, 0, none⟩), u8, u9, u10, u11, .pointer (some ⟨b12, 0, none⟩), u13, u14, u15, u16, u17, u18, u19, u20, u21, u22, u23, u24, u25, u26, u27, u28, u29, u30, u31, u32, u33, u34, u35, u36, u37, u38, u39, u40, u41, u42, u43, u44, u45, u46, u47, u48, u49, u50, u51, u52, u53, u54, u55, u56, u57, u58, u59, u60, u61, u62, u63, u64, u65, u66, u67, u68, u69, u70, u71, u72, u73, u74, u75, u76, u77, u78, u79, u80, u81, u82, u83, u84, u85, u86, u87, u88, u89, u90, u91, u92, u93, u94, u95, u96, u97, u98, u99, u100, u101, u102, u103, u104, u105, u106, u107, u108, u109, u110, u111, u112, u113, u114, u115, u116, u117, u118, u119, u120, u121, u122, u123, u124, u125, u126, u127, u128, u129, u130, u131, u132, u133, u134, u135, u136, u137, u138, u139, u140, u141, u142, u143, u144, u145, u146, u147, u148, u149, u150, u151, u152, u153, u154, u155, u156, u157, u158, u159, u160, u161, u162], defers := [] } W := by
  have hu38 := Try.underlying38
  have hu41 := Try.underlying41
  have hu22 := Try.underlying22
  have hT0 : 0 ≤ T := by rw [← hT]; exact (tt_mem hG.pos).1
  have hT1 : T ≤ 9223372036854775807 := by rw [← hT]; exact hG.fit
  have hl1 : loss ≤ 9223372036854775807 := by omega
  have hpf : Aside0 (∀ x ∈ p, 0 ≤ x.f1 ∧ x.f1 ≤ 9223372036854775807) := ⟨fun x hx => by
    have h1 := hG.pos (cp x) (List.mem_map_of_mem hx)
    have h3 := (tt_mem hG.pos).2 (cp x) (List.mem_map_of_mem hx)
    have : (cp x).f1 = x.f1 := rfl
    omega⟩
  have hda : Aside0 ((0 < (dig T).length) ↔ 0 < T) := ⟨dig_pos hT0⟩
  have hT8 : Aside0 ((dig T).length ≤ 1000) := ⟨Nat.le_trans (len9 (by omega)) (by decide)⟩
  have hl8 : Aside0 ((dig loss).length ≤ 400000) := ⟨Nat.le_trans (len9 (by omega)) (by decide)⟩
  have hlI : Aside0 (I64 loss) := ⟨by unfold I64; omega⟩
  replace hT := Aside0.mk hT
  replace hG := Aside0.mk hG
  replace hla := Aside0.mk hla
  replace hNl := Aside0.mk hNl
  simp only [sn, Try.f16, Option.getD]
  go_wp2_with fail
  go_loopg [13] (p.length + 1) (fun kq v13 w' => ∃ (i : Nat) (oR : Nat → Prop) (AR : Option Addr) (cR : Nat) (R : Int), v13 = .int .i64 (i : Int) ∧ Aside0 (∀ k, oR k → w.heap.size ≤ k) ∧ Aside0 (i ≤ p.length ∧ kq = p.length + 1 - i ∧ 0 ≤ R ∧ R ≤ loss ∧ (dig R).length ≤ cR) ∧ Aside0 (N.drop i = (gv ((p.map cp).drop i) ((base loss (p.map cp)).drop i) R).1) ∧ Aside0 ((gv ((p.map cp).drop i) ((base loss (p.map cp)).drop i) R).2 = 0) ∧
    All w w' [(oR, Cs AR (dig R)), bx b12 38 #[.bool (neg R), .slice AR (dig R).length cR], bx b7 38 #[.bool (neg T), .slice AT (dig T).length cT], (okT, Cs AT (dig T)), (ok2, Cs A2 N), (ok, fun W => Kd.C k41 W A p.length p)])
  case atStart => exact ⟨0, okR, AR, cR, R, rfl, ⟨hoR⟩, ⟨Nat.zero_le _, rfl, hR0, hR1, hcR⟩, ⟨hQ⟩, ⟨hQ2⟩, H⟩
  case round =>
    clear hQ hQ2 hoR H hcR hR0 hR1
    obtain ⟨i, oR, AR, cR, R, rfl, hoR, hk, hQ, hQ2, H⟩ := hrel
    by_cases hlt : (i : Int) < (p.length : Int)
    · have hi : i < p.length := by omega
      have hiN : i < N.length := by have := hNl.out; omega
      obtain ⟨q0, q1, hcase⟩ := s_two p loss N hG.out hl hla.out i hi hiN R hQ.out hQ2.out
      rw [hT.out] at hcase
      obtain ⟨x, hpx⟩ : ∃ x, (p[i]).f1 = x := ⟨_, rfl⟩
      obtain ⟨q, hNq⟩ : ∃ q, N[i] = q := ⟨_, rfl⟩
      rw [hpx, hNq] at hcase
      rw [hNq] at q0 q1
      have hx := hpf.out (p[i]) (List.getElem_mem hi)
      rw [hpx] at hx
      have hgd : N.getD i 0 = q := by rw [List.getD_eq_getElem?_getD, List.getElem?_eq_getElem hiN, hNq]; rfl
      have hxI : Aside0 (I64 x) := ⟨by unfold I64; omega⟩
      have hqI : Aside0 (I64 q) := ⟨by unfold I64; omega⟩
      have hx8 : Aside0 ((dig x).length ≤ 400000) := ⟨Nat.le_trans (len9 (by omega)) (by decide)⟩
      have hq8 : Aside0 ((dig q).length ≤ 1000) := ⟨Nat.le_trans (len9 (by omega)) (by decide)⟩
      have hR8 : Aside0 ((dig R).length ≤ 900000) := ⟨Nat.le_trans (len9 (by have := hk.out; omega)) (by decide)⟩
      have hR9 : Aside0 ((dig (R - 1)).length ≤ 900000) := ⟨Nat.le_trans (len9 (by have := hk.out; omega)) (by decide)⟩
      have hxl8 : Aside0 ((dig (x * loss)).length ≤ 1000) := ⟨Nat.le_trans (len9 (mul_abs hx.1 hx.2 hl hlI.out.2)) (by decide)⟩
      have hg : Aside0 (p.length + 1 - (i + 1) < gk ∧ i + 1 ≤ p.length) := ⟨by have := hk.out; omega⟩
      have hcR := Aside0.mk hk.out.2.2.2.2
      have hRr := Aside0.mk hk.out.2.2
      have hnR : neg R = false := neg_no (by have := hk.out; omega)
      have hdR := Aside0.mk (dig_pos hk.out.2.2.1)
      replace hcase := Aside0.mk hcase
      replace hpx := Aside0.mk hpx
      replace hgd := Aside0.mk hgd
      replace hi := Aside0.mk hi
      replace hiN := Aside0.mk hiN
      replace hx := Aside0.mk hx
      clear hk hNq
      rw [hnR] at H
      obtain ⟨ad, rfl, _⟩ := at_T41 (H.at 5 rfl) (i : Int) (by omega) hlt
      obtain ⟨ad2, rfl, _⟩ := Kd.at_int (H.at 4 rfl) (i : Int) (by omega) (by have := hiN.out; omega)
      have f1 := p_at (H.at 5 rfl) i hi.out hpx.out
      have f2 := cs_at (H.at 4 rfl) i hiN.out hgd.out
      go_wp2_with fail
      refine (narrow_c hqI.out).on H fun v w5 H z5 => ?_
      obtain ⟨A6, c6, rfl, hc6, hR6⟩ := num_open (H.get 0 rfl)
      replace H := H.turn 0 rfl hR6
      have hw5 : w.heap.size ≤ w5.heap.size := H.old.size
      replace H := H.box w5.heap.size 38 #[.bool (neg q), .slice A6 (dig q).length c6]
      unfold num
      clear f1 f2
      have r7 := H.rd 4 rfl
      by_cases hTp : 0 < T
      · have hTl : (0 < (dig T).length) := hda.out.2 hTp
        have hTz : ((dig T).length = 0) = False := eq_false (by omega)
        have f1 := p_at (H.at 7 rfl) i hi.out hpx.out
        replace hTp := Aside0.mk hTp
        go_wp2_with fail
        refine (narrow_c hxI.out).on H fun v w2 H z2 => ?_
        obtain ⟨A3, c3, rfl, hc3, hR3⟩ := num_open (H.get 0 rfl)
        replace H := H.turn 0 rfl hR3
        unfold num
        clear f1 r7
        go_wp2_with fail
        refine (narrow_c hlI.out).on H fun v w3 H z3 => ?_
        obtain ⟨A4, c4, rfl, hc4, hR4⟩ := num_open (H.get 0 rfl)
        replace H := H.turn 0 rfl hR4
        unfold num
        go_wp2_with fail
        refine (mul_c (H.get 1 rfl) hc3 (H.get 0 rfl) hc4 hx8.out hl8.out).on H fun v w4 H z4 => ?_
        obtain ⟨A5, c5, rfl, hc5, hR5⟩ := num_open (H.get 0 rfl)
        replace H := ((H.turn 0 rfl hR5).cut 1).cut 1
        replace H := H.box w4.heap.size 38 #[.bool (neg (x * loss)), .slice A5 (dig (x * loss)).length c5]
        unfold num
        have r1 := H.rd 0 rfl
        have r2 := H.rd 2 rfl
        have r3 := H.rd 6 rfl
        go_wp2_with fail
        refine (floor_c (H.get 1 rfl) hc5 (H.get 7 rfl) hcT (H.get 3 rfl) hc6 hxl8.out hT8.out hq8.out hT0).on H fun w6 H => ?_
        clear r1 r2 r3
        have f1 := p_at (H.at 9 rfl) i hi.out hpx.out
        have f2 := cs_at (H.at 8 rfl) i hiN.out hgd.out
        have r5 := H.rd 5 rfl
        have r3 := H.rd 6 rfl
        rcases hcase.out with ⟨_, hR, hq1, hqx, e1, hQ'⟩ | ⟨hRq, hQ', ⟨_, e1⟩ | ⟨hTn, _⟩⟩
        · rw [e1]
          obtain ⟨b, hqb⟩ : ∃ b, q - 1 = b := ⟨_, rfl⟩
          have hw : wrap64 (q - 1) = b := (w64 (by omega) (by omega)).trans hqb
          have hwk : IntKind.i64.wrap (q - 1) = b := by rw [i64_w]; exact hw
          rw [hqb] at hqx
          have hRl : 0 < (dig R).length := hdR.out.2 hR
          replace hqb := Aside0.mk hqb
          replace hR := Aside0.mk hR
          replace hq1 := Aside0.mk hq1
          replace hQ' := Aside0.mk hQ'
          clear e1
          go_wp2_with fail
          refine planD_ [3] (true, [([], []), ([], []), ([0, 1, 1], [0, 1]), ([2, 2, 0, 1, 2], [2])]) [.t 0, .c 1, .c 2, .l 3] H (by kernel_rfl) (by kernel_rfl) rfl rfl (by kernel_rfl) (by intro c a w d v h; cases d <;> exact h) (fun w8 H => ?_)
          refine pl_B 5 H rfl (h := ?_)
          refine pl_G (small_c (a := -1) (by decide) (by decide)) H Try.func42 (h := fun v w9 H z9 => ?_)
          obtain ⟨A7, c7, rfl, hc7, hR7⟩ := num_open (H.get 0 rfl)
          have ha := add_c (x := R) (y := -1) (H.get 5 rfl) hcR.out hR7 hc7 hR8.out (Nat.le_trans (len9 (by decide)) (by decide))
          unfold num at ha
          rw [hnR] at ha
          refine pl_G ha H Try.func20 (h := fun v w10 H z10 => ?_)
          clear ha
          rw [show R + -1 = R - 1 by omega] at H
          obtain ⟨A8, c8, rfl, hc8, hR8'⟩ := num_open (H.get 0 rfl)
          replace H := ((H.turn 0 rfl hR8').cut 1)
          unfold num
          clear r5 r3 f1 f2
          have r1 := H.rd 6 rfl
          have z1 := H.fz 6 rfl
          refine pl_WL ((H.set 6 rfl 0 (.bool (neg (R - 1)))).set 6 rfl 1 (.slice A8 (dig (R - 1)).length c8)) (fun H => ?_)
          refine pl_done ?_
          clear r1 z1
          have r3 := H.rd 7 rfl
          go_wp2_with fail
          go_roundg (p.length + 1 - (i + 1))
          case measure => exact hg.out.1
          case rel => exact ⟨i + 1, _, A8, c8, R - 1, by first | rfl | (simp; done), ⟨in_le z10⟩, ⟨hg.out.2, rfl, by have := hR.out; omega, by have := hRr.out; omega, hc8⟩, ⟨hQ'.out.1⟩, ⟨hQ'.out.2⟩, ((((H.cut 1).cut 1).cut 1).cut 1).cut 1⟩
        · rw [e1]
          replace hQ' := Aside0.mk hQ'
          clear e1
          rcases Int.lt_or_le 0 R with hR | hR
          · have hRl : 0 < (dig R).length := hdR.out.2 hR
            have hqx : (q < x) = False := eq_false (by have := hRq; omega)
            clear hRq
            replace hR := Aside0.mk hR
            go_wp2_with fail
            go_roundg (p.length + 1 - (i + 1))
            case measure => exact hg.out.1
            case rel => exact ⟨i + 1, oR, AR, cR, R, by first | rfl | (simp; done), hoR, ⟨hg.out.2, rfl, hRr.out⟩, ⟨hQ'.out.1⟩, ⟨hQ'.out.2⟩, by rw [hnR]; exact (((H.cut 0).cut 0).cut 0).cut 0⟩
          · have hRl : (dig R).length = 0 := by have := hdR.out; omega
            replace hRq := Aside0.mk hRq
            replace hR := Aside0.mk hR
            go_wp2_with fail
            go_roundg (p.length + 1 - (i + 1))
            case measure => exact hg.out.1
            case rel => exact ⟨i + 1, oR, AR, cR, R, by first | rfl | (simp; done), hoR, ⟨hg.out.2, rfl, hRr.out⟩, ⟨hQ'.out.1⟩, ⟨hQ'.out.2⟩, by rw [hnR]; exact (((H.cut 0).cut 0).cut 0).cut 0⟩
        · exact absurd hTp.out (by omega)
      · rcases hcase.out with ⟨hTn, _⟩ | ⟨hRq, hQ', ⟨hTn, _⟩ | ⟨_, hq0⟩⟩
        · exact absurd hTn hTp
        · exact absurd hTn hTp
        · have hTz : (dig T).length = 0 := by have := hda.out; omega
          have hqz : (q != 0) = false := by rw [hq0]; rfl
          have f1 := p_at (H.at 7 rfl) i hi.out hpx.out
          have f2 := cs_at (H.at 6 rfl) i hiN.out hgd.out
          have r5 := H.rd 3 rfl
          replace hTp := Aside0.mk hTp
          replace hQ' := Aside0.mk hQ'
          replace hq0 := Aside0.mk hq0
          rcases Int.lt_or_le 0 R with hR | hR
          · have hRl : 0 < (dig R).length := hdR.out.2 hR
            have hqx : (q < x) = False := eq_false (by have := hRq; omega)
            clear hRq
            replace hR := Aside0.mk hR
            go_wp2_with fail

            go_roundg (p.length + 1 - (i + 1))
            case measure => exact hg.out.1
            case rel => exact ⟨i + 1, oR, AR, cR, R, by first | rfl | (simp; done), hoR, ⟨hg.out.2, rfl, hRr.out⟩, ⟨hQ'.out.1⟩, ⟨hQ'.out.2⟩, by rw [hnR]; exact (H.cut 0).cut 0⟩
          · have hRl : (dig R).length = 0 := by have := hdR.out; omega
            replace hRq := Aside0.mk hRq
            replace hR := Aside0.mk hR
            go_wp2_with fail
            go_roundg (p.length + 1 - (i + 1))
            case measure => exact hg.out.1
            case rel => exact ⟨i + 1, oR, AR, cR, R, by first | rfl | (simp; done), hoR, ⟨hg.out.2, rfl, hRr.out⟩, ⟨hQ'.out.1⟩, ⟨hQ'.out.2⟩, by rw [hnR]; exact (H.cut 0).cut 0⟩
    · have hR0 : R = 0 := by
        have h1 := hQ2.out
        rw [List.drop_eq_nil_of_le (by rw [List.length_map]; omega), gv.eq_def] at h1
        exact h1
      have r5 := H.rd 1 rfl
      subst hR0
      rw [dig_zero] at r5 hk
      replace hk := Aside0.mk hk.out.1
      go_wp2_with fail
      go_ret
      exact ⟨rfl, H.old⟩
end Go.Proofs.Ytfbkgfffalppmaa.Nu
end
section
namespace Go.Proofs.Ytfbkgfffalppmaa.Nu
set_option linter.unusedSimpArgs false
set_option linter.unusedVariables false
open Go Go.RowKit Go.Proofs.YtfbkgfffalppmaaW.PrintWords Go.Proofs.YtfbkgfffalppmaaW.PrintLast Go.Proofs.YtfbkgfffalppmaaW.PrintMore Go.Proofs.Ytfbkgfffalppmaa.Hd
open Go.Proofs.Ytfbkgfffalppmaa.Wf (S41 S74 k41 at_T41 rd_T41 z41)
open Go.Proofs.Ytfbkgfffalppmaa.Wq (cp Gd tt tt_mem base base_len base_le spl spl_len gv gv_left cnt spl_all por por_fl por_range take_snoc')
theorem neg_t {w : World} {ok : Nat → Prop} {A : Option Addr} {c : Nat} {x : Int} (h : Held w ok (Cs A (dig x))) (hc : (dig x).length ≤ c) (hl : (dig x).length ≤ 900000) : Tells Try.prog 23 #[num x A c] w (num (-x) A c) :=
  (neg_c h hc (Nat.le_trans hl (by decide))).mono fun _ _ h => ⟨h.1, h.2.1⟩
theorem neg_h {w : World} {ok : Nat → Prop} {A : Option Addr} {x : Int} (h : Held w ok (Cs A (dig x))) : Held w ok (Cs A (dig (-x))) := by rw [dig_neg]; exact h
theorem neg_l {n : Nat} {x : Int} (h : (dig x).length ≤ n) : (dig (-x)).length ≤ n := by rw [dig_neg]; exact h
theorem base_zero {loss : Int} {ps : List S74} (h : ¬ tt ps > 0) : (base loss ps).sum = 0 := by
  have hz : ∀ l : List S74, (l.map fun _ => (0 : Int)).sum = 0 := fun l => by
    induction l with
    | nil => rfl
    | cons a l ih => simpa using ih
  unfold base
  rw [if_neg h]
  exact hz ps
set_option maxRecDepth 100000 in
set_option maxHeartbeats 4000000 in
theorem split_c {w : World} {ok ok2 : Nat → Prop} {A A2 : Option Addr} {c c2 : Nat} (p : List S41) (loss : Int) (hp : p.length ≤ 100) (hG : Gd (p.map cp)) (hl : 0 ≤ loss) (hla : loss ≤ tt (p.map cp)) (h : Held w ok (fun W => Kd.C k41 W A p.length p)) (hc : p.length ≤ c)
    (h2 : Held w ok2 (Cs A2 (spl loss (p.map cp)))) (hc2 : (spl loss (p.map cp)).length ≤ c2) : Tells Try.prog 16 #[.int .i64 loss, .slice A p.length c, .slice A2 (spl loss (p.map cp)).length c2] w (.bool true) := by
  have hu38 := Try.underlying38
  have hu41 := Try.underlying41
  have hu22 := Try.underlying22
  have hNl : (spl loss (p.map cp)).length = p.length := by rw [spl_len, List.length_map]
  obtain ⟨N, hN⟩ : ∃ N, spl loss (p.map cp) = N := ⟨_, rfl⟩
  rw [hN] at h2 hc2 hNl ⊢
  have htt : tt (p.map cp) = tot' p := by simp [tt, tot', cp, List.map_map, Function.comp_def]
  obtain ⟨T, hT⟩ : ∃ T, tt (p.map cp) = T := ⟨_, rfl⟩
  have hT0 : 0 ≤ T := by rw [← hT]; exact (tt_mem hG.pos).1
  have hT1 : T ≤ 9223372036854775807 := by rw [← hT]; exact hG.fit
  have hpf : ∀ x ∈ p, 0 ≤ x.f1 ∧ x.f1 ≤ 9223372036854775807 := fun x hx => by
    have h1 := hG.pos (cp x) (List.mem_map_of_mem hx)
    have h3 := (tt_mem hG.pos).2 (cp x) (List.mem_map_of_mem hx)
    have : (cp x).f1 = x.f1 := rfl
    omega
  have hda : (0 < (dig T).length) ↔ 0 < T := dig_pos hT0
  have hl1 : loss ≤ 9223372036854775807 := by omega
  rw [hNl] at hc2 ⊢
  unfold Tells
  go_enter Try.func16, Try.ntmps16
  have H := ((All.start w).arg h).arg h2
  replace hN := Aside0.mk hN
  replace htt := Aside0.mk htt
  replace hT := Aside0.mk hT
  replace hpf := Aside0.mk hpf
  replace hG := Aside0.mk hG
  replace hla := Aside0.mk hla
  replace hda := Aside0.mk hda
  replace hNl := Aside0.mk hNl
  go_wp2_with fail
  refine (room_c p (by omega) (fun x hx => by have := hpf.out x hx; unfold I64; omega) (H.get 1 rfl) hc).on H fun v w1 H z1 => ?_
  rw [← htt.out, hT.out] at H
  have hw1 : w.heap.size ≤ w1.heap.size := H.old.size
  clear z1
  obtain ⟨AT, cT, rfl, hcT, hRT⟩ := num_open (H.get 0 rfl)
  replace H := H.turn 0 rfl hRT
  unfold num
  go_wp2_with fail
  replace H := H.box w1.heap.size 38 #[.bool (neg T), .slice AT (dig T).length cT]
  replace H := H.box (w1.heap.size + 1) 38 #[.bool (neg 0), .slice none (dig 0).length 0]
  rw [dig_zero] at H
  have hbl := Aside0.mk (fun i => base_in hG.out hl i)
  have hT8 : Aside0 ((dig T).length ≤ 1000) := ⟨Nat.le_trans (len9 (by omega)) (by decide)⟩
  have hl8 : Aside0 ((dig loss).length ≤ 400000) := ⟨Nat.le_trans (len9 (by omega)) (by decide)⟩
  have hlI : Aside0 (I64 loss) := ⟨by unfold I64; omega⟩
  go_loopg [9] (p.length + 1) (fun kq v9 w' => ∃ (i : Nat) (oL : Nat → Prop) (AL : Option Addr) (cL : Nat) (L : Int), v9 = .int .i64 (i : Int) ∧ Aside0 (∀ k, oL k → w.heap.size ≤ k) ∧ Aside0 (i ≤ p.length ∧ kq = p.length + 1 - i ∧ (i = 0 ∨ 0 < T) ∧ ((base loss (p.map cp)).take i).sum = L ∧ (dig L).length ≤ cL) ∧ Aside0 (∃ Q, 0 ≤ Q ∧ N.drop i = (gv ((p.map cp).drop i) ((base loss (p.map cp)).drop i) Q).1) ∧
    All w w' [(oL, Cs AL (dig L)), bx (w1.heap.size + 1) 38 #[.bool (neg L), .slice AL (dig L).length cL], bx w1.heap.size 38 #[.bool (neg T), .slice AT (dig T).length cT], (In w.heap.size w1.heap.size, Cs AT (dig T)), (ok2, Cs A2 N), (ok, fun W => Kd.C k41 W A p.length p)])
  case atStart => exact ⟨0, fun _ => False, none, 0, 0, rfl, ⟨fun k h => h.elim⟩, ⟨Nat.zero_le _, rfl, .inl rfl, rfl, by rw [dig_zero]; simp⟩, ⟨loss - (base loss (p.map cp)).sum, by have := (base_le (loss := loss) hl hG.out.pos).1; omega, by rw [← hN.out]; rfl⟩, by rw [dig_zero]; exact H.put (ok := fun _ => False) ⟨(fun k h => h.elim), fun W _ => Kd.C_nil _ W⟩ (fun _ _ _ h => h.elim)⟩
  case round =>
    obtain ⟨i, oL, AL, cL, L, rfl, hoL, hk, hQ, H⟩ := hrel
    by_cases hlt : (i : Int) < (p.length : Int)
    · by_cases hTp : 0 < T
      · have hi : i < p.length := by omega
        have hiN : i < N.length := by have := hNl.out; omega
        obtain ⟨hQ', q0, q1, hcase⟩ := s_at p loss N hNl.out hG.out hl hla.out (by rw [hT.out]; exact hTp) i hi hiN hQ.out
        rw [hT.out, hk.out.2.2.2.1] at hcase
        obtain ⟨x, hpx⟩ : ∃ x, (p[i]).f1 = x := ⟨_, rfl⟩
        obtain ⟨q, hNq⟩ : ∃ q, N[i] = q := ⟨_, rfl⟩
        rw [hpx, hNq] at hcase
        rw [hNq] at q0 q1
        have hx := hpf.out (p[i]) (List.getElem_mem hi)
        rw [hpx] at hx
        have hgd : N.getD i 0 = q := by rw [List.getD_eq_getElem?_getD, List.getElem?_eq_getElem hiN, hNq]; rfl
        have hLb := (hbl.out i)
        rw [hk.out.2.2.2.1] at hLb
        have hLb2 := (hbl.out (i + 1))
        have hL8 : Aside0 ((dig L).length ≤ 900000) := ⟨Nat.le_trans (len9 (by omega)) (by decide)⟩
        have hx8 : Aside0 ((dig x).length ≤ 400000) := ⟨Nat.le_trans (len9 (by omega)) (by decide)⟩
        have hq8 : Aside0 ((dig q).length ≤ 1000 ∧ (dig (q - 1)).length ≤ 1000) := ⟨Nat.le_trans (len9 (by omega)) (by decide), Nat.le_trans (len9 (by omega)) (by decide)⟩
        have hxl8 : Aside0 ((dig (x * loss)).length ≤ 1000) := ⟨Nat.le_trans (len9 (mul_abs hx.1 hx.2 hl hlI.out.2)) (by decide)⟩
        have hxI : Aside0 (I64 x) := ⟨by unfold I64; omega⟩
        have hqI : Aside0 (I64 q) := ⟨by unfold I64; omega⟩
        have hg : Aside0 (p.length + 1 - (i + 1) < gk ∧ i + 1 ≤ p.length) := ⟨by have := hk.out; omega⟩
        have hcL := Aside0.mk hk.out.2.2.2.2
        replace hcase := Aside0.mk hcase
        replace hQ' := Aside0.mk hQ'
        replace hpx := Aside0.mk hpx
        replace hgd := Aside0.mk hgd
        replace hi := Aside0.mk hi
        replace hiN := Aside0.mk hiN
        replace hx := Aside0.mk hx
        replace hLb := Aside0.mk hLb
        replace hLb2 := Aside0.mk hLb2
        have hTl : (0 < (dig T).length) := hda.out.2 hTp
        have hTp := Aside0.mk hTp
        clear hk hNq
        obtain ⟨ad, rfl, _⟩ := at_T41 (H.at 5 rfl) (i : Int) (by omega) hlt
        obtain ⟨ad2, rfl, _⟩ := Kd.at_int (H.at 4 rfl) (i : Int) (by omega) (by have := hiN.out; omega)
        have r3 := H.rd 2 rfl
        have f1 := p_at (H.at 5 rfl) i hi.out hpx.out
        go_wp2_with fail
        refine (narrow_c hxI.out).on H fun v w2 H z2 => ?_
        obtain ⟨A3, c3, rfl, hc3, hR3⟩ := num_open (H.get 0 rfl)
        replace H := H.turn 0 rfl hR3
        unfold num
        clear f1 r3
        go_wp2_with fail
        refine (narrow_c hlI.out).on H fun v w3 H z3 => ?_
        obtain ⟨A4, c4, rfl, hc4, hR4⟩ := num_open (H.get 0 rfl)
        replace H := H.turn 0 rfl hR4
        unfold num
        go_wp2_with fail
        refine (mul_c (H.get 1 rfl) hc3 (H.get 0 rfl) hc4 hx8.out hl8.out).on H fun v w4 H z4 => ?_
        obtain ⟨A5, c5, rfl, hc5, hR5⟩ := num_open (H.get 0 rfl)
        replace H := ((H.turn 0 rfl hR5).cut 1).cut 1
        replace H := H.box w4.heap.size 38 #[.bool (neg (x * loss)), .slice A5 (dig (x * loss)).length c5]
        unfold num
        have f2 := cs_at (H.at 6 rfl) i hiN.out hgd.out
        go_wp2_with fail
        refine (narrow_c hqI.out).on H fun v w5 H z5 => ?_
        obtain ⟨A6, c6, rfl, hc6, hR6⟩ := num_open (H.get 0 rfl)
        replace H := H.turn 0 rfl hR6
        have hw5 : w.heap.size ≤ w5.heap.size := H.old.size
        replace H := H.box w5.heap.size 38 #[.bool (neg q), .slice A6 (dig q).length c6]
        unfold num
        clear f2
        have r1 := H.rd 2 rfl
        have r2 := H.rd 0 rfl
        have r3 := H.rd 6 rfl
        go_wp2_with fail
        refine (floor_c (H.get 3 rfl) hc5 (H.get 7 rfl) hcT (H.get 1 rfl) hc6 hxl8.out hT8.out hq8.out.1 hT0).on H fun w6 H => ?_
        rcases hcase.out with ⟨e1, e2⟩ | ⟨e1, q2, e3, e2⟩
        · rw [e1]
          clear r1 r2 r3
          have r2 := H.rd 0 rfl
          have r4 := H.rd 5 rfl
          have hq8' : Aside0 ((dig q).length ≤ 900000) := ⟨Nat.le_trans hq8.out.1 (by decide)⟩
          replace e2 := Aside0.mk e2
          clear e1
          go_wp2_with fail
          refine (add_c (H.get 4 rfl) hcL.out (H.get 1 rfl) hc6 hL8.out hq8'.out).on H fun v w7 H z7 => ?_
          obtain ⟨A7, c7, rfl, hc7, hR7⟩ := num_open (H.get 0 rfl)
          replace H := H.turn 0 rfl hR7
          unfold num
          clear r2 r4
          have r8 := H.rd 6 rfl
          have z8 := H.fz 6 rfl
          go_wp2_with fail
          replace H := (H.set 6 rfl 0 (.bool (neg (L + q)))).set 6 rfl 1 (.slice A7 (dig (L + q)).length c7)
          go_roundg (p.length + 1 - (i + 1))
          case measure => exact hg.out.1
          case rel => exact ⟨i + 1, _, A7, c7, L + q, by first | rfl | (simp; done), ⟨in_le z7⟩, ⟨hg.out.2, rfl, .inr hTp.out, e2.out, hc7⟩, hQ', ((((H.cut 1).cut 1).cut 1).cut 1).cut 1⟩
        · rw [e1]
          clear r1 r2 r3
          have f2 := cs_at (H.at 8 rfl) i hiN.out hgd.out
          have hw : wrap64 (q - 1) = q - 1 := w64 (by omega) (by omega)
          have hwk : IntKind.i64.wrap (q - 1) = q - 1 := by rw [i64_w]; exact hw
          have hqI' : Aside0 (I64 (q - 1)) := ⟨by unfold I64; omega⟩
          have hq8' : Aside0 ((dig (q - 1)).length ≤ 900000) := ⟨Nat.le_trans hq8.out.2 (by decide)⟩
          replace e2 := Aside0.mk e2
          replace e3 := Aside0.mk e3
          replace q2 := Aside0.mk q2
          clear e1
          go_wp2_with fail
          refine (narrow_c hqI'.out).on H fun v w7 H z7 => ?_
          obtain ⟨A7, c7, rfl, hc7, hR7⟩ := num_open (H.get 0 rfl)
          replace H := H.turn 0 rfl hR7
          unfold num
          clear f2
          have r8 := H.rd 1 rfl
          have z8 := H.fz 1 rfl
          replace H := (H.set 1 rfl 0 (.bool (neg (q - 1)))).set 1 rfl 1 (.slice A7 (dig (q - 1)).length c7)
          have f2 := cs_at (H.at 9 rfl) i hiN.out hgd.out
          have r1 := H.rd 3 rfl
          have r2 := H.rd 1 rfl
          have r3 := H.rd 7 rfl
          have q3 : (q < 1) = False := eq_false (by have := q2.out; omega)
          go_wp2_with fail
          refine (floor_c (H.get 4 rfl) hc5 (H.get 8 rfl) hcT (H.get 0 rfl) hc7 hxl8.out hT8.out hq8.out.2 hT0).on H fun w8 H => ?_
          rw [e3.out]
          clear r1 r2 r3 f2 r8 z8
          have r2 := H.rd 1 rfl
          have r4 := H.rd 6 rfl
          go_wp2_with fail
          refine (add_c (H.get 5 rfl) hcL.out (H.get 0 rfl) hc7 hL8.out hq8'.out).on H fun v w9 H z9 => ?_
          obtain ⟨A8, c8, rfl, hc8, hR8⟩ := num_open (H.get 0 rfl)
          replace H := H.turn 0 rfl hR8
          unfold num
          clear r2 r4
          have r8 := H.rd 7 rfl
          have z8 := H.fz 7 rfl
          go_wp2_with fail
          replace H := (H.set 7 rfl 0 (.bool (neg (L + (q - 1))))).set 7 rfl 1 (.slice A8 (dig (L + (q - 1))).length c8)
          go_roundg (p.length + 1 - (i + 1))
          case measure => exact hg.out.1
          case rel => exact ⟨i + 1, _, A8, c8, L + (q - 1), by first | rfl | (simp; done), ⟨in_le z9⟩, ⟨hg.out.2, rfl, .inr hTp.out, e2.out, hc8⟩, hQ', (((((H.cut 1).cut 1).cut 1).cut 1).cut 1).cut 1⟩
      · have hL : (base loss (p.map cp)).sum = L := by
          have h1 := hk.out
          rw [base_zero (by rw [hT.out]; exact hTp), ← h1.2.2.2.1, show i = 0 by omega]
          rfl
        have hTz : (dig T).length = 0 := by have := hda.out; omega
        have r3 := H.rd 2 rfl
        replace hTp := Aside0.mk hTp
        have hRf := Aside0.mk (show 0 ≤ loss - L ∧ loss - L ≤ loss ∧ N = (gv (p.map cp) (base loss (p.map cp)) (loss - L)).1 ∧ (gv (p.map cp) (base loss (p.map cp)) (loss - L)).2 = 0 from by
          have h1 := base_le (loss := loss) hl hG.out.pos
          have h2 := hbl.out (base loss (p.map cp)).length
          rw [List.take_length] at h2
          rw [← hL]
          refine ⟨by omega, by omega, by rw [← hN.out]; rfl, spl_all hG.out hl hla.out⟩)
        have hL8 : Aside0 ((dig L).length ≤ 900000) := ⟨Nat.le_trans (len9 (by have := hRf.out; omega)) (by decide)⟩
        have hcL := Aside0.mk hk.out.2.2.2.2
        have hl9 : Aside0 ((dig loss).length ≤ 900000) := ⟨Nat.le_trans hl8.out (by decide)⟩
        replace hL := Aside0.mk hL
        clear hk hQ
        go_wp2_with fail
        refine planT_ (true, [([], []), ([0], [0]), ([], []), ([2, 1], [2]), ([1, 3, 3], [1, 3]), ([], []), ([5, 4, 4, 0, 1, 2, 3, 4, 5], [4, 5])]) (.fork [.p 0, .t 2] 1 5 (.fork [] 3 5 (.fork [] 4 5 (.leaf [.c 5, .c 6]) (.leaf [.c 4, .c 6])) (.leaf [.c 3, .c 4, .c 6])) (.leaf [.c 1, .c 3, .c 4, .c 6])) H (by kernel_rfl) (by kernel_rfl) rfl rfl (by kernel_rfl) (by intro c a w d v h; cases d <;> exact h) (fun w2 H => ?_)
        have z2 : w.heap.size ≤ w2.heap.size := H.old.size
        refine pl_fork ?_
        refine pl_P (h := ?_)
        refine pl_B 1 H rfl (h := ?_)
        refine pl_done ⟨?_, ?_⟩
        · refine pl_G (narrow_c hlI.out) H Try.func15 (h := fun v w3 H z3 => ?_)
          obtain ⟨A3, c3, rfl, hc3, hR3⟩ := num_open (H.get 0 rfl)
          replace H := H.turn 0 rfl hR3
          have zb : w.heap.size ≤ w3.heap.size := H.old.size
          unfold num
          refine pl_done (pl_fork (pl_done ⟨?_, ?_⟩))
          · refine pl_S (neg_t (H.get 1 rfl) hcL.out hL8.out) H Try.func23 (h := fun w4 H => ?_)
            have zb4 : w.heap.size ≤ w4.heap.size := H.old.size
            refine pl_done (pl_fork (pl_done ⟨?_, ?_⟩))
            · refine pl_G (add_c (x := loss) (y := -L) (H.get 0 rfl) hc3 (neg_h (H.get 1 rfl)) (neg_l hcL.out) hl9.out (neg_l hL8.out)) H Try.func20 (h := fun v w5 H z5 => ?_)
              rw [show loss + -L = loss - L by omega] at H
              obtain ⟨A5, c5, rfl, hc5, hR5⟩ := num_open (H.get 0 rfl)
              replace H := H.turn 0 rfl hR5
              have zb5 : w.heap.size ≤ w5.heap.size := H.old.size
              unfold num
              refine pl_done (pl_leaf ?_)
              refine pl_R (H.box w5.heap.size 38 #[.bool false, .slice none 0 0]) (fun _ => ?_)
              refine pl_W (H.box w5.heap.size 38 #[.bool (neg (loss - L)), .slice A5 (dig (loss - L)).length c5]) (fun H => ?_)
              refine pl_done ?_
              apply_assumption
              exact split_t p loss N T (loss - L) hp hNl.out hG.out hl hla.out hT.out hRf.out.1 hRf.out.2.1 hRf.out.2.2.1 hRf.out.2.2.2 hc hc2 hcT hc5 (in_le z5) zb5 (((H.swap.cut 2).cut 2).cut 2)
            · refine pl_R (H.box w4.heap.size 38 #[.bool false, .slice none 0 0]) (fun H => ?_)
              refine pl_done (pl_leaf ?_)
              refine pl_G (add_c (x := loss) (y := -L) (H.get 1 rfl) hc3 (neg_h (H.get 2 rfl)) (neg_l hcL.out) hl9.out (neg_l hL8.out)) H Try.func20 (h := fun v w5 H z5 => ?_)
              rw [show loss + -L = loss - L by omega] at H
              obtain ⟨A5, c5, rfl, hc5, hR5⟩ := num_open (H.get 0 rfl)
              replace H := H.turn 0 rfl hR5
              unfold num
              have r1 := H.rd 1 rfl
              have z1 := H.fz 1 rfl
              refine pl_W ((H.set 1 rfl 0 (.bool (neg (loss - L)))).set 1 rfl 1 (.slice A5 (dig (loss - L)).length c5)) (fun H => ?_)
              refine pl_done ?_
              apply_assumption
              exact split_t p loss N T (loss - L) hp hNl.out hG.out hl hla.out hT.out hRf.out.1 hRf.out.2.1 hRf.out.2.2.1 hRf.out.2.2.2 hc hc2 hcT hc5 (in_le z5) zb4 (((H.cut 2).cut 2).cut 2)
          · refine pl_R (H.box w3.heap.size 38 #[.bool false, .slice none 0 0]) (fun H => ?_)
            refine pl_done (pl_leaf ?_)
            refine pl_S (neg_t (H.get 2 rfl) hcL.out hL8.out) H Try.func23 (h := fun w4 H => ?_)
            refine pl_G (add_c (x := loss) (y := -L) (H.get 1 rfl) hc3 (neg_h (H.get 2 rfl)) (neg_l hcL.out) hl9.out (neg_l hL8.out)) H Try.func20 (h := fun v w5 H z5 => ?_)
            rw [show loss + -L = loss - L by omega] at H
            obtain ⟨A5, c5, rfl, hc5, hR5⟩ := num_open (H.get 0 rfl)
            replace H := H.turn 0 rfl hR5
            unfold num
            have r1 := H.rd 1 rfl
            have z1 := H.fz 1 rfl
            refine pl_W ((H.set 1 rfl 0 (.bool (neg (loss - L)))).set 1 rfl 1 (.slice A5 (dig (loss - L)).length c5)) (fun H => ?_)
            refine pl_done ?_
            apply_assumption
            exact split_t p loss N T (loss - L) hp hNl.out hG.out hl hla.out hT.out hRf.out.1 hRf.out.2.1 hRf.out.2.2.1 hRf.out.2.2.2 hc hc2 hcT hc5 (in_le z5) zb (((H.cut 2).cut 2).cut 2)
        · refine pl_R (H.box w2.heap.size 38 #[.bool false, .slice none 0 0]) (fun H => ?_)
          refine pl_done (pl_leaf ?_)
          refine pl_G (narrow_c hlI.out) H Try.func15 (h := fun v w3 H z3 => ?_)
          obtain ⟨A3, c3, rfl, hc3, hR3⟩ := num_open (H.get 0 rfl)
          replace H := H.turn 0 rfl hR3
          unfold num
          refine pl_S (neg_t (H.get 2 rfl) hcL.out hL8.out) H Try.func23 (h := fun w4 H => ?_)
          refine pl_G (add_c (x := loss) (y := -L) (H.get 0 rfl) hc3 (neg_h (H.get 2 rfl)) (neg_l hcL.out) hl9.out (neg_l hL8.out)) H Try.func20 (h := fun v w5 H z5 => ?_)
          rw [show loss + -L = loss - L by omega] at H
          obtain ⟨A5, c5, rfl, hc5, hR5⟩ := num_open (H.get 0 rfl)
          replace H := H.turn 0 rfl hR5
          unfold num
          have r1 := H.rd 2 rfl
          have z1 := H.fz 2 rfl
          refine pl_W ((H.set 2 rfl 0 (.bool (neg (loss - L)))).set 2 rfl 1 (.slice A5 (dig (loss - L)).length c5)) (fun H => ?_)
          refine pl_done ?_
          apply_assumption
          exact split_t p loss N T (loss - L) hp hNl.out hG.out hl hla.out hT.out hRf.out.1 hRf.out.2.1 hRf.out.2.2.1 hRf.out.2.2.2 hc hc2 hcT hc5 (in_le z5) z2 (((H.cut 1).cut 2).cut 2)
    · have hL : (base loss (p.map cp)).sum = L := by
        have h1 := hk.out.2.2.2.1
        rwa [List.take_of_length_le (by rw [base_len, List.length_map]; omega)] at h1
      have hRf := Aside0.mk (show 0 ≤ loss - L ∧ loss - L ≤ loss ∧ N = (gv (p.map cp) (base loss (p.map cp)) (loss - L)).1 ∧ (gv (p.map cp) (base loss (p.map cp)) (loss - L)).2 = 0 from by
        have h1 := base_le (loss := loss) hl hG.out.pos
        have h2 := hbl.out (base loss (p.map cp)).length
        rw [List.take_length] at h2
        rw [← hL]
        refine ⟨by omega, by omega, by rw [← hN.out]; rfl, spl_all hG.out hl hla.out⟩)
      have hL8 : Aside0 ((dig L).length ≤ 900000) := ⟨Nat.le_trans (len9 (by have := hRf.out; omega)) (by decide)⟩
      have hcL := Aside0.mk hk.out.2.2.2.2
      have hl9 : Aside0 ((dig loss).length ≤ 900000) := ⟨Nat.le_trans hl8.out (by decide)⟩
      replace hL := Aside0.mk hL
      clear hk hQ
      go_wp2_with fail
      refine planT_ (true, [([], []), ([0], [0]), ([], []), ([2, 1], [2]), ([1, 3, 3], [1, 3]), ([], []), ([5, 4, 4, 0, 1, 2, 3, 4, 5], [4, 5])]) (.fork [.p 0, .t 2] 1 5 (.fork [] 3 5 (.fork [] 4 5 (.leaf [.c 5, .c 6]) (.leaf [.c 4, .c 6])) (.leaf [.c 3, .c 4, .c 6])) (.leaf [.c 1, .c 3, .c 4, .c 6])) H (by kernel_rfl) (by kernel_rfl) rfl rfl (by kernel_rfl) (by intro c a w d v h; cases d <;> exact h) (fun w2 H => ?_)
      have z2 : w.heap.size ≤ w2.heap.size := H.old.size
      refine pl_fork ?_
      refine pl_P (h := ?_)
      refine pl_B 1 H rfl (h := ?_)
      refine pl_done ⟨?_, ?_⟩
      · refine pl_G (narrow_c hlI.out) H Try.func15 (h := fun v w3 H z3 => ?_)
        obtain ⟨A3, c3, rfl, hc3, hR3⟩ := num_open (H.get 0 rfl)
        replace H := H.turn 0 rfl hR3
        have zb : w.heap.size ≤ w3.heap.size := H.old.size
        unfold num
        refine pl_done (pl_fork (pl_done ⟨?_, ?_⟩))
        · refine pl_S (neg_t (H.get 1 rfl) hcL.out hL8.out) H Try.func23 (h := fun w4 H => ?_)
          have zb4 : w.heap.size ≤ w4.heap.size := H.old.size
          refine pl_done (pl_fork (pl_done ⟨?_, ?_⟩))
          · refine pl_G (add_c (x := loss) (y := -L) (H.get 0 rfl) hc3 (neg_h (H.get 1 rfl)) (neg_l hcL.out) hl9.out (neg_l hL8.out)) H Try.func20 (h := fun v w5 H z5 => ?_)
            rw [show loss + -L = loss - L by omega] at H
            obtain ⟨A5, c5, rfl, hc5, hR5⟩ := num_open (H.get 0 rfl)
            replace H := H.turn 0 rfl hR5
            have zb5 : w.heap.size ≤ w5.heap.size := H.old.size
            unfold num
            refine pl_done (pl_leaf ?_)
            refine pl_R (H.box w5.heap.size 38 #[.bool false, .slice none 0 0]) (fun _ => ?_)
            refine pl_W (H.box w5.heap.size 38 #[.bool (neg (loss - L)), .slice A5 (dig (loss - L)).length c5]) (fun H => ?_)
            refine pl_done ?_
            apply_assumption
            exact split_t p loss N T (loss - L) hp hNl.out hG.out hl hla.out hT.out hRf.out.1 hRf.out.2.1 hRf.out.2.2.1 hRf.out.2.2.2 hc hc2 hcT hc5 (in_le z5) zb5 (((H.swap.cut 2).cut 2).cut 2)
          · refine pl_R (H.box w4.heap.size 38 #[.bool false, .slice none 0 0]) (fun H => ?_)
            refine pl_done (pl_leaf ?_)
            refine pl_G (add_c (x := loss) (y := -L) (H.get 1 rfl) hc3 (neg_h (H.get 2 rfl)) (neg_l hcL.out) hl9.out (neg_l hL8.out)) H Try.func20 (h := fun v w5 H z5 => ?_)
            rw [show loss + -L = loss - L by omega] at H
            obtain ⟨A5, c5, rfl, hc5, hR5⟩ := num_open (H.get 0 rfl)
            replace H := H.turn 0 rfl hR5
            unfold num
            have r1 := H.rd 1 rfl
            have z1 := H.fz 1 rfl
            refine pl_W ((H.set 1 rfl 0 (.bool (neg (loss - L)))).set 1 rfl 1 (.slice A5 (dig (loss - L)).length c5)) (fun H => ?_)
            refine pl_done ?_
            apply_assumption
            exact split_t p loss N T (loss - L) hp hNl.out hG.out hl hla.out hT.out hRf.out.1 hRf.out.2.1 hRf.out.2.2.1 hRf.out.2.2.2 hc hc2 hcT hc5 (in_le z5) zb4 (((H.cut 2).cut 2).cut 2)
        · refine pl_R (H.box w3.heap.size 38 #[.bool false, .slice none 0 0]) (fun H => ?_)
          refine pl_done (pl_leaf ?_)
          refine pl_S (neg_t (H.get 2 rfl) hcL.out hL8.out) H Try.func23 (h := fun w4 H => ?_)
          refine pl_G (add_c (x := loss) (y := -L) (H.get 1 rfl) hc3 (neg_h (H.get 2 rfl)) (neg_l hcL.out) hl9.out (neg_l hL8.out)) H Try.func20 (h := fun v w5 H z5 => ?_)
          rw [show loss + -L = loss - L by omega] at H
          obtain ⟨A5, c5, rfl, hc5, hR5⟩ := num_open (H.get 0 rfl)
          replace H := H.turn 0 rfl hR5
          unfold num
          have r1 := H.rd 1 rfl
          have z1 := H.fz 1 rfl
          refine pl_W ((H.set 1 rfl 0 (.bool (neg (loss - L)))).set 1 rfl 1 (.slice A5 (dig (loss - L)).length c5)) (fun H => ?_)
          refine pl_done ?_
          apply_assumption
          exact split_t p loss N T (loss - L) hp hNl.out hG.out hl hla.out hT.out hRf.out.1 hRf.out.2.1 hRf.out.2.2.1 hRf.out.2.2.2 hc hc2 hcT hc5 (in_le z5) zb (((H.cut 2).cut 2).cut 2)
      · refine pl_R (H.box w2.heap.size 38 #[.bool false, .slice none 0 0]) (fun H => ?_)
        refine pl_done (pl_leaf ?_)
        refine pl_G (narrow_c hlI.out) H Try.func15 (h := fun v w3 H z3 => ?_)
        obtain ⟨A3, c3, rfl, hc3, hR3⟩ := num_open (H.get 0 rfl)
        replace H := H.turn 0 rfl hR3
        unfold num
        refine pl_S (neg_t (H.get 2 rfl) hcL.out hL8.out) H Try.func23 (h := fun w4 H => ?_)
        refine pl_G (add_c (x := loss) (y := -L) (H.get 0 rfl) hc3 (neg_h (H.get 2 rfl)) (neg_l hcL.out) hl9.out (neg_l hL8.out)) H Try.func20 (h := fun v w5 H z5 => ?_)
        rw [show loss + -L = loss - L by omega] at H
        obtain ⟨A5, c5, rfl, hc5, hR5⟩ := num_open (H.get 0 rfl)
        replace H := H.turn 0 rfl hR5
        unfold num
        have r1 := H.rd 2 rfl
        have z1 := H.fz 2 rfl
        refine pl_W ((H.set 2 rfl 0 (.bool (neg (loss - L)))).set 2 rfl 1 (.slice A5 (dig (loss - L)).length c5)) (fun H => ?_)
        refine pl_done ?_
        apply_assumption
        exact split_t p loss N T (loss - L) hp hNl.out hG.out hl hla.out hT.out hRf.out.1 hRf.out.2.1 hRf.out.2.2.1 hRf.out.2.2.2 hc hc2 hcT hc5 (in_le z5) z2 (((H.cut 1).cut 2).cut 2)
end Go.Proofs.Ytfbkgfffalppmaa.Nu
end
section
namespace Go.Proofs.Ytfbkgfffalppmaa.Nu
open Go Go.RowKit Go.Proofs.YtfbkgfffalppmaaW.PrintWords Go.Proofs.Ytfbkgfffalppmaa.Hd
open Go.Proofs.Ytfbkgfffalppmaa.Wf (S41 k41)
theorem below_of {w W : World} (hW : ∀ k, k < w.heap.size → W.heap[k]? = w.heap[k]?) : Below w.heap.size w { w with heap := W.heap } := by
  refine ⟨rfl, rfl, rfl, ?_, hW⟩
  show w.heap.size ≤ W.heap.size
  rcases Nat.eq_zero_or_pos w.heap.size with h | h
  · omega
  · have h1 := hW (w.heap.size - 1) (by omega)
    rw [Array.getElem?_eq_getElem (show w.heap.size - 1 < w.heap.size by omega)] at h1
    obtain ⟨h2, _⟩ := Array.getElem?_eq_some_iff.1 h1
    omega
theorem held_41 {w : World} {A : Option Addr} {n : Nat} {p : List S41} (h : Kd.C k41 w A n p) : Held w (fun k => k < w.heap.size) (fun W => Kd.C k41 W A n p) :=
  ⟨fun _ h => h, fun W hW => by have h2 := Kd.C_below h (below_of hW); exact h2⟩
theorem held_int {w : World} {A : Option Addr} {l : List Int} (h : Kd.C (Kd.int .i64) w A l.length l) : Held w (fun k => k < w.heap.size) (Cs A l) :=
  ⟨fun _ h => h, fun W hW => by have h2 := Kd.C_below h (below_of hW); exact h2⟩
end Go.Proofs.Ytfbkgfffalppmaa.Nu
namespace Go.Proofs.Ytfbkgfffalppmaa.Sx
set_option linter.unusedSimpArgs false
set_option linter.unusedVariables false
open Go Go.RowKit Go.Proofs.Ytfbkgfffalppmaa.Wf Go.Proofs.YtfbkgfffalppmaaW.PrintWords Go.Proofs.YtfbkgfffalppmaaW.PrintLast Go.Proofs.YtfbkgfffalppmaaW.PrintMore Go.Proofs.Ytfbkgfffalppmaa.Fv Go.Proofs.Ytfbkgfffalppmaa.Fc Go.Proofs.Ytfbkgfffalppmaa.Wq
def bad (loss : Int) (D : List S41) : Bool := decide (loss < 0) || D.any (fun x => decide (x.f1 < 0))
theorem split_pure2 (loss : Int) (D : List S41) (hD : D.length ≤ 70) (hg : ∀ x ∈ D, I64 x.f1) : ∃ (K : Nat) (r1 : List Int) (r2 : Int), waterfall_Split.f K loss (D.map cp) = some (r1, r2) ∧
    (bad loss D = true → r1 = [] ∧ r2 = 1) ∧ (bad loss D = false → ¬ Nu.I64 (Nu.tot' D) → r1 = [] ∧ r2 = 4) ∧ (bad loss D = false → Nu.I64 (Nu.tot' D) → loss > Nu.tot' D → r1 = [] ∧ r2 = 7) ∧
    (bad loss D = false → Nu.I64 (Nu.tot' D) → ¬ loss > Nu.tot' D → r2 = 0 ∧ r1 = spl loss (D.map cp) ∧ Gd (D.map cp) ∧ 0 ≤ loss ∧ loss ≤ tt (D.map cp)) := by
  have htt : tt (D.map cp) = Nu.tot' D := by simp [tt, Nu.tot', cp, List.map_map, Function.comp_def]
  have hany : (D.map cp).any (fun x => decide (x.f1 < 0)) = D.any (fun x => decide (x.f1 < 0)) := by rw [List.any_map]; rfl
  obtain ⟨q1, q2, f1, f2⟩ := room_f (D.map cp) (by rw [List.length_map]; omega) (fun p hp => by
    obtain ⟨x, hx, rfl⟩ := List.mem_map.1 hp
    exact hg x hx)
  have hsum : ((D.map cp).map (·.f1)).sum = Nu.tot' D := htt
  rw [hsum] at f2
  rw [List.length_map] at f1
  have hlen : (D.map cp).length ≤ 17592186044416 := by rw [List.length_map]; omega
  obtain ⟨S, hS⟩ : ∃ S, Nu.tot' D = S := ⟨_, rfl⟩
  rw [hS] at f2 htt ⊢
  unfold Nu.I64
  by_cases cb : bad loss D = true
  · refine ⟨0, [], 1, ?_, fun _ => ⟨rfl, rfl⟩, fun h => absurd (cb.symm.trans h) (by simp), fun h => absurd (cb.symm.trans h) (by simp), fun h => absurd (cb.symm.trans h) (by simp)⟩
    unfold waterfall_Split.f
    rw [if_pos hlen, hany]
    unfold bad at cb
    by_cases c : loss < 0
    · rw [if_pos c]
    · rw [if_neg c, if_pos (by simpa [c] using cb)]
  · have cb' : bad loss D = false := by simpa using cb
    have cb2 := cb'
    unfold bad at cb2
    rw [Bool.or_eq_false_iff] at cb2
    have h0 : ¬ loss < 0 := of_decide_eq_false cb2.1
    have hW : ∀ e, waterfall_Split.f (D.length + 1 + e) loss (D.map cp) = if q2 = 0 then (if loss > q1 then some ([], 7) else (waterfall_Split.lp1 (D.length + 1 + e) loss q1 (D.map cp) loss).bind fun y => some ((waterfall_Split.lp2 (D.map cp) y.1 y.2).1, 0)) else some ([], q2) := fun e => by
      unfold waterfall_Split.f
      rw [if_pos hlen, hany, if_neg h0, if_neg (by simp [cb2.2]), f1, Option.bind_some]
    by_cases ci : -9223372036854775808 ≤ S ∧ S ≤ 9223372036854775807
    · rcases f2 with ⟨_, g1, g2⟩ | ⟨g1, _⟩
      · rw [g1, g2] at hW
        by_cases cl : loss > S
        · exact ⟨D.length + 1 + 0, [], 7, by rw [hW, if_pos rfl, if_pos cl], fun h => absurd h cb, fun _ h => absurd ci h, fun _ _ _ => ⟨rfl, rfl⟩, fun _ _ h => absurd cl h⟩
        · have hG : Gd (D.map cp) := by
            refine ⟨by rw [List.length_map]; omega, fun p hp => ?_, by rw [htt]; exact ci.2⟩
            obtain ⟨x, hx, rfl⟩ := List.mem_map.1 hp
            have h1 := cb2.2
            rw [List.any_eq_false] at h1
            have h2 := h1 x hx
            simp at h2
            exact h2
          obtain ⟨K6, h6⟩ := Split_f hG (loss := loss) (by omega) (by rw [htt]; omega)
          exact ⟨K6 + 0, _, 0, h6 0, fun h => absurd h cb, fun _ h => absurd ci h, fun _ _ h => absurd h cl, fun _ _ _ => ⟨rfl, rfl, hG, by omega, by rw [htt]; omega⟩⟩
      · exact absurd ci g1
    · rcases f2 with ⟨g1, _⟩ | ⟨_, _, g2⟩
      · exact absurd g1 ci
      · rw [g2] at hW
        exact ⟨D.length + 1 + 0, [], 4, by rw [hW, if_neg (by omega)], fun h => absurd h cb, fun _ _ => ⟨rfl, rfl⟩, fun _ h => absurd h ci, fun _ h => absurd h ci⟩
theorem To_one (p : List S41) : ∃ K, clevislaw28_To.f K [(⟨⟨#[]⟩, p⟩ : S28)] = some ([(⟨⟨#[]⟩, (p.take 70).map cp⟩ : S35)], [(⟨⟨#[]⟩, p.take 70⟩ : S28)]) := by
  obtain ⟨K, h⟩ := To_f [(⟨⟨#[]⟩, p⟩ : S28)]
  exact ⟨K, h 0⟩
set_option maxHeartbeats 8000000
set_option maxRecDepth 100000
theorem walk (loss : Int) (hl : I64 loss) (A : Option Addr) (c : Nat) (p : List S41) (w : World) (hc : p.length ≤ c) (hC : Kd.C k41 w A p.length p) (hg : ∀ x ∈ p, I64 x.f1) :
    Calls Try.prog 3 #[.int .i64 loss, .slice A p.length c] w fun e w' => e = .returned (.bool true) ∧ Below w.heap.size w w' := by
  obtain ⟨K1, h1⟩ := To_one p
  obtain ⟨D, hD⟩ : ∃ D, D = p.take 70 := ⟨_, rfl⟩
  rw [← hD] at h1
  have hDl : D.length ≤ 70 := by rw [hD, List.length_take]; omega
  have hDg : ∀ x ∈ D, I64 x.f1 := fun x hx => hg x (by rw [hD] at hx; exact List.mem_of_mem_take hx)
  obtain ⟨K, r1, r2, g1, e1, e2, e3, e4⟩ := split_pure2 loss D hDl hDg
  obtain ⟨S, hS⟩ : ∃ S, Nu.tot' D = S := ⟨_, rfl⟩
  rw [hS] at e2 e3 e4
  have hS5 : Aside0 ((Nu.dig S).length ≤ 5) := ⟨Nu.len5 (by
    have h5 := Nu.tot_abs hDg
    rw [hS] at h5
    omega)⟩
  have hlI : Aside0 (Nu.I64 loss) := ⟨hl⟩
  have hl5 : Aside0 ((Nu.dig loss).length ≤ 5) := ⟨Nu.len5 (by unfold I64 at hl; omega)⟩
  obtain ⟨ft, hft0⟩ : ∃ b, decide (Nu.I64 S) = b := ⟨_, rfl⟩
  obtain ⟨s, hs0⟩ : ∃ s, Nu.sgn loss S = s := ⟨_, rfl⟩
  have hsg : 0 < s ↔ loss > S := by rw [← hs0]; unfold Nu.sgn; (repeat' split) <;> omega
  replace e1 := Aside0.mk e1
  replace e2 : Aside0 (bad loss D = false → ft = false → r1 = [] ∧ r2 = 4) := ⟨fun h1 h2 => e2 h1 (by rw [← hft0] at h2; exact of_decide_eq_false h2)⟩
  replace e3 : Aside0 (bad loss D = false → ft = true → 0 < s → r1 = [] ∧ r2 = 7) := ⟨fun h1 h2 h3 => e3 h1 (by rw [← hft0] at h2; exact of_decide_eq_true h2) (hsg.1 h3)⟩
  replace e4 : Aside0 (bad loss D = false → ft = true → ¬ 0 < s → r2 = 0 ∧ r1 = spl loss (D.map cp) ∧ Gd (D.map cp) ∧ 0 ≤ loss ∧ loss ≤ tt (D.map cp)) := ⟨fun h1 h2 h3 => e4 h1 (by rw [← hft0] at h2; exact of_decide_eq_true h2) (fun h => h3 (hsg.2 h))⟩
  replace hft0 := Aside0.mk hft0
  replace hs0 := Aside0.mk hs0
  replace hS := Aside0.mk hS
  clear hsg
  replace hDg := Aside0.mk hDg
  replace hD := Aside0.mk hD
  have hu41 := Try.underlying41
  have hu38 := Try.underlying38
  have hu28 := Try.underlying28
  have hu35 := Try.underlying35
  go_enter Try.func3, Try.ntmps3
  go_wp2_with fail
  have hC2 : Kd.C k28 (w.alloc (.cells #[.string ⟨#[]⟩, .slice A p.length c] 28)) (some ⟨w.heap.size, 0, none⟩) [(⟨⟨#[]⟩, p⟩ : S28)].length [(⟨⟨#[]⟩, p⟩ : S28)] := by
    refine ⟨rfl, by simp, fun _ => ⟨_, rfl, fun j q hj => ?_⟩⟩
    have hj0 : j = 0 := by
      rcases Nat.eq_zero_or_pos j with h | h
      · exact h
      · rw [List.getElem?_eq_none (by simp; omega)] at hj
        cases hj
    subst hj0
    obtain rfl : (⟨⟨#[]⟩, p⟩ : S28) = q := by simpa using hj
    refine ⟨[.string ⟨#[]⟩, .slice A p.length c], rfl, k28_mk _ ⟨⟨#[]⟩, p⟩ hc (Kd.C_alloc hC _), fun i u hu => ?_⟩
    rw [add_at]
    refine (blk_cell (heap_alloc_new w _) _).trans ?_
    simpa using hu
  refine (clevislaw28_To.calls K1 _ 1 [⟨⟨#[]⟩, p⟩] _ _ _ hC2 (by simp) h1).mono ?_
  rintro e w1 ⟨v0, v1, rfl, hs0, hs1, hb1⟩
  have hB1 : Below w.heap.size w w1 := below_step (below_alloc (Below.refl _ _) _) hb1
  obtain ⟨A1, c1, rfl⟩ := Kd.S_slice hs0
  obtain ⟨_, hc1, hC1⟩ := Kd.S_reads' hs0
  obtain ⟨A2, c2, rfl⟩ := Kd.S_slice hs1
  obtain ⟨_, hc2', hC2'⟩ := Kd.S_reads' hs1
  obtain ⟨ad1, A3, c3, rfl, x0, x1, hc3, hC3⟩ := at_T35 hC1 0 (by omega) (by simp)
  obtain ⟨ad2, A4, c4, rfl, y0, y1, hc4, hC4⟩ := at_T28 hC2' 0 (by omega) (by simp)
  have r35 : rd_T35 [(⟨⟨#[]⟩, D.map cp⟩ : S35)] 0 = ⟨⟨#[]⟩, D.map cp⟩ := rfl
  have r28 : rd_T28 [(⟨⟨#[]⟩, D⟩ : S28)] 0 = ⟨⟨#[]⟩, D⟩ := rfl
  rw [r35] at x0 x1 hc3 hC3
  rw [r28] at y0 y1 hc4 hC4
  clear hs0 hs1 hb1 hC1 hC2' hC2 hC hg
  dsimp only at x0 x1 y0 y1 hc3 hc4 hC3 hC4
  have z0 : (0 : Int).toNat * 2 = 0 := rfl
  rw [z0] at x0 x1 y0 y1
  have az : ∀ a : Addr, a.add 0 = a := fun a => by unfold Addr.add; split <;> simp_all
  rw [az] at x0 x1 y0 y1
  obtain ⟨X, hX⟩ : ∃ X, X = D.map cp := ⟨_, rfl⟩
  rw [← hX] at x1 hc3 hC3 g1
  replace hX := Aside0.mk hX
  go_wp2_with fail
  refine (waterfall_Split.calls K loss A3 c3 X r1 r2 w1 hC3 hc3 g1).mono ?_
  rintro e w2 ⟨v2, rfl, hr2, hb2⟩
  have hB2 := below_step hB1 hb2
  have ly := World.block_lt_of_cell? w1 _ y0
  replace y0 := (hb2.cell ly).trans y0
  replace y1 := (hb2.cell (World.block_lt_of_cell? w1 _ y1)).trans y1
  replace hC4 := Kd.C_below hC4 hb2
  obtain ⟨A6, c6, rfl, hc6, hC6⟩ := Kd.R_reads hr2
  clear hr2 hb2 hC3 x0 x1 ly hB1
  go_wp2_with fail
  refine (Nu.room_c D (by omega) hDg.out (Nu.held_41 hC4) hc4).mono ?_
  rintro e w3 ⟨v3, rfl, hb3, hv3⟩
  rw [hS.out] at hv3
  have hB3 := below_step hB2 hb3
  replace hC4 := Kd.C_below hC4 hb3
  replace hC6 := Kd.C_below hC6 hb3
  obtain ⟨A7, c7, rfl, hc7, hR7⟩ := Nu.num_open hv3
  have hC7 : Kd.C (Kd.int .i64) w3 A7 (Nu.dig S).length (Nu.dig S) := hR7.now
  clear hR7
  unfold Nu.num
  clear hv3 hb3 hB2 y0 y1
  replace hC4 := Aside0.mk hC4
  replace hC6 := Aside0.mk hC6
  replace hC7 := Aside0.mk hC7
  replace hB3 := Aside0.mk hB3
  go_wp2_with fail
  go_loopg [11, 12] (D.length + 1) (fun kq v11 v12 w' => ∃ (i : Nat), v11 = .bool (bad loss (D.take i)) ∧ v12 = .int .i64 (i : Int) ∧ Aside0 (i ≤ D.length ∧ kq = D.length + 1 - i) ∧ Aside0 (Kd.C k41 w' A4 D.length D) ∧ Aside0 (Kd.C (Kd.int .i64) w' A6 r1.length r1) ∧ Aside0 (Kd.C (Kd.int .i64) w' A7 (Nu.dig S).length (Nu.dig S)) ∧ Aside0 (w'.heap[w3.heap.size]? = some (.cells #[.bool (Nu.neg S), .slice A7 (Nu.dig S).length c7] 38 (0, 0))) ∧ Aside0 (Below w.heap.size w w'))
  case atStart => exact ⟨0, by simp [bad], rfl, ⟨by omega, by omega⟩, ⟨Kd.C_alloc hC4.out _⟩, ⟨Kd.C_alloc hC6.out _⟩, ⟨Kd.C_alloc hC7.out _⟩, ⟨heap_alloc_new w3 _⟩, ⟨below_alloc hB3.out _⟩⟩
  case round =>
    obtain ⟨i, rfl, rfl, HF, HC4, HC6, HC7, BK, HB⟩ := hrel
    clear hC4 hC6 hC7 hB3
    by_cases cc : (i : Int) < (D.length : Int)
    · have hil : i < D.length := by omega
      have hi1 : Aside0 (i + 1 ≤ D.length) := ⟨hil⟩
      have m1 : Aside0 (D.length + 1 - (i + 1) < gk) := ⟨by have := HF.out.2; omega⟩
      obtain ⟨ad3, e3, p0, p1⟩ := at_T41 HC4.out (i : Int) (by omega) cc
      have hr : rd_T41 D (i : Int) = D[i] := rd41 hil
      rw [hr] at p0 p1
      rw [Int.toNat_natCast] at p0 p1
      have hbad : bad loss (D.take (i + 1)) = (bad loss (D.take i) || decide ((D[i]).f1 < 0)) := by
        unfold bad
        rw [take_snoc' _ _ hil, List.any_append]
        simp [Bool.or_assoc]
      have j0 : (0 : Int) ≤ (i : Int) := by omega
      have hw : wrap64 ((i : Int) + 1) = ((i + 1 : Nat) : Int) := wi i (by omega)
      generalize D[i] = v at *
      subst e3
      replace cc := eq_true cc
      replace j0 := eq_true j0
      clear h1 g1 hl hDl hc hc1 hc2' hc3 hc6 hc7 hil
      by_cases cb : bad loss (D.take i) = true
      · rw [cb] at hbad ⊢
        go_wp2
        go_roundg (D.length + 1 - (i + 1))
        case measure => exact m1.out
        case rel => exact ⟨i + 1, by rw [hbad]; rfl, by first | (rw [hw]; done) | (simp; done) | (simp [hw]; done), ⟨hi1.out, rfl⟩, HC4, HC6, HC7, BK, HB⟩
      · have cb : bad loss (D.take i) = false := by simpa using cb
        rw [cb] at hbad ⊢
        go_wp2
        go_roundg (D.length + 1 - (i + 1))
        case measure => exact m1.out
        case rel => exact ⟨i + 1, by rw [hbad]; rfl, by first | (rw [hw]; done) | (simp; done) | (simp [hw]; done), ⟨hi1.out, rfl⟩, HC4, HC6, HC7, BK, HB⟩
    · have hie : D.take i = D := List.take_of_length_le (by omega)
      rw [hie]
      replace cc := eq_false cc
      have k0 : wr.cell? ⟨w3.heap.size, 0, none⟩ = some (.bool (Nu.neg S)) := (blk_cell BK.out 0).trans rfl
      have k1 : wr.cell? ⟨w3.heap.size, 1, none⟩ = some (.slice A7 (Nu.dig S).length c7) := (blk_cell BK.out 1).trans rfl
      have lk := World.block_lt_of_cell? wr _ k0
      by_cases cb : bad loss D = true
      · obtain ⟨q1, q2⟩ := e1.out cb
        subst q1 q2
        rw [cb]
        go_wp2_with fail
        refine (clevislaw28_known.calls 60 true _ (Wp.known_f 0)).mono ?_
        rintro e w6 ⟨rfl, hb6⟩
        go_wp2
        go_ret
        exact ⟨rfl, below_step HB.out hb6⟩
      · have cb : bad loss D = false := by simpa using cb
        rw [cb]
        go_wp2_with fail
        refine (Nu.fits64_c (Nu.held_int HC7.out) hc7 (Nat.le_trans hS5.out (by decide))).mono ?_
        rw [hft0.out]
        rintro e w6 ⟨rfl, hb6⟩
        have HB6 := below_step HB.out hb6
        cases hft : ft with
        | false =>
          obtain ⟨q1, q2⟩ := e2.out cb hft
          subst q1 q2
          go_wp2_with fail
          refine (clevislaw28_known.calls 60 true _ (Wp.known_f 0)).mono ?_
          rintro e w7 ⟨rfl, hb7⟩
          go_wp2
          go_ret
          exact ⟨rfl, below_step HB6 hb7⟩
        | true =>
          have BK6 := blk_below BK.out hb6
          have HC46 := Kd.C_below HC4.out hb6
          have HC66 := Kd.C_below HC6.out hb6
          have HC76 := Kd.C_below HC7.out hb6
          go_wp2_with fail
          have BK8 := blk_drew BK6
          have HC48 := Kd.C_drew HC46
          have HC68 := Kd.C_drew HC66
          have HC78 := Kd.C_drew HC76
          have HB8 := below_drew1 HB6
          refine start_ (n := 6) (S := fun w' => w'.cell? ⟨w3.heap.size, 0, none⟩ = some (.bool (Nu.neg S)) ∧ w'.cell? ⟨w3.heap.size, 1, none⟩ = some (.slice A7 (Nu.dig S).length c7)) (ds := []) #[false, false, false, false, false, false] (by kernel_rfl) rfl rfl ⟨(blk_cell BK8 0).trans rfl, (blk_cell BK8 1).trans rfl⟩ (fun hHeld => ?_)
          generalize w6.drew = w8 at BK8 HC48 HC68 HC78 HB8 hHeld ⊢
          refine pure_ (i := 0) (N := some 82) (v := ?_) (a' := ?_) #[true, false, false, false, false, false] rfl rfl (by kernel_rfl) (fun _ _ _ h => h) (Or.inl ⟨by rfl, ?_⟩) ?_ ?_
          rotate_left
          · intro w'
            go_simp
            with_reducible rfl
          rotate_left
          · simp only [Act.put, List.setIfInBounds_toArray, List.set_cons_zero, List.set_cons_succ, i64_w, i32_w]
            rfl
          refine take_ (i := 2) (N := some 84) (v := ?_) (a' := ?_) #[true, false, true, false, false, false] rfl rfl (by kernel_rfl) (fun _ _ _ h => h) (Or.inl ⟨by rfl, ?_⟩) hHeld ?_ ?_
          rotate_left
          · rintro w' ⟨s0, s1⟩
            go_simp
            with_reducible rfl
          rotate_left
          · simp only [Act.put, List.setIfInBounds_toArray, List.set_cons_zero, List.set_cons_succ, i64_w, i32_w]
            rfl
          refine one_ (i := 1) (N := some 83) #[true, true, true, false, false, false] rfl rfl (by kernel_rfl) (by decide) (fun K' hK => ?_)
          refine goes_ Try.func15 (by kernel_rfl) rfl #[.int .i64 loss] (by rfl) rfl rfl (by simp only [List.map_toArray, List.map_cons, List.map_nil]; rfl) ?_
          refine (Nu.narrow_c hlI.out).mono ?_
          rintro e w9 ⟨v9, rfl, hb9, hv9⟩
          refine ⟨_, rfl, ?_⟩
          obtain ⟨A9, c9, rfl, hc9, hR9⟩ := Nu.num_open hv9
          have BK9 := blk_below BK8 hb9
          have HC49 := Kd.C_below HC48 hb9
          have HC69 := Kd.C_below HC68 hb9
          have HC79 := Kd.C_below HC78 hb9
          have HB9 := below_step HB8 hb9
          refine hK.out _ _ ⟨(blk_cell BK9 0).trans rfl, (blk_cell BK9 1).trans rfl⟩ (fun hHeld => ?_)
          clear hK K'
          refine norm_ (a' := ?_) ?_ ?_
          rotate_left
          · show Act.put _ (some 83) _ = _
            simp only [Act.put, List.setIfInBounds_toArray, List.set_cons_zero, List.set_cons_succ, i64_w, i32_w]
            rfl
          refine one_ (i := 3) (N := some 85) #[true, true, true, true, false, false] rfl rfl (by kernel_rfl) (by decide) (fun K' hK => ?_)
          refine goes_ Try.func14 (by kernel_rfl) rfl #[.agg #[.bool (Nu.neg loss), .slice A9 (Nu.dig loss).length c9], .agg #[.bool (Nu.neg S), .slice A7 (Nu.dig S).length c7]] (by rfl) rfl rfl (by simp only [List.map_toArray, List.map_cons, List.map_nil]; rfl) ?_
          refine (Nu.cmp_c hR9 hc9 (Nu.held_int HC79) hc7 (Nat.le_trans hl5.out (by decide)) (Nat.le_trans hS5.out (by decide))).mono ?_
          rw [hs0.out]
          rintro e w10 ⟨rfl, hb10⟩
          refine ⟨_, rfl, ?_⟩
          have BK10 := blk_below BK9 hb10
          have HC410 := Kd.C_below HC49 hb10
          have HC610 := Kd.C_below HC69 hb10
          have HB10 := below_step HB9 hb10
          refine hK.out _ _ ⟨(blk_cell BK10 0).trans rfl, (blk_cell BK10 1).trans rfl⟩ (fun hHeld => ?_)
          clear hK K'
          refine norm_ (a' := ?_) ?_ ?_
          rotate_left
          · show Act.put _ (some 85) _ = _
            simp only [Act.put, List.setIfInBounds_toArray, List.set_cons_zero, List.set_cons_succ, i64_w, i32_w]
            rfl
          refine pure_ (i := 4) (N := some 86) (v := ?_) (a' := ?_) #[true, true, true, true, true, false] rfl rfl (by kernel_rfl) (fun _ _ _ h => h) (Or.inl ⟨by rfl, ?_⟩) ?_ ?_
          rotate_left
          · intro w'
            go_simp
            with_reducible rfl
          rotate_left
          · simp only [Act.put, List.setIfInBounds_toArray, List.set_cons_zero, List.set_cons_succ, i64_w, i32_w]
            rfl
          refine pure_ (i := 5) (N := some 81) (v := ?_) (a' := ?_) #[true, true, true, true, true, true] rfl rfl (by kernel_rfl) (fun _ _ _ h => h) (Or.inl ⟨by rfl, ?_⟩) ?_ ?_
          rotate_left
          · intro w'
            go_simp
            with_reducible rfl
          rotate_left
          · simp only [Act.put, List.setIfInBounds_toArray, List.set_cons_zero, List.set_cons_succ, i64_w, i32_w]
            rfl
          refine done_ (by kernel_rfl) ?_
          by_cases cs : 0 < s
          · obtain ⟨q1, q2⟩ := e3.out cb hft cs
            subst q1 q2
            have csb : decide (0 < s) = true := decide_eq_true cs
            first | rw [csb] | rw [show decide (s > 0) = true from csb]
            go_wp2_with fail
            refine (clevislaw28_known.calls 60 true _ (Wp.known_f 0)).mono ?_
            rintro e w7 ⟨rfl, hb7⟩
            go_wp2
            go_ret
            exact ⟨rfl, below_step HB10 hb7⟩
          · obtain ⟨q2, q1, hG, h0, hla⟩ := e4.out cb hft (by omega)
            subst q2
            rw [q1] at HC610 hc6 ⊢
            have csb : decide (0 < s) = false := decide_eq_false cs
            first | rw [csb] | rw [show decide (s > 0) = false from csb]
            go_wp2_with fail
            refine (clevislaw28_known.calls 60 true _ (Wp.known_f 0)).mono ?_
            rintro e w7 ⟨rfl, hb7⟩
            go_wp2_with fail
            refine (Nu.split_c D loss (by omega) hG h0 hla (Nu.held_41 (Kd.C_below HC410 hb7)) hc4 (Nu.held_int (Kd.C_below HC610 hb7)) hc6).mono ?_
            rintro e w11 ⟨rfl, hb11⟩
            go_wp2
            go_ret
            exact ⟨rfl, below_step (below_step HB10 hb7) hb11⟩
end Go.Proofs.Ytfbkgfffalppmaa.Sx
end
