/- Texts of this seat, put together (Zs7). -/
import Derived.Test.YtfbkgfffalppmaaZs4
import Derived.Test.YtfbkgfffalppmaaZs6
section
namespace Go.Proofs.Ytfbkgfffalppmaa.Nu
set_option linter.unusedSimpArgs false
set_option linter.unusedVariables false
open Go Go.RowKit Go.Proofs.YtfbkgfffalppmaaW.PrintWords Go.Proofs.YtfbkgfffalppmaaW.PrintLast Go.Proofs.YtfbkgfffalppmaaW.PrintMore Go.Proofs.Ytfbkgfffalppmaa.Hd
open Go.Proofs.Ytfbkgfffalppmaa.Wf (S41 k41 at_T41 rd_T41 z41)
abbrev tot' (l : List S41) : Int := (l.map (·.f1)).sum
theorem rd41' {l : List S41} {i : Nat} (h : i < l.length) : rd_T41 l (i : Int) = l[i] := by unfold rd_T41; rw [Int.toNat_natCast, List.getD_eq_getElem?_getD, List.getElem?_eq_getElem h]; rfl
theorem p_at {W : World} {ad : Addr} {p : List S41} (h : Kd.C k41 W (some ad) p.length p) (i : Nat) (hi : i < p.length) {x : Int} (hx : (p[i]).f1 = x) : W.cell? ⟨(ad.add (i * 2)).block, (ad.add (i * 2)).off + 1, none⟩ = some (.int .i64 x) := by
  obtain ⟨ad', e, _, r⟩ := at_T41 h (i : Int) (by omega) (by omega)
  injection e with e
  subst e
  rw [rd41' hi, Int.toNat_natCast] at r
  rw [r, hx]
theorem tot_snoc {p : List S41} {i : Nat} (hi : i < p.length) : tot' (p.take (i + 1)) = tot' (p.take i) + (p[i]).f1 := by
  unfold tot'
  rw [List.take_succ_eq_append_getElem hi, List.map_append, List.sum_append]
  simp
theorem tot_abs : ∀ {p : List S41}, (∀ x ∈ p, I64 x.f1) → (tot' p).natAbs ≤ p.length * 9223372036854775808
  | [], _ => by simp [tot']
  | x :: r, h => by
    have h1 := tot_abs (p := r) (fun y hy => h y (by simp [hy]))
    have h2 := h x (by simp)
    unfold I64 at h2
    unfold tot' at h1 ⊢
    simp only [List.map_cons, List.sum_cons, List.length_cons]
    omega
theorem B5 : B 5 = 1208925819614629174706176 := by rw [B_succ, B4]; rfl
theorem len5 {x : Int} (h : x.natAbs < 1208925819614629174706176) : (dig x).length ≤ 5 := dig_len (by rw [B5]; omega)
theorem dig_zero : dig 0 = [] := by unfold dig digN; simp
set_option maxRecDepth 100000 in
set_option maxHeartbeats 2000000 in
theorem room_c {w : World} {ok : Nat → Prop} {A : Option Addr} {c : Nat} (p : List S41) (hp : p.length ≤ 5000) (hg : ∀ x ∈ p, I64 x.f1) (h : Held w ok (fun W => Kd.C k41 W A p.length p)) (hc : p.length ≤ c) :
    Gives Try.prog 11 #[.slice A p.length c] w (Num (tot' p)) := by
  have hu38 := Try.underlying38
  have hu41 := Try.underlying41
  have hu22 := Try.underlying22
  have hS : Aside0 (∀ i, (dig (tot' (p.take i))).length ≤ 5) := ⟨fun i => len5 (by
    have := tot_abs (p := p.take i) (fun x hx => hg x (List.mem_of_mem_take hx))
    rw [List.length_take] at this
    omega)⟩
  replace hg := Aside0.mk hg
  unfold Gives
  go_enter Try.func11, Try.ntmps11
  have H := (((All.start w).arg h).box w.heap.size 38 #[.bool false, .slice none 0 0]).box (w.heap.size + 1) 38 #[.bool (neg (tot' (p.take 0))), .slice none (dig (tot' (p.take 0))).length 0]
  have e0 : tot' (p.take 0) = 0 := rfl
  rw [e0, dig_zero] at H
  go_wp2
  go_loopg [4] (p.length + 1) (fun kq v4 w' => ∃ (i : Nat) (o : Nat → Prop) (Ao : Option Addr) (co : Nat), v4 = .int .i64 (i : Int) ∧ Aside0 (∀ k, o k → w.heap.size ≤ k) ∧ Aside0 (i ≤ p.length ∧ kq = p.length + 1 - i ∧ (dig (tot' (p.take i))).length ≤ co) ∧
    All w w' [(o, Cs Ao (dig (tot' (p.take i)))), bx (w.heap.size + 1) 38 #[.bool (neg (tot' (p.take i))), .slice Ao (dig (tot' (p.take i))).length co], bx w.heap.size 38 #[.bool false, .slice none 0 0], (ok, fun W => Kd.C k41 W A p.length p)])
  case atStart => exact ⟨0, fun _ => False, none, 0, rfl, ⟨fun k h => h.elim⟩, ⟨Nat.zero_le _, rfl, by rw [e0, dig_zero]; simp⟩, by rw [e0, dig_zero]; exact H.put (ok := fun _ => False) ⟨(fun k h => h.elim), fun W _ => Kd.C_nil _ W⟩ (fun _ _ _ h => h.elim)⟩
  case round =>
    obtain ⟨i, o, Ao, co, rfl, hob, hk, H⟩ := hrel
    have r1 := H.rd 1 rfl
    have z1 := H.fz 1 rfl
    have r2 := H.rd 2 rfl
    have z2 := H.fz 2 rfl
    clear e0
    by_cases hlt : (i : Int) < (p.length : Int)
    · have hi : i < p.length := by omega
      obtain ⟨ad, rfl, _⟩ := at_T41 (H.at 3 rfl) (i : Int) (by omega) hlt
      have hn := tot_snoc hi
      have hx := hg.out (p[i]) (List.getElem_mem hi)
      have h1 := hS.out i
      have h2 := hS.out (i + 1)
      obtain ⟨x, hpx⟩ : ∃ x, (p[i]).f1 = x := ⟨_, rfl⟩
      rw [hpx] at hn hx
      have hxl : (dig x).length ≤ 900000 := Nat.le_trans (len5 (by unfold I64 at hx; omega)) (by decide)
      obtain ⟨S, hS1⟩ : ∃ S, tot' (p.take i) = S := ⟨_, rfl⟩
      obtain ⟨S2, hS2⟩ : ∃ S, tot' (p.take (i + 1)) = S := ⟨_, rfl⟩
      clear r1 z1 r2 z2
      rw [hS1] at hn h1 H hk
      rw [hS2] at hn h2
      have hg1 : Aside0 (p.length + 1 - (i + 1) < gk ∧ i + 1 ≤ p.length) := ⟨by have := hk.out; omega⟩
      have hco := hk.out.2.2
      have hh1 : (dig S).length ≤ 900000 := Nat.le_trans h1 (by decide)
      replace hn := Aside0.mk hn
      replace hpx := Aside0.mk hpx
      replace hS1 := Aside0.mk hS1
      replace hS2 := Aside0.mk hS2
      replace hi := Aside0.mk hi
      replace hx := Aside0.mk hx
      replace h1 := Aside0.mk h1
      replace h2 := Aside0.mk h2
      replace hxl := Aside0.mk hxl
      replace hh1 := Aside0.mk hh1
      replace hco := Aside0.mk hco
      clear hk
      have b0 := eq_true (Int.natCast_nonneg i)
      have b1 := eq_true hlt
      go_wp2
      refine planD_ [8] (true, [([], []), ([], []), ([], []), ([1, 2], [1, 2]), ([3], [3]), ([4], [4]), ([5], [5]), ([0, 6, 6], [0, 6]), ([7, 7, 0, 1, 2, 3, 4, 5, 6, 7], [7])]) [.t 0, .p 1, .p 2, .p 3, .p 4, .t 5, .c 6, .c 7, .l 8] H (by kernel_rfl) (by kernel_rfl) rfl rfl (by kernel_rfl) (by intro c a w d v h; cases d <;> exact h) (fun w1 H => ?_)
      refine pl_B 1 H rfl (h := ?_)
      repeat refine pl_P (h := ?_)
      refine pl_C H (fun W hW => p_at (hW.at 3 rfl) i hi.out hpx.out) (h := ?_)
      refine pl_G (narrow_c hx.out) H Try.func15 (h := fun v w2 H z2 => ?_)
      obtain ⟨A2, c2, rfl, hc2, hR2⟩ := num_open (H.get 0 rfl)
      refine pl_G (add_c (H.get 1 rfl) hco.out hR2 hc2 hh1.out hxl.out) H Try.func20 (h := fun v w3 H z3 => ?_)
      rw [← hn.out] at H
      obtain ⟨A3, c3, rfl, hc3, hR3⟩ := num_open (H.get 0 rfl)
      replace H := ((H.turn 0 rfl hR3).cut 1)
      unfold num
      have r1 := H.rd 2 rfl
      have z1 := H.fz 2 rfl
      refine pl_WL ((H.set 2 rfl 0 (.bool (neg S2))).set 2 rfl 1 (.slice A3 (dig S2).length c3)) (fun H => ?_)
      refine pl_done ?_
      go_wp2
      go_roundg (p.length + 1 - (i + 1))
      case measure => exact hg1.out.1
      case rel => exact ⟨i + 1, _, A3, c3, by first | rfl | (simp; done), ⟨in_le z3⟩, ⟨hg1.out.2, rfl, by rw [hS2.out]; exact hc3⟩, by rw [hS2.out]; exact H.cut 1⟩
    · have e : p.take i = p := List.take_of_length_le (by omega)
      rw [e] at H hk r1
      have hco := hk.out.2.2
      clear hk e
      go_wp2
      replace H := (H.set 2 rfl 0 (.bool (neg (tot' p)))).set 2 rfl 1 (.slice Ao (dig (tot' p)).length co)
      exact H.ret 2 rfl rfl rfl hu38 rfl (by kernel_rfl) rfl ⟨_, rfl, H.old, num_mk hco ((H.get 0 rfl).out hob.out)⟩
end Go.Proofs.Ytfbkgfffalppmaa.Nu
end
