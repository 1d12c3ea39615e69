/- Proved: the law BoxOrder answers true and leaves its arguments alone, whatever the input. Conditions: none. -/
import Derived.Test.YtebdjhgboeadgaaRows
import Derived.WalkKit
import Derived.ProofKit
import Derived.OpenShut
import Derived.ShutString
import Derived.ChangeOld
import Derived.Below
import Derived.SizedLaws
import Derived.Test.YtebdjhgboeadgaaBxC
import Derived.Test.YtebdjhgboeadgaaRdB
namespace Go.Proofs.Ytebdjhgboeadgaa.boxOrder
open Go.ChangeShapes Go.WideShapes Go.ChangeAt Go.RowKit
open Go.ChangeMaps (open_string shut_string)
set_option linter.unusedVariables false
set_option linter.unusedSimpArgs false
open Go Go.Conc Go.Proofs.Ytebdjhgboeadgaa.BxA Go.Proofs.Ytebdjhgboeadgaa.BxB Go.Proofs.Ytebdjhgboeadgaa.BxC Go.Proofs.Ytebdjhgboeadgaa.RdB Go.Proofs.YtebdjhgboeadgaaW.PrintWords
/-- The numbers from m on, d of them. -/
def fr (m d : Nat) : List Int := (List.range' m d).map Int.ofNat
theorem fr_length (m d : Nat) : (fr m d).length = d := by simp [fr]
theorem fr_snoc (m d : Nat) : fr m d ++ [(m : Int) + (d : Int)] = fr m (d + 1) := by
  simp [fr, List.range'_concat]
theorem fr_cons (m d : Nat) : fr m (d + 1) = (m : Int) :: fr (m + 1) d := by
  simp [fr, List.range'_succ]
theorem room_n (a0 : Int) : ∃ n : Nat, 1 ≤ n ∧ n ≤ 20 ∧ wrap64 (1 + wrap64 ((IntKind.u64.wrap a0).tmod 20)) = (n : Int) := by
  have h : 0 ≤ IntKind.u64.wrap a0 := by
    simp only [IntKind.wrap, IntKind.signed, IntKind.bits]
    simp
    omega
  generalize IntKind.u64.wrap a0 = u at h
  refine ⟨(1 + u % 20).toNat, by omega, by omega, ?_⟩
  rw [Int.tmod_eq_emod_of_nonneg h]
  unfold wrap64
  omega
set_option maxRecDepth 20000 in
set_option maxHeartbeats 8000000 in
theorem walk (a0 : Int) (w0 : (Lit.int .i64 a0).wf = true) (A : Option Addr) (cp : Nat) (l : List Bool) (w : World) (hr : RdB w A l) : Calls Try.prog 3 #[.int .i64 a0, .slice A l.length cp] w fun e w' => e = .returned (.bool true) ∧ Below w.heap.size w w' := by
  have HR := Aside0.mk hr
  clear hr
  go_enter Try.func3, Try.ntmps3
  go_wp2_with fail
  obtain ⟨n, hn1, hn2, hn⟩ := room_n a0
  simp only [hn]
  refine (st_new n hn1 (by omega) w).mono ?_
  rintro e w1 ⟨p, c, rfl, S1⟩
  have HS1 := Aside0.mk S1
  clear S1 hn
  go_wp2_with fail
  go_loopw [7, 8, 9] (fun v7 v8 v9 wr => ∃ (i m d : Nat), i ≤ l.length ∧ m + d ≤ i ∧ i ≤ 40 ∧ d ≤ n ∧ v7 = .int .i64 ((m : Int) + (d : Int)) ∧ v8 = .int .i64 m ∧ v9 = .int .i64 i ∧ Aside0 (St w wr p c n (fr m d))) (fun _ _ v9 _ => l.length - (intOf v9).toNat)
  case atStart => exact ⟨0, 0, 0, Nat.zero_le _, Nat.le_refl _, Nat.zero_le _, Nat.zero_le _, rfl, rfl, rfl, HS1⟩
  case round =>
    obtain ⟨i, m, d, hi, hmd, h40, hdn, rfl, rfl, rfl, HS⟩ := hrel
    by_cases hil : i < l.length
    · have e1 : decide ((i : Int) < (l.length : Int)) = true := by simp; omega
      by_cases hi4 : i < 40
      · have e2 : decide ((i : Int) < 40) = true := by simp; omega
        obtain ⟨ad, rfl, he⟩ := rdB_below HR.out (HS.out.bel) i hil
        have b0 : (0 : Int) ≤ (i : Int) := by omega
        have b1 : (i : Int) < (l.length : Int) := by omega
        cases hb : l[i] with
        | false =>
          rw [hb] at he
          by_cases hd : d < n
          · go_wp2_with fail
            refine (st_put_ok HS.out _ (by rw [fr_length]; exact hd)).mono ?_
            rintro e w' ⟨rfl, hs⟩
            rw [fr_snoc] at hs
            go_wp2
            exact ⟨⟨i + 1, m, d + 1, by omega, by omega, by omega, by omega, by rw [show (m : Int) + (d : Int) + 1 = (m : Int) + ((d + 1 : Nat) : Int) by push_cast; omega], by rfl, by push_cast; rfl, ⟨hs⟩⟩, by simp [intOf]; omega⟩
          · go_wp2_with fail
            refine (st_put_full HS.out _ (by rw [fr_length]; omega)).mono ?_
            rintro e w' ⟨rfl, hw⟩
            have hw2 := hw.symm
            subst hw2
            have e3 : decide ((m : Int) + (d : Int) - (m : Int) = (n : Int)) = true := by simp; omega
            go_wp2
            exact ⟨⟨i + 1, m, d, by omega, by omega, by omega, by omega, by rfl, by rfl, by push_cast; rfl, ⟨HS.out⟩⟩, by simp [intOf]; omega⟩
        | true =>
          rw [hb] at he
          cases d with
          | zero =>
            go_wp2_with fail
            refine (st_take_none HS.out).mono ?_
            rintro e w' ⟨rfl, hw⟩
            have hw2 := hw.symm
            subst hw2
            go_wp2
            exact ⟨⟨i + 1, m, 0, by omega, by omega, by omega, by omega, by simp, by rfl, by push_cast; rfl, ⟨HS.out⟩⟩, by simp [intOf]; omega⟩
          | succ d =>
            have S2 := HS.out
            rw [fr_cons] at S2
            go_wp2_with fail
            refine (st_take S2).mono ?_
            rintro e w' ⟨rfl, hs⟩
            go_wp2
            exact ⟨⟨i + 1, m + 1, d, by omega, by omega, by omega, by omega, by rw [show (m : Int) + ((d : Int) + 1) = ((m + 1 : Nat) : Int) + (d : Int) by push_cast; omega], by push_cast; rfl, by push_cast; rfl, ⟨hs⟩⟩, by simp [intOf]; omega⟩
      · have e2 : decide ((i : Int) < 40) = false := by simp; omega
        go_wp2_with fail
        refine (known_ok _).mono ?_
        rintro e w2 ⟨rfl, hb2⟩
        have S3 := HS.out.below hb2
        go_wp2_with fail
        refine (st_len S3).mono ?_
        rintro e w' ⟨rfl, hw⟩
        have hw2 := hw.symm
        subst hw2
        rw [fr_length]
        have e9 : ((d : Int) == (m : Int) + (d : Int) - (m : Int)) = true := by simp; omega
        go_wp2
        go_ret
        exact ⟨rfl, S3.bel⟩
    · have e1 : decide ((i : Int) < (l.length : Int)) = false := by simp; omega
      go_wp2_with fail
      refine (known_ok _).mono ?_
      rintro e w2 ⟨rfl, hb2⟩
      have S3 := HS.out.below hb2
      go_wp2_with fail
      refine (st_len S3).mono ?_
      rintro e w' ⟨rfl, hw⟩
      have hw2 := hw.symm
      subst hw2
      rw [fr_length]
      have e9 : ((d : Int) == (m : Int) + (d : Int) - (m : Int)) = true := by simp; omega
      go_wp2
      go_ret
      exact ⟨rfl, S3.bel⟩

theorem own : ownKnob Try.prog.godebug = none := by kernel_rfl
theorem laidOut : laidOutB Try.prog = true := by kernel_rfl
set_option maxRecDepth 100000 in
theorem lifted (os : Os) (started : os.Started) (H : Type) (enc : TypeId × Value → H) :
    ReturnsInHanded {} Try.checked os 3 .any (Rows.boxOrderSpec.pre6 enc Try.prog Try.f3 Rows.boxOrderRow.domain false) (Rows.boxOrderSpec.post enc Try.prog Try.f3 false true false false) := by
  refine returnsInHanded_of_change_sized (C := Try.checked) own started (by kernel_rfl) Try.func3
    (ChangeSpec.witness6 (enc := enc) (C := Try.checked) false ⟨#[], #[.int .i64 0, .slice none 0 0], []⟩ 8 (by kernel_rfl) (by kernel_rfl) (by kernel_rfl) (by kernel_rfl)) ?_
  intro W base args ds gs before hval0 hW hcnd hsz0 _
  have hsz : (DataW.weightsEach Try.prog (Try.f3.params.toList ++ Rows.boxOrderSpec.plain.varTypes Try.prog) (ds ++ gs)).all (· ≤ reachBytes) = true := hsz0
  have hval : ∀ (j : Nat) t v, Try.f3.params[j]? = some t → args[j]? = some v → Value.okWide Try.prog W .any base t v := hval0
  have hW' := hW
  obtain ⟨p, q, hA0, hV, rfl, hfz, hnd⟩ := hW
  have hA : DataW.TrodAll enc Try.prog W 0 (fun _ => true) true Try.f3.params.toList args.toList ds p := hA0
  rw [Try.params3] at hA hval hsz
  obtain ⟨v0, vs0, d0, ds0, p0, q0, hargs, rfl, rfl, h0, r0⟩ := trodAll_cons hA
  obtain ⟨v1, vs1, d1, ds1, p1, q1, rfl, rfl, rfl, h1, r1⟩ := trodAll_cons r0
  obtain ⟨rfl, rfl, rfl⟩ := trodAll_nil r1
  obtain rfl : args = #[v0, v1] := by cases args; simp_all
  obtain ⟨rfl, rfl⟩ := trodVars_none hV
  obtain ⟨a0, rfl, rfl, rfl, w0⟩ := open_int Try.underlying3 (hval 0 3 v0 rfl rfl) h0
  obtain ⟨a1, len1, cap1, rfl⟩ := okWide_slice Try.underlying22 (hval 1 22 v1 rfl rfl)
  have k1 := h1
  have lt1 : ∀ x ∈ p1, x.block < W.heap.size := by obtain ⟨m, hm⟩ := k1; exact DataW.trod_lt m _ _ _ hm
  obtain ⟨l1, z1, y1⟩ := RdB.open_bools Try.underlying22 Try.underlying4 (by kernel_rfl) h1
  subst z1
  clear hA0 hval0 hsz0 hsz
  refine (walk a0 w0 a1 cap1 l1 W y1).mono fun e W' ⟨he, bel⟩ => ?_
  subst he
  exact ⟨_, rfl, _, _, _, [], _, [], hW', trodAll_mk1 (shut_bool Try.underlying4 _), (trodAll_cons_mk (shut_int Try.underlying3 w0) (trodAll_cons_mk (Below.trod laidOut (by kernel_rfl) (of_decide_eq_true (by kernel_rfl)) k1 bel lt1) trodAll_mk0)), rfl, bel.frame _, fun h => by cases h⟩
theorem over : Rows.boxOrderRow.holds Try.pinned (OpenSpec.ofChange Rows.boxOrderSpec) :=
  OpenClaim.holds_of_wide 3 Try.f3 rfl rfl rfl rfl rfl rfl rfl ⟨rfl, rfl, rfl, rfl, rfl⟩ rfl rfl rfl rfl rfl (by kernel_rfl) Try.func3 (by kernel_rfl)
    (of_decide_eq_true (by kernel_rfl)) (by unfold Func.isWrapper; first | (rw [if_pos (by decide +kernel)]; kernel_rfl) | (rw [if_neg (by decide +kernel)]; exact ⟨rfl, rfl⟩))
    (fun os started H enc _ => lifted os started H enc)
theorem proved : Rows.BoxOrderSaid := over
end Go.Proofs.Ytebdjhgboeadgaa.boxOrder
namespace Go.Proofs.Ytebdjhgboeadgaa
/-- The row, under a short name, for the claim. -/
theorem boxOrder_holds : Rows.BoxOrderSaid := boxOrder.proved
#print axioms boxOrder_holds
end Go.Proofs.Ytebdjhgboeadgaa
