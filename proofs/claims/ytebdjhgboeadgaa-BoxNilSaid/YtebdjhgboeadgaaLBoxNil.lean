/- Proved: the law BoxNil answers true and leaves its argument alone, whatever the input. Conditions: none. -/
import Derived.Test.YtebdjhgboeadgaaRows
import Derived.WalkKit
import Derived.ProofKit
import Derived.OpenShut
import Derived.ShutString
import Derived.ChangeOld
import Derived.Below
import Derived.SizedLaws
import Derived.Test.YtebdjhgboeadgaaBxC
namespace Go.Proofs.Ytebdjhgboeadgaa.boxNil
open Go.ChangeShapes Go.WideShapes Go.ChangeAt Go.RowKit
open Go.ChangeMaps (open_string shut_string)
open Go Go.Conc Go.Proofs.Ytebdjhgboeadgaa.BxI Go.Proofs.Ytebdjhgboeadgaa.BxA Go.Proofs.Ytebdjhgboeadgaa.BxB Go.Proofs.Ytebdjhgboeadgaa.BxC Go.Proofs.YtebdjhgboeadgaaW.PrintWords
theorem st_either {W w : World} {p c cap : Nat} {l : List Int} {x : Int} (h : St W w p c cap (x :: l)) : Calls Try.prog 31 #[.pointer none, .pointer (some ⟨p, 0, none⟩)] w fun e w' => e = .returned (.tuple #[.int .i64 x, .int .i64 1, .int .i64 0]) ∧ St W w' p c cap l := by
  obtain ⟨s, r, hq⟩ := h.qc
  refine (either_second p c cap s r _ x (by simp [enc]) w h.q0 hq (by rw [enc_size]; simp)).mono ?_
  rintro e w' ⟨rfl, rfl⟩
  rw [enc_tail]
  exact ⟨rfl, h.set _ (by have := h.le; simp at this; omega) _ _⟩
set_option maxHeartbeats 1000000 in
theorem st_pour {W w : World} {p c cap : Nat} (h : St W w p c cap []) : Calls Try.prog 35 #[.pointer (some ⟨p, 0, none⟩), .pointer none] w fun e w' => e = .returned (.int .i64 0) ∧ w' = w := by
  have HS := Aside0.mk h
  clear h
  go_enter Try.func35, Try.ntmps35
  go_wp2_with fail
  go_loopw [5] (fun v4 wr => v4 = .int .i64 0 ∧ wr = w) (fun _ _ => 0)
  case atStart => exact ⟨rfl, rfl⟩
  case round =>
    obtain ⟨rfl, hwr⟩ := hrel
    subst hwr
    go_wp2_with fail
    refine (st_len HS.out).mono ?_
    rintro e w' ⟨rfl, hw⟩
    have hw2 := hw.symm
    subst hw2
    go_wp2
    go_ret
    exact ⟨rfl, rfl⟩
set_option maxRecDepth 20000 in
set_option maxHeartbeats 4000000 in
theorem walk (a0 : Int) (w0 : (Lit.int .i64 a0).wf = true) (w : World) : Calls Try.prog 7 #[.int .i64 a0] w fun e w' => e = .returned (.bool true) ∧ Below w.heap.size w w' := by
  go_enter Try.func7, Try.ntmps7
  go_wp2_with fail
  refine (st_new 3 (by decide) (by decide) w).mono ?_
  rintro e w' ⟨p, c, rfl, S1⟩
  go_wp2_with fail
  refine (st_put_ok S1 a0 (by decide)).mono ?_
  rintro e w' ⟨rfl, S2⟩
  simp only [List.nil_append] at S2
  go_wp2_with fail
  refine (shut_nil _).mono ?_
  rintro e w' ⟨rfl, hw⟩
  subst hw
  go_wp2_with fail
  refine (take_nil _).mono ?_
  rintro e w' ⟨rfl, hw⟩
  subst hw
  go_wp2_with fail
  refine (st_either S2).mono ?_
  rintro e w' ⟨rfl, S3⟩
  go_wp2_with fail
  refine (either_nil _).mono ?_
  rintro e w' ⟨rfl, hw⟩
  subst hw
  go_wp2_with fail
  refine (known_ok _).mono ?_
  rintro e w4 ⟨rfl, hb⟩
  have S4 := S3.below hb
  clear hb
  go_wp2_with fail
  refine (put_nil a0 _).mono ?_
  rintro e w' ⟨rfl, hw⟩
  subst hw
  go_wp2_with fail
  refine (len_nil _).mono ?_
  rintro e w' ⟨rfl, hw⟩
  subst hw
  go_wp2_with fail
  refine (room_nil _).mono ?_
  rintro e w' ⟨rfl, hw⟩
  subst hw
  go_wp2_with fail
  refine (all_nil _).mono ?_
  rintro e w' ⟨rfl, hw⟩
  subst hw
  go_wp2_with fail
  refine (fill_nil _ _ [a0, a0] (by simp) _ (rd_new w' _ [a0, a0])).mono ?_
  rintro e w5 ⟨rfl, hw⟩
  subst hw
  go_wp2_with fail
  refine (pour_nil_from _ _).mono ?_
  rintro e w' ⟨rfl, hw⟩
  subst hw
  go_wp2_with fail
  refine (st_pour (S4.alloc _)).mono ?_
  rintro e w' ⟨rfl, hw⟩
  subst hw
  go_wp2
  go_ret
  exact ⟨rfl, (S4.alloc _).bel⟩

theorem own : ownKnob Try.prog.godebug = none := by kernel_rfl
set_option maxRecDepth 100000 in
theorem lifted (os : Os) (started : os.Started) (H : Type) (enc : TypeId × Value → H) :
    ReturnsInHanded {} Try.checked os 7 .any (Rows.boxNilSpec.pre6 enc Try.prog Try.f7 Rows.boxNilRow.domain false) (Rows.boxNilSpec.post enc Try.prog Try.f7 false true false false) := by
  refine returnsInHanded_of_change_sized (C := Try.checked) own started (by kernel_rfl) Try.func7
    (ChangeSpec.witness6 (enc := enc) (C := Try.checked) false ⟨#[], #[.int .i64 0], []⟩ 8 (by kernel_rfl) (by kernel_rfl) (by kernel_rfl) (by kernel_rfl)) ?_
  intro W base args ds gs before hval0 hW hcnd hsz0 _
  have hsz : (DataW.weightsEach Try.prog (Try.f7.params.toList ++ Rows.boxNilSpec.plain.varTypes Try.prog) (ds ++ gs)).all (· ≤ reachBytes) = true := hsz0
  have hval : ∀ (j : Nat) t v, Try.f7.params[j]? = some t → args[j]? = some v → Value.okWide Try.prog W .any base t v := hval0
  have hW' := hW
  obtain ⟨p, q, hA0, hV, rfl, hfz, hnd⟩ := hW
  have hA : DataW.TrodAll enc Try.prog W 0 (fun _ => true) true Try.f7.params.toList args.toList ds p := hA0
  rw [Try.params7] at hA hval hsz
  obtain ⟨v0, vs0, d0, ds0, p0, q0, hargs, rfl, rfl, h0, r0⟩ := trodAll_cons hA
  obtain ⟨rfl, rfl, rfl⟩ := trodAll_nil r0
  obtain rfl : args = #[v0] := by cases args; simp_all
  obtain ⟨rfl, rfl⟩ := trodVars_none hV
  obtain ⟨a0, rfl, rfl, rfl, w0⟩ := open_int Try.underlying3 (hval 0 3 v0 rfl rfl) h0
  clear hA0 hval0 hsz0 hsz
  refine (walk a0 w0 W).mono fun e W' ⟨he, bel⟩ => ?_
  subst he
  exact ⟨_, rfl, _, _, _, [], _, [], hW', trodAll_mk1 (shut_bool Try.underlying4 _), (trodAll_cons_mk (shut_int Try.underlying3 w0) trodAll_mk0), rfl, bel.frame _, fun h => by cases h⟩
theorem over : Rows.boxNilRow.holds Try.pinned (OpenSpec.ofChange Rows.boxNilSpec) :=
  OpenClaim.holds_of_wide 7 Try.f7 rfl rfl rfl rfl rfl rfl rfl ⟨rfl, rfl, rfl, rfl, rfl⟩ rfl rfl rfl rfl rfl (by kernel_rfl) Try.func7 (by kernel_rfl)
    (of_decide_eq_true (by kernel_rfl)) (by unfold Func.isWrapper; first | (rw [if_pos (by decide +kernel)]; kernel_rfl) | (rw [if_neg (by decide +kernel)]; exact ⟨rfl, rfl⟩))
    (fun os started H enc _ => lifted os started H enc)
theorem proved : Rows.BoxNilSaid := over
end Go.Proofs.Ytebdjhgboeadgaa.boxNil
namespace Go.Proofs.Ytebdjhgboeadgaa
/-- The row, under a short name, for the claim. -/
theorem boxNil_holds : Rows.BoxNilSaid := boxNil.proved
#print axioms boxNil_holds
end Go.Proofs.Ytebdjhgboeadgaa
