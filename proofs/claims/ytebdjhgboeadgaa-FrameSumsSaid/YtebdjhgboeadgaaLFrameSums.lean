/- Proved: the check sum of any parts, and a frame of any bytes, are the document's, whatever the parts and the bytes. Conditions: none. -/
import Derived.Test.YtebdjhgboeadgaaRows
import Derived.WalkKit
import Derived.ProofKit
import Derived.OpenShut
import Derived.ShutString
import Derived.ChangeOld
import Derived.Below
import Derived.SizedLaws
import Derived.Test.YtebdjhgboeadgaaSums
import Derived.Test.YtebdjhgboeadgaaRdU
namespace Go.Proofs.Ytebdjhgboeadgaa.frameSums
open Go.ChangeShapes Go.WideShapes Go.ChangeAt Go.RowKit
open Go.ChangeMaps (open_string shut_string)
set_option linter.unusedVariables false
set_option linter.unusedSimpArgs false
open Go Go.Proofs.YtebdjhgboeadgaaW.PrintWords
theorem walk (A : Option Addr) (c : Nat) (l : List (List Int)) (A1 : Option Addr) (c1 : Nat) (b : List Int) (w : World) (h : l.length ≤ c ∧ l.length ≤ 9223372036854775807 ∧ (∀ j, j < l.length → ∃ ad A' c', A = some ad ∧ w.cell? (ad.add j) = some (.slice A' (l.getD j []).length c') ∧ (l.getD j []).length ≤ c' ∧ Kd.C (Kd.int .u8) w A' (l.getD j []).length (l.getD j []) ∧ ∀ x ∈ l.getD j [], 0 ≤ x ∧ x ≤ 255))
    (h1 : b.length ≤ c1 ∧ Kd.C (Kd.int .u8) w A1 b.length b ∧ ∀ x ∈ b, 0 ≤ x ∧ x ≤ 255) (s : b.length * 1 ≤ 140737488351232) : Calls Try.prog 10 #[.slice A l.length c, .slice A1 b.length c1] w fun e w' => e = .returned (.bool true) ∧ Below w.heap.size w w' :=
  Sums.walk3 A c l A1 c1 b w h.1 h.2.1 h.2.2 h1.1 h1.2.1 h1.2.2

theorem own : ownKnob Try.prog.godebug = none := by kernel_rfl
theorem laidOut : laidOutB Try.prog = true := by kernel_rfl
set_option maxRecDepth 100000 in
theorem lifted (os : Os) (started : os.Started) (H : Type) (enc : TypeId × Value → H) :
    ReturnsInHanded {} Try.checked os 10 .any (Rows.frameSumsSpec.pre6 enc Try.prog Try.f10 Rows.frameSumsRow.domain false) (Rows.frameSumsSpec.post enc Try.prog Try.f10 false true false false) := by
  refine returnsInHanded_of_change_sized (C := Try.checked) own started (by kernel_rfl) Try.func10
    (ChangeSpec.witness6 (enc := enc) (C := Try.checked) false ⟨#[], #[.slice none 0 0, .slice none 0 0], []⟩ 8 (by kernel_rfl) (by kernel_rfl) (by kernel_rfl) (by kernel_rfl)) ?_
  intro W base args ds gs before hval0 hW hcnd hsz0 _
  have hsz : (DataW.weightsEach Try.prog (Try.f10.params.toList ++ Rows.frameSumsSpec.plain.varTypes Try.prog) (ds ++ gs)).all (· ≤ reachBytes) = true := hsz0
  have hval : ∀ (j : Nat) t v, Try.f10.params[j]? = some t → args[j]? = some v → Value.okWide Try.prog W .any base t v := hval0
  have hW' := hW
  obtain ⟨p, q, hA0, hV, rfl, hfz, hnd⟩ := hW
  have hA : DataW.TrodAll enc Try.prog W 0 (fun _ => true) true Try.f10.params.toList args.toList ds p := hA0
  rw [Try.params10] at hA hval hsz
  obtain ⟨v0, vs0, d0, ds0, p0, q0, hargs, rfl, rfl, h0, r0⟩ := trodAll_cons hA
  obtain ⟨v1, vs1, d1, ds1, p1, q1, rfl, rfl, rfl, h1, r1⟩ := trodAll_cons r0
  obtain ⟨rfl, rfl, rfl⟩ := trodAll_nil r1
  obtain rfl : args = #[v0, v1] := by cases args; simp_all
  obtain ⟨rfl, rfl⟩ := trodVars_none hV
  obtain ⟨a0, len0, cap0, rfl⟩ := okWide_slice Try.underlying58 (hval 0 58 v0 rfl rfl)
  have k0 := h0
  have lt0 : ∀ x ∈ p0, x.block < W.heap.size := by obtain ⟨m, hm⟩ := k0; exact DataW.trod_lt m _ _ _ hm
  obtain ⟨l0, z0, y0⟩ := RdU.open_u8ss Try.underlying58 Try.underlying44 Try.underlying5 (by kernel_rfl) (by kernel_rfl) h0
  subst z0
  obtain ⟨a1, len1, cap1, rfl⟩ := okWide_slice Try.underlying44 (hval 1 44 v1 rfl rfl)
  have k1 := h1
  have lt1 : ∀ x ∈ p1, x.block < W.heap.size := by obtain ⟨m, hm⟩ := k1; exact DataW.trod_lt m _ _ _ hm
  have s1 : len1 * 1 ≤ 140737488351232 := Go.Proofs.YtebdjhgboeadgaaW.PrintWords.sized_ints hsz (j := 1) (t := 44) rfl rfl Try.underlying44 Try.underlying5 (by kernel_rfl) (by kernel_rfl) h1
  obtain ⟨l1, z1, y1⟩ := RdU.open_u8s Try.underlying44 Try.underlying5 (by kernel_rfl) h1
  subst z1
  clear hA0 hval0 hsz0 hsz
  refine (walk a0 cap0 l0 a1 cap1 l1 W y0 y1 s1).mono fun e W' ⟨he, bel⟩ => ?_
  subst he
  exact ⟨_, rfl, _, _, _, [], _, [], hW', trodAll_mk1 (shut_bool Try.underlying4 _), (trodAll_cons_mk (Below.trod laidOut (by kernel_rfl) (of_decide_eq_true (by kernel_rfl)) k0 bel lt0) (trodAll_cons_mk (Below.trod laidOut (by kernel_rfl) (of_decide_eq_true (by kernel_rfl)) k1 bel lt1) trodAll_mk0)), rfl, bel.frame _, fun h => by cases h⟩
theorem over : Rows.frameSumsRow.holds Try.pinned (OpenSpec.ofChange Rows.frameSumsSpec) :=
  OpenClaim.holds_of_wide 10 Try.f10 rfl rfl rfl rfl rfl rfl rfl ⟨rfl, rfl, rfl, rfl, rfl⟩ rfl rfl rfl rfl rfl (by kernel_rfl) Try.func10 (by kernel_rfl)
    (of_decide_eq_true (by kernel_rfl)) (by unfold Func.isWrapper; first | (rw [if_pos (by decide +kernel)]; kernel_rfl) | (rw [if_neg (by decide +kernel)]; exact ⟨rfl, rfl⟩))
    (fun os started H enc _ => lifted os started H enc)
theorem proved : Rows.FrameSumsSaid := over
end Go.Proofs.Ytebdjhgboeadgaa.frameSums
namespace Go.Proofs.Ytebdjhgboeadgaa
/-- The row, under a short name, for the claim. -/
theorem frameSums_holds : Rows.FrameSumsSaid := frameSums.proved
#print axioms frameSums_holds
end Go.Proofs.Ytebdjhgboeadgaa
