/- Proved: the law BoxRooms answers true and leaves its argument alone, whatever the input. Conditions: none. -/
import Derived.Test.YtebdjhgboeadgaaRows
import Derived.WalkKit
import Derived.ProofKit
import Derived.OpenShut
import Derived.ShutString
import Derived.ChangeOld
import Derived.Below
import Derived.SizedLaws
import Derived.Test.YtebdjhgboeadgaaBxC
import Derived.Test.YtebdjhgboeadgaaBxS
namespace Go.Proofs.Ytebdjhgboeadgaa.boxRooms
open Go.ChangeShapes Go.WideShapes Go.ChangeAt Go.RowKit
open Go.ChangeMaps (open_string shut_string)
set_option linter.unusedVariables false
set_option linter.unusedSimpArgs false
open Go Go.Conc Go.Proofs.Ytebdjhgboeadgaa.BxA Go.Proofs.Ytebdjhgboeadgaa.BxC Go.Proofs.YtebdjhgboeadgaaW.PrintWords
def xs (n : Nat) : Array Value := Array.replicate n (.string ⟨#[120]⟩)
theorem xs_push (n : Nat) : (xs n).push (.string ⟨#[120]⟩) = xs (n + 1) := by simp [xs, Array.replicate_succ]
theorem xs_size (n : Nat) : (xs n).size = n := by simp [xs]
set_option maxRecDepth 20000 in
set_option maxHeartbeats 4000000 in
theorem walk_bad (a0 : Int) (h : a0 < 1 ∨ 5000 < a0) (w : World) : Calls Try.prog 4 #[.int .i64 a0] w fun e w' => e = .returned (.bool true) ∧ Below w.heap.size w w' := by
  rcases h with h | h
  · have e1 : decide (a0 < 1) = true := by simpa using h
    go_enter Try.func4, Try.ntmps4
    go_wp2_with fail
    refine (BxS.new_bad a0 (.inl h) w).mono ?_
    rintro e w' ⟨rfl, hw⟩
    subst hw
    go_wp2_with fail
    refine (known_ok _).mono ?_
    rintro e w2 ⟨rfl, hb⟩
    go_wp2
    go_ret
    exact ⟨rfl, hb⟩
  · have e1 : decide (a0 < 1) = false := by simp; omega
    have e2 : decide (5000 < a0) = true := by simpa using h
    go_enter Try.func4, Try.ntmps4
    go_wp2_with fail
    refine (BxS.new_bad a0 (.inr h) w).mono ?_
    rintro e w' ⟨rfl, hw⟩
    subst hw
    go_wp2_with fail
    refine (known_ok _).mono ?_
    rintro e w2 ⟨rfl, hb⟩
    go_wp2
    go_ret
    exact ⟨rfl, hb⟩
set_option maxRecDepth 20000 in
set_option maxHeartbeats 4000000 in
theorem walk_ok (n : Nat) (h1 : 1 ≤ n) (h2 : n ≤ 5000) (w : World) : Calls Try.prog 4 #[.int .i64 n] w fun e w' => e = .returned (.bool true) ∧ Below w.heap.size w w' := by
  have e1 : decide ((n : Int) < 1) = false := by simp; omega
  have e2 : decide (5000 < (n : Int)) = false := by simp; omega
  go_enter Try.func4, Try.ntmps4
  go_wp2_with fail
  refine (BxS.new_ok n h1 h2 w).mono ?_
  rintro e w1 ⟨rfl, hw1⟩
  have q0 : w1.cell? ⟨w.heap.size + 1, 0, none⟩ = some (.chan (some w.heap.size)) := by subst hw1; go_simp
  have q1 : w1.cell? ⟨w.heap.size + 1, 1, none⟩ = some (.bool false) := by subst hw1; go_simp
  have qc : w1.heap[w.heap.size]? = some (.chan n #[] false 0 0 false) := by
    subst hw1
    rw [Below.heap_alloc _ _ _ (by simp)]
    exact heap_alloc_new w _
  have hb : Below w.heap.size w w1 := by subst hw1; exact below_alloc (below_alloc (Below.refl _ _) _) _
  have hcl : w.heap.size < w1.heap.size := (Array.getElem?_eq_some_iff.1 qc).1
  clear hw1
  have hcp : w.heap.size ≠ w.heap.size + 1 := by omega
  have QC := Aside0.mk qc
  go_wp2_with fail
  refine (BxS.room_of _ _ n 0 0 _ w1 q0 qc).mono ?_
  rintro e w' ⟨rfl, hw⟩
  have hw2 := hw.symm
  subst hw2
  go_wp2_with fail
  go_loopw [5] (fun v5 wr => ∃ (k : Nat), k ≤ n ∧ v5 = .int .i64 k ∧ Aside0 (wr = w1.setChan w.heap.size n (xs k) false k 0 false)) (fun v5 _ => n - (intOf v5).toNat)
  case atStart => exact ⟨0, Nat.zero_le _, rfl, ⟨by rw [show xs 0 = #[] from rfl, setChan_self QC.out]⟩⟩
  case round =>
    obtain ⟨k, hk, rfl, HW⟩ := hrel
    have p0 : wr.cell? ⟨w.heap.size + 1, 0, none⟩ = some (.chan (some w.heap.size)) := by rw [HW.out, cell_setChan hcp]; exact q0
    have p1 : wr.cell? ⟨w.heap.size + 1, 1, none⟩ = some (.bool false) := by rw [HW.out, cell_setChan hcp]; exact q1
    have pc : wr.heap[w.heap.size]? = some (.chan n (xs k) false k 0 false) := by rw [HW.out]; exact heap_setChan _ _ _ _ _ _ _ _ hcl
    have hB : Below w.heap.size w wr := by rw [HW.out]; exact below_setChan hb (Nat.le_refl _) _ _ _ _ _ _
    by_cases hkn : k < n
    · have e3 : decide ((k : Int) < (n : Int)) = true := by simp; omega
      go_wp2_with fail
      refine (BxS.put_ok _ _ n k 0 _ ⟨#[120]⟩ wr p0 p1 pc (by rw [xs_size]; exact hkn)).mono ?_
      rintro e w' ⟨rfl, hw⟩
      have HW2 := Aside0.mk hw
      clear hw
      go_wp2
      exact ⟨⟨k + 1, by omega, by push_cast; rfl, ⟨by rw [HW2.out, HW.out, setChan_twice, xs_push]⟩⟩, by simp [intOf]; omega⟩
    · obtain rfl : k = n := by omega
      have e3 : decide ((k : Int) < (k : Int)) = false := by simp
      go_wp2_with fail
      refine (known_ok _).mono ?_
      rintro e w2 ⟨rfl, hb2⟩
      have hlt : w.heap.size < wr.heap.size := (Array.getElem?_eq_some_iff.1 pc).1
      have r0 := (hb2.cell (cell_lt p0)).trans p0
      have r1 := (hb2.cell (cell_lt p1)).trans p1
      have rc := (hb2.block w.heap.size hlt).trans pc
      have hB2 := hB.trans (hb2.mono hB.size)
      go_wp2_with fail
      refine (BxS.put_full _ _ k k 0 _ ⟨#[121]⟩ w2 r0 r1 rc (by rw [xs_size]; exact Nat.le_refl _)).mono ?_
      rintro e w' ⟨rfl, hw⟩
      have hw2 := hw.symm
      subst hw2
      go_wp2_with fail
      refine (BxS.len_of _ _ k k 0 _ w2 r0 rc).mono ?_
      rintro e w' ⟨rfl, hw⟩
      have hw2 := hw.symm
      subst hw2
      rw [xs_size]
      go_wp2
      go_ret
      exact ⟨rfl, hB2⟩
theorem walk (a0 : Int) (w0 : (Lit.int .i64 a0).wf = true) (w : World) : Calls Try.prog 4 #[.int .i64 a0] w fun e w' => e = .returned (.bool true) ∧ Below w.heap.size w w' := by
  by_cases h : a0 < 1 ∨ 5000 < a0
  · exact walk_bad a0 h w
  · obtain ⟨n, rfl⟩ := Int.eq_ofNat_of_zero_le (show 0 ≤ a0 by omega)
    exact walk_ok n (by omega) (by omega) w

theorem own : ownKnob Try.prog.godebug = none := by kernel_rfl
set_option maxRecDepth 100000 in
theorem lifted (os : Os) (started : os.Started) (H : Type) (enc : TypeId × Value → H) :
    ReturnsInHanded {} Try.checked os 4 .any (Rows.boxRoomsSpec.pre6 enc Try.prog Try.f4 Rows.boxRoomsRow.domain false) (Rows.boxRoomsSpec.post enc Try.prog Try.f4 false true false false) := by
  refine returnsInHanded_of_change_sized (C := Try.checked) own started (by kernel_rfl) Try.func4
    (ChangeSpec.witness6 (enc := enc) (C := Try.checked) false ⟨#[], #[.int .i64 0], []⟩ 8 (by kernel_rfl) (by kernel_rfl) (by kernel_rfl) (by kernel_rfl)) ?_
  intro W base args ds gs before hval0 hW hcnd hsz0 _
  have hsz : (DataW.weightsEach Try.prog (Try.f4.params.toList ++ Rows.boxRoomsSpec.plain.varTypes Try.prog) (ds ++ gs)).all (· ≤ reachBytes) = true := hsz0
  have hval : ∀ (j : Nat) t v, Try.f4.params[j]? = some t → args[j]? = some v → Value.okWide Try.prog W .any base t v := hval0
  have hW' := hW
  obtain ⟨p, q, hA0, hV, rfl, hfz, hnd⟩ := hW
  have hA : DataW.TrodAll enc Try.prog W 0 (fun _ => true) true Try.f4.params.toList args.toList ds p := hA0
  rw [Try.params4] at hA hval hsz
  obtain ⟨v0, vs0, d0, ds0, p0, q0, hargs, rfl, rfl, h0, r0⟩ := trodAll_cons hA
  obtain ⟨rfl, rfl, rfl⟩ := trodAll_nil r0
  obtain rfl : args = #[v0] := by cases args; simp_all
  obtain ⟨rfl, rfl⟩ := trodVars_none hV
  obtain ⟨a0, rfl, rfl, rfl, w0⟩ := open_int Try.underlying3 (hval 0 3 v0 rfl rfl) h0
  clear hA0 hval0 hsz0 hsz
  refine (walk a0 w0 W ).mono fun e W' ⟨he, bel⟩ => ?_
  subst he
  exact ⟨_, rfl, _, _, _, [], _, [], hW', trodAll_mk1 (shut_bool Try.underlying4 _), (trodAll_cons_mk (shut_int Try.underlying3 w0) trodAll_mk0), rfl, bel.frame _, fun h => by cases h⟩
theorem over : Rows.boxRoomsRow.holds Try.pinned (OpenSpec.ofChange Rows.boxRoomsSpec) :=
  OpenClaim.holds_of_wide 4 Try.f4 rfl rfl rfl rfl rfl rfl rfl ⟨rfl, rfl, rfl, rfl, rfl⟩ rfl rfl rfl rfl rfl (by kernel_rfl) Try.func4 (by kernel_rfl)
    (of_decide_eq_true (by kernel_rfl)) (by unfold Func.isWrapper; first | (rw [if_pos (by decide +kernel)]; kernel_rfl) | (rw [if_neg (by decide +kernel)]; exact ⟨rfl, rfl⟩))
    (fun os started H enc _ => lifted os started H enc)
theorem proved : Rows.BoxRoomsSaid := over
end Go.Proofs.Ytebdjhgboeadgaa.boxRooms
namespace Go.Proofs.Ytebdjhgboeadgaa
/-- The row, under a short name, for the claim. -/
theorem boxRooms_holds : Rows.BoxRoomsSaid := boxRooms.proved
#print axioms boxRooms_holds
end Go.Proofs.Ytebdjhgboeadgaa
