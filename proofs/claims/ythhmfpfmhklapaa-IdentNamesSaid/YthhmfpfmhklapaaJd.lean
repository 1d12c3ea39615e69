/- A CCP's number: strings.Index of one byte. -/
import Derived.Test.YthhmfpfmhklapaaRows
import Derived.WalkKit
import Derived.Lib.Bytealg
import Derived.Test.YthhmfpfmhklapaaWWords
namespace Go.Proofs.Ythhmfpfmhklapaa.Jd
set_option linter.unusedSimpArgs false
set_option linter.unusedVariables false
open Go Go.RowKit Go.Proofs.YthhmfpfmhklapaaW.PrintWords
set_option maxHeartbeats 1000000 in
set_option maxRecDepth 100000 in
theorem indexByte_calls (s : ByteArray) (c : Int) (w : World) : Calls Try.prog 58 #[.string s, .int .u8 c] w fun e w' => e = .returned (.int .i64 (Lib.indexByte s.data.toList c.toNat.toUInt8)) ∧ w' = w := by
  go_enter Try.func58, Try.ntmps58
  go_wp2
  rw [run_callFunc_extern Try.func64 (by kernel_rfl) (by kernel_rfl) (by kernel_rfl) (e := Extern.BytealgIndexByte.indexByte) (by kernel_rfl), Lib.run_indexByteString]
  simp only [Result.andThen]
  rw [Oper.upon_value]
  go_wp2
  go_ret
  exact ⟨rfl, rfl⟩
set_option maxHeartbeats 1000000 in
set_option maxRecDepth 100000 in
theorem index_one (c : UInt8) (w : World) : Calls Try.prog 55 #[.string ⟨#[65, 66, 67]⟩, .string ⟨#[c]⟩] w fun e w' => e = .returned (.int .i64 (Lib.indexByte [65, 66, 67] c)) ∧ w' = w := by
  go_enter Try.func55, Try.ntmps55
  go_wp2_with fail
  refine (indexByte_calls _ _ w).mono ?_
  rintro e w' ⟨rfl, hw⟩
  have hw2 := hw.symm
  subst hw2
  go_wp2
  go_ret
  exact ⟨rfl, rfl⟩
set_option maxHeartbeats 1000000 in
theorem strings_one (c : UInt8) (w : World) : Calls Try.prog 46 #[.string ⟨#[65, 66, 67]⟩, .string ⟨#[c]⟩] w fun e w' => e = .returned (.int .i64 (Lib.indexByte [65, 66, 67] c)) ∧ w' = w := by
  go_enter Try.func46, Try.ntmps46
  go_wp2_with fail
  refine (index_one c w).mono ?_
  rintro e w' ⟨rfl, hw⟩
  have hw2 := hw.symm
  subst hw2
  go_wp2
  go_ret
  exact ⟨rfl, rfl⟩
/-- A CCP's number, or -1. -/
def nodeN (s : ByteArray) : Int := if s = ⟨#[65]⟩ then 0 else if s = ⟨#[66]⟩ then 1 else if s = ⟨#[67]⟩ then 2 else -1
theorem index_abc (c : UInt8) : Lib.indexByte [65, 66, 67] c = nodeN ⟨#[c]⟩ := by
  have : ∀ c : UInt8, Lib.indexByte [65, 66, 67] c = nodeN ⟨#[c]⟩ := by
    intro c
    by_cases h1 : c = 65
    · subst h1; decide
    by_cases h2 : c = 66
    · subst h2; decide
    by_cases h3 : c = 67
    · subst h3; decide
    have n1 : ¬ (⟨#[c]⟩ : ByteArray) = ⟨#[65]⟩ := by simp [h1]
    have n2 : ¬ (⟨#[c]⟩ : ByteArray) = ⟨#[66]⟩ := by simp [h2]
    have n3 : ¬ (⟨#[c]⟩ : ByteArray) = ⟨#[67]⟩ := by simp [h3]
    unfold nodeN
    rw [if_neg n1, if_neg n2, if_neg n3]
    simp [Lib.indexByte, List.findIdx?, List.findIdx?.go, Ne.symm h1, Ne.symm h2, Ne.symm h3]
  exact this c
theorem one_byte (s : ByteArray) (h : s.size = 1) : ∃ c, s = ⟨#[c]⟩ := by
  obtain ⟨d⟩ := s
  have h' : d.size = 1 := h
  refine ⟨d[0], ?_⟩
  congr 1
  apply Array.ext
  · simp [h']
  · intro i h1 h2
    have : i = 0 := by omega
    subst this
    simp
theorem nodeN_not (s : ByteArray) (h : s.size ≠ 1) : nodeN s = -1 := by
  have n : ∀ c : UInt8, ¬ s = ⟨#[c]⟩ := fun c e => h (by rw [e]; rfl)
  unfold nodeN
  rw [if_neg (n _), if_neg (n _), if_neg (n _)]
set_option maxHeartbeats 2000000 in
theorem node_calls (a0 : ByteArray) (r1 r2 : Int) (w : World) (h : (if 0 ≤ nodeN a0 then some (nodeN a0, (0 : Int)) else some (0, 5)) = some (r1, r2)) :
    Calls Try.prog 29 #[.string a0] w fun e w' => e = .returned (.tuple #[.int .i64 r1, .int .i64 r2]) ∧ Below w.heap.size w w' := by
  by_cases hs : a0.size = 1
  · obtain ⟨c, rfl⟩ := one_byte a0 hs
    have hi := strings_one c
    rw [index_abc] at hi
    generalize nodeN ⟨#[c]⟩ = m at h hi
    by_cases hm : 0 ≤ m
    · rw [if_pos hm] at h
      simp only [Option.some.injEq, Prod.mk.injEq] at h
      obtain ⟨rfl, rfl⟩ := h
      have e1 : decide (0 ≤ m) = true := decide_eq_true hm
      clear hs
      go_enter Try.func29, Try.ntmps29
      go_wp2_with fail
      refine (hi _).mono ?_
      rintro e w' ⟨rfl, hw⟩
      subst hw
      go_wp2
      go_ret2
      exact ⟨rfl, Below.refl _ _⟩
    · rw [if_neg hm] at h
      simp only [Option.some.injEq, Prod.mk.injEq] at h
      obtain ⟨rfl, rfl⟩ := h
      have e1 : decide (0 ≤ m) = false := decide_eq_false hm
      clear hs
      go_enter Try.func29, Try.ntmps29
      go_wp2_with fail
      refine (hi _).mono ?_
      rintro e w' ⟨rfl, hw⟩
      subst hw
      go_wp2
      go_ret2
      exact ⟨rfl, Below.refl _ _⟩
  · rw [nodeN_not a0 hs, if_neg (by decide)] at h
    simp only [Option.some.injEq, Prod.mk.injEq] at h
    obtain ⟨rfl, rfl⟩ := h
    have e1 : ((a0.size : Int) == 1) = false := by simp; omega
    go_enter Try.func29, Try.ntmps29
    go_wp2
    go_ret2
    exact ⟨rfl, Below.refl _ _⟩
end Go.Proofs.Ythhmfpfmhklapaa.Jd
