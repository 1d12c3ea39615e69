/- Texts of this seat, put together (Zh18). -/
import Derived.Test.YthhgcjlgnafdcaaZh3
import Derived.Test.YthhgcjlgnafdcaaZh11
section
namespace Go.Proofs.Ythhgcjlgnafdcaa.En
set_option linter.unusedVariables false
open Go Go.RowKit Go.Proofs.YthhgcjlgnafdcaaW.PrintWords Go.Proofs.YthhgcjlgnafdcaaW.PrintLast Go.Proofs.Ythhgcjlgnafdcaa.Os
def Ends {α : Type} (g : Nat → Option α) (v : α) : Prop := ∃ K, ∀ k, K ≤ k → g k = some v
theorem Ends.step {α : Type} {g g' : Nat → Option α} {v : α} (K0 : Nat) (h : En.Ends g v) (e : ∀ k, K0 ≤ k → g' (k + 1) = g k) : En.Ends g' v := by
  obtain ⟨K, hK⟩ := h
  refine ⟨max K K0 + 1, fun k hk => ?_⟩
  obtain ⟨k, rfl⟩ : ∃ m, k = m + 1 := ⟨k - 1, by omega⟩
  rw [e k (by omega)]
  exact hK k (by omega)
theorem Ends.now {α : Type} {g : Nat → Option α} {v : α} (K0 : Nat) (e : ∀ k, K0 ≤ k → g (k + 1) = some v) : En.Ends g v :=
  ⟨K0 + 1, fun k hk => by
    obtain ⟨k, rfl⟩ : ∃ m, k = m + 1 := ⟨k - 1, by omega⟩
    exact e k (by omega)⟩
theorem wrap_nat {j : Nat} (h : j ≤ 1000000) : wrap64 (j : Int) = (j : Int) := by unfold wrap64; omega
theorem wrap_succ {i : Nat} (h : i ≤ 1000000) : wrap64 ((i : Int) + 1) = ((i + 1 : Nat) : Int) := by unfold wrap64; omega
theorem wrap_pred {i : Nat} (h : i ≤ 1000000) : wrap64 (((i + 1 : Nat) : Int) - 1) = (i : Int) := by unfold wrap64; omega
theorem meas {a i k : Nat} (h : a - i ≤ k) (hi : i < a) : a - (i + 1) < k := by omega
theorem less_iff {a b : ByteArray} : Op.bytesLess a.toList b.toList = true ↔ cmpS a b = -1 := by
  unfold cmpS
  by_cases h : Op.bytesLess a.toList b.toList = true
  · rw [if_pos h]; simp [h]
  · rw [if_neg h]
    constructor
    · intro q; exact absurd q h
    · intro q; split at q <;> cases q
end Go.Proofs.Ythhgcjlgnafdcaa.En
end
