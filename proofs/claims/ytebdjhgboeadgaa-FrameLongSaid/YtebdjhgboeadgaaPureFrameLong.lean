/- The law FrameLong, in plain terms. -/
import Derived.Test.YtebdjhgboeadgaaFr21
import Derived.Test.YtebdjhgboeadgaaJr
namespace Go.Proofs.Ytebdjhgboeadgaa.Pure
set_option linter.unusedSimpArgs false
set_option linter.unusedVariables false
open Go Go.RowKit Go.Proofs.Ytebdjhgboeadgaa.Fr Go.Proofs.YtebdjhgboeadgaaW.PrintWords Go.Proofs.YtebdjhgboeadgaaW.PrintLast
theorem FrameLong : clevislaw06_FrameLong.Pure := by
  intro a0 h0
  obtain ⟨d, hd, hd5⟩ : ∃ d : Nat, wrap64 (Int.tmod (IntKind.u64.wrap a0) 5) = (d : Int) ∧ d < 5 := by
    have h : 0 ≤ IntKind.u64.wrap a0 := by rw [IntKind.wrap_u64]; omega
    generalize IntKind.u64.wrap a0 = u at h
    refine ⟨(u % 5).toNat, ?_, by omega⟩
    rw [Int.tmod_eq_emod_of_nonneg h]
    unfold wrap64
    omega
  have hn : wrap64 (1048566 + (d : Int)) = ((1048566 + d : Nat) : Int) := by unfold wrap64; omega
  have hb : Jp.bytes (List.replicate (1048566 + d) 0) := fun x hx => by
    rw [(List.mem_replicate.1 hx).2]
    unfold Jp.byte
    omega
  unfold clevislaw06_FrameLong.f
  rw [hd, hn, Int.toNat_natCast, if_pos (by omega), if_pos (by omega), Jr.iMake _ hb (by rw [List.length_replicate]; omega), Option.bind_some]
  obtain ⟨l, hl⟩ : ∃ l, List.replicate (1048566 + d) (0 : Int) = l := ⟨_, rfl⟩
  have hll : l.length = 1048566 + d := by rw [← hl, List.length_replicate]
  rw [hl] at hb ⊢
  by_cases h : 1048568 < l.length
  · rw [if_pos h, if_pos (by omega)]
    rfl
  · rw [if_neg h, if_neg (by omega)]
    have hfb := Jp.frameOf_bytes l hb
    have hw : wrap64 (((1048566 + d : Nat) : Int) + 8) = ((1048566 + d + 8 : Nat) : Int) := by unfold wrap64; omega
    rw [Jr.iOpen _ hfb (by rw [Jp.frameOf_length]; omega), Option.bind_some, Jp.open_frame l hb (by omega), Jr.openL_frame l hb (by omega), hw]
    simp only [clevislaw06_known.f, Option.bind_some, if_true, Jp.frameOf_length, hll]
    simp
end Go.Proofs.Ytebdjhgboeadgaa.Pure
