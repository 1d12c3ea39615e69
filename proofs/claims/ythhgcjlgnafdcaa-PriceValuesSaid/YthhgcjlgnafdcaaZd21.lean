/- Texts of this seat, put together (Zd21). -/
import Derived.Test.YthhgcjlgnafdcaaZd8
import Derived.Test.YthhgcjlgnafdcaaZd19
import Derived.Test.YthhgcjlgnafdcaaZd20
section
namespace Go.Proofs.Ythhgcjlgnafdcaa.Rx
set_option linter.unusedSimpArgs false
set_option linter.unusedVariables false
open Go Go.RowKit Go.Shelf Go.Proofs.YthhgcjlgnafdcaaW.PrintWords Go.Proofs.YthhgcjlgnafdcaaW.PrintLast Go.Proofs.Ythhgcjlgnafdcaa.Hd Go.Proofs.Ythhgcjlgnafdcaa.Os Go.Proofs.Ythhgcjlgnafdcaa.Tb Go.Proofs.Ythhgcjlgnafdcaa.Tm Go.Proofs.Ythhgcjlgnafdcaa.Px Go.Proofs.Ythhgcjlgnafdcaa.Wv Go.Proofs.Ythhgcjlgnafdcaa.Pp Go.Proofs.Ythhgcjlgnafdcaa.Pq Go.Proofs.Ythhgcjlgnafdcaa.Ps Go.Proofs.Ythhgcjlgnafdcaa.Rp Go.Proofs.Ythhgcjlgnafdcaa.Rw
section
attribute [local go_sem] Oper.semAt_some
variable {w0 w : World} {L : List F2} {b c : Nat} {A : Option Addr} {l : PR}
end
section
variable {w0 w : World} {L : List F2} {ys : PR} {A0 : Option Addr} {qi ci : Nat} {okR : Nat → Prop}
end
end Go.Proofs.Ythhgcjlgnafdcaa.Rx
end
section
namespace Go.Proofs.Ythhgcjlgnafdcaa.Rv
set_option linter.unusedSimpArgs false
set_option linter.unusedVariables false
open Go Go.RowKit Go.Proofs.YthhgcjlgnafdcaaW.PrintWords Go.Proofs.YthhgcjlgnafdcaaW.PrintLast Go.Proofs.Ythhgcjlgnafdcaa.Hd Go.Proofs.Ythhgcjlgnafdcaa.Os Go.Proofs.Ythhgcjlgnafdcaa.Tb Go.Proofs.Ythhgcjlgnafdcaa.Tm Go.Proofs.Ythhgcjlgnafdcaa.Px Go.Proofs.Ythhgcjlgnafdcaa.Wv Go.Proofs.Ythhgcjlgnafdcaa.Pp Go.Proofs.Ythhgcjlgnafdcaa.Pq Go.Proofs.Ythhgcjlgnafdcaa.Ps Go.Proofs.Ythhgcjlgnafdcaa.Rp Go.Proofs.Ythhgcjlgnafdcaa.Rw
abbrev kR := k71
def conv (r : ByteArray × Int) : S71 := ⟨r.1, r.2⟩
theorem C_conv {w : World} {A : Option Addr} {n : Nat} {l : PR} (h : Kd.C krow w A n l) : Kd.C kR w A n (l.map conv) := by
  obtain ⟨h1, h2, h3⟩ := h
  refine ⟨by rw [List.length_map]; exact h1, h2, fun hn => ?_⟩
  obtain ⟨ad, rfl, h4⟩ := h3 hn
  refine ⟨ad, rfl, fun j p hj => ?_⟩
  rw [List.getElem?_map] at hj
  obtain ⟨q, hq, rfl⟩ := Option.map_eq_some_iff.1 hj
  obtain ⟨cs, hl, hK, hc⟩ := h4 j q hq
  exact ⟨cs, hl, hK, hc⟩
end Go.Proofs.Ythhgcjlgnafdcaa.Rv
end
