/- Texts of this seat, put together (Zh21). -/
import Derived.Test.YthhgcjlgnafdcaaZh8
import Derived.Test.YthhgcjlgnafdcaaZh19
import Derived.Test.YthhgcjlgnafdcaaZh20
section
namespace Go.Proofs.Ythhgcjlgnafdcaa.Rx
set_option linter.unusedSimpArgs false
set_option linter.unusedVariables false
open Go Go.RowKit Go.Shelf Go.Proofs.YthhgcjlgnafdcaaW.PrintWords Go.Proofs.YthhgcjlgnafdcaaW.PrintLast Go.Proofs.Ythhgcjlgnafdcaa.Hd Go.Proofs.Ythhgcjlgnafdcaa.Os Go.Proofs.Ythhgcjlgnafdcaa.Tb Go.Proofs.Ythhgcjlgnafdcaa.Tm Go.Proofs.Ythhgcjlgnafdcaa.Px Go.Proofs.Ythhgcjlgnafdcaa.Wv Go.Proofs.Ythhgcjlgnafdcaa.Pp Go.Proofs.Ythhgcjlgnafdcaa.Pq Go.Proofs.Ythhgcjlgnafdcaa.Ps Go.Proofs.Ythhgcjlgnafdcaa.Rp Go.Proofs.Ythhgcjlgnafdcaa.Rw
section
attribute [local go_sem] Oper.semAt_some
variable {w0 w : World} {L : List F2} {b c : Nat} {A : Option Addr} {l : PR}
end
section
variable {w0 w : World} {L : List F2} {ys : PR} {A0 : Option Addr} {qi ci : Nat} {okR : Nat → Prop}
end
end Go.Proofs.Ythhgcjlgnafdcaa.Rx
end
section
namespace Go.Proofs.Ythhgcjlgnafdcaa.Rv
set_option linter.unusedSimpArgs false
set_option linter.unusedVariables false
open Go Go.RowKit Go.Proofs.YthhgcjlgnafdcaaW.PrintWords Go.Proofs.YthhgcjlgnafdcaaW.PrintLast Go.Proofs.Ythhgcjlgnafdcaa.Hd Go.Proofs.Ythhgcjlgnafdcaa.Os Go.Proofs.Ythhgcjlgnafdcaa.Tb Go.Proofs.Ythhgcjlgnafdcaa.Tm Go.Proofs.Ythhgcjlgnafdcaa.Px Go.Proofs.Ythhgcjlgnafdcaa.Wv Go.Proofs.Ythhgcjlgnafdcaa.Pp Go.Proofs.Ythhgcjlgnafdcaa.Pq Go.Proofs.Ythhgcjlgnafdcaa.Ps Go.Proofs.Ythhgcjlgnafdcaa.Rp Go.Proofs.Ythhgcjlgnafdcaa.Rw
def conv (r : ByteArray × Int) : S71 := ⟨r.1, r.2⟩
end Go.Proofs.Ythhgcjlgnafdcaa.Rv
end
section
namespace Go.Proofs.Ythhgcjlgnafdcaa.Rc
set_option linter.unusedSimpArgs false
set_option linter.unusedVariables false
open Go Go.RowKit Go.Shelf Go.Proofs.YthhgcjlgnafdcaaW.PrintWords Go.Proofs.YthhgcjlgnafdcaaW.PrintLast Go.Proofs.Ythhgcjlgnafdcaa.Hd Go.Proofs.Ythhgcjlgnafdcaa.Os Go.Proofs.Ythhgcjlgnafdcaa.Tb Go.Proofs.Ythhgcjlgnafdcaa.Tm Go.Proofs.Ythhgcjlgnafdcaa.Px Go.Proofs.Ythhgcjlgnafdcaa.Wv Go.Proofs.Ythhgcjlgnafdcaa.Pp Go.Proofs.Ythhgcjlgnafdcaa.Pq Go.Proofs.Ythhgcjlgnafdcaa.Ps Go.Proofs.Ythhgcjlgnafdcaa.Rp Go.Proofs.Ythhgcjlgnafdcaa.Rw Go.Proofs.Ythhgcjlgnafdcaa.Rx
theorem put_last {l : PR} (hu : Up cmpS l) {i : Nat} (hi : i < l.length) : put cmpS (l.take i) l[i].1 l[i].2 = l.take (i + 1) := by
  have hlen : (l.take i).length = i := by rw [List.length_take]; omega
  have hp : pos cmpS (l.take i) l[i].1 = i := pos_eq (by omega) (fun j hj hji => by
    rw [List.getElem_take]
    exact hu.at hji hi) (fun hj => by omega)
  have hh : has cmpS (l.take i) l[i].1 = false := has_end (by rw [hp]; omega)
  rw [put_false hh, hp, List.take_take, Nat.min_self, List.drop_of_length_le (by omega), List.take_add_one, List.getElem?_eq_getElem hi]
  rfl
section
variable {w0 w : World} {L : List F2} {b c : Nat} {A : Option Addr} {l : PR}
end
end Go.Proofs.Ythhgcjlgnafdcaa.Rc
end
