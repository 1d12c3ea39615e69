/- Texts of this seat, put together (ZT13). -/
import Derived.Test.YtjbcigiffihjaaaZT10
import Derived.Test.YtjbcigiffihjaaaZT12
section
namespace Go.Proofs.Ytjbcigiffihjaaa.Fc
set_option linter.unusedSimpArgs false
set_option linter.unusedVariables false
open Go Go.RowKit Go.Proofs.Ytjbcigiffihjaaa.Fx Go.Proofs.YtjbcigiffihjaaaW.PrintWords Go.Proofs.Ytjbcigiffihjaaa.Fv
structure NV (G : List Nat) (w : World) (n : Bool) (A : Option Addr) (l c : Nat) (v : Int) (m : Nat) : Prop where
  ex : ∃ d : List Int, d.length = l ∧ l ≤ m ∧ Kd.V (Kd.int .i64) 3 w 0 (fun k => k ∉ G) (.slice A l c) d ∧ Nm v n d
section
variable {G : List Nat} {w w1 : World} {n n' : Bool} {A A' : Option Addr} {l l' c c' : Nat} {v v' : Int} {m m' : Nat}
theorem NV.below (h : NV G w n A l c v m) (hb : Below w.heap.size w w1) : NV G w1 n A l c v m := by
  obtain ⟨d, h1, h2, h3, h4⟩ := h.ex
  exact ⟨d, h1, h2, Kd.V_below h3 hb, h4⟩
theorem NV.alloc (h : NV G w n A l c v m) (o : Obj) : NV G (w.alloc o) n A l c v m := by
  obtain ⟨d, h1, h2, h3, h4⟩ := h.ex
  exact ⟨d, h1, h2, Kd.V_alloc h3 o, h4⟩
theorem NV.drew (h : NV G w n A l c v m) : NV G w.drew n A l c v m := by
  obtain ⟨d, h1, h2, h3, h4⟩ := h.ex
  exact ⟨d, h1, h2, Kd.V_drew h3, h4⟩
theorem NV.set (h : NV G w n A l c v m) {p : Addr} (hp : p.block ∈ G) (u : Value) : NV G (w.setCell p u) n A l c v m := by
  obtain ⟨d, h1, h2, h3, h4⟩ := h.ex
  exact ⟨d, h1, h2, Kd.V_far h3 (fun k hk hkp => hk (hkp ▸ hp)) u, h4⟩
theorem NV.le (h : NV G w n A l c v m) (hm : m ≤ m') : NV G w n A l c v m' := by
  obtain ⟨d, h1, h2, h3, h4⟩ := h.ex
  exact ⟨d, h1, by omega, h3, h4⟩
theorem NV.zero (G : List Nat) (w : World) : NV G w false none 0 0 0 0 :=
  ⟨[], rfl, Nat.le_refl _, Kd.V_nil _ _ _ _ _, ⟨Ds.nil, fun h => absurd rfl h, fun h => by simp at h, rfl, by simp⟩⟩
theorem NV.of {d : List Int} {W0 : World} {base : Nat} {x : Value} (hG : ∀ g ∈ G, g < W0.heap.size) (h : Kd.V (Kd.int .i64) 3 w base (fun k => W0.heap.size ≤ k) x d) (hn : Nm v n d) (hm : d.length ≤ m) : ∃ A l c, x = .slice A l c ∧ NV G w n A l c v m := by
  obtain ⟨A, c, rfl⟩ := Kd.V_slice h
  exact ⟨A, d.length, c, rfl, d, rfl, hm, Kd.V_mono h (fun k hk hg => by have := hG k hg; omega), hn⟩
end
section
variable {w : World}
end
end Go.Proofs.Ytjbcigiffihjaaa.Fc
end
