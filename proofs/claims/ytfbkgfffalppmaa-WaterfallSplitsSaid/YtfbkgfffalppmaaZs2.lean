/- Texts of this seat, put together (Zs2). -/
import Derived.Below
import Derived.WalkKit
import Derived.Tactics
import Derived.Laws.Rows
import Derived.Test.YtfbkgfffalppmaaZs0
import Derived.Test.YtfbkgfffalppmaaZs1
section
namespace Go.Proofs.YtfbkgfffalppmaaW.PrintWords
open Go.RowKit
namespace Kd
section
variable {α : Type} {d : Kd α} {e base g o n cap : Nat} {ok okp : Nat → Prop} {w W : World} {v : Value} {xs : List α}
end
section
variable {α : Type} {enc : α → Value} {h1 : ∀ x, (enc x).oneCell' = true} {e base g o n cap : Nat} {ok : Nat → Prop} {W : World} {xs : List α}
end
end Kd
end Go.Proofs.YtfbkgfffalppmaaW.PrintWords
end
section
namespace Go.Proofs.YtfbkgfffalppmaaW.PrintWords
open Go.RowKit
namespace Kd
def tag {α : Type} (f : Nat → Nat) (d : Kd α) : Kd (α × Nat) where
  sz := d.sz
  E := d.E
  K := fun w x cs => d.K w x.1 cs
  M := fun w base ok x cs => d.M w base (fun k => ok k ∧ f k = x.2) x.1 cs
  K_len := fun h => d.K_len h
  K_one := fun h => d.K_one h
  K_below := fun hb h => d.K_below hb h
  K_of_M := fun h => d.K_of_M h
  M_mono := fun hok h => d.M_mono (fun k hk => ⟨hok k hk.1, hk.2⟩) h
  M_bound := fun h => d.M_mono (fun _ hk => ⟨⟨hk.1.1, hk.2⟩, hk.1.2⟩) (d.M_bound h)
  M_move := fun hm h => d.M_move (fun k hk => hm k hk.1) h
  M_lower := fun hb h => d.M_lower hb h
def raw (sz : Nat) : Kd (List Value) where
  sz := sz
  E := []
  K := fun _ x cs => cs = x ∧ cs.length = sz ∧ ∀ u ∈ cs, u.oneCell' = true
  M := fun _ _ _ x cs => cs = x ∧ cs.length = sz ∧ ∀ u ∈ cs, u.oneCell' = true
  K_len := fun h => h.2.1
  K_one := fun h => h.2.2
  K_below := fun _ h => h
  K_of_M := fun h => h
  M_mono := fun _ h => h
  M_bound := fun h => h
  M_move := fun _ h => h
  M_lower := fun _ h => h
def S {α : Type} (d : Kd α) (e : Nat) (w : World) (base : Nat) (ok : Nat → Prop) (v : Value) (xs : List α) : Prop := ∃ f, (tag f d).R e w base ok v xs.zipIdx
section
variable {α β : Type} {d : Kd α} {d' : Kd β} {e e' : Nat} {w w1 W : World} {base b : Nat} {ok ok' okv oku : Nat → Prop} {u v : Value} {xs : List α} {ys : List β}
theorem zip_at {xs : List α} {j : Nat} {p : α} (h : xs[j]? = some p) : xs.zipIdx[j]? = some (p, j) := by rw [List.getElem?_zipIdx, h, Nat.zero_add]; rfl
theorem S_R (h : S d e w base ok v xs) : d.R e w base ok v xs := by
  obtain ⟨f, h0, inner, ho, hr⟩ := h
  rw [List.length_zipIdx] at ho
  exact ⟨h0, inner, ho, by have := hr.1; rw [List.length_zipIdx] at this; exact this, fun j p hj => d.M_mono (fun _ hk => hk.1) (hr.2 j (p, j) (zip_at hj))⟩
theorem R_tight (hE : d.E = []) (h : d.R e w base ok v xs) : d.R e w base (fun k => some k = v.ownBlock) v xs := by
  obtain ⟨h0, inner, ho, hr⟩ := h
  refine ⟨fun k hk => hk.symm, inner, ho, hr.imp_ (fun p c hp => d.M_mono (fun k hk => ?_) (d.M_bound hp))⟩
  obtain ⟨_, _, _, q, hq, _⟩ := hk
  rw [hE] at hq
  cases hq
theorem S_nil (d : Kd α) (e : Nat) (w : World) (base : Nat) (ok : Nat → Prop) : S d e w base ok (.slice none 0 0) [] := ⟨fun _ => 0, R_nil _ _ _ _ _⟩
theorem S_mono (h : S d e w base ok v xs) (hok : ∀ k, ok k → ok' k) : S d e w base ok' v xs := by
  obtain ⟨f, h⟩ := h
  exact ⟨f, R_mono h hok⟩
theorem S_bound (h : S d e w base ok v xs) : S d e w base (fun k => ok k ∧ base ≤ k ∧ k < w.heap.size ∧ ∃ q, q ∈ e :: d.E ∧ ∃ cells, w.heap[k]? = some (.cells cells q (0, 0))) v xs := by
  obtain ⟨f, h⟩ := h
  exact ⟨f, R_bound h⟩
theorem S_move (h : S d e w base ok v xs) (hm : ∀ k, ok k → w1.heap[k]? = w.heap[k]?) : S d e w1 base ok v xs := by
  obtain ⟨f, h⟩ := h
  exact ⟨f, R_move h hm⟩
theorem S_step (h : S d e w base ok v xs) (hm : ∀ k, ok k → k < w.heap.size → w1.heap[k]? = w.heap[k]?) : S d e w1 base ok v xs :=
  S_mono (S_move (S_bound h) (fun k hk => hm k hk.1 hk.2.2.1)) (fun _ hk => hk.1)
theorem S_below (h : S d e w base ok v xs) (hb : Below w.heap.size w w1) : S d e w1 base ok v xs := S_step h (fun k _ hk => hb.block k hk)
theorem S_alloc (h : S d e w base ok v xs) (o : Obj) : S d e (w.alloc o) base ok v xs := S_below h (below_alloc (Below.refl _ _) o)
theorem S_drew (h : S d e w base ok v xs) : S d e w.drew base ok v xs := S_below h (below_drew (Below.refl _ _))
theorem S_drewN (h : S d e w base ok v xs) (m : Nat) : S d e (w.drewN m) base ok v xs := S_below h (pw_below_drewN (Below.refl _ _) m)
theorem S_far (h : S d e w base ok v xs) {p : Addr} (hok : ∀ k, ok k → k ≠ p.block) (u : Value) : S d e (w.setCell p u) base ok v xs := S_step h (fun k ho _ => Below.heap_setCell w p u k (hok k ho))
theorem S_types (h : S d e w base ok v xs) {g t : Nat} {cells : Array Value} (hb : w.heap[g]? = some (.cells cells t (0, 0))) (ht : ∀ q, q ∈ e :: d.E → q ≠ t) : S d e w base (fun k => ok k ∧ k ≠ g) v xs := by
  obtain ⟨f, h⟩ := h
  exact ⟨f, R_types h hb ht⟩
theorem S_typed (h : S d e w base ok v xs) : ∀ k, v.ownBlock = some k → ∃ cells, w.heap[k]? = some (.cells cells e (0, 0)) := R_typed (S_R h)
theorem S_over' (h : S d e W base ok u xs) (hty : ∀ k, v.ownBlock = some k → ∃ cells, W.heap[k]? = some (.cells cells e' (0, 0))) (ht : ∀ q, q ∈ e :: d.E → q ≠ e') (hg : W.grownBy w1 v.ownBlock) : S d e w1 base ok u xs := by
  obtain ⟨f, h⟩ := h
  exact ⟨f, R_over' h hty ht hg⟩
theorem S_after {v1 : Value} (h : S d e W base (fun k => ok k ∧ some k ≠ v.ownBlock) u xs) (hg : W.grownBy w1 v.ownBlock) (hat : v1.ownBlock = v.ownBlock ∨ ∃ b, v1.ownBlock = some b ∧ W.heap.size ≤ b) : S d e w1 base (fun k => ok k ∧ some k ≠ v1.ownBlock) u xs := by
  obtain ⟨f, h⟩ := h
  exact ⟨f, R_after h hg hat⟩
theorem R_tag {f f' : Nat → Nat} {zs : List (α × Nat)} (h : (tag f d).R e w base ok v zs) (hf : ∀ k, ok k → k < w.heap.size → f' k = f k) : (tag f' d).R e w base ok v zs := by
  obtain ⟨h0, inner, ho, hr⟩ := R_bound h
  exact ⟨fun k hk => (h0 k hk).1, inner, ho, hr.1, fun j p hj => d.M_mono (fun k hk => ⟨⟨hk.1.1.1, hk.1.2⟩, (hf k hk.1.1.1 hk.1.1.2.2.1).trans hk.2⟩) (hr.2 j p hj)⟩
end
section
variable {α β : Type} {d : Kd α} {d' : Kd β} {e e' g : Nat} {w w1 W : World} {base b : Nat} {ok ok' okv oku : Nat → Prop} {u v : Value} {xs : List α} {ys : List β}
theorem S_ne (h : S d e w base ok v xs) {t : Nat} {cells : Array Value} (hb : w.heap[g]? = some (.cells cells t (0, 0))) (ht : e ≠ t) : some g ≠ v.ownBlock := R_ne (S_R h) hb ht
theorem S_away (h : S d e w base ok v xs) (hok : ∀ k, ok k → k ≠ g) : some g ≠ v.ownBlock := R_away (S_R h) hok
theorem S_slice (h : S d e w base ok v xs) : ∃ A c, v = .slice A xs.length c := R_slice (S_R h)
theorem S_reads' {A : Option Addr} {n c : Nat} (h : S d e w base ok (.slice A n c) xs) : n = xs.length ∧ n ≤ c ∧ d.C w A xs.length xs := R_reads' (S_R h)
theorem S_elderB (h : S d e w base ok v xs) (a : Nat) (ha : w.heap.size ≤ a) : S d e w base (fun k => ok k ∧ k ≠ a) v xs := S_mono (S_bound h) (fun k hk => ⟨hk.1, by have := hk.2.2.1; omega⟩)
theorem zip_snoc (xs : List α) (p : α) : (xs ++ [p]).zipIdx = xs.zipIdx ++ [(p, xs.length)] := by rw [List.zipIdx_append]; simp
end
section
open Classical in
theorem S_tag {α : Type} {d : Kd α} {e base : Nat} {okv : Nat → Prop} {w : World} {v : Value} {xs : List α} (h : S d e w base okv v xs) (m : Nat) (okp : Nat → Prop) (hap : ∀ k, okp k → ¬ okv k) : ∃ f, (∀ k, okp k → f k = m) ∧ (tag f d).R e w base okv v xs.zipIdx := by
  obtain ⟨f, h⟩ := h
  exact ⟨fun k => if okp k then m else f k, fun k hk => if_pos hk, R_tag h (fun k hk _ => if_neg (fun h2 => hap k h2 hk))⟩
variable {P : Program} {ops : Array Oper} {rest : List Oper} {o : Oper} {a : Act} {Q : Exit → Act → World → Prop} {Kc : Act → World → Prop} {α : Type}
theorem S_append (d : Kd α) {w0 W : World} (base : Nat) (hgd : o.guard = none) (s x : Operand) (t e : TypeId) (z : Value) (bytes : Nat)
    (ho : o.op = .call { callee := .builtin .append, args := #[s, x], argTypes := #[t, t] })
    (ht : P.underlying t = some (.slice e)) (hinfo : (P.info? e).map (fun i => (i.zero, i.size, i.bytes)) = some (some z, d.sz, bytes)) (hz : z.cells.size = d.sz) (hs0 : 0 < d.sz) (hb0 : 0 < bytes)
    (v : Value) (xs : List α) (p : α) (cs : List Value) (ok okp : Nat → Prop) (hs : a.eval s = v) (hx : a.eval x = .slice (some ⟨W.heap.size, 0, none⟩) 1 1) (hp : d.M W base okp p cs) (hokp : ∀ k, okp k → ok k ∧ some k ≠ v.ownBlock) (hfresh : ∀ k, W.heap.size ≤ k → ok k)
    (HO : S d e W base (fun k => ok k ∧ ¬ okp k) v xs) (HB : Below base w0 W) (hbase : base ≤ W.heap.size) (hl : (xs.length + 1) * bytes ≤ 140737488355328)
    (h : ∀ v1 w1, S d e w1 base ok v1 (xs ++ [p]) → Below base w0 w1 → W.grownBy w1 v.ownBlock → (v1.ownBlock = v.ownBlock ∨ ∃ b, v1.ownBlock = some b ∧ W.heap.size ≤ b) → wpList P ops Q rest (a.put o.dst v1) w1) :
    wpList P ops Q (o :: rest) a (W.alloc (.cells cs.toArray e)) := by
  obtain ⟨f, hf, hR⟩ := S_tag HO xs.length okp (fun _ hk h2 => h2.2 hk)
  refine R_append (tag f d) base hgd s x t e z bytes ho ht hinfo hz hs0 hb0 v xs.zipIdx (p, xs.length) cs ok okp hs hx (d.M_mono (fun k hk => ⟨hk, hf k hk⟩) hp) hokp hfresh (R_mono hR (fun _ hk => hk.1)) HB hbase (by rw [List.length_zipIdx]; exact hl) ?_
  intro v1 w1 hr
  rw [← zip_snoc] at hr
  exact h v1 w1 ⟨f, hr⟩
end
def gap {α : Type} (f : Nat → Nat) (d : Kd α) (i : Nat) (c : List Value) : Kd (α × Nat) where
  sz := d.sz
  E := d.E
  K := fun w x cs => (x.2 = i → cs = c ∧ cs.length = d.sz ∧ ∀ u ∈ cs, u.oneCell' = true) ∧ (x.2 ≠ i → d.K w x.1 cs)
  M := fun w base ok x cs => (x.2 = i → cs = c ∧ cs.length = d.sz ∧ ∀ u ∈ cs, u.oneCell' = true) ∧ (x.2 ≠ i → d.M w base (fun k => ok k ∧ f k = x.2) x.1 cs)
  K_len := fun {w x cs} h => by
    by_cases hx : x.2 = i
    · exact (h.1 hx).2.1
    · exact d.K_len (h.2 hx)
  K_one := fun {w x cs} h => by
    by_cases hx : x.2 = i
    · exact (h.1 hx).2.2
    · exact d.K_one (h.2 hx)
  K_below := fun hb h => ⟨h.1, fun hx => d.K_below hb (h.2 hx)⟩
  K_of_M := fun h => ⟨h.1, fun hx => d.K_of_M (h.2 hx)⟩
  M_mono := fun hok h => ⟨h.1, fun hx => d.M_mono (fun k hk => ⟨hok k hk.1, hk.2⟩) (h.2 hx)⟩
  M_bound := fun h => ⟨h.1, fun hx => d.M_mono (fun _ hk => ⟨⟨hk.1.1, hk.2⟩, hk.1.2⟩) (d.M_bound (h.2 hx))⟩
  M_move := fun hm h => ⟨h.1, fun hx => d.M_move (fun k hk => hm k hk.1) (h.2 hx)⟩
  M_lower := fun hb h => ⟨h.1, fun hx => d.M_lower hb (h.2 hx)⟩
def H {α : Type} (d : Kd α) (e : Nat) (w : World) (base : Nat) (ok : Nat → Prop) (v : Value) (xs : List α) (i : Int) (oki : Nat → Prop) (c : List Value) : Prop :=
  (∀ k, oki k → ok k) ∧ ∃ f, (gap f d i.toNat c).R e w base (fun k => ok k ∧ ¬ oki k) v xs.zipIdx
section
variable {α β : Type} {d : Kd α} {e e' g n cap : Nat} {w w1 W : World} {base : Nat} {ok ok' oki okp : Nat → Prop} {u v : Value} {xs : List α} {i : Int} {c : List Value}
open Classical in
end
section
variable {P : Program} {ops : Array Oper} {rest : List Oper} {o : Oper} {a : Act} {Q : Exit → Act → World → Prop} {α : Type}
end
end Kd
end Go.Proofs.YtfbkgfffalppmaaW.PrintWords
end
section
namespace Go.Proofs.YtfbkgfffalppmaaW.PrintWords
open Go.RowKit
section
variable {P : Program}
end
namespace Kd
section
variable {P : Program} {ops : Array Oper} {rest : List Oper} {o : Oper} {a : Act} {Q : Exit → Act → World → Prop} {Kc : Act → World → Prop} {α : Type}
end
section
variable {α : Type} {d : Kd α} {e : Nat} {w : World} {base : Nat} {ok : Nat → Prop} {v : Value} {xs : List α}
end
section
variable {P : Program} {ops : Array Oper} {rest : List Oper} {o : Oper} {a : Act} {Q : Exit → Act → World → Prop} {Kc : Act → World → Prop} {α : Type}
end
end Kd
end Go.Proofs.YtfbkgfffalppmaaW.PrintWords
end
section
namespace Go.Proofs.YtfbkgfffalppmaaW.PrintWords
open Go.RowKit
namespace Kd
structure Heap {α : Type} (d : Kd α) : Prop where
  K : ∀ {w w1 : World} {x : α} {cs : List Value}, (∀ k, k < w.heap.size → w1.heap[k]? = w.heap[k]?) → d.K w x cs → d.K w1 x cs
theorem cell_heap {w w1 : World} (hb : ∀ k, k < w.heap.size → w1.heap[k]? = w.heap[k]?) {a : Addr} {v : Value} (h : w.cell? a = some v) : w1.cell? a = some v := by
  have := hb a.block (World.block_lt_of_cell? w a h)
  simpa [World.cell?, this] using h
theorem Heap.C {α : Type} {d : Kd α} (hd : Heap d) {w w1 : World} {A : Option Addr} {n : Nat} {xs : List α} (hb : ∀ k, k < w.heap.size → w1.heap[k]? = w.heap[k]?) (h : d.C w A n xs) : d.C w1 A n xs :=
  ⟨h.1, h.2.1, fun hn => by
    obtain ⟨ad, e, hc⟩ := h.2.2 hn
    refine ⟨ad, e, fun j p hj => ?_⟩
    obtain ⟨c, hs, hr, hcell⟩ := hc j p hj
    exact ⟨c, hs, hd.K hb hr, fun i u hu => cell_heap hb (hcell i u hu)⟩⟩
section
variable {α : Type} {d : Kd α} {e base g n c : Nat} {ok : Nat → Prop} {w w0 W : World} {A : Option Addr} {xs : List α}
end
end Kd
end Go.Proofs.YtfbkgfffalppmaaW.PrintWords
end
section
namespace Go.Proofs.YtfbkgfffalppmaaW.PrintWords
open Go.RowKit
def Kept (w W : World) (S : Nat → Prop) : Prop := w.heap.size ≤ W.heap.size ∧ ∀ i, i < w.heap.size → ¬ S i → W.heap[i]? = w.heap[i]?
section
variable {w W W2 : World} {S S2 S' : Nat → Prop}
theorem Kept.refl (w : World) (S : Nat → Prop) : Kept w w S := ⟨Nat.le_refl _, fun _ _ _ => rfl⟩
theorem Kept.of_below (h : Below w.heap.size w W) (S : Nat → Prop) : Kept w W S := ⟨h.size, fun i hi _ => h.block i hi⟩
theorem Kept.mono (h : Kept w W S) (hs : ∀ k, S k → S' k) : Kept w W S' := ⟨h.1, fun i hi hn => h.2 i hi (fun hk => hn (hs i hk))⟩
theorem Kept.then_ (h : Kept w W S) (k : Kept W W2 S2) (hs : ∀ k, S2 k → S k ∨ w.heap.size ≤ k) : Kept w W2 S :=
  ⟨Nat.le_trans h.1 k.1, fun i hi hn => (k.2 i (Nat.lt_of_lt_of_le hi h.1) (fun h2 => (hs i h2).elim hn (fun h3 => by omega))).trans (h.2 i hi hn)⟩
theorem Kept.below (h : Kept w W S) (hb : Below W.heap.size W W2) : Kept w W2 S := h.then_ (Kept.of_below hb (fun _ => False)) (fun _ hk => hk.elim)
theorem Kept.alloc (h : Kept w W S) (o : Obj) : Kept w (W.alloc o) S := h.below (below_alloc (Below.refl _ _) o)
theorem Kept.drew (h : Kept w W S) : Kept w W.drew S := h
theorem Kept.drewN (h : Kept w W S) (m : Nat) : Kept w (W.drewN m) S := h
theorem Kept.setCell (h : Kept w W S) {p : Addr} (hp : S p.block ∨ w.heap.size ≤ p.block) (u : Value) : Kept w (W.setCell p u) S :=
  h.then_ (S2 := fun k => k = p.block) ⟨by simp [World.setCell], fun i _ hn => Below.heap_setCell W p u i hn⟩ (fun k hk => by rw [hk]; exact hp)
theorem blk_kept {g : Nat} {o : Obj} (hb : W.heap[g]? = some o) (hk : Kept W W2 S) (hne : ¬ S g) : W2.heap[g]? = some o := (hk.2 g (blk_lt hb) hne).trans hb
end
namespace Kd
section
variable {α : Type} {d : Kd α} {e base n c : Nat} {ok oki S S2 : Nat → Prop} {w w0 W W1 W2 : World} {v : Value} {A : Option Addr} {xs : List α} {i : Int} {cs : List Value}
end
end Kd
end Go.Proofs.YtfbkgfffalppmaaW.PrintWords
end
section
namespace Go.Proofs.YtfbkgfffalppmaaW.PrintWords
open Go.RowKit
def Foot (P : World → Prop) (W : World) (ok : Nat → Prop) : Prop := ∀ W' : World, (∀ k, ok k → k < W.heap.size → W'.heap[k]? = W.heap[k]?) → P W'
theorem heap_lt {W W1 : World} {k : Nat} (h : W1.heap[k]? = W.heap[k]?) (hlt : k < W.heap.size) : k < W1.heap.size := by
  rw [Array.getElem?_eq_getElem hlt] at h
  exact (Array.getElem?_eq_some_iff.1 h).1
namespace Foot
variable {P Q : World → Prop} {W W1 : World} {ok ok' : Nat → Prop}
theorem now (h : Foot P W ok) : P W := h W (fun _ _ _ => rfl)
theorem mono (h : Foot P W ok) (hok : ∀ k, ok k → ok' k) : Foot P W ok' := fun W' hW => h W' (fun k hk hlt => hW k (hok k hk) hlt)
theorem bound (h : Foot P W ok) : Foot P W (fun k => ok k ∧ k < W.heap.size) := fun W' hW => h W' (fun k hk hlt => hW k ⟨hk, hlt⟩ hlt)
theorem step (h : Foot P W ok) (hm : ∀ k, ok k → k < W.heap.size → W1.heap[k]? = W.heap[k]?) : Foot P W1 ok := fun W' hW => h W' (fun k hk hlt => (hW k hk (heap_lt (hm k hk hlt) hlt)).trans (hm k hk hlt))
theorem imp (h : Foot P W ok) (hi : ∀ W', P W' → Q W') : Foot Q W ok := fun W' hW => hi W' (h W' hW)
theorem old (h : Foot P W ok) (hb : Below W.heap.size W W1) : Foot P W1 (fun k => ok k ∧ k < W.heap.size) := (h.bound).step (fun k _ hlt => hb.block k hlt)
end Foot
namespace Kd
def F {α : Type} (d : Kd α) (W : World) (ok : Nat → Prop) (A : Option Addr) (n : Nat) (xs : List α) : Prop := Foot (fun W => d.C W A n xs) W ok
def FK {α : Type} (d : Kd α) (W : World) (ok : Nat → Prop) (x : α) (c : List Value) : Prop := Foot (fun W => d.K W x c) W ok
section
variable {α β : Type} {d : Kd α} {e base n n' cc g N : Nat} {ok ok' okp S : Nat → Prop} {w w0 w1 W W1 : World} {A A' : Option Addr} {u v v1 : Value} {xs : List α} {xs' : List β} {d' : Kd β} {x : α} {c : List Value}
theorem F_mono (h : F d W ok A n xs) (hok : ∀ k, ok k → ok' k) : F d W ok' A n xs := Foot.mono h hok
theorem F_step (h : F d W ok A n xs) (hm : ∀ k, ok k → k < W.heap.size → W1.heap[k]? = W.heap[k]?) : F d W1 ok A n xs := Foot.step h hm
theorem F_below (h : F d W ok A n xs) (hb : Below W.heap.size W W1) : F d W1 ok A n xs := F_step h (fun k _ hlt => hb.block k hlt)
theorem F_alloc (h : F d W ok A n xs) (o : Obj) : F d (W.alloc o) ok A n xs := F_below h (below_alloc (Below.refl _ _) o)
theorem F_drew (h : F d W ok A n xs) : F d W.drew ok A n xs := F_below h (below_drew (Below.refl _ _))
theorem F_drewN (h : F d W ok A n xs) (m : Nat) : F d (W.drewN m) ok A n xs := F_below h (pw_below_drewN (Below.refl _ _) m)
theorem F_nil (d : Kd α) (W : World) (ok : Nat → Prop) : F d W ok none ([] : List α).length [] := fun W' _ => C_nil d W'
theorem R_F (h : d.R e W base ok (.slice A n cc) xs) : F d W ok A n xs := fun W' hW => by
  have h2 := R_reads' (R_step h hW)
  rw [h2.1]
  exact h2.2.2
theorem FK_now (h : FK d W ok x c) : d.K W x c := Foot.now h
theorem FK_mono (h : FK d W ok x c) (hok : ∀ k, ok k → ok' k) : FK d W ok' x c := Foot.mono h hok
theorem FK_bound (h : FK d W ok x c) : FK d W (fun k => ok k ∧ k < W.heap.size) x c := Foot.bound h
theorem FK_step (h : FK d W ok x c) (hm : ∀ k, ok k → k < W.heap.size → W1.heap[k]? = W.heap[k]?) : FK d W1 ok x c := Foot.step h hm
theorem FK_of_M (h : d.M W base ok x c) : FK d W ok x c := fun _ hW => d.K_of_M (M_step h hW)
end
end Kd
end Go.Proofs.YtfbkgfffalppmaaW.PrintWords
end
section
namespace Go.Proofs.YtfbkgfffalppmaaW.PrintWords
open Go.RowKit
namespace Kd
def chunks (sz : Nat) (n : Nat) (inner : List Value) : List (List Value) := (List.range n).map fun j => (inner.drop (j * sz)).take sz
theorem chunks_length (sz n : Nat) (inner : List Value) : (chunks sz n inner).length = n := by simp [chunks]
theorem chunks_at {sz n : Nat} {inner : List Value} {j : Nat} (hj : j < n) : (chunks sz n inner)[j]? = some ((inner.drop (j * sz)).take sz) := by simp [chunks, hj]
theorem chunks_get {sz n : Nat} {inner : List Value} {j : Nat} {c : List Value} (h : (chunks sz n inner)[j]? = some c) : c = (inner.drop (j * sz)).take sz := by
  have hj : j < n := by have := (List.getElem?_eq_some_iff.1 h).1; rwa [chunks_length] at this
  rw [chunks_at hj] at h
  injection h with h
  exact h.symm
theorem reps_raw {α : Type} {Rr : α → List Value → Prop} {sz : Nat} {xs : List α} {inner : List Value} (h : Reps Rr sz xs inner) (hR : ∀ x c, Rr x c → c.length = sz ∧ ∀ u ∈ c, u.oneCell' = true) : Reps (fun x cs => cs = x ∧ cs.length = sz ∧ ∀ u ∈ cs, u.oneCell' = true) sz (chunks sz xs.length inner) inner := by
  refine ⟨by rw [chunks_length]; exact h.1, fun j p hj => ?_⟩
  have hjl : j < xs.length := by have := (List.getElem?_eq_some_iff.1 hj).1; rwa [chunks_length] at this
  have hp := chunks_get hj
  exact ⟨hp.symm, hR _ _ (h.2 j _ (List.getElem?_eq_getElem hjl))⟩
section
variable {α : Type} {d : Kd α} {e base n cc g : Nat} {ok ok' okp S : Nat → Prop} {w w1 W W1 : World} {A : Option Addr} {u v v1 : Value} {xs : List α} {x : α} {c : List Value}
def N {α : Type} (d : Kd α) (e : Nat) (w : World) (base : Nat) (ok : Nat → Prop) (v : Value) (xs : List α) : Prop :=
  (∀ k, v.ownBlock = some k → ok k) ∧ ∃ rows : List (List Value), rows.length = xs.length ∧ (raw d.sz).R e w base (fun k => some k = v.ownBlock) v rows ∧ ∀ (j : Nat) (x : α) (c : List Value), xs[j]? = some x → rows[j]? = some c → FK d w (fun k => ok k ∧ some k ≠ v.ownBlock) x c
theorem raw_tight {sz : Nat} {rows : List (List Value)} (h : (raw sz).R e w base ok v rows) : (raw sz).R e w base (fun k => some k = v.ownBlock) v rows := R_tight rfl h
theorem R_N (h : d.R e w base ok v xs) : N d e w base ok v xs := by
  obtain ⟨h0, inner, ho, hr⟩ := h
  refine ⟨h0, chunks d.sz xs.length inner, chunks_length _ _ _, ⟨fun k hk => hk.symm, inner, by rw [chunks_length]; exact ho, reps_raw hr (fun x c hp => ⟨d.K_len (d.K_of_M hp), d.K_one (d.K_of_M hp)⟩)⟩, fun j x c hx hc => ?_⟩
  rw [chunks_get hc]
  exact FK_of_M (hr.2 j x hx)
theorem N_nil (d : Kd α) (e : Nat) (w : World) (base : Nat) (ok : Nat → Prop) : N d e w base ok (.slice none 0 0) [] := R_N (R_nil _ _ _ _ _)
theorem N_mono (h : N d e w base ok v xs) (hok : ∀ k, ok k → ok' k) : N d e w base ok' v xs := by
  obtain ⟨h0, rows, hl, hR, hf⟩ := h
  exact ⟨fun k hk => hok k (h0 k hk), rows, hl, hR, fun j x c hx hc => FK_mono (hf j x c hx hc) (fun k hk => ⟨hok k hk.1, hk.2⟩)⟩
theorem N_lt (h : N d e w base ok v xs) : ∀ k, v.ownBlock = some k → k < w.heap.size := by
  obtain ⟨_, rows, _, hR, _⟩ := h
  exact R_lt hR
theorem N_bound (h : N d e w base ok v xs) : N d e w base (fun k => ok k ∧ k < w.heap.size) v xs := by
  have hlt := N_lt h
  obtain ⟨h0, rows, hl, hR, hf⟩ := h
  exact ⟨fun k hk => ⟨h0 k hk, hlt k hk⟩, rows, hl, hR, fun j x c hx hc => FK_mono (FK_bound (hf j x c hx hc)) (fun k hk => ⟨⟨hk.1.1, hk.2⟩, hk.1.2⟩)⟩
theorem N_lower {base' : Nat} (h : N d e w base ok v xs) (hb : base' ≤ base) : N d e w base' ok v xs := by
  obtain ⟨h0, rows, hl, hR, hf⟩ := h
  exact ⟨h0, rows, hl, R_lower hR hb, hf⟩
theorem N_step (h : N d e w base ok v xs) (hm : ∀ k, ok k → k < w.heap.size → w1.heap[k]? = w.heap[k]?) : N d e w1 base ok v xs := by
  obtain ⟨h0, rows, hl, hR, hf⟩ := h
  exact ⟨h0, rows, hl, R_step hR (fun k hk hlt => hm k (h0 k hk.symm) hlt), fun j x c hx hc => FK_step (hf j x c hx hc) (fun k hk hlt => hm k hk.1 hlt)⟩
theorem N_below (h : N d e w base ok v xs) (hb : Below w.heap.size w w1) : N d e w1 base ok v xs := N_step h (fun k _ hk => hb.block k hk)
theorem N_alloc (h : N d e w base ok v xs) (o : Obj) : N d e (w.alloc o) base ok v xs := N_below h (below_alloc (Below.refl _ _) o)
theorem N_drew (h : N d e w base ok v xs) : N d e w.drew base ok v xs := N_below h (below_drew (Below.refl _ _))
theorem N_drewN (h : N d e w base ok v xs) (m : Nat) : N d e (w.drewN m) base ok v xs := N_below h (pw_below_drewN (Below.refl _ _) m)
theorem N_elder' (h : N d e W base ok v xs) (hbase : ∀ k, u.ownBlock = some k → W.heap.size ≤ k) (hb : Below W.heap.size W w1) : N d e w1 base (fun k => ok k ∧ some k ≠ u.ownBlock) v xs :=
  N_mono (N_below (N_bound h) hb) (fun k hk => ⟨hk.1, fun he => by have := hbase k he.symm; have := hk.2; omega⟩)
theorem N_slice (h : N d e w base ok v xs) : ∃ A c, v = .slice A xs.length c := by
  obtain ⟨_, rows, hl, hR, _⟩ := h
  obtain ⟨A, c, he⟩ := R_slice hR
  exact ⟨A, c, by rw [he, hl]⟩
theorem N_reads' {n c : Nat} (h : N d e w base ok (.slice A n c) xs) : n = xs.length ∧ n ≤ c ∧ d.C w A xs.length xs := by
  obtain ⟨_, rows, hl, hR, hf⟩ := h
  obtain ⟨hn, hc, hC⟩ := R_reads' hR
  refine ⟨by omega, hc, ?_⟩
  rw [hl] at hC
  refine ⟨rfl, hC.2.1, fun hp => ?_⟩
  obtain ⟨ad, he, hcell⟩ := hC.2.2 hp
  refine ⟨ad, he, fun j p hj => ?_⟩
  have hjl : j < rows.length := by have := (List.getElem?_eq_some_iff.1 hj).1; omega
  obtain ⟨c', hcl, hK, hcc⟩ := hcell j _ (List.getElem?_eq_getElem hjl)
  have hk := FK_now (hf j p _ hj (List.getElem?_eq_getElem hjl))
  refine ⟨c', hcl, ?_, hcc⟩
  rw [show c' = rows[j] from hK.1]
  exact hk
end
end Kd
end Go.Proofs.YtfbkgfffalppmaaW.PrintWords
end
section
namespace Go.Proofs.YtfbkgfffalppmaaW.PrintWords
open Go.RowKit
namespace Kd
section
variable {α : Type} {d : Kd α} {e base n cap g : Nat} {ok ok' okp : Nat → Prop} {w w1 W : World} {v v1 : Value} {xs ys : List α}
theorem N_made {rows : List (List Value)} (hR : (raw d.sz).R e w1 base (fun k => k = W.heap.size) v1 rows) (hg : W.grownBy w1 none) (hat : ∃ b, v1.ownBlock = some b ∧ W.heap.size ≤ b) (hl : rows.length = xs.length) (hf : ∀ (j : Nat) (x : α) (c : List Value), xs[j]? = some x → rows[j]? = some c → FK d W okp x c)
    (hok : ∀ k, okp k → ok k) (hfresh : ok W.heap.size) : N d e w1 base ok v1 xs := by
  obtain ⟨b, hb, hle⟩ := hat
  refine ⟨fun k hk => by rw [hR.1 k hk]; exact hfresh, rows, hl, raw_tight hR, fun j x c hx hc => ?_⟩
  refine FK_mono (FK_step (FK_bound (hf j x c hx hc)) (fun k hk hlt => hg.block k hlt (by simp))) (fun k hk => ⟨hok k hk.1, fun he => ?_⟩)
  rw [hb] at he
  injection he with he
  have := hk.2
  omega
end
section
variable {P : Program} {ops : Array Oper} {rest : List Oper} {o : Oper} {a : Act} {Q : Exit → Act → World → Prop} {Kc : Act → World → Prop} {α : Type}
theorem N_lit (d : Kd α) {w0 W : World} (base e : Nat) (hgd : o.guard = none) {N' : Tmp} (_hd : o.dst = some N') {xs : List α} {inner : List Value} {ok okp : Nat → Prop}
    (hrun : (execOp a.eval o).run P W = .ok (.value (.slice (some ⟨W.heap.size, 0, none⟩) xs.length xs.length)) (W.alloc (.cells inner.toArray e)))
    (hrep : Reps (FK d W okp) d.sz xs inner) (hok : ∀ k, okp k → ok k) (hfresh : ok W.heap.size) (HB : Below base w0 W) (hbase : base ≤ W.heap.size) (hm : xs.length ≤ 9223372036854775807)
    (h : ∀ v1 w1, N d e w1 base ok v1 xs → Below base w0 w1 → W.grownBy w1 none → (∃ b, v1.ownBlock = some b ∧ W.heap.size ≤ b) → wpList P ops Q rest (a.put o.dst v1) w1) :
    wpList P ops Q (o :: rest) a W := by
  refine R_lit (raw d.sz) base e hgd _hd (xs := chunks d.sz xs.length inner) (inner := inner) (ok := fun k => k = W.heap.size) (okp := fun _ => False) (by rw [chunks_length]; exact hrun) (reps_raw hrep (fun y c hk => ⟨d.K_len (FK_now hk), d.K_one (FK_now hk)⟩)) (fun _ hk => hk.elim) rfl HB hbase (by rw [chunks_length]; exact hm) ?_
  intro v1 w1 hr hb hg hat
  exact h v1 w1 (N_made hr hg hat (chunks_length _ _ _) (fun j y c hy hc => by rw [chunks_get hc]; exact hrep.2 j y hy) hok hfresh) hb hg hat
end
end Kd
end Go.Proofs.YtfbkgfffalppmaaW.PrintWords
end
section
namespace Go.Proofs.YtfbkgfffalppmaaW.PrintMore
open Go.RowKit Go.Proofs.YtfbkgfffalppmaaW.PrintWords
namespace Kd
open Go.Proofs.YtfbkgfffalppmaaW.PrintWords.Kd
end Kd
namespace Kd
open Go.Proofs.YtfbkgfffalppmaaW.PrintWords.Kd
section
variable {α : Type} {d : Kd α} {e base g N : Nat} {ok : Nat → Prop} {W w1 : World} {u v : Value} {xs : List α}
end
end Kd
theorem max2_int (k k' : IntKind) (x y : Int) : Builtin.max2 (.int k x) (.int k' y) = pure (.int k (if x < y then y else x)) := by simp only [Builtin.max2, gt_iff_lt]
theorem min2_int (k k' : IntKind) (x y : Int) : Builtin.min2 (.int k x) (.int k' y) = pure (.int k (if y < x then y else x)) := by simp only [Builtin.min2]
theorem max_two (ats : Array TypeId) (ty : TypeId) (a b : Value) : Builtin.max_ ats ty #[a, b] = (Builtin.max2 a b >>= fun s => pure s) := by simp only [Builtin.max_, List.foldlM_cons, List.foldlM_nil]
theorem min_two (ats : Array TypeId) (ty : TypeId) (a b : Value) : Builtin.min_ ats ty #[a, b] = (Builtin.min2 a b >>= fun s => pure s) := by simp only [Builtin.min_, List.foldlM_cons, List.foldlM_nil]
theorem max_three (ats : Array TypeId) (ty : TypeId) (a b c : Value) : Builtin.max_ ats ty #[a, b, c] = (Builtin.max2 a b >>= fun s => Builtin.max2 s c >>= fun s => pure s) := by simp only [Builtin.max_, List.foldlM_cons, List.foldlM_nil]
theorem min_three (ats : Array TypeId) (ty : TypeId) (a b c : Value) : Builtin.min_ ats ty #[a, b, c] = (Builtin.min2 a b >>= fun s => Builtin.min2 s c >>= fun s => pure s) := by simp only [Builtin.min_, List.foldlM_cons, List.foldlM_nil]
theorem max_four (ats : Array TypeId) (ty : TypeId) (a b c d : Value) : Builtin.max_ ats ty #[a, b, c, d] = (Builtin.max2 a b >>= fun s => Builtin.max2 s c >>= fun s => Builtin.max2 s d >>= fun s => pure s) := by simp only [Builtin.max_, List.foldlM_cons, List.foldlM_nil]
theorem min_four (ats : Array TypeId) (ty : TypeId) (a b c d : Value) : Builtin.min_ ats ty #[a, b, c, d] = (Builtin.min2 a b >>= fun s => Builtin.min2 s c >>= fun s => Builtin.min2 s d >>= fun s => pure s) := by simp only [Builtin.min_, List.foldlM_cons, List.foldlM_nil]
end Go.Proofs.YtfbkgfffalppmaaW.PrintMore
namespace Go.Proofs.YtfbkgfffalppmaaW.PrintWords
open Go.RowKit
section
variable {P : Program} {ops : Array Oper} {rest : List Oper} {o : Oper} {a : Act} {Q : Exit → Act → World → Prop} {W : World}
theorem gate_callee {f : FuncId} {as : Array Operand} {ts : Array TypeId} (_ho : o.op = .call { callee := .value (.func f), args := as, argTypes := ts }) (h : wpList P ops Q (o :: rest) a W) : wpList P ops Q (o :: rest) a W := h
theorem gate_builtin {b : Builtin} {xs : Array Operand} {ts : Array TypeId} (_ho : o.op = .call { callee := .builtin b, args := xs, argTypes := ts }) (h : wpList P ops Q (o :: rest) a W) : wpList P ops Q (o :: rest) a W := h
end
def mn (a b : Int) : Int := if b < a then b else a
def shl (k : IntKind) (x y : Int) : Int := k.wrap (x * 2 ^ min y.toNat k.bits)
def shr (k : IntKind) (x y : Int) : Int := x / 2 ^ min y.toNat k.bits
theorem shl_small {k : IntKind} {x y j : Int} (h : shl k x y = j) (hy : y ≤ k.bits) : k.wrap (x * 2 ^ y.toNat) = j := by rw [← h]; unfold shl; rw [Nat.min_eq_left (by omega)]
theorem shr_small {k : IntKind} {x y j : Int} (h : shr k x y = j) (hy : y ≤ k.bits) : x / 2 ^ y.toNat = j := by rw [← h]; unfold shr; rw [Nat.min_eq_left (by omega)]
theorem drewN_self (w : World) (n : Nat) : w.drewN n = w.drewN n := rfl
namespace Kd
section
variable {α : Type} {d : Kd α} {e base : Nat} {ok : Nat → Prop} {W w1 : World} {v : Value} {xs : List α}
end
section
variable {α : Type} {d : Kd α} {e base g n cap : Nat} {ok oki okp : Nat → Prop} {W : World} {xs : List α} {i : Int} {c : List Value}
end
section
variable {α : Type} {d : Kd α} {e base b b' g N : Nat} {ok ok1 : Nat → Prop} {W W2 w1 : World} {u v : Value} {xs ys : List α} {S : Nat → Prop}
end
end Kd
end Go.Proofs.YtfbkgfffalppmaaW.PrintWords
namespace Go.Proofs.YtfbkgfffalppmaaW.PrintWords
open Go.RowKit
namespace Kd
def V {α : Type} (d : Kd α) (_e : Nat) (W : World) (_base : Nat) (ok : Nat → Prop) (v : Value) (xs : List α) : Prop := ∃ A c, v = .slice A xs.length c ∧ xs.length ≤ c ∧ F d W ok A xs.length xs
section
variable {α β : Type} {d : Kd α} {e base base' n m c g N' lo hi : Nat} {ok ok' S : Nat → Prop} {w W w1 : World} {A : Option Addr} {ad : Addr} {u v v1 : Value} {xs : List α}
theorem V_map (h : V d e W base ok v xs) (hF : ∀ A, F d W ok A xs.length xs → F d w1 ok' A xs.length xs) : V d e w1 base' ok' v xs := by
  obtain ⟨A, c, hv, hl, hf⟩ := h
  exact ⟨A, c, hv, hl, hF A hf⟩
theorem V_nil (d : Kd α) (e : Nat) (W : World) (base : Nat) (ok : Nat → Prop) : V d e W base ok (.slice none 0 0) [] := ⟨none, 0, rfl, Nat.le_refl _, F_nil d W ok⟩
theorem V_mono (h : V d e W base ok v xs) (hok : ∀ k, ok k → ok' k) : V d e W base ok' v xs := V_map h (fun _ hf => F_mono hf hok)
theorem V_alloc (h : V d e W base ok v xs) (o : Obj) : V d e (W.alloc o) base ok v xs := V_map h (fun _ hf => F_alloc hf o)
theorem V_drew (h : V d e W base ok v xs) : V d e W.drew base ok v xs := V_map h (fun _ hf => F_drew hf)
theorem V_drewN (h : V d e W base ok v xs) (m : Nat) : V d e (W.drewN m) base ok v xs := V_map h (fun _ hf => F_drewN hf m)
end
end Kd
end Go.Proofs.YtfbkgfffalppmaaW.PrintWords
end
section
namespace Go.Proofs.YtfbkgfffalppmaaW.PrintLast
open Go.Proofs.YtfbkgfffalppmaaW.PrintWords (Aside0)
def needsOf (md : Region.Mode) (o : Oper) : List Nat := (o.after.toList.filter (fun e => Region.binds md e)).map (fun e => e.on)
def clashOf (md : Region.Mode) (ops : Array Oper) (i : Nat) (oi : Oper) : List Nat := (List.range ops.size).filter fun j => !(j == i) && match ops[j]? with
  | some oj => !(oj.after.any (fun e => Region.binds md e && e.on == i) || oi.apart ops oj)
  | none => false
def rtab (md : Region.Mode) (ops : Array Oper) : Bool × List (List Nat × List Nat) := (Region.noSelect ops, (List.range ops.size).map fun i => match ops[i]? with
  | some o => (needsOf md o, clashOf md ops i o)
  | none => ([], []))
def readyAt (T : List (List Nat × List Nat)) (l : List Bool) (i : Nat) : Bool := !l.getD i true && match T[i]? with
  | some r => r.1.all (fun j => l.getD j false)
  | none => false
def readyT (T : List (List Nat × List Nat)) (l : List Bool) : List Nat := (List.range T.length).filter (readyAt T l)
def freeT (T : List (List Nat × List Nat)) (l : List Bool) (i : Nat) : Bool := match T[i]? with
  | some r => r.2.all (fun j => l.getD j true)
  | none => false
def closedT (T : List (List Nat × List Nat)) (l : List Bool) : Bool := (List.range T.length).all fun j => !l.getD j false || match T[j]? with
  | some r => r.1.all (fun k => l.getD k false)
  | none => true
def reachT (T : List (List Nat × List Nat)) (i : Nat) : Nat → Nat → Bool
  | 0, _ => false
  | fuel + 1, d => match T[d]? with
    | some r => r.1.any fun j => j == i || reachT T i fuel j
    | none => false
def lastT (T : List (List Nat × List Nat)) (l : List Bool) (ds : List Nat) (i : Nat) : Bool := ds.all fun d => l.getD d true || reachT T i T.length d
section
variable {md : Region.Mode} {ops : Array Oper} {T : Bool × List (List Nat × List Nat)} {l l' li lj lk : Array Bool} {ds : List Nat} {i j k : Nat}
theorem gd (l : Array Bool) (j : Nat) (b : Bool) : l.getD j b = l.toList.getD j b := by simp [Array.getD_eq_getD_getElem?, List.getD_eq_getElem?_getD]
theorem needs_all (o : Oper) (p : Nat → Bool) : o.after.all (fun e => !Region.binds md e || p e.on) = (needsOf md o).all p := by
  unfold needsOf
  rw [← Array.all_toList]
  induction o.after.toList with
  | nil => rfl
  | cons e r ih =>
    rw [List.all_cons, ih, List.filter_cons]
    cases h : Region.binds md e <;> simp
theorem needs_any (o : Oper) (p : Nat → Bool) : o.after.any (fun e => Region.binds md e && p e.on) = (needsOf md o).any p := by
  unfold needsOf
  rw [← Array.any_toList]
  induction o.after.toList with
  | nil => rfl
  | cons e r ih =>
    rw [List.any_cons, ih, List.filter_cons]
    cases h : Region.binds md e <;> simp
theorem rtab_length : (rtab md ops).2.length = ops.size := by simp [rtab]
theorem rtab_some {o : Oper} (h : ops[i]? = some o) : (rtab md ops).2[i]? = some (needsOf md o, clashOf md ops i o) := by
  have hi := (Array.getElem?_eq_some_iff.1 h).1
  unfold rtab
  rw [List.getElem?_map, List.getElem?_range hi, Option.map_some, h]
theorem rtab_none (h : ops[i]? = none) : (rtab md ops).2[i]? = none := by
  have hi : ops.size ≤ i := Array.getElem?_eq_none_iff.1 h
  exact List.getElem?_eq_none (by rw [rtab_length]; exact hi)
theorem readyAt_eq : readyAt (rtab md ops).2 l.toList i = (!l.getD i true && ((ops[i]?).map (·.after.all fun e => !Region.binds md e || l.getD e.on false)).getD false) := by
  unfold readyAt
  rw [gd]
  cases h : ops[i]? with
  | none => rw [rtab_none h]; rfl
  | some o =>
    rw [rtab_some h]
    simp only [Option.map_some, Option.getD_some]
    rw [← needs_all]
    simp only [gd]
theorem ready_eq : Region.ready md ops l = readyT (rtab md ops).2 l.toList := by
  unfold Region.ready readyT
  rw [rtab_length]
  refine List.filter_congr (fun i _ => ?_)
  rw [readyAt_eq]
theorem free_eq : Region.free md ops l i = freeT (rtab md ops).2 l.toList i := by
  unfold Region.free freeT
  cases h : ops[i]? with
  | none => rw [rtab_none h]
  | some oi =>
    rw [rtab_some h]
    simp only [clashOf]
    rw [List.all_filter]
    congr 1
    funext j
    rw [gd]
    cases hj : ops[j]? with
    | none => cases (j == i) <;> cases (l.toList.getD j true) <;> simp
    | some oj =>
      cases (j == i) <;> cases (l.toList.getD j true) <;> cases (oj.after.any (fun e => Region.binds md e && e.on == i) || oi.apart ops oj) <;> simp_all
theorem closed_eq : Region.closedB md ops l = closedT (rtab md ops).2 l.toList := by
  unfold Region.closedB closedT
  rw [rtab_length]
  congr 1
  funext j
  rw [gd]
  cases h : ops[j]? with
  | none => rw [rtab_none h]
  | some o =>
    rw [rtab_some h]
    simp only
    rw [← needs_all]
    simp only [gd]
theorem reach_eq : ∀ (fuel d : Nat), Region.reachB md ops i fuel d = reachT (rtab md ops).2 i fuel d
  | 0, _ => rfl
  | fuel + 1, d => by
    unfold Region.reachB reachT
    cases h : ops[d]? with
    | none => rw [rtab_none h]
    | some o =>
      rw [rtab_some h]
      simp only
      rw [← needs_any]
      congr 1
      funext e
      rw [reach_eq fuel]
theorem last_eq : Region.lastB md ops l ds i = lastT (rtab md ops).2 l.toList ds i := by
  unfold Region.lastB lastT
  rw [rtab_length]
  congr 1
  funext d
  rw [gd, reach_eq]
theorem readyAt_mem (h : readyAt T.2 l.toList i = true) (hT : rtab md ops = T) : (Region.ready md ops l).contains i = true := by
  subst hT
  rw [ready_eq]
  unfold readyT
  rw [List.contains_iff_mem, List.mem_filter, List.mem_range]
  refine ⟨?_, h⟩
  unfold readyAt at h
  rw [Bool.and_eq_true] at h
  cases hq : (rtab md ops).2[i]? with
  | none => rw [hq] at h; simp at h
  | some r => exact (List.getElem?_eq_some_iff.1 hq).1
theorem set_of (h : (l.toList.set i true == l'.toList) = true) : (l.setIfInBounds i true == l') = true := by
  rw [beq_iff_eq] at h ⊢
  apply Array.ext'
  rw [Array.toList_setIfInBounds]
  exact h
def anyT (T : Bool × List (List Nat × List Nat)) (l l' : List Bool) (i : Nat) : Bool := T.1 && freeT T.2 l i && readyAt T.2 l i && (l.set i true == l')
theorem any_of (hT : rtab md ops = T) (h : anyT T l.toList l'.toList i = true) : anyB md ops l l' i = true := by
  simp only [anyT, Bool.and_eq_true] at h
  obtain ⟨⟨⟨h1, h2⟩, h3⟩, h4⟩ := h
  have h5 := readyAt_mem h3 hT
  have h6 := set_of h4
  subst hT
  simp only [anyB, Bool.and_eq_true]
  exact ⟨⟨⟨h1, by rw [free_eq]; exact h2⟩, h5⟩, h6⟩
def takeT (T : Bool × List (List Nat × List Nat)) (ds : List Nat) (l l' : List Bool) (i : Nat) : Bool := T.1 && freeT T.2 l i && readyAt T.2 l i && closedT T.2 l && lastT T.2 l ds i && (l.set i true == l')
theorem take_of (hT : rtab md ops = T) (h : takeT T ds l.toList l'.toList i = true) : takeB md ops ds l l' i = true := by
  simp only [takeT, Bool.and_eq_true] at h
  obtain ⟨⟨⟨⟨⟨h1, h2⟩, h3⟩, h4⟩, h5⟩, h6⟩ := h
  have h7 := readyAt_mem h3 hT
  have h8 := set_of h6
  subst hT
  simp only [takeB, Bool.and_eq_true]
  exact ⟨⟨⟨⟨⟨h1, by rw [free_eq]; exact h2⟩, h7⟩, by rw [closed_eq]; exact h4⟩, by rw [last_eq]; exact h5⟩, h8⟩
theorem one_of (hT : rtab md ops = T) (h : (readyT T.2 l.toList == [i] && l.toList.set i true == l'.toList) = true) : readyB md ops l l' i = true := by
  simp only [Bool.and_eq_true] at h
  obtain ⟨h1, h2⟩ := h
  subst hT
  simp only [readyB, Bool.and_eq_true]
  exact ⟨by rw [ready_eq]; exact h1, set_of h2⟩
theorem two_of (hT : rtab md ops = T) (h : (readyT T.2 l.toList == [i, j] && l.toList.set i true == li.toList && l.toList.set j true == lj.toList) = true) : (Region.ready md ops l == [i, j] && l.setIfInBounds i true == li && l.setIfInBounds j true == lj) = true := by
  simp only [Bool.and_eq_true] at h ⊢
  obtain ⟨⟨h1, h2⟩, h3⟩ := h
  subst hT
  exact ⟨⟨by rw [ready_eq]; exact h1, set_of h2⟩, set_of h3⟩
theorem done_of (hT : rtab md ops = T) (h : (readyT T.2 l.toList == []) = true) : (Region.ready md ops l == []) = true := by
  subst hT
  rw [ready_eq]
  exact h
def upM (B : List Nat) (d : Nat) : List Nat → Nat
  | [] => 0
  | n :: r => (2 ^ n ||| (if n < d then B.getD n 0 else 0)) ||| upM B d r
def waitsOk (T : List (List Nat × List Nat)) (B : List Nat) : Bool := (List.range T.length).all fun d => match T[d]? with
  | some r => (B.getD d 0 ||| upM B d r.1) == upM B d r.1
  | none => false
theorem upM_bit {B : List Nat} {d i : Nat} : ∀ {ns : List Nat}, (upM B d ns).testBit i = true → ∃ n ∈ ns, n = i ∨ (n < d ∧ (B.getD n 0).testBit i = true)
  | [], h => by simp [upM] at h
  | n :: r, h => by
    unfold upM at h
    rw [Nat.testBit_or, Nat.testBit_or, Bool.or_eq_true, Bool.or_eq_true] at h
    rcases h with (h | h) | h
    · rw [Nat.testBit_two_pow] at h
      exact ⟨n, List.mem_cons_self, .inl (by simpa using h)⟩
    · by_cases hn : n < d
      · rw [if_pos hn] at h
        exact ⟨n, List.mem_cons_self, .inr ⟨hn, h⟩⟩
      · rw [if_neg hn] at h
        simp at h
    · obtain ⟨m, hm, h2⟩ := upM_bit h
      exact ⟨m, List.mem_cons_of_mem _ hm, h2⟩
theorem reach_bit {T : List (List Nat × List Nat)} {B : List Nat} (hB : waitsOk T B = true) : ∀ (fuel d : Nat), d < fuel → d < T.length → (B.getD d 0).testBit i = true → reachT T i fuel d = true
  | 0, d, h, _, _ => by omega
  | fuel + 1, d, h, hd, hb => by
    have h1 := List.all_eq_true.1 hB d (List.mem_range.2 hd)
    cases hr : T[d]? with
    | none => rw [hr] at h1; simp at h1
    | some r =>
      rw [hr] at h1
      simp only [beq_iff_eq] at h1
      have h2 : (upM B d r.1).testBit i = true := by rw [← h1, Nat.testBit_or, hb, Bool.true_or]
      obtain ⟨n, hn, h3⟩ := upM_bit h2
      unfold reachT
      rw [hr]
      simp only
      rw [List.any_eq_true]
      refine ⟨n, hn, ?_⟩
      rcases h3 with rfl | ⟨h4, h5⟩
      · simp
      · rw [reach_bit hB fuel n (by omega) (by omega) h5, Bool.or_true]
def lastW (T : List (List Nat × List Nat)) (B : List Nat) (l : List Bool) (ds : List Nat) (i : Nat) : Bool := ds.all fun d => l.getD d true || (decide (d < T.length) && (B.getD d 0).testBit i)
def takeW (T : Bool × List (List Nat × List Nat)) (B : List Nat) (ds : List Nat) (l l' : List Bool) (i : Nat) : Bool := T.1 && freeT T.2 l i && readyAt T.2 l i && closedT T.2 l && lastW T.2 B l ds i && (l.set i true == l')
theorem take_ofW {B : List Nat} (hT : rtab md ops = T) (hB : waitsOk T.2 B = true) (h : takeW T B ds l.toList l'.toList i = true) : takeB md ops ds l l' i = true := by
  refine take_of hT ?_
  simp only [takeW, takeT, Bool.and_eq_true] at h ⊢
  obtain ⟨⟨⟨⟨⟨h1, h2⟩, h3⟩, h4⟩, h5⟩, h6⟩ := h
  refine ⟨⟨⟨⟨⟨h1, h2⟩, h3⟩, h4⟩, ?_⟩, h6⟩
  unfold lastW at h5
  unfold lastT
  rw [List.all_eq_true] at h5 ⊢
  intro d hd
  have h7 := h5 d hd
  rw [Bool.or_eq_true, Bool.and_eq_true, decide_eq_true_eq] at h7
  rcases h7 with h7 | ⟨h8, h9⟩
  · rw [h7, Bool.true_or]
  · rw [reach_bit hB _ d h8 h8 h9, Bool.or_true]
theorem with_tabW {P : Program} {Q : Exit → Act → World → Prop} {S : World → Prop} {n : Nat} {a : Act} {w : World} {B : List Nat} (hT : rtab md ops = T) (hB : waitsOk T.2 B = true) (h : Aside0 (rtab md ops = T) → Aside0 (waitsOk T.2 B = true) → wpAnyLast P md ops Q S ds n l a w) : wpAnyLast P md ops Q S ds n l a w := h ⟨hT⟩ ⟨hB⟩
end
def opsIn : Code → Nat → Option (Array Oper)
  | .region id ops _, k => if id == k then some ops else none
  | .seq a b, k => match opsIn a k with
    | some o => some o
    | none => opsIn b k
  | .cond _ a b, k => match opsIn a k with
    | some o => some o
    | none => opsIn b k
  | .block _ c, k => opsIn c k
  | .loop c, k => opsIn c k
  | .scope c, k => opsIn c k
  | .rangeFunc _ _ a b, k => match opsIn a k with
    | some o => some o
    | none => opsIn b k
  | _, _ => none
def opsOf (f : Func) (k : Nat) : Array Oper := ((f.body.bind fun c => opsIn c k)).getD #[]
end Go.Proofs.YtfbkgfffalppmaaW.PrintLast
end
section
namespace Go.Proofs.Ytfbkgfffalppmaa.Hd
set_option linter.unusedVariables false
set_option linter.unusedSimpArgs false
open Go Go.RowKit Go.Proofs.YtfbkgfffalppmaaW.PrintWords Go.Proofs.YtfbkgfffalppmaaW.PrintLast
structure Held (w : World) (ok : Nat → Prop) (T : World → Prop) : Prop where
  lt : ∀ k, ok k → k < w.heap.size
  on : ∀ W : World, (∀ k, ok k → W.heap[k]? = w.heap[k]?) → T W
def In (lo hi k : Nat) : Prop := lo ≤ k ∧ k < hi
def Is (b k : Nat) : Prop := k = b
def Ob (v : Value) (k : Nat) : Prop := v.ownBlock = some k
def Box (b : Nat) (t : TypeId) (cs : Array Value) (W : World) : Prop := W.heap[b]? = some (.cells cs t (0, 0))
def Ow (lo : Nat) (e : TypeId) (size : Nat) (v : Value) (n : Nat) (cs : List Value) (W : World) : Prop := W.ownsRow lo e size v n cs
abbrev F2 := (Nat → Prop) × (World → Prop)
abbrev bx (b : Nat) (t : TypeId) (cs : Array Value) : F2 := (Is b, Box b t cs)
abbrev ow (lo : Nat) (e : TypeId) (size : Nat) (v : Value) (n : Nat) (cs : List Value) : F2 := (Ob v, Ow lo e size v n cs)
structure All (w0 w : World) (L : List F2) : Prop where
  old : Below w0.heap.size w0 w
  mem : ∀ f ∈ L, Held w f.1 f.2
  dis : L.Pairwise fun f g => ∀ k, f.1 k → g.1 k → k < w0.heap.size
section
variable {P : Program} {w0 w w' : World} {ok ok' : Nat → Prop} {T T' : World → Prop} {b t lo hi i n size e bytes : Nat} {cs : Array Value} {v : Value} {xs : List Value} {L L' : List F2}
theorem Held.now (h : Held w ok T) : T w := h.on w fun _ _ => rfl
theorem Held.step (h : Held w ok T) (hm : ∀ k, ok k → w'.heap[k]? = w.heap[k]?) (hs : w.heap.size ≤ w'.heap.size) : Held w' ok T :=
  ⟨fun k hk => Nat.lt_of_lt_of_le (h.lt k hk) hs, fun W hW => h.on W fun k hk => (hW k hk).trans (hm k hk)⟩
theorem Held.grow (h : Held w ok T) (hb : Below w.heap.size w w') : Held w' ok T := h.step (fun k hk => hb.block k (h.lt k hk)) hb.size
theorem Held.imp (h : Held w ok T) (hT : ∀ W, T W → T' W) : Held w ok T' := ⟨h.lt, fun W hW => hT W (h.on W hW)⟩
theorem Held.wide (h : Held w ok T) (hok : ∀ k, ok k → ok' k) (hlt : ∀ k, ok' k → k < w.heap.size) : Held w ok' T := ⟨hlt, fun W hW => h.on W fun k hk => hW k (hok k hk)⟩
theorem Held.arg (h : Held w ok T) : Held w (In 0 w.heap.size) T := h.wide (fun k hk => ⟨Nat.zero_le _, h.lt k hk⟩) fun k hk => hk.2
theorem Held.out (h : Held w ok T) (hlo : ∀ k, ok k → lo ≤ k) : Held w (In lo w.heap.size) T := h.wide (fun k hk => ⟨hlo k hk, h.lt k hk⟩) fun k hk => hk.2
theorem Held.pure {p : Prop} (h : p) : Held w (fun _ => False) fun _ => p := ⟨(fun _ h => h.elim), fun _ _ => h⟩
theorem held_box (h : Box b t cs w) : Held w (Is b) (Box b t cs) := ⟨fun k hk => by rw [show k = b from hk]; exact blk_lt h, fun W hW => (hW b rfl).trans h⟩
theorem held_own (h : w.ownsRow lo e size v n xs) : Held w (Ob v) (Ow lo e size v n xs) := ⟨fun k hk => own_lt h k hk, fun W hW => own_move h fun k hk => hW k hk⟩
theorem ob_nil {k : Nat} (h : Ob (.slice none 0 0) k) : False := by simp [Ob, Value.ownBlock] at h
theorem held_nil (w : World) (lo : Nat) (e : TypeId) (size : Nat) : Held w (Ob (.slice none 0 0)) (Ow lo e size (.slice none 0 0) 0 []) := held_own (own_nil w lo e size)
theorem Ow.base (h : Ow lo e size v n xs w) : ∀ k, Ob v k → lo ≤ k := fun k hk => own_base h k hk
theorem is_le {lo b : Nat} (h : lo ≤ b) : ∀ k, Is b k → lo ≤ k := fun k hk => by rw [show k = b from hk]; exact h
theorem Ow.from (h : Ow lo e size v n xs w) {lo' : Nat} (h2 : lo' ≤ lo) : ∀ k, Ob v k → lo' ≤ k := fun k hk => Nat.le_trans h2 (own_base h k hk)
theorem in_le {lo lo' hi : Nat} (h : lo' ≤ lo) : ∀ k, In lo hi k → lo' ≤ k := fun k hk => Nat.le_trans h hk.1
theorem All.nil (h : Below w0.heap.size w0 w) : All w0 w [] := ⟨h, (fun _ hf => by cases hf), .nil⟩
theorem All.start (w : World) : All w w [] := All.nil (Below.refl _ _)
theorem All.get (H : All w0 w L) (i : Nat) (hi : L[i]? = some (ok, T)) : Held w ok T := H.mem (ok, T) (List.mem_of_getElem? hi)
theorem All.at (H : All w0 w L) (i : Nat) (hi : L[i]? = some (ok, T)) : T w := (H.get i hi).now
theorem All.grow (H : All w0 w L) (hb : Below w.heap.size w w') : All w0 w' L := ⟨below_step H.old hb, (fun f hf => (H.mem f hf).grow hb), H.dis⟩
theorem All.put (H : All w0 w L) (h : Held w ok T) (hd : ∀ g ∈ L, ∀ k, ok k → g.1 k → k < w0.heap.size) : All w0 w ((ok, T) :: L) := ⟨H.old, fun f hf => by
  rcases List.mem_cons.1 hf with rfl | hf
  · exact h
  · exact H.mem f hf, List.pairwise_cons.2 ⟨hd, H.dis⟩⟩
theorem All.arg (H : All w w L) (h : Held w ok T) : All w w ((ok, T) :: L) := H.put h fun _ _ k hk _ => h.lt k hk
theorem All.new (H : All w0 w L) (hb : Below w.heap.size w w') (h : Held w' ok T) (hl : ∀ k, ok k → w.heap.size ≤ k) : All w0 w' ((ok, T) :: L) :=
  (H.grow hb).put h fun g hg k hk hgk => absurd ((H.mem g hg).lt k hgk) (by have := hl k hk; omega)
theorem All.row (H : All w0 w L) (lo : Nat) (e : TypeId) (size : Nat) : All w0 w (ow lo e size (.slice none 0 0) 0 [] :: L) := H.put (held_nil w lo e size) fun _ _ k hk _ => (ob_nil hk).elim
theorem All.tail {f : F2} (H : All w0 w (f :: L)) : All w0 w L := ⟨H.old, (fun g hg => H.mem g (List.mem_cons_of_mem _ hg)), (List.pairwise_cons.1 H.dis).2⟩
theorem All.sub (H : All w0 w L) (h : L'.Sublist L) : All w0 w L' := ⟨H.old, (fun g hg => H.mem g (h.mem hg)), H.dis.sublist h⟩
theorem All.perm (H : All w0 w L) (h : L.Perm L') : All w0 w L' := ⟨H.old, (fun g hg => H.mem g (h.mem_iff.2 hg)), (h.pairwise_iff fun hfg k h1 h2 => hfg k h2 h1).1 H.dis⟩
theorem All.swap {f g : F2} (H : All w0 w (f :: g :: L)) : All w0 w (g :: f :: L) := H.perm (.swap g f L)
theorem All.drop (H : All w0 w L) (n : Nat) : All w0 w (L.drop n) := H.sub (List.drop_sublist n L)
theorem All.cut (H : All w0 w L) (n : Nat) : All w0 w (L.eraseIdx n) := H.sub (List.eraseIdx_sublist L n)
theorem All.drew (H : All w0 w L) : All w0 w.drew L := ⟨H.old.drew, (fun f hf => (H.mem f hf).step (fun _ _ => rfl) (Nat.le_refl _)), H.dis⟩
theorem All.drewN (H : All w0 w L) (n : Nat) : All w0 (w.drewN n) L := ⟨pw_below_drewN H.old n, (fun f hf => (H.mem f hf).step (fun _ _ => rfl) (Nat.le_refl _)), H.dis⟩
theorem All.any (H : All w0 w L) (o : Obj) : All w0 (w.alloc o) L := H.grow (below_alloc (Below.refl _ _) _)
theorem All.box (H : All w0 w L) (b : Nat) (t : TypeId) (cs : Array Value) (hb : w.heap.size = b := by simp) : All w0 (w.alloc (.cells cs t (0, 0))) (bx b t cs :: L) :=
  H.new (below_alloc (Below.refl _ _) _) (held_box (by subst hb; exact blk_new _ _)) fun k hk => by rw [hb, show k = b from hk]; exact Nat.le_refl _
theorem pairwise_set {R : F2 → F2 → Prop} (hs : ∀ f g, R f g → R g f) (hp : L.Pairwise R) {f : F2} (h : ∀ k g, L[k]? = some g → k ≠ i → R f g) : (L.set i f).Pairwise R := by
  rw [List.pairwise_iff_getElem] at hp ⊢
  intro a b ha hb hab
  rw [List.length_set] at ha hb
  rw [List.getElem_set, List.getElem_set]
  split <;> split
  · omega
  · exact h b _ (List.getElem?_eq_getElem hb) (by omega)
  · exact hs _ _ (h a _ (List.getElem?_eq_getElem ha) (by omega))
  · exact hp a b ha hb hab
theorem dis_at (H : All w0 w L) (hi : L[i]? = some (ok, T)) {k : Nat} {g : F2} (hk : L[k]? = some g) (hne : k ≠ i) : ∀ q, ok q → g.1 q → q < w0.heap.size := by
  have hkl := (List.getElem?_eq_some_iff.1 hk).1
  have hil := (List.getElem?_eq_some_iff.1 hi).1
  have ek := (List.getElem?_eq_some_iff.1 hk).2
  have ei := (List.getElem?_eq_some_iff.1 hi).2
  intro q h1 h2
  rcases Nat.lt_or_ge k i with h | h
  · have := List.pairwise_iff_getElem.1 H.dis k i hkl hil h q
    rw [ek, ei] at this
    exact this h2 h1
  · have := List.pairwise_iff_getElem.1 H.dis i k hil hkl (by omega) q
    rw [ek, ei] at this
    exact this h1 h2
theorem All.wr (H : All w0 w L) (i : Nat) (hi : L[i]? = some (ok, T)) (hm : ∀ k, k < w.heap.size → ¬ ok k → w'.heap[k]? = w.heap[k]?) (hs : w.heap.size ≤ w'.heap.size)
    (hold : Below w0.heap.size w0 w') (hn : Held w' ok' T') (hw : ∀ k, ok k → w0.heap.size ≤ k) (hok : ∀ k, ok' k → ok k ∨ w.heap.size ≤ k) : All w0 w' (L.set i (ok', T')) := by
  have hlen : i < L.length := (List.getElem?_eq_some_iff.1 hi).1
  refine ⟨hold, fun f hf => ?_, pairwise_set (fun f g h k h1 h2 => h k h2 h1) H.dis (fun k g hk hne q h1 h2 => ?_)⟩
  · obtain ⟨k, hk⟩ := List.getElem?_of_mem hf
    by_cases e : k = i
    · subst e
      rw [List.getElem?_set_self hlen] at hk
      cases hk
      exact hn
    · rw [List.getElem?_set_ne (Ne.symm e)] at hk
      have hf := H.mem f (List.mem_of_getElem? hk)
      exact hf.step (fun q hq => hm q (hf.lt q hq) fun hc => absurd (dis_at H hi hk e q hc hq) (by have := hw q hc; omega)) hs
  · rcases hok q h1 with h | h
    · exact dis_at H hi hk hne q h h2
    · exact absurd ((H.mem g (List.mem_of_getElem? hk)).lt q h2) (by omega)
theorem All.turn (H : All w0 w L) (i : Nat) (hi : L[i]? = some (ok, T)) (hn : Held w ok T') : All w0 w (L.set i (ok, T')) := by
  refine ⟨H.old, fun f hf => ?_, pairwise_set (fun f g h k h1 h2 => h k h2 h1) H.dis (fun k g hk hne q h1 h2 => dis_at H hi hk hne q h1 h2)⟩
  rcases List.mem_or_eq_of_mem_set hf with h | rfl
  · exact H.mem f h
  · exact hn
theorem All.set (H : All w0 w L) (i : Nat) (hi : L[i]? = some (bx b t cs)) (j : Nat) (v : Value) (hb : w0.heap.size ≤ b := by first | (simp; done) | omega) :
    All w0 (w.setCell ⟨b, j, none⟩ v) (L.set i (bx b t (cs.setIfInBounds j v))) :=
  H.wr i hi (fun k _ hk => Below.heap_setCell _ _ _ _ hk) (by simp [World.setCell]) (below_set H.old hb) (held_box (blk_set (H.at i hi) j v)) (fun k hk => by rw [show k = b from hk]; exact hb) fun k hk => .inl hk
theorem All.own (H : All w0 w L) (i : Nat) (hi : L[i]? = some (ow lo e size v n xs)) {v1 : Value} {n1 : Nat} {xs1 : List Value} (hg : w.grownBy w' v.ownBlock) (ho : w'.ownsRow lo e size v1 n1 xs1)
    (hat : v1.ownBlock = v.ownBlock ∨ ∃ b, v1.ownBlock = some b ∧ w.heap.size ≤ b) (hb : w0.heap.size ≤ lo) : All w0 w' (L.set i (ow lo e size v1 n1 xs1)) :=
  have hO := H.at i hi
  H.wr i hi (fun k hk h => hg.block k hk fun e_ => h e_.symm) hg.size
    (H.old.trans ⟨hg.os, hg.tape, hg.output, hg.size, fun k hk => hg.block k (Nat.lt_of_lt_of_le hk H.old.size) (fun e_ => by have h1 := own_base hO k e_.symm; omega)⟩) (held_own ho)
    (fun k hk => Nat.le_trans hb (own_base hO k hk)) fun k hk => by
      rcases hat with h | ⟨b, h, h2⟩
      · exact .inl (h.symm.trans hk)
      · right
        have : some b = some k := h.symm.trans hk
        cases this
        exact h2
theorem All.rd (H : All w0 w L) (i : Nat) (hi : L[i]? = some (bx b t cs)) (j : Nat) : w.cell? ⟨b, j, none⟩ = cs[j]? := blk_cell (H.at i hi) j
theorem All.fz (H : All w0 w L) (i : Nat) (hi : L[i]? = some (bx b t cs)) (j : Nat) : w.frozen? ⟨b, j, none⟩ = false := blk_frozen (H.at i hi) j
theorem All.ret (H : All w0 w L) (i : Nat) (hi : L[i]? = some (bx b t cs)) {fn : Func} {p : Tmp} {a : Act} {d : TypeDesc} {R : Ending → World → Prop} (h : fn.results = #[.cell p t]) (hp : a.tmps.getD p undef = .pointer (some ⟨b, 0, none⟩))
    (hu : P.underlying t = some d) (hd : (match d with | .struct _ | .array _ _ => true | _ => false) = true) (hs : (P.info? t).map (·.size) = some cs.size) (ha : a.defers = []) (hR : R (.returned (.agg cs)) w) : bodyPost P fn R .ret a w :=
  bodyPost_ret (results_cell_row h _ _ b t cs (0, 0) d hp (H.at i hi) hu hd hs) ha hR
def Gives (P : Program) (f : FuncId) (args : Array Value) (w : World) (T : Value → World → Prop) : Prop :=
  Calls P f args w fun e w' => ∃ v, e = .returned v ∧ Below w.heap.size w w' ∧ Held w' (In w.heap.size w'.heap.size) (T v)
def Tells (P : Program) (f : FuncId) (args : Array Value) (w : World) (v : Value) : Prop := Calls P f args w fun e w' => e = .returned v ∧ Below w.heap.size w w'
variable {f : FuncId} {args : Array Value} {T1 : Value → World → Prop} {R : Ending → World → Prop}
theorem Gives.on (h : Gives P f args w T1) (H : All w0 w L) (k : ∀ v w', All w0 w' ((In w.heap.size w'.heap.size, T1 v) :: L) → w0.heap.size ≤ w.heap.size → R (.returned v) w') : Calls P f args w R :=
  h.mono fun e w' ⟨v, he, hb, hT⟩ => he ▸ k v w' (H.new hb hT fun k hk => hk.1) H.old.size
theorem Tells.on {v : Value} (h : Tells P f args w v) (H : All w0 w L) (k : ∀ w', All w0 w' L → R (.returned v) w') : Calls P f args w R :=
  h.mono fun e w' ⟨he, hb⟩ => he ▸ k w' (H.grow hb)
theorem app_ {W : World} {ops : Array Oper} {rest : List Oper} {o : Oper} {a : Act} {Q : Exit → Act → World → Prop} {xs : List Value} (ys : List Value) (H : All w0 W L) (i : Nat) (hi : L[i]? = some (ow lo e size v n xs))
    (hb : w0.heap.size ≤ lo) (hbase : lo ≤ W.heap.size) (hl : (n + 1) * bytes ≤ 140737488355328) (s x : Operand) (t : TypeId) (z : Value) (hinfo : (P.info? e).map (fun i => (i.zero, i.size, i.bytes)) = some (some z, size, bytes)) (ht : P.underlying t = some (.slice e))
    (hgd : o.guard = none) (ho : o.op = .call { callee := .builtin .append, args := #[s, x], argTypes := #[t, t] })
    (hz : z.cells.size = size) (hs0 : 0 < size) (hb0 : 0 < bytes)
    (hs : a.eval s = v) (hx : a.eval x = .slice (some ⟨W.heap.size, 0, none⟩) 1 1) (hys : ys.length = size) (h1 : ∀ u ∈ ys, u.oneCell' = true)
    (h : ∀ A1 c1 w1, All w0 w1 (L.set i (ow lo e size (.slice A1 (n + 1) c1) (n + 1) (xs ++ ys))) → W.heap.size ≤ w1.heap.size → wpList P ops Q rest (a.put o.dst (.slice A1 (n + 1) c1)) w1) :
    wpList P ops Q (o :: rest) a (W.alloc (.cells ys.toArray e)) :=
  print_append_cells (w0 := W) (W := W) lo hgd s x t e z size bytes ho ht hinfo hz hs0 hb0 v n xs ys hs hx hys h1 (H.at i hi) (Below.refl _ _) hbase hl
    fun v1 w1 hown hB hg hat => by
      obtain ⟨A1, c1, rfl⟩ := own_slice hown
      exact h A1 c1 w1 (H.own i hi hg hown hat hb) hg.size
end
section
variable {w0 w : World} {lo e n c : Nat} {ok : Nat → Prop} {k : IntKind} {v : Value} {xs : List Int} {A : Option Addr} {ad : Addr} {p : Int}
theorem Ow.reads (h : Ow lo e 1 (.slice A n c) n (nums k xs) w) : xs.length = n ∧ n ≤ c ∧ Kd.C (Kd.int k) w A n xs := by
  have hl : xs.length = n := by have := h.1; simpa [nums] using this
  subst hl
  obtain ⟨A', c', hv, hR⟩ := own_reads h
  injection hv with h1 h2 h3
  subst h1
  exact ⟨rfl, own_le h, Kd.C_of_reads (readsInt_of.1 hR)⟩
theorem held_reads (h : Held w ok (Ow lo e 1 (.slice A n c) n (nums k xs))) : xs.length = n ∧ n ≤ c ∧ Held w ok fun W => Kd.C (Kd.int k) W A n xs :=
  ⟨h.now.reads.1, h.now.reads.2.1, h.imp fun W hW => hW.reads.2.2⟩
theorem cs_at (h : Kd.C (Kd.int k) w (some ad) n xs) (i : Nat) (hi : i < n) (hp : xs.getD i 0 = p) : w.cell? (ad.add i) = some (.int k p) := by
  obtain ⟨ad', e, r⟩ := Kd.at_int h (i : Int) (by omega) (by omega)
  injection e with e
  subst e
  rw [Int.toNat_natCast] at r
  rw [r, ← hp]
  unfold rd
  rw [Int.toNat_natCast]
theorem ow_at {g : Nat} (h : Ow lo e 1 (.slice (some ⟨g, 0, none⟩) n c) n (nums k xs) w) (i : Nat) (hi : i < n) (hp : xs.getD i 0 = p) : w.cell? ⟨g, i, none⟩ = some (.int k p) ∧ w.frozen? ⟨g, i, none⟩ = false := by
  have := own_at h (i : Int) (by omega) (by omega)
  rw [Int.toNat_natCast] at this
  refine ⟨?_, this.2⟩
  rw [this.1, ← hp]
  unfold rd
  rw [Int.toNat_natCast]
theorem All.store {L : List F2} (H : All w0 w L) (i : Nat) {g : Nat} (hi : L[i]? = some (ow lo e 1 (.slice (some ⟨g, 0, none⟩) n c) n (nums k xs))) (j : Nat) (y : Int) (hb : w0.heap.size ≤ lo) :
    All w0 (w.setCell ⟨g, j, none⟩ (.int k y)) (L.set i (ow lo e 1 (.slice (some ⟨g, 0, none⟩) n c) n (nums k (xs.set j y)))) := by
  have h := own_store (H.at i hi) (j : Int) y
  rw [Int.toNat_natCast] at h
  exact H.own i hi h.2 h.1 (.inl rfl) hb
theorem All.lit {L : List F2} (H : All w0 w L) (k : IntKind) (b : Nat) (xs : List Int) (e : TypeId) (hb : w.heap.size = b := by simp) (hx : xs.length ≤ 9223372036854775807 := by simp) :
    All w0 (w.alloc (.cells (nums k xs).toArray e)) ((Is b, fun W => Kd.C (Kd.int k) W (some ⟨b, 0, none⟩) xs.length xs) :: L) := by
  subst hb
  refine H.new (below_alloc (Below.refl _ _) _) (((held_own (own_lit w w.heap.size e k xs (Nat.le_refl _) hx)).imp fun W hW => (Ow.reads hW).2.2).wide (fun k hk => ?_) fun k hk => ?_) fun k hk => by rw [show k = _ from hk]; exact Nat.le_refl _
  · have : some w.heap.size = some k := hk
    cases this
    rfl
  · rw [show k = _ from hk]
    simp
theorem All.made {L : List F2} (H : All w0 w L) (k : IntKind) (b m : Nat) (e : TypeId) (hb : w.heap.size = b := by simp) (hx : m ≤ 9223372036854775807 := by omega) :
    All w0 (w.alloc (.cells (madeCells #[.int k 0] m) e)) (ow b e 1 (.slice (some ⟨b, 0, none⟩) m m) m (nums k (List.replicate m 0)) :: L) := by
  subst hb
  exact H.new (below_alloc (Below.refl _ _) _) (held_own (own_made w w.heap.size e k m (Nat.le_refl _) hx)) fun k hk => by
    have : some w.heap.size = some k := hk
    cases this
    exact Nat.le_refl _
theorem app_num {P : Program} {bytes : Nat} {L : List F2} {W : World} {ops : Array Oper} {rest : List Oper} {o : Oper} {a : Act} {Q : Exit → Act → World → Prop} (y : Int) (H : All w0 W L) (i : Nat) (hi : L[i]? = some (ow lo e 1 v n (nums k xs)))
    (hb : w0.heap.size ≤ lo) (hbase : lo ≤ W.heap.size) (hl : (n + 1) * bytes ≤ 140737488355328) (s x : Operand) (t : TypeId) (hinfo : (P.info? e).map (fun i => (i.zero, i.size, i.bytes)) = some (some (.int k 0), 1, bytes)) (ht : P.underlying t = some (.slice e))
    (hgd : o.guard = none) (ho : o.op = .call { callee := .builtin .append, args := #[s, x], argTypes := #[t, t] }) (hb0 : 0 < bytes)
    (hs : a.eval s = v) (hx : a.eval x = .slice (some ⟨W.heap.size, 0, none⟩) 1 1)
    (h : ∀ A1 c1 w1, All w0 w1 (L.set i (ow lo e 1 (.slice A1 (n + 1) c1) (n + 1) (nums k (xs ++ [y])))) → W.heap.size ≤ w1.heap.size → wpList P ops Q rest (a.put o.dst (.slice A1 (n + 1) c1)) w1) :
    wpList P ops Q (o :: rest) a (W.alloc (.cells #[.int k y] e)) :=
  app_ [.int k y] H i hi hb hbase hl s x t (.int k 0) hinfo ht hgd ho rfl (by decide) hb0 hs hx rfl (by simp [Value.oneCell']) fun A1 c1 w1 H' z => h A1 c1 w1 (by rw [nums_append]; exact H') z
theorem run_take {P : Program} (t e : TypeId) {i : TypeInfo} (ht : P.underlying t = some (.slice e)) (hi : P.info? e = some i) (hsz : i.size = 1) (A : Option Addr) (n c m : Nat) (hm : m ≤ n) (hc : n ≤ c) (W : World) :
    (Instr.slice t (.slice A n c) none (some (.int .i64 (m : Int))) none).run P W = .ok (.slice A m c) W := by
  have h := (print_take_int (k := .i64) t e ht hi hsz A c (List.replicate n 0) (m : Int) (by omega) (by rw [List.length_replicate]; omega) (by rw [List.length_replicate]; exact hc)).1 W
  rw [List.length_replicate, List.length_take, List.length_replicate, Int.toNat_natCast, Nat.min_eq_left hm] at h
  exact h
end
inductive St where
  | p (i : Nat)
  | t (i : Nat)
  | c (i : Nat)
  | l (i : Nat)
inductive Pl where
  | leaf (l : List St)
  | fork (l : List St) (i j : Nat) (a b : Pl)
def Pl.len : Pl → Nat
  | .leaf l => l.length
  | .fork l _ _ a _ => l.length + (a.len + 1)
def planL (ds : List Nat) (T : Bool × List (List Nat × List Nat)) : List Bool → List St → Option (List Bool)
  | l, [] => some l
  | l, .p i :: r => if anyT T l (l.set i true) i = true then planL ds T (l.set i true) r else none
  | l, .t i :: r => if takeT T ds l (l.set i true) i = true then planL ds T (l.set i true) r else none
  | l, .c i :: r => if (readyT T.2 l == [i] && !ds.contains i) = true then planL ds T (l.set i true) r else none
  | l, .l i :: r => if (readyT T.2 l == [i] && ds.contains i) = true then planL ds T (l.set i true) r else none
def planB (ds : List Nat) (T : Bool × List (List Nat × List Nat)) : List Bool → Pl → Bool
  | l, .leaf s => match planL ds T l s with
    | some m => readyT T.2 m == []
    | none => false
  | l, .fork s i j a b => match planL ds T l s with
    | some m => (readyT T.2 m == [i, j]) && (a.len == b.len) && !ds.contains i && !ds.contains j && planB ds T (m.set i true) a && planB ds T (m.set j true) b
    | none => false
def wpPl (P : Program) (ops : Array Oper) (Q : Exit → Act → World → Prop) (S : World → Prop) (k : Act → World → Prop) : List St → Act → World → Prop
  | [], a, w => k a w
  | .p i :: r, a, w => ∃ o v, ops[i]? = some o ∧ Yields P ops o v a ∧ wpPl P ops Q S k r (a.put o.dst v) w
  | .t i :: r, a, w => ∃ o v, ops[i]? = some o ∧ YieldsIf P ops S o v a ∧ S w ∧ wpPl P ops Q S k r (a.put o.dst v) w
  | .c i :: r, a, w => ∃ o, ops[i]? = some o ∧ ∀ K : Act → World → Prop, Shut (∀ a' w', S w' → wpPl P ops Q S k r a' w' → K a' w') → if Region.wanted o (yielded ops a.tmps) = true then Oper.wp P o a w K Q else K (a.put o.dst undef) w
  | .l i :: r, a, w => ∃ o, ops[i]? = some o ∧ ∀ K : Act → World → Prop, Shut (∀ a' w', wpPl P ops Q S k r a' w' → K a' w') → if Region.wanted o (yielded ops a.tmps) = true then Oper.wp P o a w K Q else K (a.put o.dst undef) w
def wpT (P : Program) (ops : Array Oper) (Q : Exit → Act → World → Prop) (S : World → Prop) : Pl → Act → World → Prop
  | .leaf l => wpPl P ops Q S (Q .normal) l
  | .fork l i j a b => wpPl P ops Q S (fun x w => wpPl P ops Q S (wpT P ops Q S a) [.c i] x w ∧ wpPl P ops Q S (wpT P ops Q S b) [.c j] x w) l
section
variable {P : Program} {ops : Array Oper} {Q : Exit → Act → World → Prop} {S : World → Prop} {T : Bool × List (List Nat × List Nat)} {k : Act → World → Prop}
theorem wpPl_any {ds : List Nat} (hT : rtab .any ops = T) (hQ : ∀ c a w d v, Q (.panic c) (Act.put a d v) w → Q (.panic c) a w) {m : List Bool} {n : Nat} (hk : ∀ (l : Array Bool) a w, l.toList = m → k a w → wpAnyLast P .any ops Q S ds n l a w) :
    ∀ (pl : List St) (l : Array Bool) (a : Act) (w : World), planL ds T l.toList pl = some m → wpPl P ops Q S k pl a w → wpAnyLast P .any ops Q S ds (pl.length + n) l a w
  | [], l, a, w, hc, h => by
    rw [List.length_nil, Nat.zero_add]
    exact hk l a w (Option.some.inj hc) h
  | .p i :: r, l, a, w, hc, ⟨o, v, ho, hy, h⟩ => by
    rw [planL] at hc
    split at hc
    · rename_i hc1
      rw [List.length_cons, Nat.add_right_comm]
      exact pure_ (l.setIfInBounds i true) ho rfl (any_of hT (by rw [Array.toList_setIfInBounds]; exact hc1)) (fun c a w => hQ c a w _ _) hy rfl (wpPl_any hT hQ hk r _ _ _ (by rw [Array.toList_setIfInBounds]; exact hc) h)
    · cases hc
  | .t i :: r, l, a, w, hc, ⟨o, v, ho, hy, hS, h⟩ => by
    rw [planL] at hc
    split at hc
    · rename_i hc1
      rw [List.length_cons, Nat.add_right_comm]
      exact take_ (l.setIfInBounds i true) ho rfl (take_of hT (by rw [Array.toList_setIfInBounds]; exact hc1)) (fun c a w => hQ c a w _ _) hy hS rfl (wpPl_any hT hQ hk r _ _ _ (by rw [Array.toList_setIfInBounds]; exact hc) h)
    · cases hc
  | .c i :: r, l, a, w, hc, ⟨o, ho, h⟩ => by
    rw [planL] at hc
    split at hc
    · rename_i hc1
      rw [List.length_cons, Nat.add_right_comm]
      rw [Bool.and_eq_true] at hc1
      refine one_ (l.setIfInBounds i true) ho rfl (one_of hT (by rw [Array.toList_setIfInBounds]; simp [hc1.1])) (by simpa using hc1.2) fun K hK => h K (fun a' w' hS hp => hK.out a' w' hS fun _ => wpPl_any hT hQ hk r _ _ _ (by rw [Array.toList_setIfInBounds]; exact hc) hp)
    · cases hc
  | .l i :: r, l, a, w, hc, ⟨o, ho, h⟩ => by
    rw [planL] at hc
    split at hc
    · rename_i hc1
      rw [List.length_cons, Nat.add_right_comm]
      rw [Bool.and_eq_true] at hc1
      refine last_ (l.setIfInBounds i true) ho rfl (one_of hT (by rw [Array.toList_setIfInBounds]; simp [hc1.1])) (by simpa using hc1.2) fun K hK => h K (fun a' w' hp => hK.out a' w' (wpPl_any hT hQ hk r _ _ _ (by rw [Array.toList_setIfInBounds]; exact hc) hp))
    · cases hc
theorem wpT_any {ds : List Nat} (hT : rtab .any ops = T) (hQ : ∀ c a w d v, Q (.panic c) (Act.put a d v) w → Q (.panic c) a w) : ∀ (pl : Pl) (l : Array Bool) (a : Act) (w : World),
    planB ds T l.toList pl = true → wpT P ops Q S pl a w → wpAnyLast P .any ops Q S ds pl.len l a w
  | .leaf s, l, a, w, hc, h => by
    rw [planB] at hc
    split at hc
    · rename_i m hm
      exact wpPl_any (n := 0) hT hQ (fun l a w hl hk => done_ (done_of hT (by rw [hl]; exact hc)) hk) s l a w hm h
    · cases hc
  | .fork s i j A B, l, a, w, hc, h => by
    rw [planB] at hc
    split at hc
    · rename_i m hm
      simp only [Bool.and_eq_true, beq_iff_eq] at hc
      obtain ⟨⟨⟨⟨⟨h1, h2⟩, d1⟩, d2⟩, h3⟩, h4⟩ := hc
      refine wpPl_any (n := A.len + 1) hT hQ (fun l a w hl hk => ?_) s l a w hm h
      obtain ⟨⟨oi, hoi, hi⟩, ⟨oj, hoj, hj⟩⟩ := hk
      refine two_ (l.setIfInBounds i true) (l.setIfInBounds j true) hoi hoj rfl rfl (two_of hT (by rw [hl, Array.toList_setIfInBounds, Array.toList_setIfInBounds, hl]; simp [h1])) (by simpa using d1) (by simpa using d2)
        (fun K hK => hi K (fun a' w' hS hp => hK.out a' w' hS fun _ => wpT_any hT hQ A _ _ _ (by rw [Array.toList_setIfInBounds, hl]; exact h3) hp))
        (fun K hK => hj K (fun a' w' hS hp => hK.out a' w' hS fun _ => by rw [h2]; exact wpT_any hT hQ B _ _ _ (by rw [Array.toList_setIfInBounds, hl]; exact h4) hp))
    · cases hc
variable {w0 w : World} {L L' : List F2} {a a' : Act} {r : List St} {i : Nat} {o : Oper} {N : Option Tmp} {v : Value}
theorem planTD_ {id n : Nat} (ds : List Nat) (T : Bool × List (List Nat × List Nat)) (pl : Pl) (H : All w0 w L) (hm : P.follows .mixedOrders = true) (hT : rtab .any ops = T) (hn : ops.size = n) (hl : pl.len = n) (hc : planB ds T (List.replicate n false) pl = true)
    (hQ : ∀ c a w d v, Q (.panic c) (Act.put a d v) w → Q (.panic c) a w)
    (h : ∀ w1, All w0 w1 L → wpT P ops Q (fun W => All w0 W L) pl a w1) : (Code.region id ops true).wp P Q a w := by
  refine start_ (S := fun W => All w0 W L) (ds := ds) (Array.replicate n false) hm hn rfl H.drew fun hS => ?_
  rw [← hl]
  exact wpT_any hT hQ pl _ _ _ (by rw [Array.toList_replicate, hl]; exact hc) (h _ hS)
theorem planT_ {id n : Nat} (T : Bool × List (List Nat × List Nat)) (pl : Pl) (H : All w0 w L) (hm : P.follows .mixedOrders = true) (hT : rtab .any ops = T) (hn : ops.size = n) (hl : pl.len = n) (hc : planB [] T (List.replicate n false) pl = true)
    (hQ : ∀ c a w d v, Q (.panic c) (Act.put a d v) w → Q (.panic c) a w)
    (h : ∀ w1, All w0 w1 L → wpT P ops Q (fun W => All w0 W L) pl a w1) : (Code.region id ops true).wp P Q a w := planTD_ [] T pl H hm hT hn hl hc hQ h
theorem planD_ {id n : Nat} (ds : List Nat) (T : Bool × List (List Nat × List Nat)) (pl : List St) (H : All w0 w L) (hm : P.follows .mixedOrders = true) (hT : rtab .any ops = T) (hn : ops.size = n) (hl : pl.length = n) (hc : planB ds T (List.replicate n false) (.leaf pl) = true)
    (hQ : ∀ c a w d v, Q (.panic c) (Act.put a d v) w → Q (.panic c) a w)
    (h : ∀ w1, All w0 w1 L → wpPl P ops Q (fun W => All w0 W L) (Q .normal) pl a w1) : (Code.region id ops true).wp P Q a w :=
  planTD_ ds T (.leaf pl) H hm hT hn hl hc hQ h
theorem plan_ {id n : Nat} (T : Bool × List (List Nat × List Nat)) (pl : List St) (H : All w0 w L) (hm : P.follows .mixedOrders = true) (hT : rtab .any ops = T) (hn : ops.size = n) (hl : pl.length = n) (hc : planB [] T (List.replicate n false) (.leaf pl) = true)
    (hQ : ∀ c a w d v, Q (.panic c) (Act.put a d v) w → Q (.panic c) a w)
    (h : ∀ w1, All w0 w1 L → wpPl P ops Q (fun W => All w0 W L) (Q .normal) pl a w1) : (Code.region id ops true).wp P Q a w :=
  planTD_ [] T (.leaf pl) H hm hT hn hl hc hQ h
theorem pl_fork {l : List St} {j : Nat} {A B : Pl} (h : wpPl P ops Q S (fun x w => wpPl P ops Q S (wpT P ops Q S A) [.c i] x w ∧ wpPl P ops Q S (wpT P ops Q S B) [.c j] x w) l a w) : wpT P ops Q S (.fork l i j A B) a w := h
theorem pl_leaf {l : List St} (h : wpPl P ops Q S (Q .normal) l a w) : wpT P ops Q S (.leaf l) a w := h
theorem pl_p (hi : ops[i]? = some o) (hN : o.dst = N) (hw : Region.wanted o (yielded ops a.tmps) = true) (hy : ∀ w, (execOp a.eval o).run P w = .ok (.value v) w) (ha : a.put N v = a') (h : wpPl P ops Q S k r a' w) : wpPl P ops Q S k (.p i :: r) a w := by
  subst hN; subst ha
  exact ⟨o, v, hi, .inl ⟨hw, hy⟩, h⟩
theorem pl_P {v : Value} {a' : Act} {d : Tmp} {op : Op} {ty : TypeId} {ps : String} {af : Array Edge} {gd : Option (Nat × Bool)} (hi : ops[i]? = some ⟨some d, op, ty, ps, af, gd⟩ := by simp only [List.getElem?_toArray, List.getElem?_cons_succ, List.getElem?_cons_zero]; rfl) (hw : Region.wanted ⟨some d, op, ty, ps, af, gd⟩ (yielded ops a.tmps) = true := by rfl) (hy : ∀ w, (execOp a.eval ⟨some d, op, ty, ps, af, gd⟩).run P w = .ok (.value v) w := by intro w'; first | (go_simp; with_reducible rfl) | (go_simp; done))
    (ha : a.put (some d) v = a' := by simp only [Act.put, List.setIfInBounds_toArray, List.set_cons_zero, List.set_cons_succ, i64_w, i32_w]; rfl) (h : wpPl P ops Q S k r a' w) : wpPl P ops Q S k (.p i :: r) a w := pl_p hi rfl hw hy ha h
theorem pl_skip (hi : ops[i]? = some o) (hN : o.dst = N) (hw : Region.wanted o (yielded ops a.tmps) = false) (ha : a.put N undef = a') (h : wpPl P ops Q S k r a' w) : wpPl P ops Q S k (.p i :: r) a w := by
  subst hN; subst ha
  exact ⟨o, undef, hi, .inr ⟨hw, rfl⟩, h⟩
theorem pl_t (H : All w0 w L') (hs : ∀ W, All w0 W L' → S W) (hi : ops[i]? = some o) (hN : o.dst = N) (hw : Region.wanted o (yielded ops a.tmps) = true) (hy : ∀ w, S w → (execOp a.eval o).run P w = .ok (.value v) w) (ha : a.put N v = a') (h : wpPl P ops Q S k r a' w) : wpPl P ops Q S k (.t i :: r) a w := by
  subst hN; subst ha
  exact ⟨o, v, hi, .inl ⟨hw, hy⟩, hs _ H, h⟩
theorem pl_call {f : FuncId} {fn : Func} {as : Array Operand} {ts : Array TypeId} (hf : P.funcs[f]? = some fn) (hname : (fn.name == "runtime.NumGoroutine") = false) (hb : fn.body.isSome = true) (args : Array Value)
    (hi : ops[i]? = some o) (hN : o.dst = N) (hw : Region.wanted o (yielded ops a.tmps) = true) (hop : o.op = .call { callee := .value (.func f), args := as, argTypes := ts }) (hargs : as.map a.eval = args)
    (h : Calls P f args w fun e w' => ∃ v, e = .returned v ∧ S w' ∧ wpPl P ops Q S k r (a.put N v) w') : wpPl P ops Q S k (.c i :: r) a w := by
  subst hN
  exact ⟨o, hi, fun K hK => goes_ hf hname hb args hw rfl hop hargs (h.mono fun e w' ⟨v, he, hS, hp⟩ => ⟨v, he, hK.out _ _ hS hp⟩)⟩
theorem pl_gives {f : FuncId} {fn : Func} {as : Array Operand} {ts : Array TypeId} {args : Array Value} {T1 : Value → World → Prop} (hc : Gives P f args w T1) (H : All w0 w L') (hs : ∀ W, All w0 W L' → S W)
    (hf : P.funcs[f]? = some fn) (hname : (fn.name == "runtime.NumGoroutine") = false) (hb : fn.body.isSome = true)
    (hi : ops[i]? = some o) (hN : o.dst = N) (hw : Region.wanted o (yielded ops a.tmps) = true) (hop : o.op = .call { callee := .value (.func f), args := as, argTypes := ts }) (hargs : as.map a.eval = args)
    (h : ∀ v w', All w0 w' ((In w.heap.size w'.heap.size, T1 v) :: L') → w0.heap.size ≤ w.heap.size → wpPl P ops Q S k r (a.put N v) w') : wpPl P ops Q S k (.c i :: r) a w :=
  pl_call hf hname hb args hi hN hw hop hargs (hc.on H fun v w' H' z => ⟨v, rfl, hs _ H'.tail, h v w' H' z⟩)
theorem pl_tells {f : FuncId} {fn : Func} {as : Array Operand} {ts : Array TypeId} {args : Array Value} (hc : Tells P f args w v) (H : All w0 w L') (hs : ∀ W, All w0 W L' → S W)
    (hf : P.funcs[f]? = some fn) (hname : (fn.name == "runtime.NumGoroutine") = false) (hb : fn.body.isSome = true)
    (hi : ops[i]? = some o) (hN : o.dst = N) (hw : Region.wanted o (yielded ops a.tmps) = true) (hop : o.op = .call { callee := .value (.func f), args := as, argTypes := ts }) (hargs : as.map a.eval = args)
    (h : ∀ w', All w0 w' L' → wpPl P ops Q S k r (a.put N v) w') : wpPl P ops Q S k (.c i :: r) a w :=
  pl_call hf hname hb args hi hN hw hop hargs (hc.on H fun w' H' => ⟨v, rfl, hs _ H', h w' H'⟩)
theorem pl_L {a' : Act} {d : Tmp} {b : Nat} {t : TypeId} {cs : Array Value} {op : Op} {ty : TypeId} {ps : String} {af : Array Edge} {gd : Option (Nat × Bool)} (q j : Nat) (H : All w0 w L') (hk : L[q]? = some (bx b t cs)) (hi : ops[i]? = some ⟨some d, op, ty, ps, af, gd⟩ := by simp only [List.getElem?_toArray, List.getElem?_cons_succ, List.getElem?_cons_zero]; rfl) (hw : Region.wanted ⟨some d, op, ty, ps, af, gd⟩ (yielded ops a.tmps) = true := by rfl) (hv : cs[j]? = some v := by simp only [List.getElem?_toArray, List.getElem?_cons_zero, List.getElem?_cons_succ]; rfl)
    (hs : ∀ W, All w0 W L' → All w0 W L := by first | exact fun _ h => h | exact fun _ h => h.tail | exact fun _ h => h.tail.tail | exact fun _ h => h.drop 3 | exact fun _ h => h.drop 4 | exact fun _ h => h.drop 5)
    (hy : ∀ w, w.cell? ⟨b, j, none⟩ = some v → (execOp a.eval ⟨some d, op, ty, ps, af, gd⟩).run P w = .ok (.value v) w := by intro w' r; first | (go_simp; done) | (go_simp; with_reducible rfl))
    (ha : a.put (some d) v = a' := by simp only [Act.put, List.setIfInBounds_toArray, List.set_cons_zero, List.set_cons_succ, i64_w, i32_w]; rfl) (h : wpPl P ops Q (fun W => All w0 W L) k r a' w) : wpPl P ops Q (fun W => All w0 W L) k (.t i :: r) a w :=
  pl_t H hs hi rfl hw (fun W hW => hy W ((hW.rd q hk j).trans hv)) ha h
theorem pl_kP {a' : Act} {d : Tmp} {op : Op} {ty : TypeId} {ps : String} {af : Array Edge} {gd : Option (Nat × Bool)} (hi : ops[i]? = some ⟨some d, op, ty, ps, af, gd⟩ := by simp only [List.getElem?_toArray, List.getElem?_cons_succ, List.getElem?_cons_zero]; rfl) (hw : Region.wanted ⟨some d, op, ty, ps, af, gd⟩ (yielded ops a.tmps) = false := by rfl) (ha : a.put (some d) undef = a' := by simp only [Act.put, List.setIfInBounds_toArray, List.set_cons_zero, List.set_cons_succ, i64_w, i32_w]; rfl) (h : wpPl P ops Q S k r a' w) : wpPl P ops Q S k (.p i :: r) a w := pl_skip hi rfl hw ha h
theorem pl_kT {a' : Act} {d : Tmp} {op : Op} {ty : TypeId} {ps : String} {af : Array Edge} {gd : Option (Nat × Bool)} (H : All w0 w L') (hi : ops[i]? = some ⟨some d, op, ty, ps, af, gd⟩ := by simp only [List.getElem?_toArray, List.getElem?_cons_succ, List.getElem?_cons_zero]; rfl) (hw : Region.wanted ⟨some d, op, ty, ps, af, gd⟩ (yielded ops a.tmps) = false := by rfl) (hs : ∀ W, All w0 W L' → All w0 W L := by first | exact fun _ h => h | exact fun _ h => h.tail | exact fun _ h => h.tail.tail | exact fun _ h => h.drop 3 | exact fun _ h => h.drop 4 | exact fun _ h => h.drop 5) (ha : a.put (some d) undef = a' := by simp only [Act.put, List.setIfInBounds_toArray, List.set_cons_zero, List.set_cons_succ, i64_w, i32_w]; rfl) (h : wpPl P ops Q (fun W => All w0 W L) k r a' w) : wpPl P ops Q (fun W => All w0 W L) k (.t i :: r) a w := by
  subst ha
  exact ⟨_, undef, hi, .inr ⟨hw, rfl⟩, hs _ H, h⟩
theorem pl_kC {a' : Act} {d : Tmp} {op : Op} {ty : TypeId} {ps : String} {af : Array Edge} {gd : Option (Nat × Bool)} (H : All w0 w L') (hi : ops[i]? = some ⟨some d, op, ty, ps, af, gd⟩ := by simp only [List.getElem?_toArray, List.getElem?_cons_succ, List.getElem?_cons_zero]; rfl) (hw : Region.wanted ⟨some d, op, ty, ps, af, gd⟩ (yielded ops a.tmps) = false := by rfl) (hs : ∀ W, All w0 W L' → All w0 W L := by first | exact fun _ h => h | exact fun _ h => h.tail | exact fun _ h => h.tail.tail | exact fun _ h => h.drop 3 | exact fun _ h => h.drop 4 | exact fun _ h => h.drop 5) (ha : a.put (some d) undef = a' := by simp only [Act.put, List.setIfInBounds_toArray, List.set_cons_zero, List.set_cons_succ, i64_w, i32_w]; rfl) (h : wpPl P ops Q (fun W => All w0 W L) k r a' w) : wpPl P ops Q (fun W => All w0 W L) k (.c i :: r) a w := by
  subst ha
  refine ⟨_, hi, fun K hK => ?_⟩
  rw [if_neg (by rw [hw]; simp)]
  exact hK.out _ _ (hs _ H) h
theorem pl_B {a' : Act} {d : Tmp} {b : Nat} {t : TypeId} {cs : Array Value} {op : Op} {ty : TypeId} {ps : String} {af : Array Edge} {gd : Option (Nat × Bool)} (q : Nat) (H : All w0 w L') (hk : L[q]? = some (bx b t cs)) (hi : ops[i]? = some ⟨some d, op, ty, ps, af, gd⟩ := by simp only [List.getElem?_toArray, List.getElem?_cons_succ, List.getElem?_cons_zero]; rfl) (hw : Region.wanted ⟨some d, op, ty, ps, af, gd⟩ (yielded ops a.tmps) = true := by rfl)
    (hs : ∀ W, All w0 W L' → All w0 W L := by first | exact fun _ h => h | exact fun _ h => h.tail | exact fun _ h => h.tail.tail | exact fun _ h => h.drop 3 | exact fun _ h => h.drop 4 | exact fun _ h => h.drop 5)
    (hy : ∀ w, (∀ j, w.cell? ⟨b, j, none⟩ = cs[j]?) → (execOp a.eval ⟨some d, op, ty, ps, af, gd⟩).run P w = .ok (.value v) w := by intro w' r; first | (go_simp; with_reducible rfl) | (go_simp; done))
    (ha : a.put (some d) v = a' := by simp only [Act.put, List.setIfInBounds_toArray, List.set_cons_zero, List.set_cons_succ, i64_w, i32_w]; rfl) (h : wpPl P ops Q (fun W => All w0 W L) k r a' w) : wpPl P ops Q (fun W => All w0 W L) k (.t i :: r) a w :=
  pl_t H hs hi rfl hw (fun W hW => hy W (hW.rd q hk)) ha h
theorem pl_C {a' : Act} {d : Tmp} {p : Addr} {op : Op} {ty : TypeId} {ps : String} {af : Array Edge} {gd : Option (Nat × Bool)} (H : All w0 w L') (hc : ∀ W, All w0 W L → W.cell? p = some v) (hi : ops[i]? = some ⟨some d, op, ty, ps, af, gd⟩ := by simp only [List.getElem?_toArray, List.getElem?_cons_succ, List.getElem?_cons_zero]; rfl) (hw : Region.wanted ⟨some d, op, ty, ps, af, gd⟩ (yielded ops a.tmps) = true := by rfl)
    (hs : ∀ W, All w0 W L' → All w0 W L := by first | exact fun _ h => h | exact fun _ h => h.tail | exact fun _ h => h.tail.tail | exact fun _ h => h.drop 3 | exact fun _ h => h.drop 4 | exact fun _ h => h.drop 5)
    (hy : ∀ w, w.cell? p = some v → (execOp a.eval ⟨some d, op, ty, ps, af, gd⟩).run P w = .ok (.value v) w := by intro w' r; first | (go_simp; done) | (go_simp; with_reducible rfl))
    (ha : a.put (some d) v = a' := by simp only [Act.put, List.setIfInBounds_toArray, List.set_cons_zero, List.set_cons_succ, i64_w, i32_w]; rfl) (h : wpPl P ops Q (fun W => All w0 W L) k r a' w) : wpPl P ops Q (fun W => All w0 W L) k (.t i :: r) a w :=
  pl_t H hs hi rfl hw (fun W hW => hy W (hc W hW)) ha h
theorem pl_G {f : FuncId} {fn : Func} {as : Array Operand} {ts : Array TypeId} {args : Array Value} {T1 : Value → World → Prop} {d : Tmp} {a' : Value → Act} {ty : TypeId} {ps : String} {af : Array Edge} {gd : Option (Nat × Bool)} (hc : Gives P f args w T1) (H : All w0 w L') (hf : P.funcs[f]? = some fn)
    (hi : ops[i]? = some ⟨some d, .call { callee := .value (.func f), args := as, argTypes := ts }, ty, ps, af, gd⟩ := by simp only [List.getElem?_toArray, List.getElem?_cons_succ, List.getElem?_cons_zero]; rfl) (hw : Region.wanted ⟨some d, .call { callee := .value (.func f), args := as, argTypes := ts }, ty, ps, af, gd⟩ (yielded ops a.tmps) = true := by rfl)
    (h : ∀ v w', All w0 w' ((In w.heap.size w'.heap.size, T1 v) :: L') → w0.heap.size ≤ w.heap.size → wpPl P ops Q (fun W => All w0 W L) k r (a' v) w')
    (hargs : as.map a.eval = args := by (try simp only [List.map_toArray, List.map_cons, List.map_nil]); rfl)
    (hname : (fn.name == "runtime.NumGoroutine") = false := by kernel_rfl) (hb : fn.body.isSome = true := by rfl)
    (hs : ∀ W, All w0 W L' → All w0 W L := by first | exact fun _ h => h | exact fun _ h => h.tail | exact fun _ h => h.tail.tail | exact fun _ h => h.drop 3 | exact fun _ h => h.drop 4 | exact fun _ h => h.drop 5)
    (ha : ∀ v, a.put (some d) v = a' v := by intro v; simp only [Act.put, List.setIfInBounds_toArray, List.set_cons_zero, List.set_cons_succ, i64_w, i32_w]; rfl) : wpPl P ops Q (fun W => All w0 W L) k (.c i :: r) a w :=
  pl_gives hc H hs hf hname hb hi rfl hw rfl hargs (fun v w' H' z => by rw [ha v]; exact h v w' H' z)
theorem pl_S {f : FuncId} {fn : Func} {as : Array Operand} {ts : Array TypeId} {args : Array Value} {d : Tmp} {ty : TypeId} {ps : String} {af : Array Edge} {gd : Option (Nat × Bool)} (hc : Tells P f args w v) (H : All w0 w L') (hf : P.funcs[f]? = some fn)
    (hi : ops[i]? = some ⟨some d, .call { callee := .value (.func f), args := as, argTypes := ts }, ty, ps, af, gd⟩ := by simp only [List.getElem?_toArray, List.getElem?_cons_succ, List.getElem?_cons_zero]; rfl) (hw : Region.wanted ⟨some d, .call { callee := .value (.func f), args := as, argTypes := ts }, ty, ps, af, gd⟩ (yielded ops a.tmps) = true := by rfl)
    (h : ∀ w', All w0 w' L' → wpPl P ops Q (fun W => All w0 W L) k r a' w')
    (hargs : as.map a.eval = args := by (try simp only [List.map_toArray, List.map_cons, List.map_nil]); rfl)
    (hname : (fn.name == "runtime.NumGoroutine") = false := by kernel_rfl) (hb : fn.body.isSome = true := by rfl)
    (hs : ∀ W, All w0 W L' → All w0 W L := by first | exact fun _ h => h | exact fun _ h => h.tail | exact fun _ h => h.tail.tail | exact fun _ h => h.drop 3 | exact fun _ h => h.drop 4 | exact fun _ h => h.drop 5)
    (ha : a.put (some d) v = a' := by simp only [Act.put, List.setIfInBounds_toArray, List.set_cons_zero, List.set_cons_succ, i64_w, i32_w]; rfl) : wpPl P ops Q (fun W => All w0 W L) k (.c i :: r) a w :=
  pl_tells hc H hs hf hname hb hi rfl hw rfl hargs (fun w' H' => by rw [ha]; exact h w' H')
theorem pl_R {w' : World} {d : Tmp} {op : Op} {ty : TypeId} {ps : String} {af : Array Edge} {gd : Option (Nat × Bool)} (H : All w0 w' L') (h : All w0 w' L' → wpPl P ops Q (fun W => All w0 W L) k r a' w')
    (hi : ops[i]? = some ⟨some d, op, ty, ps, af, gd⟩ := by simp only [List.getElem?_toArray, List.getElem?_cons_succ, List.getElem?_cons_zero]; rfl) (hw : Region.wanted ⟨some d, op, ty, ps, af, gd⟩ (yielded ops a.tmps) = true := by rfl)
    (hrun : (execOp a.eval ⟨some d, op, ty, ps, af, gd⟩).run P w = .ok (.value v) w' := by first | (go_simp; with_reducible rfl) | (go_simp; done))
    (hs : ∀ W, All w0 W L' → All w0 W L := by first | exact fun _ h => h | exact fun _ h => h.tail | exact fun _ h => h.tail.tail | exact fun _ h => h.drop 3 | exact fun _ h => h.drop 4 | exact fun _ h => h.drop 5)
    (ha : a.put (some d) v = a' := by simp only [Act.put, List.setIfInBounds_toArray, List.set_cons_zero, List.set_cons_succ, i64_w, i32_w]; rfl) : wpPl P ops Q (fun W => All w0 W L) k (.c i :: r) a w := by
  subst ha
  refine ⟨_, hi, fun K hK => ?_⟩
  rw [if_pos hw]
  unfold Oper.wp
  rw [hrun]
  exact hK.out _ _ (hs _ H) (h H)
theorem pl_W {w' : World} {op : Op} {ty : TypeId} {ps : String} {af : Array Edge} {gd : Option (Nat × Bool)} (H : All w0 w' L') (h : All w0 w' L' → wpPl P ops Q (fun W => All w0 W L) k r a w')
    (hi : ops[i]? = some ⟨none, op, ty, ps, af, gd⟩ := by simp only [List.getElem?_toArray, List.getElem?_cons_succ, List.getElem?_cons_zero]; rfl) (hw : Region.wanted ⟨none, op, ty, ps, af, gd⟩ (yielded ops a.tmps) = true := by rfl)
    (hrun : (execOp a.eval ⟨none, op, ty, ps, af, gd⟩).run P w = .ok .skip w' := by first | (go_simp; with_reducible rfl) | (go_simp; done))
    (hs : ∀ W, All w0 W L' → All w0 W L := by first | exact fun _ h => h | exact fun _ h => h.tail | exact fun _ h => h.tail.tail | exact fun _ h => h.drop 3 | exact fun _ h => h.drop 4 | exact fun _ h => h.drop 5) : wpPl P ops Q (fun W => All w0 W L) k (.c i :: r) a w := by
  refine ⟨_, hi, fun K hK => ?_⟩
  rw [if_pos hw]
  unfold Oper.wp
  rw [hrun]
  exact hK.out _ _ (hs _ H) (h H)
theorem pl_WL {w' : World} {op : Op} {ty : TypeId} {ps : String} {af : Array Edge} {gd : Option (Nat × Bool)} (H : All w0 w' L') (h : All w0 w' L' → wpPl P ops Q S k r a w')
    (hi : ops[i]? = some ⟨none, op, ty, ps, af, gd⟩ := by simp only [List.getElem?_toArray, List.getElem?_cons_succ, List.getElem?_cons_zero]; rfl) (hw : Region.wanted ⟨none, op, ty, ps, af, gd⟩ (yielded ops a.tmps) = true := by rfl)
    (hrun : (execOp a.eval ⟨none, op, ty, ps, af, gd⟩).run P w = .ok .skip w' := by first | (go_simp; with_reducible rfl) | (go_simp; done)) : wpPl P ops Q S k (.l i :: r) a w := by
  refine ⟨_, hi, fun K hK => ?_⟩
  rw [if_pos hw]
  unfold Oper.wp
  rw [hrun]
  exact hK.out _ _ (h H)
theorem pl_done (h : k a w) : wpPl P ops Q S k [] a w := h
end
end Go.Proofs.Ytfbkgfffalppmaa.Hd
end
section
namespace Go.Proofs.YtfbkgfffalppmaaW.PrintWords
set_option linter.unusedVariables false
open Go Go.RowKit
theorem bw_ {B : Nat} {w W : World} (h : Below B w W := by repeat (first | (with_reducible first | exact Aside0.out (by with_reducible assumption) | apply below_alloc | apply pw_below_drewN | apply below_drew1 | refine below_set ?_ (Aside0.out (by with_reducible assumption))) | exact Aside0.out (by assumption))) : Below B w W := h
theorem bk_ {w : World} {g : Nat} {o : Obj} (h : w.heap[g]? = some o := by (with_reducible repeat (first | refine blk_drewN ?_ _ | refine blk_drew ?_ | refine blk_alloc ?_ _ | refine blk_far ?_ (Aside0.out (by with_reducible assumption)) _)); exact Aside0.out (by with_reducible assumption)) : w.heap[g]? = some o := h
theorem kb_ {w0 w w1 : World} {g : Nat} {o : Obj} (H : Aside0 (w0.heap[g]? = some o)) (hb : Below w.heap.size w w1) (h : w.heap[g]? = some o := by (with_reducible repeat (first | refine blk_drewN ?_ _ | refine blk_drew ?_ | refine blk_alloc ?_ _ | refine blk_far ?_ (Aside0.out (by with_reducible assumption)) _)); exact Aside0.out (by with_reducible assumption)) : w1.heap[g]? = some o := blk_below h hb
theorem lt_ {w0 w : World} {g : Nat} {o : Obj} (H : Aside0 (w0.heap[g]? = some o)) (h : w.heap[g]? = some o := by (with_reducible repeat (first | refine blk_drewN ?_ _ | refine blk_drew ?_ | refine blk_alloc ?_ _ | refine blk_far ?_ (Aside0.out (by with_reducible assumption)) _)); exact Aside0.out (by with_reducible assumption)) : g < w.heap.size := blk_lt h
abbrev A_ := @Aside0.mk
abbrev bc_ := @blk_cell
abbrev bf_ := @blk_frozen
abbrev bz_ := @below_size
abbrev bd_ := @blk_drew
abbrev bn_ := @blk_drewN
abbrev ba_ := @blk_alloc
abbrev bs_ := @below_step
abbrev b1_ := @below_drew1
abbrev bl_ := @below_alloc
abbrev pn_ := @pw_below_drewN
abbrev bt_ := @below_set
abbrev br_ := @blk_far
abbrev bp_ := @blk_put
abbrev va_ := @Kd.V_alloc
abbrev vn_ := @Kd.V_drewN
abbrev vd_ := @Kd.V_drew
abbrev vm_ := @Kd.V_mono
abbrev ca_ := @Kd.C_alloc
abbrev cn_ := @Kd.C_drewN
abbrev cd_ := @Kd.C_drew
abbrev cb_ := @Kd.C_below
abbrev nl_ := @Nat.ne_of_lt
abbrev ng_ := @Nat.ne_of_gt
abbrev dd_ := @World.drewN_drewN
abbrev od_ := @of_decide_eq_true
theorem os_ {α β : Type} {x : Option α} {f : α → Option β} {b : β} (h : x.bind f = some b) : ∃ a, x = some a ∧ f a = some b := Option.bind_eq_some_iff.mp h
theorem q1_ {α : Type} [BEq α] [LawfulBEq α] {a b : α} (h : a = b) : (a == b) = true := beq_iff_eq.mpr h
theorem q2_ {α : Type} [BEq α] [LawfulBEq α] {a b : α} (h : a ≠ b) : (a != b) = true := bne_iff_ne.mpr h
theorem q3_ {α : Type} [BEq α] [LawfulBEq α] {a b : α} (h : a = b) : (a != b) = false := bne_eq_false_iff_eq.mpr h
theorem q4_ {α : Type} [BEq α] [LawfulBEq α] {a b : α} (h : a ≠ b) : (a == b) = false := beq_eq_false_iff_ne.mpr h
theorem sA_ {α : Type} {l : List α} {i : Nat} {a : α} : l.toArray.setIfInBounds i a = (l.set i a).toArray := List.setIfInBounds_toArray _ _ _
theorem sZ_ {α : Type} {a b : α} {l : List α} : (a :: l).set 0 b = b :: l := List.set_cons_zero
theorem sS_ {α : Type} {a b : α} {l : List α} {n : Nat} : (a :: l).set (n + 1) b = a :: l.set n b := List.set_cons_succ
end Go.Proofs.YtfbkgfffalppmaaW.PrintWords
end
section
namespace Go.Proofs.YtfbkgfffalppmaaW.PrintLast
section
variable {P : Program} {ops : Array Oper} {Q : Exit → Act → World → Prop} {md : Region.Mode} {S : World → Prop} {ds : List Nat} {T : Bool × List (List Nat × List Nat)}
end
end Go.Proofs.YtfbkgfffalppmaaW.PrintLast
end
section
namespace Go.Proofs.YtfbkgfffalppmaaW.PrintWords
open Go.RowKit
namespace Kd
section
variable {α : Type} {d : Kd α} {W : World} {g n : Nat} {S ok : Nat → Prop} {A : Option Addr} {ad : Addr} {xs : List α}
end
end Kd
end Go.Proofs.YtfbkgfffalppmaaW.PrintWords
end
section
namespace Go.Proofs.YtfbkgfffalppmaaW.PrintWords
open Go.RowKit
section
variable {w w' u : World} {m B g : Nat} {o : Obj} {row : Option Nat} {S : Nat → Prop} {a : Addr} {v : Value}
end
namespace Kd
section
variable {α : Type} {d : Kd α} {e base n m : Nat} {ok : Nat → Prop} {w w' : World} {v : Value} {A : Option Addr} {xs : List α}
end
end Kd
end Go.Proofs.YtfbkgfffalppmaaW.PrintWords
end
section
namespace Go.Proofs.YtfbkgfffalppmaaW.PrintLast
def up (b : Nat → Bool) (i : Nat) : Nat → Bool := fun j => if j = i then true else b j
section
variable {P : Program} {ops : Array Oper} {Q : Exit → Act → World → Prop} {md : Region.Mode} {T : Bool × List (List Nat × List Nat)} {B : List Nat} {O : List Nat} {b : Nat → Bool} {i j n : Nat}
end
end Go.Proofs.YtfbkgfffalppmaaW.PrintLast
end
section
namespace Go.Proofs.YtfbkgfffalppmaaW.PrintWords
open Go.RowKit
end Go.Proofs.YtfbkgfffalppmaaW.PrintWords
namespace Go.Proofs.YtfbkgfffalppmaaW.PrintLast
section
variable {ops : Array Oper} {a : Act} {o og : Oper} {g : Nat} {t : Tmp} {u : Bool}
end
end Go.Proofs.YtfbkgfffalppmaaW.PrintLast
end
