/- Texts of this seat, put together (Zc22). -/
import Derived.RangeFuncNested
import Derived.RangeFuncBound
import Derived.RangeFuncCalls
import Derived.RangeFuncLeaves
import Derived.RangeFuncFrom
import Derived.Shelf.Abstract
import Derived.Shelf.RegionOpen
import Derived.WalkKit
import Derived.OwnWalkIn
import Derived.TacticsInMore
import Derived.LoopNIn
import Derived.LoopIn
import Derived.Test.YthhgcjlgnafdcaaZc4
section
namespace Go.Proofs.Ythhgcjlgnafdcaa.Hd
set_option linter.unusedVariables false
set_option linter.unusedSimpArgs false
open Go Go.RowKit Go.Proofs.YthhgcjlgnafdcaaW.PrintWords Go.Proofs.YthhgcjlgnafdcaaW.PrintLast
def Cells (B : Nat) (L : List F2) : Prop := ∀ f ∈ L, ∀ W k, f.2 W → f.1 k → B ≤ k → ∃ o : Obj, W.heap[k]? = some o ∧ o.isCells = true
theorem cells_nil {B : Nat} : Cells B [] := fun f hf => by cases hf
theorem cells_cons {B : Nat} {f : F2} {L : List F2} (h : ∀ W k, f.2 W → f.1 k → B ≤ k → ∃ o : Obj, W.heap[k]? = some o ∧ o.isCells = true) (hL : Cells B L) : Cells B (f :: L) := fun g hg => by
  rcases List.mem_cons.1 hg with rfl | hg
  · exact h
  · exact hL g hg
theorem cells_bx {B b : Nat} {t : TypeId} {cs : Array Value} {L : List F2} (hL : Cells B L) : Cells B (bx b t cs :: L) := cells_cons (fun W k h hk _ => by
  rw [show k = b from hk]
  exact ⟨_, h, rfl⟩) hL
theorem cells_ow {B lo e size n : Nat} {v : Value} {xs : List Value} {L : List F2} (hL : Cells B L) : Cells B (ow lo e size v n xs :: L) := cells_cons (fun W k h hk _ => by
  obtain ⟨_, h2⟩ := h
  rcases h2 with ⟨rfl, _⟩ | ⟨g, cap, cur, rfl, _, hb, _⟩
  · exact (ob_nil hk).elim
  · have : g = k := by
      have : some g = some k := hk
      injection this
    subst this
    exact ⟨_, hb, rfl⟩) hL
def same (W : World) (f : F2) : F2 := (f.1, fun W' => f.2 W' ∧ ∀ k, f.1 k → W'.heap[k]? = W.heap[k]?)
def oth (W : World) : F2 := (fun k => ∃ o : Obj, W.heap[k]? = some o ∧ o.isCells = false, fun W' => ∀ (k : Nat) (o : Obj), W.heap[k]? = some o → o.isCells = false → W'.heap[k]? = some o)
section
variable {P : Program} {w0 w W W' : World} {L : List F2} {ok : Nat → Prop} {T : World → Prop}
theorem All.same (H : All w0 W L) (i : Nat) {f : F2} (hi : L[i]? = some f) : All w0 W (L.set i (same W f)) :=
  H.turn i (ok := f.1) (T := f.2) hi ⟨(H.get i (ok := f.1) (T := f.2) hi).lt, fun W' h => ⟨(H.get i (ok := f.1) (T := f.2) hi).on W' h, h⟩⟩
theorem All.unsame (H : All w0 W L) (i : Nat) {f : F2} {W1 : World} (hi : L[i]? = some (Hd.same W1 f)) : All w0 W (L.set i f) :=
  H.turn i (ok := f.1) (T := (Hd.same W1 f).2) hi ((H.get i (ok := f.1) hi).imp fun W h => h.1)
theorem All.oth (H : All w0 W L) (hC : Cells w0.heap.size L) : All w0 W (oth W :: L) := by
  refine H.put ⟨fun k ⟨o, h, _⟩ => (Array.getElem?_eq_some_iff.1 h).1, fun W' h k o hk ho => (h k ⟨o, hk, ho⟩).trans hk⟩ fun g hg k ⟨o, hk, ho⟩ h2 => ?_
  rcases Nat.lt_or_ge k w0.heap.size with h | h
  · exact h
  · obtain ⟨o', hk', ho'⟩ := hC g hg W k (H.mem g hg).now h2 h
    rw [hk] at hk'
    cases hk'
    rw [ho] at ho'
    cases ho'
theorem All.others (H : All w0 W' L) (i : Nat) (hi : L[i]? = some (Hd.oth W)) (hs : W.heap.size ≤ W'.heap.size) : KeepsOthers W W' := ⟨hs, H.at i (ok := (Hd.oth W).1) (T := (Hd.oth W).2) hi⟩
theorem All.ownTo (H : All w0 W L) (hC : Cells w0.heap.size L) {row : Option Nat} (hg : W.grownBy W' row) (hr : ∀ r, row = some r → w0.heap.size ≤ r ∧ ∃ o : Obj, W.heap[r]? = some o ∧ o.isCells = false) : All w0 W' L := by
  refine ⟨H.old.grown hg H.old.size fun k e => (hr k e).1, fun f hf => (H.mem f hf).step (fun k hk => ?_) hg.size, H.dis⟩
  refine hg.block k ((H.mem f hf).lt k hk) fun e => ?_
  obtain ⟨h1, o, h2, h3⟩ := hr k e.symm
  obtain ⟨o', h4, h5⟩ := hC f hf W k (H.mem f hf).now hk h1
  rw [h2] at h4
  cases h4
  rw [h3] at h5
  cases h5
theorem all_own {β : Type} {B : Nat} {L : β → List F2} (hC : ∀ s, Cells w0.heap.size (L s)) (hB : w0.heap.size ≤ B) : OwnFrom B fun s W => All w0 W (L s) := fun s W W' row h hg hr =>
  All.ownTo h (hC s) hg fun r e => ⟨Nat.le_trans hB (hr r e).1, (hr r e).2⟩
theorem All.putObj (H : All w0 W L) (hC : Cells w0.heap.size L) {D : Nat} {o o' : Obj} (hD : w0.heap.size ≤ D) (h : W.heap[D]? = some o) (ho : o.isCells = false) : All w0 (W.putObj D o') L :=
  H.ownTo hC (grownBy_putObj' W D o') fun r e => by cases e; exact ⟨hD, o, h, ho⟩
theorem range_all {α β : Type} {n : Nat} {g : Operand} {ps : Array Tmp} {assign body : Code} {Q : Exit → Act → World → Prop} {a : Act} (h1 : 1 ≤ n) {gf : Nat} {lb : Array Value} (hg : a.eval g = .func (.func gf) #[] lb) (eg : ∀ args w, (callFunc gf args).run P w = .ok (.enter gf args) w)
    {encs : α → Array Value} {S : List α → Prop} {N : Nat} {f1 f2 : F2} (hps : ∀ x, (encs x).size = ps.size)
    (M : List α → β → List F2) (hC : ∀ s p, Cells w0.heap.size (f1 :: f2 :: M s p)) (p0 : β) (H0 : All w0 w (f1 :: f2 :: M [] p0))
    (hseq : SeqStopsK Fence.wide (n - 1) P gf lb encs (fun W W' => ∀ k, (f1.1 k ∨ f2.1 k) → W'.heap[k]? = W.heap[k]?) S (fun _ => True) N w) (a₁ : α → Act)
    (hassign : ∀ (l : Nat) (x : α) (W : World) (K : Act → World → Prop), K (a₁ x) W →
      assign.wpIn (Fence.wide.inRound l) (n - 1 - 1) P (Exit.then K (fun _ _ _ => False)) { tmps := (ps.zip (encs x)).foldl (fun t (p, v) => t.setIfInBounds p v) a.tmps, defers := [] } W)
    (hbody : ∀ (l : Nat) (pre : List α) (p : β) (x : α) (W : World), All w0 W (oth W :: same W f1 :: same W f2 :: M pre p) → pre.length < N →
      body.wpIn (Fence.wide.inRound l) (n - 1 - 1) P (fun e _ W' => e = .normal ∧ W.heap.size ≤ W'.heap.size ∧ ∃ p', All w0 W' (oth W :: same W f1 :: same W f2 :: M (pre ++ [x]) p')) (a₁ x) W)
    (hdone : ∀ (D : Nat) (xs : List α) (p : β) (W : World), w0.heap.size ≤ D → S xs → All w0 W (f1 :: f2 :: M xs p) → W.heap[D]? = some (.deferred (some [])) → Q .normal { a with defers := { target := .collected D, args := #[] } :: a.defers } W) :
    (Code.rangeFunc g ps assign body).wpIn Fence.wide n P Q a w := by
  have hlt : ∀ k, (f1.1 k ∨ f2.1 k) → k < w.heap.size := fun k hk => hk.elim ((H0.mem f1 List.mem_cons_self).lt k) ((H0.mem f2 (List.mem_cons_of_mem _ List.mem_cons_self)).lt k)
  refine wpIn_rangeFunc_ownF rfl h1 (gf := gf) (lb := lb) hg trivial eg hseq (fun h k => fun q hq => (k q hq).trans (h q hq)) (fun W l o o' hl h _ _ q hq => ?_) (Below.refl _ _) hps
    (fun pre W => ∃ p, All w0 W (f1 :: f2 :: M pre p)) (fun _ _ _ => False) (fun s W W' row ⟨p, h⟩ hg hr => ⟨p, all_own (L := fun s => f1 :: f2 :: M s p) (fun s => hC s p) H0.old.size s W W' row h hg hr⟩) (fun _ _ _ _ _ hs _ _ => hs) ⟨p0, H0⟩ a₁ hassign ?_ (fun D xs W hD hS ⟨p, hI⟩ hK => hdone D xs p W (Nat.le_trans H0.old.size hD) hS hI hK) (fun _ _ _ _ _ _ h _ => h.elim)
  · have := hlt q hq
    have hne : l ≠ q := by omega
    simp only [World.putObj, Array.getElem?_setIfInBounds_ne hne]
  · rintro l pre x W ⟨p, hI⟩ hlen
    refine wpIn_mono (hbody l pre p x W ?_ hlen) ?_
    · exact ((hI.same 0 rfl).same 1 rfl).oth fun f hf => by
        rcases List.mem_cons.1 hf with rfl | hf
        · intro W1 k h hk hB
          exact hC pre p f1 List.mem_cons_self W1 k h.1 hk hB
        rcases List.mem_cons.1 hf with rfl | hf
        · intro W1 k h hk hB
          exact hC pre p f2 (List.mem_cons_of_mem _ List.mem_cons_self) W1 k h.1 hk hB
        · exact hC pre p f (List.mem_cons_of_mem _ (List.mem_cons_of_mem _ hf))
    · rintro e a3 W3 ⟨rfl, hs, p', H3⟩
      refine ⟨H3.others 0 rfl hs, fun k hk => ?_, ⟨p', (H3.tail.unsame 0 rfl).unsame 1 rfl⟩⟩
      rcases hk with hk | hk
      · exact (H3.at 1 (ok := f1.1) (T := (same W f1).2) rfl).2 k hk
      · exact (H3.at 2 (ok := f2.1) (T := (same W f2).2) rfl).2 k hk
theorem mark_ret {n : Nat} {fn : Func} {R : Ending → World → Prop} {a : Act} {D : Nat} {v : Value} (ha : a.defers = [{ target := .collected D, args := #[] }]) (hk : W.heap[D]? = some (.deferred (some [])))
    (hr : (results fn a.tmps).run P (W.putObj D (.deferred none)) = .ok v (W.putObj D (.deferred none))) (hR : R (.returned v) (W.putObj D (.deferred none))) : bodyPostM Fence.wide n P fn R .ret a W := by
  show LeavesInM Fence.wide n P fn a.tmps R a.defers .returning W
  rw [ha]
  refine ⟨by simp, .inl ⟨_, _, rfl, run_takeDeferred hk, ?_⟩⟩
  exact ⟨_, hr, hR⟩
theorem appIn {F : Fence} {n m lo e size bytes : Nat} {ops : Array Oper} {rest : List Oper} {o : Oper} {a : Act} {Q : Exit → Act → World → Prop} {xs : List Value} {v : Value} (ys : List Value) (H : All w0 W L) (i : Nat) (hi : L[i]? = some (ow lo e size v m xs))
    (hb : w0.heap.size ≤ lo) (hbase : lo ≤ W.heap.size) (hl : (m + 1) * bytes ≤ 140737488355328) (s x : Operand) (t : TypeId) (z : Value) (hinfo : (P.info? e).map (fun i => (i.zero, i.size, i.bytes)) = some (some z, size, bytes)) (ht : P.underlying t = some (.slice e))
    (hgd : o.guard = none) (ho : o.op = .call { callee := .builtin .append, args := #[s, x], argTypes := #[t, t] })
    (hz : z.cells.size = size) (hs0 : 0 < size) (hb0 : 0 < bytes)
    (hs : a.eval s = v) (hx : a.eval x = .slice (some ⟨W.heap.size, 0, none⟩) 1 1) (hys : ys.length = size) (h1 : ∀ u ∈ ys, u.oneCell' = true)
    (h : ∀ A1 c1 w1, All w0 w1 (L.set i (ow lo e size (.slice A1 (m + 1) c1) (m + 1) (xs ++ ys))) → W.heap.size ≤ w1.heap.size → wpListIn F n P ops Q rest (a.put o.dst (.slice A1 (m + 1) c1)) w1) :
    wpListIn F n P ops Q (o :: rest) a (W.alloc (.cells ys.toArray e)) := by
  refine wpListIn_plain hgd fun K hK => ?_
  obtain ⟨i0, hi0, hzz⟩ := Option.map_eq_some_iff.1 hinfo
  simp only [Prod.mk.injEq] at hzz
  obtain ⟨hz0, hz1, hz2⟩ := hzz
  have hlen : m + 1 ≤ 140737488355328 := Nat.le_trans (Nat.le_mul_of_pos_right _ hb0) hl
  have hO := H.at i hi
  obtain ⟨v1, w1, hr, h2, h3, h4, h5⟩ := run_append_own_at (P := P) (W.alloc (.cells ys.toArray e)) lo t o.type e i0 z size bytes ht hi0 hz0 hz1 hz2 hz hs0 v m xs (hO.alloc _) ⟨W.heap.size, 0, none⟩ 1 1 ys (by rw [hys]; simp)
    (by simpa using World.news_of_block (cs := ys.toArray) (t := e) (fr := (0, 0)) (heap_alloc_new W (.cells ys.toArray e))) h1 (by simp only [maxLen]; omega) hl (by simp; omega)
  obtain ⟨A1, c1, rfl⟩ := own_slice h2
  unfold Oper.wpIn
  refine ⟨?_, ?_⟩
  · simp [Oper.about, ho, resolve, Target.leads, Sem.run_pure]
  · rw [Oper.semAt_plain F _ _ (by rw [ho]; intro c hc'; cases hc')]
    simp [execOp, ho, resolve, invoke, builtin, hs, hx, hr, Result.andThen]
    refine hK _ _ (h A1 c1 w1 (H.own i hi (World.grownBy.trans (World.grownBy_alloc W _ _) h3) h2 ?_ hb) (Nat.le_trans (by simp) h3.size))
    rcases h5 with h5 | h5
    · exact .inl h5
    · exact .inr ⟨_, h5, by simp⟩
end
end Go.Proofs.Ythhgcjlgnafdcaa.Hd
end
