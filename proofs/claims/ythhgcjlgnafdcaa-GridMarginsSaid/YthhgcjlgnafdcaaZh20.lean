/- Texts of this seat, put together (Zh20). -/
import Derived.RangeFuncNested
import Derived.RangeFuncBound
import Derived.RangeFuncCalls
import Derived.RangeFuncLeaves
import Derived.RangeFuncFrom
import Derived.Shelf.Abstract
import Derived.Shelf.RegionOpen
import Derived.WalkKit
import Derived.OwnWalkIn
import Derived.TacticsInMore
import Derived.LoopNIn
import Derived.LoopIn
import Derived.Test.YthhgcjlgnafdcaaZh3
section
namespace Go.Proofs.Ythhgcjlgnafdcaa.Hd
set_option linter.unusedVariables false
set_option linter.unusedSimpArgs false
open Go Go.RowKit Go.Proofs.YthhgcjlgnafdcaaW.PrintWords Go.Proofs.YthhgcjlgnafdcaaW.PrintLast
def Cells (B : Nat) (L : List F2) : Prop := ∀ f ∈ L, ∀ W k, f.2 W → f.1 k → B ≤ k → ∃ o : Obj, W.heap[k]? = some o ∧ o.isCells = true
theorem cells_nil {B : Nat} : Cells B [] := fun f hf => by cases hf
theorem cells_cons {B : Nat} {f : F2} {L : List F2} (h : ∀ W k, f.2 W → f.1 k → B ≤ k → ∃ o : Obj, W.heap[k]? = some o ∧ o.isCells = true) (hL : Cells B L) : Cells B (f :: L) := fun g hg => by
  rcases List.mem_cons.1 hg with rfl | hg
  · exact h
  · exact hL g hg
theorem cells_bx {B b : Nat} {t : TypeId} {cs : Array Value} {L : List F2} (hL : Cells B L) : Cells B (bx b t cs :: L) := cells_cons (fun W k h hk _ => by
  rw [show k = b from hk]
  exact ⟨_, h, rfl⟩) hL
theorem cells_ow {B lo e size n : Nat} {v : Value} {xs : List Value} {L : List F2} (hL : Cells B L) : Cells B (ow lo e size v n xs :: L) := cells_cons (fun W k h hk _ => by
  obtain ⟨_, h2⟩ := h
  rcases h2 with ⟨rfl, _⟩ | ⟨g, cap, cur, rfl, _, hb, _⟩
  · exact (ob_nil hk).elim
  · have : g = k := by
      have : some g = some k := hk
      injection this
    subst this
    exact ⟨_, hb, rfl⟩) hL
theorem cells_low {B : Nat} {ok : Nat → Prop} {T : World → Prop} {L : List F2} (h : ∀ k, ok k → k < B) (hL : Cells B L) : Cells B ((ok, T) :: L) := cells_cons (fun W k _ hk hB => absurd (h k hk) (by omega)) hL
def same (W : World) (f : F2) : F2 := (f.1, fun W' => f.2 W' ∧ ∀ k, f.1 k → W'.heap[k]? = W.heap[k]?)
section
variable {P : Program} {w0 w W W' : World} {L : List F2} {ok : Nat → Prop} {T : World → Prop}
theorem All.same (H : All w0 W L) (i : Nat) {f : F2} (hi : L[i]? = some f) : All w0 W (L.set i (same W f)) :=
  H.turn i (ok := f.1) (T := f.2) hi ⟨(H.get i (ok := f.1) (T := f.2) hi).lt, fun W' h => ⟨(H.get i (ok := f.1) (T := f.2) hi).on W' h, h⟩⟩
theorem All.unsame (H : All w0 W L) (i : Nat) {f : F2} {W1 : World} (hi : L[i]? = some (Hd.same W1 f)) : All w0 W (L.set i f) :=
  H.turn i (ok := f.1) (T := (Hd.same W1 f).2) hi ((H.get i (ok := f.1) hi).imp fun W h => h.1)
theorem All.ownTo (H : All w0 W L) (hC : Cells w0.heap.size L) {row : Option Nat} (hg : W.grownBy W' row) (hr : ∀ r, row = some r → w0.heap.size ≤ r ∧ ∃ o : Obj, W.heap[r]? = some o ∧ o.isCells = false) : All w0 W' L := by
  refine ⟨H.old.grown hg H.old.size fun k e => (hr k e).1, fun f hf => (H.mem f hf).step (fun k hk => ?_) hg.size, H.dis⟩
  refine hg.block k ((H.mem f hf).lt k hk) fun e => ?_
  obtain ⟨h1, o, h2, h3⟩ := hr k e.symm
  obtain ⟨o', h4, h5⟩ := hC f hf W k (H.mem f hf).now hk h1
  rw [h2] at h4
  cases h4
  rw [h3] at h5
  cases h5
theorem All.putObj (H : All w0 W L) (hC : Cells w0.heap.size L) {D : Nat} {o o' : Obj} (hD : w0.heap.size ≤ D) (h : W.heap[D]? = some o) (ho : o.isCells = false) : All w0 (W.putObj D o') L :=
  H.ownTo hC (grownBy_putObj' W D o') fun r e => by cases e; exact ⟨hD, o, h, ho⟩
theorem mark_ret {n : Nat} {fn : Func} {R : Ending → World → Prop} {a : Act} {D : Nat} {v : Value} (ha : a.defers = [{ target := .collected D, args := #[] }]) (hk : W.heap[D]? = some (.deferred (some [])))
    (hr : (results fn a.tmps).run P (W.putObj D (.deferred none)) = .ok v (W.putObj D (.deferred none))) (hR : R (.returned v) (W.putObj D (.deferred none))) : bodyPostM Fence.wide n P fn R .ret a W := by
  show LeavesInM Fence.wide n P fn a.tmps R a.defers .returning W
  rw [ha]
  refine ⟨by simp, .inl ⟨_, _, rfl, run_takeDeferred hk, ?_⟩⟩
  exact ⟨_, hr, hR⟩
theorem appIn {F : Fence} {n m lo e size bytes : Nat} {ops : Array Oper} {rest : List Oper} {o : Oper} {a : Act} {Q : Exit → Act → World → Prop} {xs : List Value} {v : Value} (ys : List Value) (H : All w0 W L) (i : Nat) (hi : L[i]? = some (ow lo e size v m xs))
    (hb : w0.heap.size ≤ lo) (hbase : lo ≤ W.heap.size) (hl : (m + 1) * bytes ≤ 140737488355328) (s x : Operand) (t : TypeId) (z : Value) (hinfo : (P.info? e).map (fun i => (i.zero, i.size, i.bytes)) = some (some z, size, bytes)) (ht : P.underlying t = some (.slice e))
    (hgd : o.guard = none) (ho : o.op = .call { callee := .builtin .append, args := #[s, x], argTypes := #[t, t] })
    (hz : z.cells.size = size) (hs0 : 0 < size) (hb0 : 0 < bytes)
    (hs : a.eval s = v) (hx : a.eval x = .slice (some ⟨W.heap.size, 0, none⟩) 1 1) (hys : ys.length = size) (h1 : ∀ u ∈ ys, u.oneCell' = true)
    (h : ∀ A1 c1 w1, All w0 w1 (L.set i (ow lo e size (.slice A1 (m + 1) c1) (m + 1) (xs ++ ys))) → W.heap.size ≤ w1.heap.size → wpListIn F n P ops Q rest (a.put o.dst (.slice A1 (m + 1) c1)) w1) :
    wpListIn F n P ops Q (o :: rest) a (W.alloc (.cells ys.toArray e)) := by
  refine wpListIn_plain hgd fun K hK => ?_
  obtain ⟨i0, hi0, hzz⟩ := Option.map_eq_some_iff.1 hinfo
  simp only [Prod.mk.injEq] at hzz
  obtain ⟨hz0, hz1, hz2⟩ := hzz
  have hlen : m + 1 ≤ 140737488355328 := Nat.le_trans (Nat.le_mul_of_pos_right _ hb0) hl
  have hO := H.at i hi
  obtain ⟨v1, w1, hr, h2, h3, h4, h5⟩ := run_append_own_at (P := P) (W.alloc (.cells ys.toArray e)) lo t o.type e i0 z size bytes ht hi0 hz0 hz1 hz2 hz hs0 v m xs (hO.alloc _) ⟨W.heap.size, 0, none⟩ 1 1 ys (by rw [hys]; simp)
    (by simpa using World.news_of_block (cs := ys.toArray) (t := e) (fr := (0, 0)) (heap_alloc_new W (.cells ys.toArray e))) h1 (by simp only [maxLen]; omega) hl (by simp; omega)
  obtain ⟨A1, c1, rfl⟩ := own_slice h2
  unfold Oper.wpIn
  refine ⟨?_, ?_⟩
  · simp [Oper.about, ho, resolve, Target.leads, Sem.run_pure]
  · rw [Oper.semAt_plain F _ _ (by rw [ho]; intro c hc'; cases hc')]
    simp [execOp, ho, resolve, invoke, builtin, hs, hx, hr, Result.andThen]
    refine hK _ _ (h A1 c1 w1 (H.own i hi (World.grownBy.trans (World.grownBy_alloc W _ _) h3) h2 ?_ hb) (Nat.le_trans (by simp) h3.size))
    rcases h5 with h5 | h5
    · exact .inl h5
    · exact .inr ⟨_, h5, by simp⟩
end
end Go.Proofs.Ythhgcjlgnafdcaa.Hd
end
section
namespace Go.Proofs.Ythhgcjlgnafdcaa.Hd
set_option linter.unusedVariables false
set_option linter.unusedSimpArgs false
open Go Go.RowKit Go.Proofs.YthhgcjlgnafdcaaW.PrintWords Go.Proofs.YthhgcjlgnafdcaaW.PrintLast
def frz (w : World) (L : List F2) : F2 := (fun k => ∃ f ∈ L, f.1 k, fun W => ∀ k, (∃ f ∈ L, f.1 k) → W.heap[k]? = w.heap[k]?)
def nul : F2 := (fun _ => False, fun _ => True)
section
variable {P : Program} {w0 w w' W W' : World} {L M M' : List F2} {ok ok' : Nat → Prop} {T T' : World → Prop}
theorem All.freeze (H : All w0 w (M ++ L)) : All w0 w (frz w L :: M) := by
  have hp := List.pairwise_append.1 H.dis
  have H1 : All w0 w M := H.sub (List.sublist_append_left M L)
  refine H1.put ⟨fun k ⟨f, hf, hk⟩ => (H.mem f (List.mem_append_right _ hf)).lt k hk, fun W hW => hW⟩ fun g hg k ⟨f, hf, hk⟩ hgk => hp.2.2 g hg f hf k hgk hk
theorem All.thaw (H : All w0 w (M' ++ L)) (H' : All w0 w' (frz w L :: M)) : All w0 w' (M ++ L) := by
  have hp := List.pairwise_append.1 H.dis
  have hz : ∀ k, (∃ f ∈ L, f.1 k) → w'.heap[k]? = w.heap[k]? := H'.at 0 rfl
  refine ⟨H'.old, fun f hf => ?_, List.pairwise_append.2 ⟨H'.tail.dis, hp.2.1, fun f hf g hg k h1 h2 => (List.pairwise_cons.1 H'.dis).1 f hf k ⟨g, hg, h2⟩ h1⟩⟩
  rcases List.mem_append.1 hf with h | h
  · exact H'.mem f (List.mem_cons_of_mem _ h)
  · have hm := H.mem f (List.mem_append_right _ h)
    refine ⟨fun k hk => ?_, fun W hW => hm.on W fun k hk => (hW k hk).trans (hz k ⟨f, h, hk⟩)⟩
    have e := hz k ⟨f, h, hk⟩
    rw [Array.getElem?_eq_getElem (hm.lt k hk)] at e
    exact (Array.getElem?_eq_some_iff.1 e).1
theorem cells_nul {B : Nat} {M : List F2} (hM : Cells B M) : Cells B (nul :: M) := cells_cons (fun W k _ h _ => h.elim) hM
theorem All.nul (H : All w0 w L) : All w0 w (nul :: L) := H.put ⟨(fun k h => h.elim), fun W _ => trivial⟩ fun _ _ k h _ => h.elim
theorem All.join {f g : F2} (H : All w0 w (f :: g :: L)) : All w0 w ((fun k => f.1 k ∨ g.1 k, fun W => f.2 W ∧ g.2 W) :: L) := by
  have h1 := List.pairwise_cons.1 H.dis
  have h2 := List.pairwise_cons.1 h1.2
  exact H.tail.tail.put (Held.both' (H.mem f List.mem_cons_self) (H.mem g (List.mem_cons_of_mem _ List.mem_cons_self))) fun q hq k hk hqk => hk.elim (fun h => h1.1 q (List.mem_cons_of_mem _ hq) k h hqk) (fun h => h2.1 q hq k h hqk)
theorem pl_C2 {ops : Array Oper} {Q : Exit → Act → World → Prop} {k : Act → World → Prop} {a a' : Act} {r : List St} {i : Nat} {v u0 u1 : Value} {L' : List F2} {d : Tmp} {p p2 : Addr} {op : Op} {ty : TypeId} {ps : String} {af : Array Edge} {gd : Option (Nat × Bool)} (H : All w0 w L') (hc : ∀ W, All w0 W L → W.cell? p = some u0 ∧ W.cell? p2 = some u1) (hi : ops[i]? = some ⟨some d, op, ty, ps, af, gd⟩ := by simp only [List.getElem?_toArray, List.getElem?_cons_succ, List.getElem?_cons_zero]; rfl) (hw : Region.wanted ⟨some d, op, ty, ps, af, gd⟩ (yielded ops a.tmps) = true := by rfl)
    (hs : ∀ W, All w0 W L' → All w0 W L := by first | exact fun _ h => h | exact fun _ h => h.tail | exact fun _ h => h.tail.tail | exact fun _ h => h.drop 3 | exact fun _ h => h.drop 4 | exact fun _ h => h.drop 5)
    (hy : ∀ w, w.cell? p = some u0 → w.cell? p2 = some u1 → (execOp a.eval ⟨some d, op, ty, ps, af, gd⟩).run P w = .ok (.value v) w := by intro w' r r2; first | (go_simp; with_reducible rfl) | (go_simp; done))
    (ha : a.put (some d) v = a' := by simp only [Act.put, List.setIfInBounds_toArray, List.set_cons_zero, List.set_cons_succ, i64_w, i32_w]; rfl) (h : wpPl P ops Q (fun W => All w0 W L) k r a' w) : wpPl P ops Q (fun W => All w0 W L) k (.t i :: r) a w :=
  pl_t H hs hi rfl hw (fun W hW => hy W (hc W hW).1 (hc W hW).2) ha h
theorem grown_of {A B : World} (h : Below A.heap.size A B) : A.grownBy B none := ⟨h.os, h.tape, h.output, h.size, fun k hk _ => h.block k hk⟩
abbrev Fx (L : List F2) (W : World) : Prop := ∀ f ∈ L, f.2 W
theorem Fx.at {i : Nat} {L : List F2} {w : World} {ok : Nat → Prop} {T : World → Prop} (h : Fx L w) (hi : L[i]? = some (ok, T)) : T w := h (ok, T) (List.mem_of_getElem? hi)
theorem All.rest (H : All w0 w (M ++ L)) {T : World → Prop} (hT : ∀ W, Fx L W → T W) : Held w (frz w L).1 T := ⟨fun k ⟨f, hf, hk⟩ => (H.mem f (List.mem_append_right _ hf)).lt k hk, fun W hW => hT W fun f hf => (H.mem f (List.mem_append_right _ hf)).on W fun k hk => hW k ⟨f, hf, hk⟩⟩
def othF (B : Nat) (W : World) : F2 := (fun k => B ≤ k ∧ ∃ o : Obj, W.heap[k]? = some o ∧ o.isCells = false, fun W' => ∀ (k : Nat) (o : Obj), B ≤ k → W.heap[k]? = some o → o.isCells = false → W'.heap[k]? = some o)
theorem All.othF {B : Nat} (H : All w0 W L) (hC : Cells B L) : All w0 W (Hd.othF B W :: L) := by
  refine H.put ⟨fun k ⟨_, o, h, _⟩ => (Array.getElem?_eq_some_iff.1 h).1, fun W' h k o hB hk ho => (h k ⟨hB, o, hk, ho⟩).trans hk⟩ fun g hg k ⟨hB, o, hk, ho⟩ h2 => ?_
  obtain ⟨o', hk', ho'⟩ := hC g hg W k (H.mem g hg).now h2 hB
  rw [hk] at hk'
  cases hk'
  rw [ho] at ho'
  cases ho'
theorem All.ownF {B : Nat} (H : All w0 W L) (hB : w0.heap.size ≤ B) (hC : Cells B L) {row : Option Nat} (hg : W.grownBy W' row) (hr : ∀ r, row = some r → B ≤ r ∧ ∃ o : Obj, W.heap[r]? = some o ∧ o.isCells = false) : All w0 W' L := by
  refine ⟨H.old.grown hg H.old.size fun k e => Nat.le_trans hB (hr k e).1, fun f hf => (H.mem f hf).step (fun k hk => ?_) hg.size, H.dis⟩
  refine hg.block k ((H.mem f hf).lt k hk) fun e => ?_
  obtain ⟨h1, o, h2, h3⟩ := hr k e.symm
  obtain ⟨o', h4, h5⟩ := hC f hf W k (H.mem f hf).now hk h1
  rw [h2] at h4
  cases h4
  rw [h3] at h5
  cases h5
theorem All.putF {B : Nat} (H : All w0 W L) (hB : w0.heap.size ≤ B) (hC : Cells B L) {D : Nat} {o o' : Obj} (hD : B ≤ D) (h : W.heap[D]? = some o) (ho : o.isCells = false) : All w0 (W.putObj D o') L :=
  H.ownF hB hC (grownBy_putObj' W D o') fun r e => by cases e; exact ⟨hD, o, h, ho⟩
theorem cells_rest {w0' : World} (H : All w0' w (M ++ L)) {M' : List F2} (hM : Cells w.heap.size M') : Cells w.heap.size (frz w L :: M') := cells_low (fun k ⟨f, hf, hk⟩ => (H.mem f (List.mem_append_right _ hf)).lt k hk) hM
end
end Go.Proofs.Ythhgcjlgnafdcaa.Hd
end
section
namespace Go.Proofs.Ythhgcjlgnafdcaa.Hd
set_option linter.unusedVariables false
set_option linter.unusedSimpArgs false
open Go Go.RowKit Go.Proofs.YthhgcjlgnafdcaaW.PrintWords Go.Proofs.YthhgcjlgnafdcaaW.PrintLast
def SeqY {α : Type} (n : Nat) (P : Program) (gf : Nat) (lb : Array Value) (encs : α → Array Value) (Kp : World → World → Prop) (Y : List α → α → World → Prop) (S Sp : List α → Prop) (w : World) : Prop :=
  ∀ (l : Nat) (J Jx : List α → World → Prop) (W : World), Below w.heap.size w W → AbidesFrom W.heap.size J → AbidesFrom W.heap.size Jx →
    (∀ pre x W1, J pre W1 → Y pre x W1 → YieldAt Fence.wide (n - 1) P l (encs x) W1 fun e W' => (e = .returned (.bool true) ∧ J (pre ++ [x]) W' ∧ Kp W1 W') ∨ (e = .returned (.bool false) ∧ Jx (pre ++ [x]) W')) →
    J [] W → CallsIn Fence.wide n P gf (#[.func (.yield l) #[] #[]] ++ lb) W fun e W' => (∃ v, e = .returned v) ∧ ((∃ xs, S xs ∧ J xs W') ∨ (∃ pre, Sp pre ∧ Jx pre W'))
theorem SeqY.of {α : Type} {n N : Nat} {P : Program} {gf : Nat} {lb : Array Value} {encs : α → Array Value} {Kp : World → World → Prop} {S Sp : List α → Prop} {w : World} (h : SeqStopsK Fence.wide n P gf lb encs Kp S Sp N w) :
    SeqY n P gf lb encs Kp (fun pre _ _ => pre.length < N) S Sp w := fun l J Jx W hW hJ hJx hY h0 => h l J Jx W hW hJ hJx (fun pre x W1 hj hl => hY pre x W1 hj hl) h0
def recL (fn : FuncId) (a : Act) (ps : Array Tmp) (assign body : Code) (D : Nat) (st : LoopState) (pe : Option Code) : Obj := .loop { state := st, pending := pe, fn := fn, tmps := a.tmps, params := ps, assign := assign, body := body, defers := D }
inductive Leaves : Exit → Code → Prop
  | ret : Leaves .ret .ret
  | exit (id : Nat) : Leaves (.exit id) (.exit id)
section
variable {P : Program} {w0 w : World} {L : List F2}
theorem rangeY {α β : Type} {n : Nat} {g : Operand} {ps : Array Tmp} {assign body : Code} {Q : Exit → Act → World → Prop} {a : Act} (h1 : 1 ≤ n) {gf : Nat} {lb : Array Value} (hg : a.eval g = .func (.func gf) #[] lb) (eg : ∀ args w, (callFunc gf args).run P w = .ok (.enter gf args) w)
    {encs : α → Array Value} {Y : List α → α → World → Prop} {S Sp : List α → Prop} {f1 f2 : F2} (hps : ∀ x, (encs x).size = ps.size)
    (M : List α → β → List F2) (MX : Code → List α → β → List F2) (hC : ∀ s p, Cells w.heap.size (f1 :: f2 :: M s p)) (hCX : ∀ c s p, Cells w.heap.size (f1 :: f2 :: MX c s p)) (p0 : β) (H0 : All w0 w (f1 :: f2 :: M [] p0))
    (hseq : SeqY (n - 1) P gf lb encs (fun W W' => ∀ k, (f1.1 k ∨ f2.1 k) → W'.heap[k]? = W.heap[k]?) Y S Sp w) (B : α → World → World) (hB : ∀ (x : α) (W : World), W.grownBy (B x W) none) (a₁ : α → World → Act)
    (hassign : ∀ (l : Nat) (x : α) (W : World) (K : Act → World → Prop), K (a₁ x W) (B x W) →
      assign.wpIn (Fence.wide.inRound l) (n - 1 - 1) P (Exit.then K (fun _ _ _ => False)) { tmps := (ps.zip (encs x)).foldl (fun t (p, v) => t.setIfInBounds p v) a.tmps, defers := [] } W)
    (hbody : ∀ (l : Nat) (pre : List α) (p : β) (x : α) (W W1 : World), All w0 W (f1 :: f2 :: M pre p) → Y pre x W → (B x W).grownBy W1 (some l) → w.heap.size ≤ l → (∃ o : Obj, (B x W).heap[l]? = some o ∧ o.isCells = false) →
      body.wpIn (Fence.wide.inRound l) (n - 1 - 1) P (fun e _ W2 => (∀ (k : Nat) (o : Obj), w.heap.size ≤ k → W1.heap[k]? = some o → o.isCells = false → W2.heap[k]? = some o) ∧ ((e = .normal ∧ (∀ k, (f1.1 k ∨ f2.1 k) → W2.heap[k]? = W1.heap[k]?) ∧ ∃ p', All w0 W2 (f1 :: f2 :: M (pre ++ [x]) p')) ∨ ∃ c, Leaves e c ∧ ∃ p', All w0 W2 (f1 :: f2 :: MX c (pre ++ [x]) p'))) (a₁ x W) W1)
    (hdone : ∀ (D : Nat) (xs : List α) (p : β) (W : World), w.heap.size ≤ D → S xs → All w0 W (f1 :: f2 :: M xs p) → W.heap[D]? = some (.deferred (some [])) → Q .normal { a with defers := { target := .collected D, args := #[] } :: a.defers } W)
    (hstop : ∀ (D : Nat) (c : Code) (xs : List α) (p : β) (W : World), w.heap.size ≤ D → Sp xs → All w0 W (f1 :: f2 :: MX c xs p) → W.heap[D]? = some (.deferred (some [])) → c.wpIn Fence.wide n P Q { a with defers := { target := .collected D, args := #[] } :: a.defers } W) :
    (Code.rangeFunc g ps assign body).wpIn Fence.wide n P Q a w := by
  have hz := H0.old.size
  have hkeep : ∀ k, (f1.1 k ∨ f2.1 k) → k < w.heap.size := fun k hk => hk.elim ((H0.mem f1 List.mem_cons_self).lt k) ((H0.mem f2 (List.mem_cons_of_mem _ List.mem_cons_self)).lt k)
  refine wpIn_rangeFunc fun fn hfn => ?_
  have hm0 : (w.alloc (.deferred (some []))).heap[w.heap.size]? = some (.deferred (some [])) := World.alloc_heap_new w _
  have hw1 : ((w.alloc (.deferred (some []))).alloc (recL fn a ps assign body w.heap.size .ready none)).heap[w.heap.size]? = some (.deferred (some [])) := (Below.heap_alloc _ _ _ (by simp)).trans hm0
  have hw2 : ((w.alloc (.deferred (some []))).alloc (recL fn a ps assign body w.heap.size .ready none)).heap[w.heap.size + 1]? = some (recL fn a ps assign body w.heap.size .ready none) := by
    have h := World.alloc_heap_new (w.alloc (.deferred (some []))) (recL fn a ps assign body w.heap.size .ready none)
    rwa [World.size_alloc] at h
  have HS : All w0 ((w.alloc (.deferred (some []))).alloc (recL fn a ps assign body w.heap.size .ready none)) (f1 :: f2 :: M [] p0) := (H0.any _).any _
  have hbl : Below w.heap.size w ((w.alloc (.deferred (some []))).alloc (recL fn a ps assign body w.heap.size .ready none)) := below_alloc (below_alloc (Below.refl _ _) _) _
  have hgw : w.heap.size < ((w.alloc (.deferred (some []))).alloc (recL fn a ps assign body w.heap.size .ready none)).heap.size := by simp; omega
  refine ⟨w.heap.size + 1, [{ target := .collected w.heap.size, args := #[] }], (w.alloc (.deferred (some []))).alloc (recL fn a ps assign body w.heap.size .ready none), { target := .fn (.func gf) lb, args := #[.func (.yield (w.heap.size + 1)) #[] #[]] }, (w.alloc (.deferred (some []))).alloc (recL fn a ps assign body w.heap.size .ready none), gf, #[.func (.yield (w.heap.size + 1)) #[] #[]] ++ lb, (w.alloc (.deferred (some []))).alloc (recL fn a ps assign body w.heap.size .ready none), run_enterLoop_outer _ _ _ _ _, ?_, fun f' _ => trivial, by simp [invoke, go_sem, eg], fun _ => h1, ?_⟩
  · simp only [resolve, rangeCall, hg]
    simp [go_sem]
  change CallsIn Fence.wide (n - 1) P gf _ ((w.alloc (.deferred (some []))).alloc (recL fn a ps assign body w.heap.size .ready none)) _
  generalize (w.alloc (.deferred (some []))).alloc (recL fn a ps assign body w.heap.size .ready none) = w1 at *
  have stay : ∀ {A C : World} {row : Option Nat} {k : Nat} {o : Obj}, A.grownBy C row → (∀ r, row = some r → w1.heap.size ≤ r ∧ ∃ o : Obj, A.heap[r]? = some o ∧ o.isWalk = true) → A.heap[k]? = some o → o.isWalk = false → C.heap[k]? = some o := fun hgr hr hk ho => (grownBy_keeps hgr (fun r e => (hr r e).2) hk ho).trans hk
  have own : ∀ {A C : World} {row : Option Nat} {LL : List F2}, All w0 A LL → Cells w.heap.size LL → A.grownBy C row → (∀ r, row = some r → w1.heap.size ≤ r ∧ ∃ o : Obj, A.heap[r]? = some o ∧ o.isWalk = true) → All w0 C LL := fun h hc hgr hr => h.ownF hz hc hgr fun r e => by
    obtain ⟨h2, o, h3, h4⟩ := hr r e
    exact ⟨by omega, o, h3, Obj.not_cells_of_walk h4⟩
  refine (hseq (w.heap.size + 1)
    (fun pre W => (∃ p, All w0 W (f1 :: f2 :: M pre p)) ∧ W.heap[w.heap.size + 1]? = some (recL fn a ps assign body w.heap.size .ready none) ∧ W.heap[w.heap.size]? = some (.deferred (some [])))
    (fun pre W => ∃ c, (∃ p, All w0 W (f1 :: f2 :: MX c pre p)) ∧ W.heap[w.heap.size + 1]? = some (recL fn a ps assign body w.heap.size .done (some c)) ∧ W.heap[w.heap.size]? = some (.deferred (some [])))
    w1 hbl (fun s A C row ⟨⟨p, h⟩, h2, h3⟩ hgr hr => ⟨⟨p, own h (hC s p) hgr hr⟩, stay hgr hr h2 rfl, stay hgr hr h3 rfl⟩)
    (fun s A C row ⟨c, ⟨p, h⟩, h2, h3⟩ hgr hr => ⟨c, ⟨p, own h (hCX c s p) hgr hr⟩, stay hgr hr h2 rfl, stay hgr hr h3 rfl⟩) ?_ ⟨⟨p0, HS⟩, hw2, hw1⟩).mono ?_
  · rintro pre x W ⟨⟨p, hI⟩, hl, hk⟩ hYx
    have hy := run_yield (P := P) (args := encs x) hl (hps x)
    have hl1 : (B x W).heap[w.heap.size + 1]? = some (recL fn a ps assign body w.heap.size .ready none) := ((hB x W).block _ (Array.getElem?_eq_some_iff.1 hl).1 (by simp)).trans hl
    have hk1 : (B x W).heap[w.heap.size]? = some (.deferred (some [])) := ((hB x W).block _ (Array.getElem?_eq_some_iff.1 hk).1 (by simp)).trans hk
    have hlt : w.heap.size + 1 < (B x W).heap.size := (Array.getElem?_eq_some_iff.1 hl1).1
    refine ⟨fn, _, assign, body, hy, roundIn_of_wpIn hfn (hassign _ x W _ ⟨_, run_beginRound hl1 rfl, ?_⟩)⟩
    have hl2 : ((B x W).putObj (w.heap.size + 1) (recL fn a ps assign body w.heap.size .busy none)).heap[w.heap.size + 1]? = some (recL fn a ps assign body w.heap.size .busy none) := World.putObj_heap_same hlt
    have hk2 : ((B x W).putObj (w.heap.size + 1) (recL fn a ps assign body w.heap.size .busy none)).heap[w.heap.size]? = some (.deferred (some [])) := (World.putObj_heap_other (by omega)).trans hk1
    have hsame : ∀ k, (f1.1 k ∨ f2.1 k) → ((B x W).putObj (w.heap.size + 1) (recL fn a ps assign body w.heap.size .busy none)).heap[k]? = W.heap[k]? := fun k hq => by
      have h2 := hkeep k hq
      rw [World.putObj_heap_other (by omega)]
      exact (hB x W).block k (Nat.lt_of_lt_of_le (hkeep k hq) (by have := (Array.getElem?_eq_some_iff.1 hk).1; omega)) (by simp)
    have hb := hbody (w.heap.size + 1) pre p x W _ hI hYx (grownBy_putObj' (B x W) (w.heap.size + 1) (recL fn a ps assign body w.heap.size .busy none)) (by omega) ⟨_, hl1, rfl⟩
    change Code.wpIn _ _ _ _ _ _ ((B x W).putObj (w.heap.size + 1) (recL fn a ps assign body w.heap.size .busy none))
    generalize (B x W).putObj (w.heap.size + 1) (recL fn a ps assign body w.heap.size .busy none) = W1 at *
    refine wpIn_mono hb ?_
    rintro e a3 W3 ⟨hko, hrest⟩
    have hl3 := hko _ _ (by omega) hl2 rfl
    have hk3 := hko _ _ (Nat.le_refl _) hk2 rfl
    have hn3 : w.heap.size + 1 < W3.heap.size := (Array.getElem?_eq_some_iff.1 hl3).1
    rcases hrest with ⟨rfl, hkp, p', H3⟩ | ⟨c, hlv, p', H3⟩
    · refine ⟨_, _, run_endRound none hl3, .inl ⟨rfl, ⟨⟨p', H3.putF hz (hC _ _) (by omega) hl3 rfl⟩, World.putObj_heap_same hn3, (World.putObj_heap_other (by omega)).trans hk3⟩, fun k hq => ?_⟩⟩
      have h2 := hkeep k hq
      rw [World.putObj_heap_other (by omega)]
      exact (hkp k hq).trans (hsame k hq)
    · cases hlv with
      | ret => exact ⟨_, _, run_endRound (some .ret) hl3, .inr ⟨rfl, .ret, ⟨p', H3.putF hz (hCX _ _ _) (by omega) hl3 rfl⟩, World.putObj_heap_same hn3, (World.putObj_heap_other (by omega)).trans hk3⟩⟩
      | exit id => exact ⟨_, _, run_endRound (some (.exit id)) hl3, .inr ⟨rfl, .exit id, ⟨p', H3.putF hz (hCX _ _ _) (by omega) hl3 rfl⟩, World.putObj_heap_same hn3, (World.putObj_heap_other (by omega)).trans hk3⟩⟩
  · rintro e W2 ⟨⟨v, rfl⟩, ⟨xs, hS, ⟨p, hI⟩, hl, hk⟩ | ⟨xs, hS, c, ⟨p, hI⟩, hl, hk⟩⟩
    · exact ⟨none, _, run_endLoop hl (by simp), hdone w.heap.size xs p _ (Nat.le_refl _) hS (hI.putF hz (hC _ _) (by omega) hl rfl) ((World.putObj_heap_other (by omega)).trans hk)⟩
    · exact ⟨some c, _, run_endLoop hl (by simp), hstop w.heap.size c xs p _ (Nat.le_refl _) hS (hI.putF hz (hCX _ _ _) (by omega) hl rfl) ((World.putObj_heap_other (by omega)).trans hk)⟩
theorem rangeB {α β : Type} {n : Nat} {g : Operand} {ps : Array Tmp} {assign body : Code} {Q : Exit → Act → World → Prop} {a : Act} (h1 : 1 ≤ n) {gf : Nat} {lb : Array Value} (hg : a.eval g = .func (.func gf) #[] lb) (eg : ∀ args w, (callFunc gf args).run P w = .ok (.enter gf args) w)
    {encs : α → Array Value} {Y : List α → α → World → Prop} {S Sp : List α → Prop} {f1 f2 : F2} (hps : ∀ x, (encs x).size = ps.size)
    (M : List α → β → List F2) (MX : Code → List α → β → List F2) (hC : ∀ s p, Cells w.heap.size (f1 :: f2 :: M s p)) (hCX : ∀ c s p, Cells w.heap.size (f1 :: f2 :: MX c s p)) (p0 : β) (H0 : All w0 w (f1 :: f2 :: M [] p0))
    (hseq : SeqY (n - 1) P gf lb encs (fun W W' => ∀ k, (f1.1 k ∨ f2.1 k) → W'.heap[k]? = W.heap[k]?) Y S Sp w) (t : TypeId) (cs : α → Array Value) (a₁ : α → Nat → Act)
    (hassign : ∀ (l : Nat) (x : α) (W : World) (K : Act → World → Prop), K (a₁ x W.heap.size) (W.alloc (.cells (cs x) t (0, 0))) →
      assign.wpIn (Fence.wide.inRound l) (n - 1 - 1) P (Exit.then K (fun _ _ _ => False)) { tmps := (ps.zip (encs x)).foldl (fun t (p, v) => t.setIfInBounds p v) a.tmps, defers := [] } W)
    (hYs : ∀ pre x W W' row, Y pre x W → W.grownBy W' row → (∀ r, row = some r → w.heap.size ≤ r ∧ ∃ o : Obj, W.heap[r]? = some o ∧ o.isCells = false) → Y pre x W')
    (hbody : ∀ (l : Nat) (pre : List α) (p : β) (x : α) (W : World) (b : Nat), All w0 W (othF w.heap.size W :: same W f1 :: same W f2 :: bx b t (cs x) :: M pre p) → Y pre x W → w0.heap.size ≤ b →
      body.wpIn (Fence.wide.inRound l) (n - 1 - 1) P (fun e _ W' => W.heap.size ≤ W'.heap.size ∧ ((e = .normal ∧ ∃ p', All w0 W' (othF w.heap.size W :: same W f1 :: same W f2 :: M (pre ++ [x]) p')) ∨ ∃ c, Leaves e c ∧ ∃ p', All w0 W' (othF w.heap.size W :: same W f1 :: same W f2 :: MX c (pre ++ [x]) p'))) (a₁ x b) W)
    (hdone : ∀ (D : Nat) (xs : List α) (p : β) (W : World), w.heap.size ≤ D → S xs → All w0 W (f1 :: f2 :: M xs p) → W.heap[D]? = some (.deferred (some [])) → Q .normal { a with defers := { target := .collected D, args := #[] } :: a.defers } W)
    (hstop : ∀ (D : Nat) (c : Code) (xs : List α) (p : β) (W : World), w.heap.size ≤ D → Sp xs → All w0 W (f1 :: f2 :: MX c xs p) → W.heap[D]? = some (.deferred (some [])) → c.wpIn Fence.wide n P Q { a with defers := { target := .collected D, args := #[] } :: a.defers } W) :
    (Code.rangeFunc g ps assign body).wpIn Fence.wide n P Q a w := by
  refine rangeY (M := M) h1 hg eg hps MX hC hCX p0 H0 hseq (fun x W => W.alloc (.cells (cs x) t (0, 0))) (fun x W => World.grownBy_alloc W _ none) (fun x W => a₁ x W.heap.size) hassign ?_ hdone hstop
  rintro l pre p x W W1 hI hYx hgr hl ⟨o, ho1, ho2⟩
  have hCb : Cells w.heap.size (bx W.heap.size t (cs x) :: f1 :: f2 :: M pre p) := cells_bx (hC pre p)
  have hr : ∀ r, some l = some r → w.heap.size ≤ r ∧ ∃ o : Obj, (W.alloc (.cells (cs x) t (0, 0))).heap[r]? = some o ∧ o.isCells = false := fun r e => by cases e; exact ⟨hl, o, ho1, ho2⟩
  have H1 : All w0 W1 (f1 :: f2 :: bx W.heap.size t (cs x) :: M pre p) := (((hI.box W.heap.size t (cs x) rfl).ownF H0.old.size hCb hgr hr).front 2 rfl).front 2 rfl
  have hY1 : Y pre x W1 := hYs pre x _ _ _ (hYs pre x W _ none hYx (World.grownBy_alloc W _ none) (fun r e => by cases e)) hgr hr
  have hC2 : Cells w.heap.size (same W1 f1 :: same W1 f2 :: bx W.heap.size t (cs x) :: M pre p) := fun f hf => by
    rcases List.mem_cons.1 hf with rfl | hf
    · intro W2 k h hk hB
      exact hC pre p f1 List.mem_cons_self W2 k h.1 hk hB
    rcases List.mem_cons.1 hf with rfl | hf
    · intro W2 k h hk hB
      exact hC pre p f2 (List.mem_cons_of_mem _ List.mem_cons_self) W2 k h.1 hk hB
    rcases List.mem_cons.1 hf with rfl | hf
    · exact hCb _ List.mem_cons_self
    · exact hC pre p f (List.mem_cons_of_mem _ (List.mem_cons_of_mem _ hf))
  refine wpIn_mono (hbody l pre p x W1 W.heap.size (((H1.same 0 rfl).same 1 rfl).othF hC2) hY1 hI.old.size) ?_
  rintro e a3 W3 ⟨hs, ⟨rfl, p', H3⟩ | ⟨c, hlv, p', H3⟩⟩
  · refine ⟨H3.at 0 rfl, .inl ⟨rfl, fun k hk => ?_, p', (H3.tail.unsame 0 rfl).unsame 1 rfl⟩⟩
    rcases hk with hk | hk
    · exact (H3.at 1 (ok := f1.1) (T := (same W1 f1).2) rfl).2 k hk
    · exact (H3.at 2 (ok := f2.1) (T := (same W1 f2).2) rfl).2 k hk
  · exact ⟨H3.at 0 rfl, .inr ⟨c, hlv, p', (H3.tail.unsame 0 rfl).unsame 1 rfl⟩⟩
end
end Go.Proofs.Ythhgcjlgnafdcaa.Hd
end
