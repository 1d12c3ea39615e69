/- Texts of this seat, put together (Zh3). -/
import Derived.Below
import Derived.WalkKit
import Derived.Tactics
import Derived.Laws.Rows
import Derived.Laws.Tables
import Derived.Test.YthhgcjlgnafdcaaZh0
import Derived.Test.YthhgcjlgnafdcaaZh1
import Derived.Test.YthhgcjlgnafdcaaZh2
section
namespace Go.Proofs.Ythhgcjlgnafdcaa.Hd
set_option linter.unusedVariables false
set_option linter.unusedSimpArgs false
open Go Go.RowKit Go.Proofs.YthhgcjlgnafdcaaW.PrintWords Go.Proofs.YthhgcjlgnafdcaaW.PrintLast
structure Held (w : World) (ok : Nat → Prop) (T : World → Prop) : Prop where
  lt : ∀ k, ok k → k < w.heap.size
  on : ∀ W : World, (∀ k, ok k → W.heap[k]? = w.heap[k]?) → T W
def In (lo hi k : Nat) : Prop := lo ≤ k ∧ k < hi
def Is (b k : Nat) : Prop := k = b
def Ob (v : Value) (k : Nat) : Prop := v.ownBlock = some k
def Box (b : Nat) (t : TypeId) (cs : Array Value) (W : World) : Prop := W.heap[b]? = some (.cells cs t (0, 0))
def Ow (lo : Nat) (e : TypeId) (size : Nat) (v : Value) (n : Nat) (cs : List Value) (W : World) : Prop := W.ownsRow lo e size v n cs
abbrev F2 := (Nat → Prop) × (World → Prop)
abbrev bx (b : Nat) (t : TypeId) (cs : Array Value) : F2 := (Is b, Box b t cs)
abbrev ow (lo : Nat) (e : TypeId) (size : Nat) (v : Value) (n : Nat) (cs : List Value) : F2 := (Ob v, Ow lo e size v n cs)
structure All (w0 w : World) (L : List F2) : Prop where
  old : Below w0.heap.size w0 w
  mem : ∀ f ∈ L, Held w f.1 f.2
  dis : L.Pairwise fun f g => ∀ k, f.1 k → g.1 k → k < w0.heap.size
section
variable {P : Program} {w0 w w' : World} {ok ok' : Nat → Prop} {T T' : World → Prop} {b t lo hi i n size e bytes : Nat} {cs : Array Value} {v : Value} {xs : List Value} {L L' : List F2}
theorem Held.now (h : Held w ok T) : T w := h.on w fun _ _ => rfl
theorem Held.step (h : Held w ok T) (hm : ∀ k, ok k → w'.heap[k]? = w.heap[k]?) (hs : w.heap.size ≤ w'.heap.size) : Held w' ok T :=
  ⟨fun k hk => Nat.lt_of_lt_of_le (h.lt k hk) hs, fun W hW => h.on W fun k hk => (hW k hk).trans (hm k hk)⟩
theorem Held.grow (h : Held w ok T) (hb : Below w.heap.size w w') : Held w' ok T := h.step (fun k hk => hb.block k (h.lt k hk)) hb.size
theorem Held.imp (h : Held w ok T) (hT : ∀ W, T W → T' W) : Held w ok T' := ⟨h.lt, fun W hW => hT W (h.on W hW)⟩
theorem Held.wide (h : Held w ok T) (hok : ∀ k, ok k → ok' k) (hlt : ∀ k, ok' k → k < w.heap.size) : Held w ok' T := ⟨hlt, fun W hW => h.on W fun k hk => hW k (hok k hk)⟩
theorem Held.arg (h : Held w ok T) : Held w (In 0 w.heap.size) T := h.wide (fun k hk => ⟨Nat.zero_le _, h.lt k hk⟩) fun k hk => hk.2
theorem Held.out (h : Held w ok T) (hlo : ∀ k, ok k → lo ≤ k) : Held w (In lo w.heap.size) T := h.wide (fun k hk => ⟨hlo k hk, h.lt k hk⟩) fun k hk => hk.2
theorem Held.both (h : Held w ok T) (h' : Held w ok T') : Held w ok fun W => T W ∧ T' W := ⟨h.lt, fun W hW => ⟨h.on W hW, h'.on W hW⟩⟩
theorem Held.both' (h : Held w ok T) (h' : Held w ok' T') : Held w (fun k => ok k ∨ ok' k) fun W => T W ∧ T' W := ⟨(fun k hk => hk.elim (h.lt k) (h'.lt k)), fun W hW => ⟨h.on W fun k hk => hW k (.inl hk), h'.on W fun k hk => hW k (.inr hk)⟩⟩
theorem Held.pure {p : Prop} (h : p) : Held w (fun _ => False) fun _ => p := ⟨(fun _ h => h.elim), fun _ _ => h⟩
theorem held_box (h : Box b t cs w) : Held w (Is b) (Box b t cs) := ⟨fun k hk => by rw [show k = b from hk]; exact blk_lt h, fun W hW => (hW b rfl).trans h⟩
theorem held_own (h : w.ownsRow lo e size v n xs) : Held w (Ob v) (Ow lo e size v n xs) := ⟨fun k hk => own_lt h k hk, fun W hW => own_move h fun k hk => hW k hk⟩
theorem ob_nil {k : Nat} (h : Ob (.slice none 0 0) k) : False := by simp [Ob, Value.ownBlock] at h
theorem held_nil (w : World) (lo : Nat) (e : TypeId) (size : Nat) : Held w (Ob (.slice none 0 0)) (Ow lo e size (.slice none 0 0) 0 []) := held_own (own_nil w lo e size)
theorem Ow.base (h : Ow lo e size v n xs w) : ∀ k, Ob v k → lo ≤ k := fun k hk => own_base h k hk
theorem Ow.from (h : Ow lo e size v n xs w) {lo' : Nat} (h2 : lo' ≤ lo) : ∀ k, Ob v k → lo' ≤ k := fun k hk => Nat.le_trans h2 (own_base h k hk)
theorem All.nil (h : Below w0.heap.size w0 w) : All w0 w [] := ⟨h, (fun _ hf => by cases hf), .nil⟩
theorem All.start (w : World) : All w w [] := All.nil (Below.refl _ _)
theorem All.get (H : All w0 w L) (i : Nat) (hi : L[i]? = some (ok, T)) : Held w ok T := H.mem (ok, T) (List.mem_of_getElem? hi)
theorem All.at (H : All w0 w L) (i : Nat) (hi : L[i]? = some (ok, T)) : T w := (H.get i hi).now
theorem All.grow (H : All w0 w L) (hb : Below w.heap.size w w') : All w0 w' L := ⟨below_step H.old hb, (fun f hf => (H.mem f hf).grow hb), H.dis⟩
theorem All.put (H : All w0 w L) (h : Held w ok T) (hd : ∀ g ∈ L, ∀ k, ok k → g.1 k → k < w0.heap.size) : All w0 w ((ok, T) :: L) := ⟨H.old, fun f hf => by
  rcases List.mem_cons.1 hf with rfl | hf
  · exact h
  · exact H.mem f hf, List.pairwise_cons.2 ⟨hd, H.dis⟩⟩
theorem All.arg (H : All w w L) (h : Held w ok T) : All w w ((ok, T) :: L) := H.put h fun _ _ k hk _ => h.lt k hk
theorem All.new (H : All w0 w L) (hb : Below w.heap.size w w') (h : Held w' ok T) (hl : ∀ k, ok k → w.heap.size ≤ k) : All w0 w' ((ok, T) :: L) :=
  (H.grow hb).put h fun g hg k hk hgk => absurd ((H.mem g hg).lt k hgk) (by have := hl k hk; omega)
theorem All.row (H : All w0 w L) (lo : Nat) (e : TypeId) (size : Nat) : All w0 w (ow lo e size (.slice none 0 0) 0 [] :: L) := H.put (held_nil w lo e size) fun _ _ k hk _ => (ob_nil hk).elim
theorem All.tail {f : F2} (H : All w0 w (f :: L)) : All w0 w L := ⟨H.old, (fun g hg => H.mem g (List.mem_cons_of_mem _ hg)), (List.pairwise_cons.1 H.dis).2⟩
theorem All.sub (H : All w0 w L) (h : L'.Sublist L) : All w0 w L' := ⟨H.old, (fun g hg => H.mem g (h.mem hg)), H.dis.sublist h⟩
theorem All.perm (H : All w0 w L) (h : L.Perm L') : All w0 w L' := ⟨H.old, (fun g hg => H.mem g (h.mem_iff.2 hg)), (h.pairwise_iff fun hfg k h1 h2 => hfg k h2 h1).1 H.dis⟩
theorem All.swap {f g : F2} (H : All w0 w (f :: g :: L)) : All w0 w (g :: f :: L) := H.perm (.swap g f L)
theorem All.drop (H : All w0 w L) (n : Nat) : All w0 w (L.drop n) := H.sub (List.drop_sublist n L)
theorem All.cut (H : All w0 w L) (n : Nat) : All w0 w (L.eraseIdx n) := H.sub (List.eraseIdx_sublist L n)
theorem All.drew (H : All w0 w L) : All w0 w.drew L := ⟨H.old.drew, (fun f hf => (H.mem f hf).step (fun _ _ => rfl) (Nat.le_refl _)), H.dis⟩
theorem All.drewN (H : All w0 w L) (n : Nat) : All w0 (w.drewN n) L := ⟨pw_below_drewN H.old n, (fun f hf => (H.mem f hf).step (fun _ _ => rfl) (Nat.le_refl _)), H.dis⟩
theorem All.any (H : All w0 w L) (o : Obj) : All w0 (w.alloc o) L := H.grow (below_alloc (Below.refl _ _) _)
theorem All.box (H : All w0 w L) (b : Nat) (t : TypeId) (cs : Array Value) (hb : w.heap.size = b := by simp) : All w0 (w.alloc (.cells cs t (0, 0))) (bx b t cs :: L) :=
  H.new (below_alloc (Below.refl _ _) _) (held_box (by subst hb; exact blk_new _ _)) fun k hk => by rw [hb, show k = b from hk]; exact Nat.le_refl _
theorem pairwise_set {R : F2 → F2 → Prop} (hs : ∀ f g, R f g → R g f) (hp : L.Pairwise R) {f : F2} (h : ∀ k g, L[k]? = some g → k ≠ i → R f g) : (L.set i f).Pairwise R := by
  rw [List.pairwise_iff_getElem] at hp ⊢
  intro a b ha hb hab
  rw [List.length_set] at ha hb
  rw [List.getElem_set, List.getElem_set]
  split <;> split
  · omega
  · exact h b _ (List.getElem?_eq_getElem hb) (by omega)
  · exact hs _ _ (h a _ (List.getElem?_eq_getElem ha) (by omega))
  · exact hp a b ha hb hab
theorem dis_at (H : All w0 w L) (hi : L[i]? = some (ok, T)) {k : Nat} {g : F2} (hk : L[k]? = some g) (hne : k ≠ i) : ∀ q, ok q → g.1 q → q < w0.heap.size := by
  have hkl := (List.getElem?_eq_some_iff.1 hk).1
  have hil := (List.getElem?_eq_some_iff.1 hi).1
  have ek := (List.getElem?_eq_some_iff.1 hk).2
  have ei := (List.getElem?_eq_some_iff.1 hi).2
  intro q h1 h2
  rcases Nat.lt_or_ge k i with h | h
  · have := List.pairwise_iff_getElem.1 H.dis k i hkl hil h q
    rw [ek, ei] at this
    exact this h2 h1
  · have := List.pairwise_iff_getElem.1 H.dis i k hil hkl (by omega) q
    rw [ek, ei] at this
    exact this h1 h2
theorem All.wr (H : All w0 w L) (i : Nat) (hi : L[i]? = some (ok, T)) (hm : ∀ k, k < w.heap.size → ¬ ok k → w'.heap[k]? = w.heap[k]?) (hs : w.heap.size ≤ w'.heap.size)
    (hold : Below w0.heap.size w0 w') (hn : Held w' ok' T') (hw : ∀ k, ok k → w0.heap.size ≤ k) (hok : ∀ k, ok' k → ok k ∨ w.heap.size ≤ k) : All w0 w' (L.set i (ok', T')) := by
  have hlen : i < L.length := (List.getElem?_eq_some_iff.1 hi).1
  refine ⟨hold, fun f hf => ?_, pairwise_set (fun f g h k h1 h2 => h k h2 h1) H.dis (fun k g hk hne q h1 h2 => ?_)⟩
  · obtain ⟨k, hk⟩ := List.getElem?_of_mem hf
    by_cases e : k = i
    · subst e
      rw [List.getElem?_set_self hlen] at hk
      cases hk
      exact hn
    · rw [List.getElem?_set_ne (Ne.symm e)] at hk
      have hf := H.mem f (List.mem_of_getElem? hk)
      exact hf.step (fun q hq => hm q (hf.lt q hq) fun hc => absurd (dis_at H hi hk e q hc hq) (by have := hw q hc; omega)) hs
  · rcases hok q h1 with h | h
    · exact dis_at H hi hk hne q h h2
    · exact absurd ((H.mem g (List.mem_of_getElem? hk)).lt q h2) (by omega)
theorem All.turn (H : All w0 w L) (i : Nat) (hi : L[i]? = some (ok, T)) (hn : Held w ok T') : All w0 w (L.set i (ok, T')) := by
  refine ⟨H.old, fun f hf => ?_, pairwise_set (fun f g h k h1 h2 => h k h2 h1) H.dis (fun k g hk hne q h1 h2 => dis_at H hi hk hne q h1 h2)⟩
  rcases List.mem_or_eq_of_mem_set hf with h | rfl
  · exact H.mem f h
  · exact hn
theorem All.set (H : All w0 w L) (i : Nat) (hi : L[i]? = some (bx b t cs)) (j : Nat) (v : Value) (hb : w0.heap.size ≤ b := by first | (simp; done) | omega) :
    All w0 (w.setCell ⟨b, j, none⟩ v) (L.set i (bx b t (cs.setIfInBounds j v))) :=
  H.wr i hi (fun k _ hk => Below.heap_setCell _ _ _ _ hk) (by simp [World.setCell]) (below_set H.old hb) (held_box (blk_set (H.at i hi) j v)) (fun k hk => by rw [show k = b from hk]; exact hb) fun k hk => .inl hk
theorem heap_setRow (w : World) (b k : Nat) (cs : Array Value) (h : k ≠ b) : (w.setRow b cs).heap[k]? = w.heap[k]? := by
  unfold World.setRow
  simp [Array.getElem?_modify, Ne.symm h]
theorem All.full (H : All w0 w L) (i : Nat) (hi : L[i]? = some (bx b t cs)) (cs' : Array Value) (hb : w0.heap.size ≤ b) : All w0 (w.setRow b cs') (L.set i (bx b t cs')) :=
  H.wr i hi (fun k _ hk => heap_setRow w b k cs' hk) (by simp)
    ⟨H.old.os, H.old.tape, H.old.output, by have := H.old.size; simpa using this, fun k hk => (heap_setRow w b k cs' (by omega)).trans (H.old.block k hk)⟩
    (held_box (setRow_heap w b cs cs' t (0, 0) (H.at i hi))) (fun k hk => by rw [show k = b from hk]; exact hb) fun k hk => .inl hk
theorem set_same {f : F2} (h : L[i]? = some f) : L.set i f = L := by
  refine List.ext_getElem? fun k => ?_
  rw [List.getElem?_set]
  split
  · rename_i e
    subst e
    rw [h, if_pos (List.getElem?_eq_some_iff.1 h).1]
  · rfl
theorem All.own (H : All w0 w L) (i : Nat) (hi : L[i]? = some (ow lo e size v n xs)) {v1 : Value} {n1 : Nat} {xs1 : List Value} (hg : w.grownBy w' v.ownBlock) (ho : w'.ownsRow lo e size v1 n1 xs1)
    (hat : v1.ownBlock = v.ownBlock ∨ ∃ b, v1.ownBlock = some b ∧ w.heap.size ≤ b) (hb : w0.heap.size ≤ lo) : All w0 w' (L.set i (ow lo e size v1 n1 xs1)) :=
  have hO := H.at i hi
  H.wr i hi (fun k hk h => hg.block k hk fun e_ => h e_.symm) hg.size
    (H.old.trans ⟨hg.os, hg.tape, hg.output, hg.size, fun k hk => hg.block k (Nat.lt_of_lt_of_le hk H.old.size) (fun e_ => by have h1 := own_base hO k e_.symm; omega)⟩) (held_own ho)
    (fun k hk => Nat.le_trans hb (own_base hO k hk)) fun k hk => by
      rcases hat with h | ⟨b, h, h2⟩
      · exact .inl (h.symm.trans hk)
      · right
        have : some b = some k := h.symm.trans hk
        cases this
        exact h2
theorem All.rd (H : All w0 w L) (i : Nat) (hi : L[i]? = some (bx b t cs)) (j : Nat) : w.cell? ⟨b, j, none⟩ = cs[j]? := blk_cell (H.at i hi) j
theorem All.fz (H : All w0 w L) (i : Nat) (hi : L[i]? = some (bx b t cs)) (j : Nat) : w.frozen? ⟨b, j, none⟩ = false := blk_frozen (H.at i hi) j
theorem All.ret (H : All w0 w L) (i : Nat) (hi : L[i]? = some (bx b t cs)) {fn : Func} {p : Tmp} {a : Act} {d : TypeDesc} {R : Ending → World → Prop} (h : fn.results = #[.cell p t]) (hp : a.tmps.getD p undef = .pointer (some ⟨b, 0, none⟩))
    (hu : P.underlying t = some d) (hd : (match d with | .struct _ | .array _ _ => true | _ => false) = true) (hs : (P.info? t).map (·.size) = some cs.size) (ha : a.defers = []) (hR : R (.returned (.agg cs)) w) : bodyPost P fn R .ret a w :=
  bodyPost_ret (results_cell_row h _ _ b t cs (0, 0) d hp (H.at i hi) hu hd hs) ha hR
theorem All.ret2 (H : All w0 w L) (i : Nat) (hi : L[i]? = some (bx b t cs)) {fn : Func} {p q : Tmp} {a : Act} {d : TypeDesc} {u : Value} {R : Ending → World → Prop} (h : fn.results = #[.cell p t, .tmp q]) (hp : a.tmps.getD p undef = .pointer (some ⟨b, 0, none⟩)) (hq : a.tmps.getD q undef = u)
    (hu : P.underlying t = some d) (hd : (match d with | .struct _ | .array _ _ => true | _ => false) = true) (hs : (P.info? t).map (·.size) = some cs.size) (ha : a.defers = []) (hR : R (.returned (.tuple #[.agg cs, u])) w) : bodyPost P fn R .ret a w := by
  refine bodyPost_ret (v := .tuple #[.agg cs, u]) ?_ ha hR
  have hp' : a.tmps[p]?.getD undef = .pointer (some ⟨b, 0, none⟩) := by simpa using hp
  have hq' : a.tmps[q]?.getD undef = u := by simpa using hq
  simp [results, h, hp', hq', asAddr, run_loadVar_row w b t t cs (0, 0) d (H.at i hi) hu hd hs]
def Gives (P : Program) (f : FuncId) (args : Array Value) (w : World) (T : Value → World → Prop) : Prop :=
  Calls P f args w fun e w' => ∃ v, e = .returned v ∧ Below w.heap.size w w' ∧ Held w' (In w.heap.size w'.heap.size) (T v)
def Tells (P : Program) (f : FuncId) (args : Array Value) (w : World) (v : Value) : Prop := Calls P f args w fun e w' => e = .returned v ∧ Below w.heap.size w w'
variable {f : FuncId} {args : Array Value} {T1 : Value → World → Prop} {R : Ending → World → Prop}
theorem Gives.on (h : Gives P f args w T1) (H : All w0 w L) (k : ∀ v w', All w0 w' ((In w.heap.size w'.heap.size, T1 v) :: L) → w0.heap.size ≤ w.heap.size → R (.returned v) w') : Calls P f args w R :=
  h.mono fun e w' ⟨v, he, hb, hT⟩ => he ▸ k v w' (H.new hb hT fun k hk => hk.1) H.old.size
theorem Tells.on {v : Value} (h : Tells P f args w v) (H : All w0 w L) (k : ∀ w', All w0 w' L → R (.returned v) w') : Calls P f args w R :=
  h.mono fun e w' ⟨he, hb⟩ => he ▸ k w' (H.grow hb)
theorem app_ {W : World} {ops : Array Oper} {rest : List Oper} {o : Oper} {a : Act} {Q : Exit → Act → World → Prop} {xs : List Value} (ys : List Value) (H : All w0 W L) (i : Nat) (hi : L[i]? = some (ow lo e size v n xs))
    (hb : w0.heap.size ≤ lo) (hbase : lo ≤ W.heap.size) (hl : (n + 1) * bytes ≤ 140737488355328) (s x : Operand) (t : TypeId) (z : Value) (hinfo : (P.info? e).map (fun i => (i.zero, i.size, i.bytes)) = some (some z, size, bytes)) (ht : P.underlying t = some (.slice e))
    (hgd : o.guard = none) (ho : o.op = .call { callee := .builtin .append, args := #[s, x], argTypes := #[t, t] })
    (hz : z.cells.size = size) (hs0 : 0 < size) (hb0 : 0 < bytes)
    (hs : a.eval s = v) (hx : a.eval x = .slice (some ⟨W.heap.size, 0, none⟩) 1 1) (hys : ys.length = size) (h1 : ∀ u ∈ ys, u.oneCell' = true)
    (h : ∀ A1 c1 w1, All w0 w1 (L.set i (ow lo e size (.slice A1 (n + 1) c1) (n + 1) (xs ++ ys))) → W.heap.size ≤ w1.heap.size → wpList P ops Q rest (a.put o.dst (.slice A1 (n + 1) c1)) w1) :
    wpList P ops Q (o :: rest) a (W.alloc (.cells ys.toArray e)) :=
  print_append_cells (w0 := W) (W := W) lo hgd s x t e z size bytes ho ht hinfo hz hs0 hb0 v n xs ys hs hx hys h1 (H.at i hi) (Below.refl _ _) hbase hl
    fun v1 w1 hown hB hg hat => by
      obtain ⟨A1, c1, rfl⟩ := own_slice hown
      exact h A1 c1 w1 (H.own i hi hg hown hat hb) hg.size
end
section
variable {w0 w : World} {lo e n c : Nat} {ok : Nat → Prop} {k : IntKind} {v : Value} {xs : List Int} {A : Option Addr} {ad : Addr} {p : Int}
theorem Ow.reads (h : Ow lo e 1 (.slice A n c) n (nums k xs) w) : xs.length = n ∧ n ≤ c ∧ Kd.C (Kd.int k) w A n xs := by
  have hl : xs.length = n := by have := h.1; simpa [nums] using this
  subst hl
  obtain ⟨A', c', hv, hR⟩ := own_reads h
  injection hv with h1 h2 h3
  subst h1
  exact ⟨rfl, own_le h, Kd.C_of_reads (readsInt_of.1 hR)⟩
theorem cs_at (h : Kd.C (Kd.int k) w (some ad) n xs) (i : Nat) (hi : i < n) (hp : xs.getD i 0 = p) : w.cell? (ad.add i) = some (.int k p) := by
  obtain ⟨ad', e, r⟩ := Kd.at_int h (i : Int) (by omega) (by omega)
  injection e with e
  subst e
  rw [Int.toNat_natCast] at r
  rw [r, ← hp]
  unfold rd
  rw [Int.toNat_natCast]
theorem All.store {L : List F2} (H : All w0 w L) (i : Nat) {g : Nat} (hi : L[i]? = some (ow lo e 1 (.slice (some ⟨g, 0, none⟩) n c) n (nums k xs))) (j : Nat) (y : Int) (hb : w0.heap.size ≤ lo) :
    All w0 (w.setCell ⟨g, j, none⟩ (.int k y)) (L.set i (ow lo e 1 (.slice (some ⟨g, 0, none⟩) n c) n (nums k (xs.set j y)))) := by
  have h := own_store (H.at i hi) (j : Int) y
  rw [Int.toNat_natCast] at h
  exact H.own i hi h.2 h.1 (.inl rfl) hb
theorem All.lit {L : List F2} (H : All w0 w L) (k : IntKind) (b : Nat) (xs : List Int) (e : TypeId) (hb : w.heap.size = b := by simp) (hx : xs.length ≤ 9223372036854775807 := by simp) :
    All w0 (w.alloc (.cells (nums k xs).toArray e)) ((Is b, fun W => Kd.C (Kd.int k) W (some ⟨b, 0, none⟩) xs.length xs) :: L) := by
  subst hb
  refine H.new (below_alloc (Below.refl _ _) _) (((held_own (own_lit w w.heap.size e k xs (Nat.le_refl _) hx)).imp fun W hW => (Ow.reads hW).2.2).wide (fun k hk => ?_) fun k hk => ?_) fun k hk => by rw [show k = _ from hk]; exact Nat.le_refl _
  · have : some w.heap.size = some k := hk
    cases this
    rfl
  · rw [show k = _ from hk]
    simp
theorem flat_len {S : Type} {sz : Nat} (enc : S → List Value) (hl : ∀ x, (enc x).length = sz) : ∀ xs : List S, (xs.flatMap enc).length = xs.length * sz
  | [] => by simp
  | x :: xs => by rw [List.flatMap_cons, List.length_append, hl, flat_len enc hl xs, List.length_cons, Nat.add_mul]; omega
theorem flat_get {S : Type} {sz : Nat} (enc : S → List Value) (hl : ∀ x, (enc x).length = sz) : ∀ (xs : List S) (j i : Nat) (p : S), xs[j]? = some p → i < sz → (xs.flatMap enc)[j * sz + i]? = (enc p)[i]?
  | [], j, i, p, h, _ => by simp at h
  | x :: xs, 0, i, p, h, hi => by
    obtain rfl : x = p := by simpa using h
    rw [List.flatMap_cons, Nat.zero_mul, Nat.zero_add, List.getElem?_append_left (by rw [hl]; exact hi)]
  | x :: xs, j + 1, i, p, h, hi => by
    rw [List.flatMap_cons, List.getElem?_append_right (by rw [hl, Nat.add_mul]; omega), hl, show (j + 1) * sz + i - sz = j * sz + i by rw [Nat.add_mul]; omega]
    exact flat_get enc hl xs j i p (by simpa using h) hi
theorem ow_C {S : Type} (d : Kd S) (enc : S → List Value) (hK : ∀ w x, d.K w x (enc x)) (h0 : 0 < d.sz) {xs : List S} {w : World} {v : Value} (h : Ow lo e d.sz v n (xs.flatMap enc) w) : ∃ A c, v = .slice A n c ∧ xs.length = n ∧ n ≤ c ∧ Kd.C d w A n xs := by
  have hlen : ∀ x, (enc x).length = d.sz := fun x => d.K_len (hK w x)
  have hf := flat_len enc hlen xs
  obtain ⟨h1, h2⟩ := h
  have hn : xs.length = n := by rw [hf] at h1; exact Nat.eq_of_mul_eq_mul_right h0 h1
  rcases h2 with ⟨rfl, rfl⟩ | ⟨g, cap, cur, rfl, hg, hb, hc, hm, hs, ht⟩
  · obtain rfl : xs = [] := List.eq_nil_of_length_eq_zero hn
    exact ⟨none, 0, rfl, rfl, Nat.le_refl _, Kd.C_nil _ _⟩
  · refine ⟨_, _, rfl, hn, hc, hn, by unfold maxLen at hm; omega, fun _ => ⟨_, rfl, fun j p hj => ⟨enc p, hlen p, hK w p, fun i u hi => ?_⟩⟩⟩
    have hil : i < d.sz := by rw [← hlen p]; exact (List.getElem?_eq_some_iff.1 hi).1
    have hjl : j < n := by rw [← hn]; exact (List.getElem?_eq_some_iff.1 hj).1
    have h3 := flat_get enc hlen xs j i p hj hil
    have h4 : j * d.sz + i < n * d.sz := by
      have : (j + 1) * d.sz ≤ n * d.sz := Nat.mul_le_mul_right _ hjl
      rw [Nat.add_mul] at this
      omega
    have ea : (⟨g, 0, none⟩ : Addr).add (j * d.sz + i) = ⟨g, j * d.sz + i, none⟩ := by unfold Addr.add; split <;> simp_all
    rw [ea]
    rw [hi, ← ht, List.getElem?_take_of_lt h4] at h3
    simpa [World.cell?, hb] using h3
end
inductive St where
  | p (i : Nat)
  | t (i : Nat)
  | c (i : Nat)
  | l (i : Nat)
inductive Pl where
  | leaf (l : List St)
  | fork (l : List St) (i j : Nat) (a b : Pl)
  | fork3 (l : List St) (i j k : Nat) (a b c : Pl)
def Pl.len : Pl → Nat
  | .leaf l => l.length
  | .fork l _ _ a _ => l.length + (a.len + 1)
  | .fork3 l _ _ _ a _ _ => l.length + (a.len + 1)
def planL (ds : List Nat) (T : Bool × List (List Nat × List Nat)) : List Bool → List St → Option (List Bool)
  | l, [] => some l
  | l, .p i :: r => if anyT T l (l.set i true) i = true then planL ds T (l.set i true) r else none
  | l, .t i :: r => if takeT T ds l (l.set i true) i = true then planL ds T (l.set i true) r else none
  | l, .c i :: r => if (readyT T.2 l == [i] && !ds.contains i) = true then planL ds T (l.set i true) r else none
  | l, .l i :: r => if (readyT T.2 l == [i] && ds.contains i) = true then planL ds T (l.set i true) r else none
def planB (ds : List Nat) (T : Bool × List (List Nat × List Nat)) : List Bool → Pl → Bool
  | l, .leaf s => match planL ds T l s with
    | some m => readyT T.2 m == []
    | none => false
  | l, .fork s i j a b => match planL ds T l s with
    | some m => (readyT T.2 m == [i, j]) && (a.len == b.len) && !ds.contains i && !ds.contains j && planB ds T (m.set i true) a && planB ds T (m.set j true) b
    | none => false
  | l, .fork3 s i j k a b c => match planL ds T l s with
    | some m => (readyT T.2 m == [i, j, k]) && (a.len == b.len) && (a.len == c.len) && !ds.contains i && !ds.contains j && !ds.contains k && planB ds T (m.set i true) a && planB ds T (m.set j true) b && planB ds T (m.set k true) c
    | none => false
def wpPl (P : Program) (ops : Array Oper) (Q : Exit → Act → World → Prop) (S : World → Prop) (k : Act → World → Prop) : List St → Act → World → Prop
  | [], a, w => k a w
  | .p i :: r, a, w => ∃ o v, ops[i]? = some o ∧ Yields P ops o v a ∧ wpPl P ops Q S k r (a.put o.dst v) w
  | .t i :: r, a, w => ∃ o v, ops[i]? = some o ∧ YieldsIf P ops S o v a ∧ S w ∧ wpPl P ops Q S k r (a.put o.dst v) w
  | .c i :: r, a, w => ∃ o, ops[i]? = some o ∧ ∀ K : Act → World → Prop, Shut (∀ a' w', S w' → wpPl P ops Q S k r a' w' → K a' w') → if Region.wanted o (yielded ops a.tmps) = true then Oper.wp P o a w K Q else K (a.put o.dst undef) w
  | .l i :: r, a, w => ∃ o, ops[i]? = some o ∧ ∀ K : Act → World → Prop, Shut (∀ a' w', wpPl P ops Q S k r a' w' → K a' w') → if Region.wanted o (yielded ops a.tmps) = true then Oper.wp P o a w K Q else K (a.put o.dst undef) w
def wpT (P : Program) (ops : Array Oper) (Q : Exit → Act → World → Prop) (S : World → Prop) : Pl → Act → World → Prop
  | .leaf l => wpPl P ops Q S (Q .normal) l
  | .fork l i j a b => wpPl P ops Q S (fun x w => wpPl P ops Q S (wpT P ops Q S a) [.c i] x w ∧ wpPl P ops Q S (wpT P ops Q S b) [.c j] x w) l
  | .fork3 l i j k a b c => wpPl P ops Q S (fun x w => wpPl P ops Q S (wpT P ops Q S a) [.c i] x w ∧ wpPl P ops Q S (wpT P ops Q S b) [.c j] x w ∧ wpPl P ops Q S (wpT P ops Q S c) [.c k] x w) l
section
variable {P : Program} {ops : Array Oper} {Q : Exit → Act → World → Prop} {S : World → Prop} {T : Bool × List (List Nat × List Nat)} {k : Act → World → Prop}
theorem wpPl_any {ds : List Nat} (hT : rtab .any ops = T) (hQ : ∀ c a w d v, Q (.panic c) (Act.put a d v) w → Q (.panic c) a w) {m : List Bool} {n : Nat} (hk : ∀ (l : Array Bool) a w, l.toList = m → k a w → wpAnyLast P .any ops Q S ds n l a w) :
    ∀ (pl : List St) (l : Array Bool) (a : Act) (w : World), planL ds T l.toList pl = some m → wpPl P ops Q S k pl a w → wpAnyLast P .any ops Q S ds (pl.length + n) l a w
  | [], l, a, w, hc, h => by
    rw [List.length_nil, Nat.zero_add]
    exact hk l a w (Option.some.inj hc) h
  | .p i :: r, l, a, w, hc, ⟨o, v, ho, hy, h⟩ => by
    rw [planL] at hc
    split at hc
    · rename_i hc1
      rw [List.length_cons, Nat.add_right_comm]
      exact pure_ (l.setIfInBounds i true) ho rfl (any_of hT (by rw [Array.toList_setIfInBounds]; exact hc1)) (fun c a w => hQ c a w _ _) hy rfl (wpPl_any hT hQ hk r _ _ _ (by rw [Array.toList_setIfInBounds]; exact hc) h)
    · cases hc
  | .t i :: r, l, a, w, hc, ⟨o, v, ho, hy, hS, h⟩ => by
    rw [planL] at hc
    split at hc
    · rename_i hc1
      rw [List.length_cons, Nat.add_right_comm]
      exact take_ (l.setIfInBounds i true) ho rfl (take_of hT (by rw [Array.toList_setIfInBounds]; exact hc1)) (fun c a w => hQ c a w _ _) hy hS rfl (wpPl_any hT hQ hk r _ _ _ (by rw [Array.toList_setIfInBounds]; exact hc) h)
    · cases hc
  | .c i :: r, l, a, w, hc, ⟨o, ho, h⟩ => by
    rw [planL] at hc
    split at hc
    · rename_i hc1
      rw [List.length_cons, Nat.add_right_comm]
      rw [Bool.and_eq_true] at hc1
      refine one_ (l.setIfInBounds i true) ho rfl (one_of hT (by rw [Array.toList_setIfInBounds]; simp [hc1.1])) (by simpa using hc1.2) fun K hK => h K (fun a' w' hS hp => hK.out a' w' hS fun _ => wpPl_any hT hQ hk r _ _ _ (by rw [Array.toList_setIfInBounds]; exact hc) hp)
    · cases hc
  | .l i :: r, l, a, w, hc, ⟨o, ho, h⟩ => by
    rw [planL] at hc
    split at hc
    · rename_i hc1
      rw [List.length_cons, Nat.add_right_comm]
      rw [Bool.and_eq_true] at hc1
      refine last_ (l.setIfInBounds i true) ho rfl (one_of hT (by rw [Array.toList_setIfInBounds]; simp [hc1.1])) (by simpa using hc1.2) fun K hK => h K (fun a' w' hp => hK.out a' w' (wpPl_any hT hQ hk r _ _ _ (by rw [Array.toList_setIfInBounds]; exact hc) hp))
    · cases hc
theorem wpT_any {ds : List Nat} (hT : rtab .any ops = T) (hQ : ∀ c a w d v, Q (.panic c) (Act.put a d v) w → Q (.panic c) a w) : ∀ (pl : Pl) (l : Array Bool) (a : Act) (w : World),
    planB ds T l.toList pl = true → wpT P ops Q S pl a w → wpAnyLast P .any ops Q S ds pl.len l a w
  | .leaf s, l, a, w, hc, h => by
    rw [planB] at hc
    split at hc
    · rename_i m hm
      exact wpPl_any (n := 0) hT hQ (fun l a w hl hk => done_ (done_of hT (by rw [hl]; exact hc)) hk) s l a w hm h
    · cases hc
  | .fork s i j A B, l, a, w, hc, h => by
    rw [planB] at hc
    split at hc
    · rename_i m hm
      simp only [Bool.and_eq_true, beq_iff_eq] at hc
      obtain ⟨⟨⟨⟨⟨h1, h2⟩, d1⟩, d2⟩, h3⟩, h4⟩ := hc
      refine wpPl_any (n := A.len + 1) hT hQ (fun l a w hl hk => ?_) s l a w hm h
      obtain ⟨⟨oi, hoi, hi⟩, ⟨oj, hoj, hj⟩⟩ := hk
      refine two_ (l.setIfInBounds i true) (l.setIfInBounds j true) hoi hoj rfl rfl (two_of hT (by rw [hl, Array.toList_setIfInBounds, Array.toList_setIfInBounds, hl]; simp [h1])) (by simpa using d1) (by simpa using d2)
        (fun K hK => hi K (fun a' w' hS hp => hK.out a' w' hS fun _ => wpT_any hT hQ A _ _ _ (by rw [Array.toList_setIfInBounds, hl]; exact h3) hp))
        (fun K hK => hj K (fun a' w' hS hp => hK.out a' w' hS fun _ => by rw [h2]; exact wpT_any hT hQ B _ _ _ (by rw [Array.toList_setIfInBounds, hl]; exact h4) hp))
    · cases hc
  | .fork3 s i j k A B C, l, a, w, hc, h => by
    rw [planB] at hc
    split at hc
    · rename_i m hm
      simp only [Bool.and_eq_true, beq_iff_eq] at hc
      obtain ⟨⟨⟨⟨⟨⟨⟨⟨h1, h2⟩, h2'⟩, d1⟩, d2⟩, d3⟩, h3⟩, h4⟩, h5⟩ := hc
      refine wpPl_any (n := A.len + 1) hT hQ (fun l a w hl hk => ?_) s l a w hm h
      obtain ⟨⟨oi, hoi, hi⟩, ⟨oj, hoj, hj⟩, ⟨ok, hok, hk⟩⟩ := hk
      refine three_ (l.setIfInBounds i true) (l.setIfInBounds j true) (l.setIfInBounds k true) hoi hoj hok rfl rfl rfl (three_of hT (by rw [hl, Array.toList_setIfInBounds, Array.toList_setIfInBounds, Array.toList_setIfInBounds, hl]; simp [h1])) (by simpa using d1) (by simpa using d2) (by simpa using d3)
        (fun K hK => hi K (fun a' w' hS hp => hK.out a' w' hS fun _ => wpT_any hT hQ A _ _ _ (by rw [Array.toList_setIfInBounds, hl]; exact h3) hp))
        (fun K hK => hj K (fun a' w' hS hp => hK.out a' w' hS fun _ => by rw [h2]; exact wpT_any hT hQ B _ _ _ (by rw [Array.toList_setIfInBounds, hl]; exact h4) hp))
        (fun K hK => hk K (fun a' w' hS hp => hK.out a' w' hS fun _ => by rw [h2']; exact wpT_any hT hQ C _ _ _ (by rw [Array.toList_setIfInBounds, hl]; exact h5) hp))
    · cases hc
variable {w0 w : World} {L L' : List F2} {a a' : Act} {r : List St} {i : Nat} {o : Oper} {N : Option Tmp} {v : Value}
theorem planTD_ {id n : Nat} (ds : List Nat) (T : Bool × List (List Nat × List Nat)) (pl : Pl) (H : All w0 w L) (hm : P.follows .mixedOrders = true) (hT : rtab .any ops = T) (hn : ops.size = n) (hl : pl.len = n) (hc : planB ds T (List.replicate n false) pl = true)
    (hQ : ∀ c a w d v, Q (.panic c) (Act.put a d v) w → Q (.panic c) a w)
    (h : ∀ w1, All w0 w1 L → wpT P ops Q (fun W => All w0 W L) pl a w1) : (Code.region id ops true).wp P Q a w := by
  refine start_ (S := fun W => All w0 W L) (ds := ds) (Array.replicate n false) hm hn rfl H.drew fun hS => ?_
  rw [← hl]
  exact wpT_any hT hQ pl _ _ _ (by rw [Array.toList_replicate, hl]; exact hc) (h _ hS)
theorem planT_ {id n : Nat} (T : Bool × List (List Nat × List Nat)) (pl : Pl) (H : All w0 w L) (hm : P.follows .mixedOrders = true) (hT : rtab .any ops = T) (hn : ops.size = n) (hl : pl.len = n) (hc : planB [] T (List.replicate n false) pl = true)
    (hQ : ∀ c a w d v, Q (.panic c) (Act.put a d v) w → Q (.panic c) a w)
    (h : ∀ w1, All w0 w1 L → wpT P ops Q (fun W => All w0 W L) pl a w1) : (Code.region id ops true).wp P Q a w := planTD_ [] T pl H hm hT hn hl hc hQ h
theorem planD_ {id n : Nat} (ds : List Nat) (T : Bool × List (List Nat × List Nat)) (pl : List St) (H : All w0 w L) (hm : P.follows .mixedOrders = true) (hT : rtab .any ops = T) (hn : ops.size = n) (hl : pl.length = n) (hc : planB ds T (List.replicate n false) (.leaf pl) = true)
    (hQ : ∀ c a w d v, Q (.panic c) (Act.put a d v) w → Q (.panic c) a w)
    (h : ∀ w1, All w0 w1 L → wpPl P ops Q (fun W => All w0 W L) (Q .normal) pl a w1) : (Code.region id ops true).wp P Q a w :=
  planTD_ ds T (.leaf pl) H hm hT hn hl hc hQ h
theorem plan_ {id n : Nat} (T : Bool × List (List Nat × List Nat)) (pl : List St) (H : All w0 w L) (hm : P.follows .mixedOrders = true) (hT : rtab .any ops = T) (hn : ops.size = n) (hl : pl.length = n) (hc : planB [] T (List.replicate n false) (.leaf pl) = true)
    (hQ : ∀ c a w d v, Q (.panic c) (Act.put a d v) w → Q (.panic c) a w)
    (h : ∀ w1, All w0 w1 L → wpPl P ops Q (fun W => All w0 W L) (Q .normal) pl a w1) : (Code.region id ops true).wp P Q a w :=
  planTD_ [] T (.leaf pl) H hm hT hn hl hc hQ h
theorem pl_fork {l : List St} {j : Nat} {A B : Pl} (h : wpPl P ops Q S (fun x w => wpPl P ops Q S (wpT P ops Q S A) [.c i] x w ∧ wpPl P ops Q S (wpT P ops Q S B) [.c j] x w) l a w) : wpT P ops Q S (.fork l i j A B) a w := h
theorem pl_leaf {l : List St} (h : wpPl P ops Q S (Q .normal) l a w) : wpT P ops Q S (.leaf l) a w := h
theorem pl_p (hi : ops[i]? = some o) (hN : o.dst = N) (hw : Region.wanted o (yielded ops a.tmps) = true) (hy : ∀ w, (execOp a.eval o).run P w = .ok (.value v) w) (ha : a.put N v = a') (h : wpPl P ops Q S k r a' w) : wpPl P ops Q S k (.p i :: r) a w := by
  subst hN; subst ha
  exact ⟨o, v, hi, .inl ⟨hw, hy⟩, h⟩
theorem pl_P {v : Value} {a' : Act} {d : Tmp} {op : Op} {ty : TypeId} {ps : String} {af : Array Edge} {gd : Option (Nat × Bool)} (hi : ops[i]? = some ⟨some d, op, ty, ps, af, gd⟩ := by simp only [List.getElem?_toArray, List.getElem?_cons_succ, List.getElem?_cons_zero]; rfl) (hw : Region.wanted ⟨some d, op, ty, ps, af, gd⟩ (yielded ops a.tmps) = true := by rfl) (hy : ∀ w, (execOp a.eval ⟨some d, op, ty, ps, af, gd⟩).run P w = .ok (.value v) w := by intro w'; first | (go_simp; with_reducible rfl) | (go_simp; done))
    (ha : a.put (some d) v = a' := by simp only [Act.put, List.setIfInBounds_toArray, List.set_cons_zero, List.set_cons_succ, i64_w, i32_w]; rfl) (h : wpPl P ops Q S k r a' w) : wpPl P ops Q S k (.p i :: r) a w := pl_p hi rfl hw hy ha h
theorem pl_skip (hi : ops[i]? = some o) (hN : o.dst = N) (hw : Region.wanted o (yielded ops a.tmps) = false) (ha : a.put N undef = a') (h : wpPl P ops Q S k r a' w) : wpPl P ops Q S k (.p i :: r) a w := by
  subst hN; subst ha
  exact ⟨o, undef, hi, .inr ⟨hw, rfl⟩, h⟩
theorem pl_t (H : All w0 w L') (hs : ∀ W, All w0 W L' → S W) (hi : ops[i]? = some o) (hN : o.dst = N) (hw : Region.wanted o (yielded ops a.tmps) = true) (hy : ∀ w, S w → (execOp a.eval o).run P w = .ok (.value v) w) (ha : a.put N v = a') (h : wpPl P ops Q S k r a' w) : wpPl P ops Q S k (.t i :: r) a w := by
  subst hN; subst ha
  exact ⟨o, v, hi, .inl ⟨hw, hy⟩, hs _ H, h⟩
theorem pl_call {f : FuncId} {fn : Func} {as : Array Operand} {ts : Array TypeId} (hf : P.funcs[f]? = some fn) (hname : (fn.name == "runtime.NumGoroutine") = false) (hb : fn.body.isSome = true) (args : Array Value)
    (hi : ops[i]? = some o) (hN : o.dst = N) (hw : Region.wanted o (yielded ops a.tmps) = true) (hop : o.op = .call { callee := .value (.func f), args := as, argTypes := ts }) (hargs : as.map a.eval = args)
    (h : Calls P f args w fun e w' => ∃ v, e = .returned v ∧ S w' ∧ wpPl P ops Q S k r (a.put N v) w') : wpPl P ops Q S k (.c i :: r) a w := by
  subst hN
  exact ⟨o, hi, fun K hK => goes_ hf hname hb args hw rfl hop hargs (h.mono fun e w' ⟨v, he, hS, hp⟩ => ⟨v, he, hK.out _ _ hS hp⟩)⟩
theorem pl_callL {f : FuncId} {fn : Func} {as : Array Operand} {ts : Array TypeId} {d : Tmp} {ty : TypeId} {ps : String} {af : Array Edge} {gd : Option (Nat × Bool)} (hf : P.funcs[f]? = some fn) (args : Array Value)
    (h : Calls P f args w fun e w' => ∃ v, e = .returned v ∧ wpPl P ops Q S k r (a.put (some d) v) w')
    (hi : ops[i]? = some ⟨some d, .call { callee := .value (.func f), args := as, argTypes := ts }, ty, ps, af, gd⟩ := by simp only [List.getElem?_toArray, List.getElem?_cons_succ, List.getElem?_cons_zero]; rfl) (hw : Region.wanted ⟨some d, .call { callee := .value (.func f), args := as, argTypes := ts }, ty, ps, af, gd⟩ (yielded ops a.tmps) = true := by rfl)
    (hargs : as.map a.eval = args := by first | (simp only [List.map_toArray, List.map_cons, List.map_nil]; done) | (simp only [List.map_toArray, List.map_cons, List.map_nil]; rfl) | rfl)
    (hname : (fn.name == "runtime.NumGoroutine") = false := by kernel_rfl) (hb : fn.body.isSome = true := by rfl) : wpPl P ops Q S k (.l i :: r) a w :=
  ⟨_, hi, fun K hK => goes_ hf hname hb args hw rfl rfl hargs (h.mono fun e w' ⟨v, he, hp⟩ => ⟨v, he, hK.out _ _ hp⟩)⟩
theorem pl_tells {f : FuncId} {fn : Func} {as : Array Operand} {ts : Array TypeId} {args : Array Value} (hc : Tells P f args w v) (H : All w0 w L') (hs : ∀ W, All w0 W L' → S W)
    (hf : P.funcs[f]? = some fn) (hname : (fn.name == "runtime.NumGoroutine") = false) (hb : fn.body.isSome = true)
    (hi : ops[i]? = some o) (hN : o.dst = N) (hw : Region.wanted o (yielded ops a.tmps) = true) (hop : o.op = .call { callee := .value (.func f), args := as, argTypes := ts }) (hargs : as.map a.eval = args)
    (h : ∀ w', All w0 w' L' → wpPl P ops Q S k r (a.put N v) w') : wpPl P ops Q S k (.c i :: r) a w :=
  pl_call hf hname hb args hi hN hw hop hargs (hc.on H fun w' H' => ⟨v, rfl, hs _ H', h w' H'⟩)
theorem pl_L {a' : Act} {d : Tmp} {b : Nat} {t : TypeId} {cs : Array Value} {op : Op} {ty : TypeId} {ps : String} {af : Array Edge} {gd : Option (Nat × Bool)} (q j : Nat) (H : All w0 w L') (hk : L[q]? = some (bx b t cs)) (hi : ops[i]? = some ⟨some d, op, ty, ps, af, gd⟩ := by simp only [List.getElem?_toArray, List.getElem?_cons_succ, List.getElem?_cons_zero]; rfl) (hw : Region.wanted ⟨some d, op, ty, ps, af, gd⟩ (yielded ops a.tmps) = true := by rfl) (hv : cs[j]? = some v := by simp only [List.getElem?_toArray, List.getElem?_cons_zero, List.getElem?_cons_succ]; rfl)
    (hs : ∀ W, All w0 W L' → All w0 W L := by first | exact fun _ h => h | exact fun _ h => h.tail | exact fun _ h => h.tail.tail | exact fun _ h => h.drop 3 | exact fun _ h => h.drop 4 | exact fun _ h => h.drop 5)
    (hy : ∀ w, w.cell? ⟨b, j, none⟩ = some v → (execOp a.eval ⟨some d, op, ty, ps, af, gd⟩).run P w = .ok (.value v) w := by intro w' r; first | (go_simp; done) | (go_simp; with_reducible rfl))
    (ha : a.put (some d) v = a' := by simp only [Act.put, List.setIfInBounds_toArray, List.set_cons_zero, List.set_cons_succ, i64_w, i32_w]; rfl) (h : wpPl P ops Q (fun W => All w0 W L) k r a' w) : wpPl P ops Q (fun W => All w0 W L) k (.t i :: r) a w :=
  pl_t H hs hi rfl hw (fun W hW => hy W ((hW.rd q hk j).trans hv)) ha h
theorem pl_kP {a' : Act} {d : Tmp} {op : Op} {ty : TypeId} {ps : String} {af : Array Edge} {gd : Option (Nat × Bool)} (hi : ops[i]? = some ⟨some d, op, ty, ps, af, gd⟩ := by simp only [List.getElem?_toArray, List.getElem?_cons_succ, List.getElem?_cons_zero]; rfl) (hw : Region.wanted ⟨some d, op, ty, ps, af, gd⟩ (yielded ops a.tmps) = false := by rfl) (ha : a.put (some d) undef = a' := by simp only [Act.put, List.setIfInBounds_toArray, List.set_cons_zero, List.set_cons_succ, i64_w, i32_w]; rfl) (h : wpPl P ops Q S k r a' w) : wpPl P ops Q S k (.p i :: r) a w := pl_skip hi rfl hw ha h
theorem pl_kT {a' : Act} {d : Tmp} {op : Op} {ty : TypeId} {ps : String} {af : Array Edge} {gd : Option (Nat × Bool)} (H : All w0 w L') (hi : ops[i]? = some ⟨some d, op, ty, ps, af, gd⟩ := by simp only [List.getElem?_toArray, List.getElem?_cons_succ, List.getElem?_cons_zero]; rfl) (hw : Region.wanted ⟨some d, op, ty, ps, af, gd⟩ (yielded ops a.tmps) = false := by rfl) (hs : ∀ W, All w0 W L' → All w0 W L := by first | exact fun _ h => h | exact fun _ h => h.tail | exact fun _ h => h.tail.tail | exact fun _ h => h.drop 3 | exact fun _ h => h.drop 4 | exact fun _ h => h.drop 5) (ha : a.put (some d) undef = a' := by simp only [Act.put, List.setIfInBounds_toArray, List.set_cons_zero, List.set_cons_succ, i64_w, i32_w]; rfl) (h : wpPl P ops Q (fun W => All w0 W L) k r a' w) : wpPl P ops Q (fun W => All w0 W L) k (.t i :: r) a w := by
  subst ha
  exact ⟨_, undef, hi, .inr ⟨hw, rfl⟩, hs _ H, h⟩
theorem pl_B {a' : Act} {d : Tmp} {b : Nat} {t : TypeId} {cs : Array Value} {op : Op} {ty : TypeId} {ps : String} {af : Array Edge} {gd : Option (Nat × Bool)} (q : Nat) (H : All w0 w L') (hk : L[q]? = some (bx b t cs)) (hi : ops[i]? = some ⟨some d, op, ty, ps, af, gd⟩ := by simp only [List.getElem?_toArray, List.getElem?_cons_succ, List.getElem?_cons_zero]; rfl) (hw : Region.wanted ⟨some d, op, ty, ps, af, gd⟩ (yielded ops a.tmps) = true := by rfl)
    (hs : ∀ W, All w0 W L' → All w0 W L := by first | exact fun _ h => h | exact fun _ h => h.tail | exact fun _ h => h.tail.tail | exact fun _ h => h.drop 3 | exact fun _ h => h.drop 4 | exact fun _ h => h.drop 5)
    (hy : ∀ w, (∀ j, w.cell? ⟨b, j, none⟩ = cs[j]?) → (execOp a.eval ⟨some d, op, ty, ps, af, gd⟩).run P w = .ok (.value v) w := by intro w' r; first | (go_simp; with_reducible rfl) | (go_simp; done))
    (ha : a.put (some d) v = a' := by simp only [Act.put, List.setIfInBounds_toArray, List.set_cons_zero, List.set_cons_succ, i64_w, i32_w]; rfl) (h : wpPl P ops Q (fun W => All w0 W L) k r a' w) : wpPl P ops Q (fun W => All w0 W L) k (.t i :: r) a w :=
  pl_t H hs hi rfl hw (fun W hW => hy W (hW.rd q hk)) ha h
theorem pl_C {a' : Act} {d : Tmp} {p : Addr} {op : Op} {ty : TypeId} {ps : String} {af : Array Edge} {gd : Option (Nat × Bool)} (H : All w0 w L') (hc : ∀ W, All w0 W L → W.cell? p = some v) (hi : ops[i]? = some ⟨some d, op, ty, ps, af, gd⟩ := by simp only [List.getElem?_toArray, List.getElem?_cons_succ, List.getElem?_cons_zero]; rfl) (hw : Region.wanted ⟨some d, op, ty, ps, af, gd⟩ (yielded ops a.tmps) = true := by rfl)
    (hs : ∀ W, All w0 W L' → All w0 W L := by first | exact fun _ h => h | exact fun _ h => h.tail | exact fun _ h => h.tail.tail | exact fun _ h => h.drop 3 | exact fun _ h => h.drop 4 | exact fun _ h => h.drop 5)
    (hy : ∀ w, w.cell? p = some v → (execOp a.eval ⟨some d, op, ty, ps, af, gd⟩).run P w = .ok (.value v) w := by intro w' r; first | (go_simp; done) | (go_simp; with_reducible rfl))
    (ha : a.put (some d) v = a' := by simp only [Act.put, List.setIfInBounds_toArray, List.set_cons_zero, List.set_cons_succ, i64_w, i32_w]; rfl) (h : wpPl P ops Q (fun W => All w0 W L) k r a' w) : wpPl P ops Q (fun W => All w0 W L) k (.t i :: r) a w :=
  pl_t H hs hi rfl hw (fun W hW => hy W (hc W hW)) ha h
theorem pl_S {f : FuncId} {fn : Func} {as : Array Operand} {ts : Array TypeId} {args : Array Value} {d : Tmp} {ty : TypeId} {ps : String} {af : Array Edge} {gd : Option (Nat × Bool)} (hc : Tells P f args w v) (H : All w0 w L') (hf : P.funcs[f]? = some fn)
    (hi : ops[i]? = some ⟨some d, .call { callee := .value (.func f), args := as, argTypes := ts }, ty, ps, af, gd⟩ := by simp only [List.getElem?_toArray, List.getElem?_cons_succ, List.getElem?_cons_zero]; rfl) (hw : Region.wanted ⟨some d, .call { callee := .value (.func f), args := as, argTypes := ts }, ty, ps, af, gd⟩ (yielded ops a.tmps) = true := by rfl)
    (h : ∀ w', All w0 w' L' → wpPl P ops Q (fun W => All w0 W L) k r a' w')
    (hargs : as.map a.eval = args := by first | (simp only [List.map_toArray, List.map_cons, List.map_nil]; done) | (simp only [List.map_toArray, List.map_cons, List.map_nil]; rfl) | rfl)
    (hname : (fn.name == "runtime.NumGoroutine") = false := by kernel_rfl) (hb : fn.body.isSome = true := by rfl)
    (hs : ∀ W, All w0 W L' → All w0 W L := by first | exact fun _ h => h | exact fun _ h => h.tail | exact fun _ h => h.tail.tail | exact fun _ h => h.drop 3 | exact fun _ h => h.drop 4 | exact fun _ h => h.drop 5)
    (ha : a.put (some d) v = a' := by simp only [Act.put, List.setIfInBounds_toArray, List.set_cons_zero, List.set_cons_succ, i64_w, i32_w]; rfl) : wpPl P ops Q (fun W => All w0 W L) k (.c i :: r) a w :=
  pl_tells hc H hs hf hname hb hi rfl hw rfl hargs (fun w' H' => by rw [ha]; exact h w' H')
theorem pl_R {w' : World} {d : Tmp} {op : Op} {ty : TypeId} {ps : String} {af : Array Edge} {gd : Option (Nat × Bool)} (H : All w0 w' L') (h : All w0 w' L' → wpPl P ops Q (fun W => All w0 W L) k r a' w')
    (hi : ops[i]? = some ⟨some d, op, ty, ps, af, gd⟩ := by simp only [List.getElem?_toArray, List.getElem?_cons_succ, List.getElem?_cons_zero]; rfl) (hw : Region.wanted ⟨some d, op, ty, ps, af, gd⟩ (yielded ops a.tmps) = true := by rfl)
    (hrun : (execOp a.eval ⟨some d, op, ty, ps, af, gd⟩).run P w = .ok (.value v) w' := by first | (go_simp; with_reducible rfl) | (go_simp; done))
    (hs : ∀ W, All w0 W L' → All w0 W L := by first | exact fun _ h => h | exact fun _ h => h.tail | exact fun _ h => h.tail.tail | exact fun _ h => h.drop 3 | exact fun _ h => h.drop 4 | exact fun _ h => h.drop 5)
    (ha : a.put (some d) v = a' := by simp only [Act.put, List.setIfInBounds_toArray, List.set_cons_zero, List.set_cons_succ, i64_w, i32_w]; rfl) : wpPl P ops Q (fun W => All w0 W L) k (.c i :: r) a w := by
  subst ha
  refine ⟨_, hi, fun K hK => ?_⟩
  rw [if_pos hw]
  unfold Oper.wp
  rw [hrun]
  exact hK.out _ _ (hs _ H) (h H)
theorem pl_WL {w' : World} {op : Op} {ty : TypeId} {ps : String} {af : Array Edge} {gd : Option (Nat × Bool)} (H : All w0 w' L') (h : All w0 w' L' → wpPl P ops Q S k r a w')
    (hi : ops[i]? = some ⟨none, op, ty, ps, af, gd⟩ := by simp only [List.getElem?_toArray, List.getElem?_cons_succ, List.getElem?_cons_zero]; rfl) (hw : Region.wanted ⟨none, op, ty, ps, af, gd⟩ (yielded ops a.tmps) = true := by rfl)
    (hrun : (execOp a.eval ⟨none, op, ty, ps, af, gd⟩).run P w = .ok .skip w' := by first | (go_simp; with_reducible rfl) | (go_simp; done)) : wpPl P ops Q S k (.l i :: r) a w := by
  refine ⟨_, hi, fun K hK => ?_⟩
  rw [if_pos hw]
  unfold Oper.wp
  rw [hrun]
  exact hK.out _ _ (h H)
theorem pl_WR {ty : TypeId} {x y : Operand} {tt : TypeId} {ps : String} {af : Array Edge} {gd : Option (Nat × Bool)} {b : Nat} {t : TypeId} {cs : Array Value} (q : Nat) (cs' : Array Value) (H : All w0 w L') (hk : L'[q]? = some (bx b t cs)) (hb : w0.heap.size ≤ b)
    (h : All w0 (w.setRow b cs') (L'.set q (bx b t cs')) → wpPl P ops Q (fun W => All w0 W L) k r a (w.setRow b cs')) (hsz : (P.info? ty).map (·.size) = some cs'.size) (hcs : cs.size = cs'.size) (h1 : cs'.all (·.oneCell') = true := by kernel_rfl)
    (hi : ops[i]? = some ⟨none, .store ty x y, tt, ps, af, gd⟩ := by simp only [List.getElem?_toArray, List.getElem?_cons_succ, List.getElem?_cons_zero]; rfl) (hw : Region.wanted ⟨none, .store ty x y, tt, ps, af, gd⟩ (yielded ops a.tmps) = true := by rfl)
    (hx : a.eval x = .pointer (some ⟨b, 0, none⟩) := by rfl) (hy : a.eval y = .agg cs' := by rfl)
    (hs : ∀ W, All w0 W (L'.set q (bx b t cs')) → All w0 W L := by first | exact fun _ h => h | exact fun _ h => h.tail | exact fun _ h => h.tail.tail | exact fun _ h => h.drop 3 | exact fun _ h => h.drop 4 | exact fun _ h => h.drop 5) : wpPl P ops Q (fun W => All w0 W L) k (.c i :: r) a w := by
  refine ⟨_, hi, fun K hK => ?_⟩
  rw [if_pos hw]
  have H2 := H.full q hk cs' hb
  exact wp_store_row ty x y rfl b cs' hx hy t cs (H.at q hk) hsz hcs h1 (hK.out _ _ (hs _ H2) (h H2))
theorem pl_done (h : k a w) : wpPl P ops Q S k [] a w := h
end
end Go.Proofs.Ythhgcjlgnafdcaa.Hd
end
section
namespace Go.Proofs.Ythhgcjlgnafdcaa.Hd
set_option linter.unusedVariables false
set_option linter.unusedSimpArgs false
open Go Go.RowKit Go.Proofs.YthhgcjlgnafdcaaW.PrintWords Go.Proofs.YthhgcjlgnafdcaaW.PrintLast
theorem below_of {w W : World} (hW : ∀ k, k < w.heap.size → W.heap[k]? = w.heap[k]?) : Below w.heap.size w { w with heap := W.heap } := by
  refine ⟨rfl, rfl, rfl, ?_, hW⟩
  show w.heap.size ≤ W.heap.size
  rcases Nat.eq_zero_or_pos w.heap.size with h | h
  · omega
  · have h1 := hW (w.heap.size - 1) (by omega)
    rw [Array.getElem?_eq_getElem (show w.heap.size - 1 < w.heap.size by omega)] at h1
    obtain ⟨h2, _⟩ := Array.getElem?_eq_some_iff.1 h1
    omega
theorem held_C {α : Type} {d : Kd α} {w : World} {A : Option Addr} {n : Nat} {xs : List α} (h : Kd.C d w A n xs) (hd : ∀ W : World, Kd.C d { w with heap := W.heap } A n xs → Kd.C d W A n xs := by exact fun _ h => h) : Held w (fun k => k < w.heap.size) (fun W => Kd.C d W A n xs) :=
  ⟨fun _ h => h, fun W hW => hd W (Kd.C_below h (below_of hW))⟩
theorem C_cut {α : Type} {d : Kd α} {w : World} {A : Option Addr} {xs : List α} (h : Kd.C d w A xs.length xs) (m : Nat) : Kd.C d w A (xs.take m).length (xs.take m) := by
  rcases Nat.le_total m xs.length with hm | hm
  · exact Kd.C_take h hm
  · rw [List.take_of_length_le hm]
    exact h
section
variable {P : Program} {ops : Array Oper} {Q : Exit → Act → World → Prop} {S : World → Prop} {k : Act → World → Prop} {w0 w W : World} {L L' : List F2} {a : Act} {r : List St} {i : Nat}
theorem perm_front {α : Type _} : ∀ (L : List α) (i : Nat) (f : α), L[i]? = some f → L.Perm (f :: L.eraseIdx i)
  | [], i, f, h => by simp at h
  | g :: L, 0, f, h => by
    obtain rfl : g = f := by simpa using h
    exact .refl _
  | g :: L, i + 1, f, h => (List.Perm.cons g (perm_front L i f (by simpa using h))).trans (.swap f g _)
theorem All.front {f : F2} (H : All w0 w L) (i : Nat) (hi : L[i]? = some f) : All w0 w (f :: L.eraseIdx i) := H.perm (perm_front L i f hi)
theorem pl_AL {lo e size bytes n : Nat} {xs : List Value} {v : Value} {s x : Operand} {t : TypeId} {d : Tmp} {a' : Value → Act} {ty : TypeId} {ps : String} {af : Array Edge} {gd : Option (Nat × Bool)} (ys : List Value) (z : Value) (q : Nat) (H : All w0 W L') (hq : L'[q]? = some (ow lo e size v n xs))
    (hb : w0.heap.size ≤ lo) (hbase : lo ≤ W.heap.size) (hl : (n + 1) * bytes ≤ 140737488355328) (hinfo : (P.info? e).map (fun i => (i.zero, i.size, i.bytes)) = some (some z, size, bytes)) (ht : P.underlying t = some (.slice e))
    (hz : z.cells.size = size) (hs0 : 0 < size) (hb0 : 0 < bytes) (hys : ys.length = size) (h1 : ∀ u ∈ ys, u.oneCell' = true)
    (h : ∀ A1 c1 w1, All w0 w1 (L'.set q (ow lo e size (.slice A1 (n + 1) c1) (n + 1) (xs ++ ys))) → W.heap.size ≤ w1.heap.size → wpPl P ops Q S k r (a' (.slice A1 (n + 1) c1)) w1)
    (hi : ops[i]? = some ⟨some d, .call { callee := .builtin .append, args := #[s, x], argTypes := #[t, t] }, ty, ps, af, gd⟩ := by simp only [List.getElem?_toArray, List.getElem?_cons_succ, List.getElem?_cons_zero]; rfl) (hw : Region.wanted ⟨some d, .call { callee := .builtin .append, args := #[s, x], argTypes := #[t, t] }, ty, ps, af, gd⟩ (yielded ops a.tmps) = true := by rfl)
    (hs : a.eval s = v := by rfl) (hx : a.eval x = .slice (some ⟨W.heap.size, 0, none⟩) 1 1 := by rfl)
    (ha : ∀ v, a.put (some d) v = a' v := by intro v; simp only [Act.put, List.setIfInBounds_toArray, List.set_cons_zero, List.set_cons_succ, i64_w, i32_w]; rfl) : wpPl P ops Q S k (.l i :: r) a (W.alloc (.cells ys.toArray e)) := by
  refine ⟨_, hi, fun K hK => ?_⟩
  rw [if_pos hw]
  obtain ⟨i0, hi0, hzz⟩ := Option.map_eq_some_iff.1 hinfo
  simp only [Prod.mk.injEq] at hzz
  obtain ⟨hz0, hz1, hz2⟩ := hzz
  have hlen : n + 1 ≤ 140737488355328 := Nat.le_trans (Nat.le_mul_of_pos_right _ hb0) hl
  have hO := H.at q hq
  obtain ⟨v1, w1, hr, h2, h3, h4, h5⟩ := run_append_own_at (P := P) (W.alloc (.cells ys.toArray e)) lo t ty e i0 z size bytes ht hi0 hz0 hz1 hz2 hz hs0 v n xs (hO.alloc _) ⟨W.heap.size, 0, none⟩ 1 1 ys (by rw [hys]; simp)
    (by simpa using World.news_of_block (cs := ys.toArray) (t := e) (fr := (0, 0)) (heap_alloc_new W (.cells ys.toArray e))) h1 (by simp only [maxLen]; omega) hl (by simp; omega)
  unfold Oper.wp execOp
  simp only [resolve, invoke, builtin, Sem.run_bind, Sem.run_pure, Result.andThen_ok, List.map_toArray, List.map_cons, List.map_nil, hs, hx, hr]
  obtain ⟨A1, c1, rfl⟩ := own_slice h2
  refine hK.out _ _ ?_
  rw [ha]
  refine h A1 c1 w1 (H.own q hq (World.grownBy.trans (World.grownBy_alloc W _ _) h3) h2 ?_ hb) (Nat.le_trans (by simp) h3.size)
  rcases h5 with h5 | h5
  · exact .inl h5
  · exact .inr ⟨_, h5, by simp⟩
theorem pl_K {f : FuncId} {fn : Func} {as : Array Operand} {ts : Array TypeId} {args : Array Value} {d : Tmp} {a' : Value → Act} {ty : TypeId} {ps : String} {af : Array Edge} {gd : Option (Nat × Bool)} (hf : P.funcs[f]? = some fn)
    (h : Calls P f args w fun e w' => ∃ v, e = .returned v ∧ S w' ∧ wpPl P ops Q S k r (a' v) w')
    (hi : ops[i]? = some ⟨some d, .call { callee := .value (.func f), args := as, argTypes := ts }, ty, ps, af, gd⟩ := by simp only [List.getElem?_toArray, List.getElem?_cons_succ, List.getElem?_cons_zero]; rfl) (hw : Region.wanted ⟨some d, .call { callee := .value (.func f), args := as, argTypes := ts }, ty, ps, af, gd⟩ (yielded ops a.tmps) = true := by rfl)
    (hargs : as.map a.eval = args := by first | (simp only [List.map_toArray, List.map_cons, List.map_nil]; done) | (simp only [List.map_toArray, List.map_cons, List.map_nil]; rfl) | rfl)
    (hname : (fn.name == "runtime.NumGoroutine") = false := by kernel_rfl) (hb : fn.body.isSome = true := by rfl)
    (ha : ∀ v, a.put (some d) v = a' v := by intro v; simp only [Act.put, List.setIfInBounds_toArray, List.set_cons_zero, List.set_cons_succ, i64_w, i32_w]; rfl) : wpPl P ops Q S k (.c i :: r) a w :=
  pl_call hf hname hb args hi rfl hw rfl hargs (h.mono fun e w' ⟨v, he, hS, hp⟩ => ⟨v, he, hS, by rw [ha]; exact hp⟩)
end
end Go.Proofs.Ythhgcjlgnafdcaa.Hd
end
section
namespace Go.Proofs.Ythhgcjlgnafdcaa.Hd
set_option linter.unusedVariables false
set_option linter.unusedSimpArgs false
open Go Go.RowKit Go.Proofs.YthhgcjlgnafdcaaW.PrintWords Go.Proofs.YthhgcjlgnafdcaaW.PrintLast
theorem flat_at {S : Type} {sz : Nat} (enc : S → List Value) (hl : ∀ x, (enc x).length = sz) : ∀ (xs : List S) (j : Nat) (u : Value), (xs.flatMap enc)[j]? = some u → ∃ q i p, j = q * sz + i ∧ xs[q]? = some p ∧ (enc p)[i]? = some u
  | [], j, u, h => by simp at h
  | x :: xs, j, u, h => by
    rw [List.flatMap_cons] at h
    rcases Nat.lt_or_ge j sz with hj | hj
    · rw [List.getElem?_append_left (by rw [hl]; exact hj)] at h
      exact ⟨0, j, x, by omega, rfl, h⟩
    · rw [List.getElem?_append_right (by rw [hl]; exact hj), hl] at h
      obtain ⟨q, i, p, h1, h2, h3⟩ := flat_at enc hl xs (j - sz) u h
      exact ⟨q + 1, i, p, by rw [Nat.add_mul]; omega, by simpa using h2, h3⟩
section
variable {P : Program} {w0 W : World} {L L' : List F2} {S : Type} {lo e size bytes n m c : Nat} {xs : List Value} {v : Value} {A : Option Addr} {ys : List S}
theorem run_appC (d : Kd S) (enc : S → List Value) (hK : ∀ w x cs, d.K w x cs → cs = enc x) (hlen : ∀ x, (enc x).length = size) (hsz : d.sz = size) (h1 : ∀ x, ∀ u ∈ enc x, u.oneCell' = true) (t ty : TypeId) (z : Value)
    (hinfo : (P.info? e).map (fun i => (i.zero, i.size, i.bytes)) = some (some z, size, bytes)) (ht : P.underlying t = some (.slice e)) (hz : z.cells.size = size) (hs0 : 0 < size) (hb0 : 0 < bytes)
    (HO : Ow lo e size v n xs W) (HR : Kd.C d W A m ys) (hbase : lo ≤ W.heap.size) (hl : (n + m) * bytes ≤ 140737488355328) :
    ∃ v1 w1, (Builtin.append_ #[t, t] ty #[v, .slice A m c]).run P W = .ok v1 w1 ∧ w1.ownsRow lo e size v1 (n + m) (xs ++ ys.flatMap enc) ∧ W.grownBy w1 v.ownBlock ∧ (v1.ownBlock = v.ownBlock ∨ v1.ownBlock = some W.heap.size) := by
  obtain ⟨i0, hi, hzz⟩ := Option.map_eq_some_iff.1 hinfo
  simp only [Prod.mk.injEq] at hzz
  obtain ⟨hz0, hz1, hz2⟩ := hzz
  have hlen2 : n + m ≤ 140737488355328 := Nat.le_trans (Nat.le_mul_of_pos_right _ hb0) hl
  obtain ⟨hm, _, h3⟩ := HR
  rcases A with _ | ad
  · have h0 : m = 0 := by
      rcases Nat.eq_zero_or_pos m with h0 | h0
      · exact h0
      · obtain ⟨ad, h, _⟩ := h3 h0
        cases h
    subst h0
    obtain rfl : ys = [] := List.eq_nil_of_length_eq_zero hm
    refine ⟨v, W, ?_, by have h : W.ownsRow lo e size v n xs := HO; simpa using h, World.grownBy.refl W _, .inl rfl⟩
    rcases HO.2 with ⟨rfl, hn⟩ | ⟨g, cap, cur, rfl, _, _, hnc, _⟩
    · simp [Builtin.append_, run_underlying ht, sizeOf, typeInfo, hi, Builtin.lenOf, Builtin.firstCells]
    · simp [Builtin.append_, run_underlying ht, sizeOf, typeInfo, hi, Builtin.lenOf, Builtin.firstCells, hnc, storeCells]
  · have hcells : ∀ j u, (ys.flatMap enc)[j]? = some u → W.cell? (ad.add j) = some u := fun j u hu => by
      obtain ⟨q, i, p, rfl, h5, h6⟩ := flat_at enc hlen ys j u hu
      have hq : q < ys.length := (List.getElem?_eq_some_iff.1 h5).1
      obtain ⟨ad', h, h7⟩ := h3 (by omega)
      cases h
      obtain ⟨cs, h8, h9, h10⟩ := h7 q p h5
      obtain rfl := hK _ _ _ h9
      have := h10 i u h6
      rwa [hsz] at this
    obtain ⟨v1, w1, hr, h2, h4, _, h5⟩ := run_append_own_at (P := P) W lo t ty e i0 z size bytes ht hi hz0 hz1 hz2 hz hs0 v n xs HO ad m c (ys.flatMap enc) (by rw [flat_len enc hlen, hm]) hcells
      (fun u hu => by obtain ⟨x, _, hx⟩ := List.mem_flatMap.1 hu; exact h1 x u hx) (by simp only [maxLen]; omega) hl hbase
    exact ⟨v1, w1, hr, h2, h4, h5⟩
variable {ops : Array Oper} {Q : Exit → Act → World → Prop} {a : Act}
theorem appC {rest : List Oper} {o : Oper} (d : Kd S) (enc : S → List Value) (hK : ∀ w x cs, d.K w x cs → cs = enc x) (hlen : ∀ x, (enc x).length = size) (hsz : d.sz = size) (h1 : ∀ x, ∀ u ∈ enc x, u.oneCell' = true) (H : All w0 W L) (i : Nat) (hi : L[i]? = some (ow lo e size v n xs))
    (HR : Kd.C d W A m ys) (hb : w0.heap.size ≤ lo) (hbase : lo ≤ W.heap.size) (hl : (n + m) * bytes ≤ 140737488355328) (s x : Operand) (t : TypeId) (z : Value) (hinfo : (P.info? e).map (fun i => (i.zero, i.size, i.bytes)) = some (some z, size, bytes)) (ht : P.underlying t = some (.slice e))
    (hgd : o.guard = none) (ho : o.op = .call { callee := .builtin .append, args := #[s, x], argTypes := #[t, t] }) (hz : z.cells.size = size) (hs0 : 0 < size) (hb0 : 0 < bytes) (hs : a.eval s = v) (hx : a.eval x = .slice A m c)
    (h : ∀ A1 c2 w1, All w0 w1 (L.set i (ow lo e size (.slice A1 (n + m) c2) (n + m) (xs ++ ys.flatMap enc))) → W.heap.size ≤ w1.heap.size → wpList P ops Q rest (a.put o.dst (.slice A1 (n + m) c2)) w1) : wpList P ops Q (o :: rest) a W := by
  refine wpList_plain hgd fun K hK' => ?_
  obtain ⟨v1, w1, hr, h2, h3, h5⟩ := run_appC (c := c) d enc hK hlen hsz h1 t o.type z hinfo ht hz hs0 hb0 (H.at i hi) HR hbase hl
  obtain ⟨A1, c1, rfl⟩ := own_slice h2
  unfold Oper.wp execOp
  simp only [ho, resolve, invoke, builtin, Sem.run_bind, Sem.run_pure, Result.andThen_ok, List.map_toArray, List.map_cons, List.map_nil, hs, hx, hr]
  refine hK' _ _ (h A1 c1 w1 (H.own i hi h3 h2 ?_ hb) h3.size)
  rcases h5 with h5 | h5
  · exact .inl h5
  · exact .inr ⟨_, h5, Nat.le_refl _⟩
theorem pl_ACL {SS : World → Prop} {k : Act → World → Prop} {r : List St} {i : Nat} (d : Kd S) (enc : S → List Value) (hK : ∀ w x cs, d.K w x cs → cs = enc x) (hlen : ∀ x, (enc x).length = size) (hsz : d.sz = size) (h1 : ∀ x, ∀ u ∈ enc x, u.oneCell' = true) {s x : Operand} {t : TypeId} {dd : Tmp} {a' : Value → Act} {ty : TypeId} {ps : String} {af : Array Edge} {gd : Option (Nat × Bool)} (z : Value) (q : Nat) (H : All w0 W L') (hq : L'[q]? = some (ow lo e size v n xs))
    (HR : Kd.C d W A m ys) (hb : w0.heap.size ≤ lo) (hbase : lo ≤ W.heap.size) (hl : (n + m) * bytes ≤ 140737488355328) (hinfo : (P.info? e).map (fun i => (i.zero, i.size, i.bytes)) = some (some z, size, bytes)) (ht : P.underlying t = some (.slice e)) (hz : z.cells.size = size) (hs0 : 0 < size) (hb0 : 0 < bytes)
    (h : ∀ A1 c1 w1, All w0 w1 (L'.set q (ow lo e size (.slice A1 (n + m) c1) (n + m) (xs ++ ys.flatMap enc))) → W.heap.size ≤ w1.heap.size → wpPl P ops Q SS k r (a' (.slice A1 (n + m) c1)) w1)
    (hi : ops[i]? = some ⟨some dd, .call { callee := .builtin .append, args := #[s, x], argTypes := #[t, t] }, ty, ps, af, gd⟩ := by simp only [List.getElem?_toArray, List.getElem?_cons_succ, List.getElem?_cons_zero]; rfl) (hw : Region.wanted ⟨some dd, .call { callee := .builtin .append, args := #[s, x], argTypes := #[t, t] }, ty, ps, af, gd⟩ (yielded ops a.tmps) = true := by rfl)
    (hs : a.eval s = v := by rfl) (hx : a.eval x = .slice A m c := by rfl)
    (ha : ∀ v, a.put (some dd) v = a' v := by intro v; simp only [Act.put, List.setIfInBounds_toArray, List.set_cons_zero, List.set_cons_succ, i64_w, i32_w]; rfl) : wpPl P ops Q SS k (.l i :: r) a W := by
  refine ⟨_, hi, fun K hK' => ?_⟩
  rw [if_pos hw]
  obtain ⟨v1, w1, hr, h2, h3, h5⟩ := run_appC (c := c) d enc hK hlen hsz h1 t ty z hinfo ht hz hs0 hb0 (H.at q hq) HR hbase hl
  obtain ⟨A1, c1, rfl⟩ := own_slice h2
  unfold Oper.wp execOp
  simp only [resolve, invoke, builtin, Sem.run_bind, Sem.run_pure, Result.andThen_ok, List.map_toArray, List.map_cons, List.map_nil, hs, hx, hr]
  refine hK'.out _ _ ?_
  rw [ha]
  refine h A1 c1 w1 (H.own q hq h3 h2 ?_ hb) h3.size
  rcases h5 with h5 | h5
  · exact .inl h5
  · exact .inr ⟨_, h5, Nat.le_refl _⟩
end
abbrev krow : Kd (ByteArray × Int) := Kd.pair Kd.string (Kd.int .i64)
def encR (r : ByteArray × Int) : List Value := [.string r.1, .int .i64 r.2]
theorem krow_K {w : World} {x : ByteArray × Int} {cs : List Value} (h : krow.K w x cs) : cs = encR x := by
  obtain ⟨c1, c2, rfl, h1, h2⟩ := h
  rw [show c1 = [.string x.1] from h1, show c2 = [.int .i64 x.2] from h2]
  rfl
theorem krow_mk (w : World) (x : ByteArray × Int) : krow.K w x (encR x) := ⟨[.string x.1], [.int .i64 x.2], rfl, rfl, rfl⟩
theorem encR_one (x : ByteArray × Int) : ∀ u ∈ encR x, u.oneCell' = true := fun u hu => by
  simp only [encR, List.mem_cons, List.not_mem_nil, or_false] at hu
  rcases hu with rfl | rfl <;> rfl
end Go.Proofs.Ythhgcjlgnafdcaa.Hd
end
