/- ident.Words: the closure that cuts, and the walk over the text. -/
import Derived.Test.YtebdjhgboeadgaaProg
import Derived.Test.YtebdjhgboeadgaaWMore
import Derived.Test.YtebdjhgboeadgaaWLast
import Derived.Test.YtebdjhgboeadgaaWSized
import Derived.RegionTactic
import Derived.ChangeAlike
import Derived.BigRegion
import Derived.OneCell
namespace Go.Proofs.Ytebdjhgboeadgaa.Jw
set_option linter.unusedSimpArgs false
set_option linter.unusedVariables false
open Go Go.RowKit Go.Proofs.YtebdjhgboeadgaaW.PrintWords Go.Proofs.YtebdjhgboeadgaaW.PrintLast Go.Proofs.YtebdjhgboeadgaaW.PrintMore
theorem info9 : (Try.prog.info? 9).map (fun i => (i.zero, i.size, i.bytes)) = some (some (.string ⟨#[]⟩), 1, 16) := by kernel_rfl
/-- What the closure does to the world: two boxes below B, and what lies behind B. -/
structure Cutting (B Bl Bf : Nat) (w w' : World) : Prop where
  os : w'.os = w.os
  tape : w'.tape = w.tape
  output : w'.output = w.output
  size : w.heap.size ≤ w'.heap.size
  block : ∀ k, k < B → k ≠ Bl → k ≠ Bf → w'.heap[k]? = w.heap[k]?
theorem Cutting.of {B Bl Bf : Nat} {w w' : World} (h : Below B w w') : Cutting B Bl Bf w w' := ⟨h.os, h.tape, h.output, h.size, fun k hk _ _ => h.block k hk⟩
theorem Cutting.trans {B Bl Bf : Nat} {a b c : World} (h : Cutting B Bl Bf a b) (k : Cutting B Bl Bf b c) : Cutting B Bl Bf a c :=
  ⟨k.os.trans h.os, k.tape.trans h.tape, k.output.trans h.output, Nat.le_trans h.size k.size, fun i h1 h2 h3 => (k.block i h1 h2 h3).trans (h.block i h1 h2 h3)⟩
theorem Cutting.set {B Bl Bf : Nat} {a b : World} (h : Cutting B Bl Bf a b) {p : Addr} (hp : p.block = Bl ∨ p.block = Bf) (u : Value) : Cutting B Bl Bf a (b.setCell p u) :=
  h.trans ⟨rfl, rfl, rfl, by simp [World.setCell], fun k _ h2 h3 => Below.heap_setCell b p u k (by rcases hp with e | e <;> rw [e] <;> assumption)⟩
theorem R_set {B : Nat} {w : World} {v : Value} {l : List ByteArray} (h : Kd.R Kd.string 9 w B (fun _ => True) v l) {p : Addr} (hp : p.block < B) (u : Value) : Kd.R Kd.string 9 (w.setCell p u) B (fun _ => True) v l :=
  Kd.R_mono (Kd.R_far (Kd.R_bound h) (fun k hk => by have := hk.2.1; omega) u) (fun _ _ => trivial)
set_option maxRecDepth 100000 in
set_option maxHeartbeats 2000000 in
theorem cut_calls (s : ByteArray) (w : World) (B Bs Bl Bf : Nat) (hBs : Bs < B) (hBl : Bl < B) (hBf : Bf < B) (n1 : Bs ≠ Bl) (n2 : Bs ≠ Bf) (n3 : Bl ≠ Bf) (v : Value) (l : List ByteArray) (f t : Int)
    (hs : w.heap[Bs]? = some (.cells #[.string s] 9 (0, 0))) (hl : w.heap[Bl]? = some (.cells #[v] 53 (0, 0))) (hf : w.heap[Bf]? = some (.cells #[.int .i64 f] 3 (0, 0)))
    (hR : Kd.R Kd.string 9 w B (fun _ => True) v l) (hsz : B ≤ w.heap.size) (f0 : 0 ≤ f) (ht : t ≤ s.size) (ht0 : 0 ≤ t) (hss : s.size ≤ 140737488351232) (hlen : l.length < 8796093022208) :
    Calls Try.prog 61 #[.int .i64 t, .pointer (some ⟨Bf, 0, none⟩), .pointer (some ⟨Bl, 0, none⟩), .pointer (some ⟨Bs, 0, none⟩)] w fun e w' => e = .returned (.tuple #[]) ∧ Cutting B Bl Bf w w' ∧
      ∃ v', w'.heap[Bl]? = some (.cells #[v'] 53 (0, 0)) ∧ w'.heap[Bf]? = some (.cells #[.int .i64 (t + 1)] 3 (0, 0)) ∧ Kd.R Kd.string 9 w' B (fun _ => True) v' (if f < t then l ++ [s.extract f.toNat t.toNat] else l) := by
  have cs := cell_of_one hs
  have cl := cell_of_one hl
  have cf := cell_of_one hf
  have fl := free_of_one hl
  have ff := free_of_one hf
  have hw64 : wrap64 (t + 1) = t + 1 := by unfold wrap64; omega
  have HR := Aside0.mk hR
  clear hR
  by_cases hlt : f < t
  · go_enter Try.func61, Try.ntmps61
    go_wp2_with fail
    have e1 : (f ≤ t) = True := eq_true (by omega)
    have e2 : (t ≤ (s.size : Int)) = True := eq_true ht
    have e3 : (0 ≤ f) = True := eq_true f0
    refine start_ (n := 8) (S := fun w' => w'.cell? ⟨Bf, 0, none⟩ = some (.int .i64 f) ∧ w'.cell? ⟨Bl, 0, none⟩ = some v ∧ w'.cell? ⟨Bs, 0, none⟩ = some (.string s)) (ds := [7]) #[false, false, false, false, false, false, false, false] (by kernel_rfl) rfl rfl ⟨cf, cl, cs⟩ (fun hHeld => ?_)
    refine take_ (i := 0) (N := some 8) (v := ?_) (a' := ?_) #[true, false, false, false, false, false, false, false] rfl rfl (by kernel_rfl) (fun _ _ _ h => h) (Or.inl ⟨by rfl, ?_⟩) hHeld ?_ ?_
    rotate_left
    · rintro w' ⟨s0, s1, s2⟩
      go_simp
      with_reducible rfl
    rotate_left
    · simp only [Act.put, List.setIfInBounds_toArray, List.set_cons_zero, List.set_cons_succ, i64_w, i32_w]
      rfl
    refine take_ (i := 1) (N := some 9) (v := ?_) (a' := ?_) #[true, true, false, false, false, false, false, false] rfl rfl (by kernel_rfl) (fun _ _ _ h => h) (Or.inl ⟨by rfl, ?_⟩) hHeld ?_ ?_
    rotate_left
    · rintro w' ⟨s0, s1, s2⟩
      go_simp
      with_reducible rfl
    rotate_left
    · simp only [Act.put, List.setIfInBounds_toArray, List.set_cons_zero, List.set_cons_succ, i64_w, i32_w]
      rfl
    refine take_ (i := 2) (N := some 10) (v := ?_) (a' := ?_) #[true, true, true, false, false, false, false, false] rfl rfl (by kernel_rfl) (fun _ _ _ h => h) (Or.inl ⟨by rfl, ?_⟩) hHeld ?_ ?_
    rotate_left
    · rintro w' ⟨s0, s1, s2⟩
      go_simp
      with_reducible rfl
    rotate_left
    · simp only [Act.put, List.setIfInBounds_toArray, List.set_cons_zero, List.set_cons_succ, i64_w, i32_w]
      rfl
    refine pure_ (i := 3) (N := some 11) (v := ?_) (a' := ?_) #[true, true, true, true, false, false, false, false] rfl rfl (by kernel_rfl) (fun _ _ _ h => h) (Or.inl ⟨by rfl, ?_⟩) ?_ ?_
    rotate_left
    · intro w'
      go_simp
      with_reducible rfl
    rotate_left
    · simp only [Act.put, List.setIfInBounds_toArray, List.set_cons_zero, List.set_cons_succ, i64_w, i32_w]
      rfl
    refine pure_ (i := 4) (N := some 12) (v := ?_) (a' := ?_) #[true, true, true, true, true, false, false, false] rfl rfl (by kernel_rfl) (fun _ _ _ h => h) (Or.inl ⟨by rfl, ?_⟩) ?_ ?_
    rotate_left
    · intro w'
      go_simp
      with_reducible rfl
    rotate_left
    · simp only [Act.put, List.setIfInBounds_toArray, List.set_cons_zero, List.set_cons_succ, i64_w, i32_w]
      rfl
    refine one_ (i := 5) (N := some 13) #[true, true, true, true, true, true, false, false] rfl rfl (by kernel_rfl) (by decide) (fun K hK => ?_)
    refine value_ (w1 := ?_) (v := ?_) (by rfl) rfl ?_ ?_
    rotate_left 2
    · go_simp
      constructor
      · rfl
      · rfl
    refine hK.out _ _ ⟨(World.cell?_alloc_lt w.drew _ _ (by show Bf < w.heap.size; omega)).trans cf, (World.cell?_alloc_lt w.drew _ _ (by show Bl < w.heap.size; omega)).trans cl, (World.cell?_alloc_lt w.drew _ _ (by show Bs < w.heap.size; omega)).trans cs⟩ (fun hHeld => ?_)
    clear hK K
    refine norm_ (a' := ?_) ?_ ?_
    rotate_left
    · show Act.put _ (some 13) _ = _
      simp only [Act.put, List.setIfInBounds_toArray, List.set_cons_zero, List.set_cons_succ, i64_w, i32_w]
      rfl
    refine one_ (i := 6) (N := some 14) #[true, true, true, true, true, true, true, false] rfl rfl (by kernel_rfl) (by decide) (fun K hK => ?_)
    refine Kd.R_append_step Kd.string (w0 := w) B (by rfl) (.tmp 8) (.tmp 13) 53 9 (.string ⟨#[]⟩) 16 rfl Try.underlying53 info9 rfl (by decide) (by omega) v l (s.extract f.toNat t.toNat) [.string (s.extract f.toNat t.toNat)] (fun _ => True) (fun _ => False) rfl rfl rfl (fun _ hk => hk.elim) (fun _ _ => trivial) (Kd.R_drew HR.out) ((Below.refl B w).drew) hsz (by omega) ?_
    intro v1 w1 ho hb hg hat
    have hl1 : w1.heap[Bl]? = some (.cells #[v] 53 (0, 0)) := (hb.block Bl hBl).trans hl
    have hs1 : w1.heap[Bs]? = some (.cells #[.string s] 9 (0, 0)) := (hb.block Bs hBs).trans hs
    have hf1 : w1.heap[Bf]? = some (.cells #[.int .i64 f] 3 (0, 0)) := (hb.block Bf hBf).trans hf
    refine hK.out _ _ ⟨cell_of_one hf1, cell_of_one hl1, cell_of_one hs1⟩ (fun hHeld => ?_)
    clear hK K
    refine norm_ (a' := ?_) ?_ ?_
    rotate_left
    · show Act.put _ (some 14) _ = _
      simp only [Act.put, List.setIfInBounds_toArray, List.set_cons_zero, List.set_cons_succ, i64_w, i32_w]
      rfl
    refine last_ (i := 7) (N := none) #[true, true, true, true, true, true, true, true] rfl rfl (by kernel_rfl) (by decide) (fun K hK => ?_)
    obtain ⟨A1, c1, hv1⟩ := Kd.R_slice ho
    rw [List.length_append, List.length_singleton] at hv1
    subst hv1
    have cl1 := cell_of_one hl1
    have fl1 := free_of_one hl1
    refine skip_ (w1 := ?_) (by rfl) rfl ?_ ?_
    rotate_left
    · go_simp
      rfl
    refine hK.out _ _ ?_
    clear hK K
    refine done_ (by kernel_rfl) ?_
    have hl2 := one_setCell (u := Value.slice A1 (l.length + 1) c1) hl1
    have hf2 : (w1.setCell ⟨Bl, 0, none⟩ (.slice A1 (l.length + 1) c1)).heap[Bf]? = some (.cells #[.int .i64 f] 3 (0, 0)) := (Below.heap_setCell _ _ _ _ (fun e => n3 e.symm)).trans hf1
    have HO := Aside0.mk (R_set ho (p := ⟨Bl, 0, none⟩) hBl (.slice A1 (l.length + 1) c1))
    have HCt : Aside0 (Cutting B Bl Bf w (w1.setCell ⟨Bl, 0, none⟩ (.slice A1 (l.length + 1) c1))) := ⟨(Cutting.of hb).set (p := ⟨Bl, 0, none⟩) (Or.inl rfl) _⟩
    clear hb hg hat ho hHeld
    generalize (w1.setCell ⟨Bl, 0, none⟩ (.slice A1 (l.length + 1) c1)) = w2 at HO HCt hl2 hf2 ⊢
    have cf2 := cell_of_one hf2
    have ff2 := free_of_one hf2
    go_wp2
    go_end0
    refine ⟨rfl, HCt.out.set (Or.inr rfl) _, _, (Below.heap_setCell _ _ _ _ n3).trans hl2, ?_, ?_⟩
    · exact one_setCell hf2
    · exact R_set HO.out hBf _
  · have HR2 := R_set HR.out (p := ⟨Bf, 0, none⟩) hBf (.int .i64 (t + 1))
    have e1 : (f < t) = False := eq_false hlt
    have HO := Aside0.mk HR2
    clear HR2
    go_enter Try.func61, Try.ntmps61
    go_wp2
    go_end0
    refine ⟨rfl, (Cutting.of (Below.refl B w)).set (p := ⟨Bf, 0, none⟩) (Or.inr rfl) _, _, (Below.heap_setCell _ _ _ _ n3).trans hl, ?_, ?_⟩
    · exact one_setCell hf
    · exact HO.out
def cutF (s : ByteArray) (f t : Int) (l : List ByteArray) : List ByteArray := if f < t then l ++ [s.extract f.toNat t.toNat] else l
/-- From byte k on, n of them; f: where the word begins. -/
def W (s : ByteArray) : Nat → Nat → Int → List ByteArray → List ByteArray
  | 0, k, f, l => cutF s f k l
  | n + 1, k, f, l => if bt s k = 32 ∨ bt s k = 10 then W s n (k + 1) (k + 1) (cutF s f k l) else W s n (k + 1) f l
theorem cutF_len (s : ByteArray) (f t : Int) (l : List ByteArray) : (cutF s f t l).length ≤ l.length + 1 := by
  unfold cutF
  split <;> simp
theorem Cutting.below {H B Bl Bf : Nat} {w a b : World} (h : Below H w a) (k : Cutting B Bl Bf a b) (h1 : H ≤ B) (h2 : H ≤ Bl) (h3 : H ≤ Bf) : Below H w b :=
  h.trans ⟨k.os, k.tape, k.output, k.size, fun i hi => k.block i (by omega) (by omega) (by omega)⟩
theorem asz (w : World) (o : Obj) : (w.alloc o).heap.size = w.heap.size + 1 := by
  show (w.heap.push o).size = _
  simp
theorem aat (w : World) (o : Obj) : (w.alloc o).heap[w.heap.size]? = some o := by
  show (w.heap.push o)[w.heap.size]? = _
  simp
/-- The world ahead of the loop: three boxes and the text's bytes. -/
def W0 (w : World) (s : ByteArray) : World := Lib.bytesWorld (((w.alloc (.cells #[.string s] 9)).alloc (.cells #[.slice none 0 0] 53)).alloc (.cells #[.int .i64 0] 3)) 5 s
theorem W0_size (w : World) (s : ByteArray) : (W0 w s).heap.size = w.heap.size + 4 := by
  unfold W0
  rw [Lib.bytesWorld_size]
  simp only [asz]
theorem W0_below (w : World) (s : ByteArray) : Below w.heap.size w (W0 w s) :=
  bytes_below ((((Below.refl _ _).alloc (Nat.le_refl _) _).alloc (by simp only [asz]; omega) _).alloc (by simp only [asz]; omega) _) (by simp only [asz]; omega) 5 s
theorem W0_at (w : World) (s : ByteArray) : (W0 w s).heap[w.heap.size]? = some (.cells #[.string s] 9 (0, 0)) ∧ (W0 w s).heap[w.heap.size + 1]? = some (.cells #[.slice none 0 0] 53 (0, 0)) ∧ (W0 w s).heap[w.heap.size + 2]? = some (.cells #[.int .i64 0] 3 (0, 0)) := by
  unfold W0
  have z1 := asz w (.cells #[.string s] 9)
  have z2 := asz (w.alloc (.cells #[.string s] 9)) (.cells #[.slice none 0 0] 53)
  have z3 := asz ((w.alloc (.cells #[.string s] 9)).alloc (.cells #[.slice none 0 0] 53)) (.cells #[.int .i64 0] 3)
  refine ⟨?_, ?_, ?_⟩
  · rw [Lib.bytesWorld_at_old _ _ _ _ (by omega), Below.heap_alloc _ _ _ (by omega), Below.heap_alloc _ _ _ (by omega)]
    exact aat _ _
  · rw [Lib.bytesWorld_at_old _ _ _ _ (by omega), Below.heap_alloc _ _ _ (by omega), ← z1]
    exact aat _ _
  · rw [Lib.bytesWorld_at_old _ _ _ _ (by omega), show w.heap.size + 2 = ((w.alloc (.cells #[.string s] 9)).alloc (.cells #[.slice none 0 0] 53)).heap.size by omega]
    exact aat _ _
theorem W0_cell (w : World) (s : ByteArray) (hs : s.size ≤ 1000) (j : Nat) (hj : j < s.size) : (W0 w s).cell? ⟨w.heap.size + 3, j, none⟩ = some (.int .u8 (bt s j)) := by
  obtain ⟨_, _, h3⟩ := bytes_reads (((w.alloc (.cells #[.string s] 9)).alloc (.cells #[.slice none 0 0] 53)).alloc (.cells #[.int .i64 0] 3)) 5 s (by omega)
  obtain ⟨ad, he, hc⟩ := h3 (by omega)
  have h4 := hc j hj
  cases he
  rw [add_plain] at h4
  have e : (((w.alloc (.cells #[.string s] 9)).alloc (.cells #[.slice none 0 0] 53)).alloc (.cells #[.int .i64 0] 3)).heap.size = w.heap.size + 3 := by simp only [asz]
  rw [e] at h4
  unfold W0
  rw [h4, ← rd_bytesOf]
  rfl
set_option maxRecDepth 100000 in
set_option maxHeartbeats 8000000 in
theorem words_calls (s : ByteArray) (hss : s.size ≤ 1000) (w : World) :
    Calls Try.prog 36 #[.string s] w fun e w' => ∃ v0_ : Value, e = .returned (v0_) ∧ Kd.R Kd.string 9 w' w.heap.size (fun _ => True) v0_ (W s s.size 0 0 []) ∧ Below w.heap.size w w' := by
  have hbytes := fun W_ => print_bytes (P := Try.prog) 9 44 5 Try.underlying9 Try.underlying44 Try.underlying5 s W_
  obtain ⟨R, hR⟩ : ∃ R, W s s.size 0 0 [] = R := ⟨_, rfl⟩
  rw [hR]
  have HS := Aside0.mk hR
  have HW1 := Aside0.mk (W0_at w s)
  have HW2 := Aside0.mk (W0_cell w s hss)
  have HW3 := Aside0.mk (W0_below w s)
  have HW4 := Aside0.mk (W0_size w s)
  clear hR
  go_enter Try.func36, Try.ntmps36
  go_wp2_with fail
  go_loopw [12] (fun v12 wr => ∃ (k : Nat) (f : Nat) (v : Value) (l : List ByteArray), v12 = .int .i64 k ∧ k ≤ s.size ∧ f ≤ k ∧ l.length ≤ k ∧ Aside0 (W s (s.size - k) k f l = R) ∧ Aside0 (Cutting (w.heap.size + 4) (w.heap.size + 1) (w.heap.size + 2) (W0 w s) wr) ∧ Aside0 (wr.heap[w.heap.size + 1]? = some (.cells #[v] 53 (0, 0))) ∧ Aside0 (wr.heap[w.heap.size + 2]? = some (.cells #[.int .i64 f] 3 (0, 0))) ∧ Aside0 (Kd.R Kd.string 9 wr (w.heap.size + 4) (fun _ => True) v l)) (fun v12 _ => s.size - (intOf v12).toNat)
  case atStart => exact ⟨0, 0, _, [], rfl, Nat.zero_le _, Nat.le_refl _, Nat.le_refl _, HS, ⟨Cutting.of (Below.refl _ _)⟩, ⟨HW1.out.2.1⟩, ⟨HW1.out.2.2⟩, ⟨Kd.R_nil _ _ _ _ _⟩⟩
  case round =>
    obtain ⟨k, f, v, l, rfl, hk, hf, hl, HG, HC, HL, HF, HR⟩ := hrel
    clear HS
    have hs1 : wr.heap[w.heap.size]? = some (.cells #[.string s] 9 (0, 0)) := (HC.out.block _ (by omega) (by omega) (by omega)).trans HW1.out.1
    have cs1 := cell_of_one hs1
    have hsz1 : w.heap.size + 4 ≤ wr.heap.size := by have h1 := HC.out.size; rw [HW4.out] at h1; exact h1
    have HB := Aside0.mk (Cutting.below HW3.out HC.out (by omega) (by omega) (by omega))
    have HS1 := Aside0.mk hs1
    have HZ1 := Aside0.mk hsz1
    clear hs1 hsz1
    by_cases hlt : k < s.size
    · have hce : wr.cell? ⟨w.heap.size + 1 + 1 + 1, k, none⟩ = some (.int .u8 (bt s k)) := by
        rw [← HW2.out k hlt]
        exact World.cell?_of_block (w := W0 w s) (HC.out.block (w.heap.size + 3) (by omega) (by omega) (by omega))
      have hg := HG.out
      rw [show s.size - k = (s.size - (k + 1)) + 1 by omega, W] at hg
      have HG2 := Aside0.mk hg
      clear hg HG
      rcases (show bt s k = 32 ∨ (¬ bt s k = 32 ∧ bt s k = 10) ∨ (¬ bt s k = 32 ∧ ¬ bt s k = 10) by omega) with h1 | ⟨h1, h2⟩ | ⟨h1, h2⟩
      · have hsp : bt s k = 32 ∨ bt s k = 10 := Or.inl h1
        go_wp2_with fail
        refine (cut_calls s wr (w.heap.size + 4) w.heap.size (w.heap.size + 1) (w.heap.size + 1 + 1) (by omega) (by omega) (by omega) (by omega) (by omega) (by omega) v l f k HS1.out HL.out HF.out HR.out HZ1.out (by omega) (by omega) (by omega) (by omega) (by omega)).mono ?_
        rintro e w2 ⟨rfl, hC2, v2, hl2, hf2, hR2⟩
        have HL2 := Aside0.mk hl2
        have HF2 := Aside0.mk hf2
        have HR2 := Aside0.mk hR2
        have HC2 := Aside0.mk (HC.out.trans hC2)
        clear hl2 hf2 hR2 hC2
        go_wp2
        go_roundw
        case measure => simp [intOf]; omega
        case rel => exact ⟨k + 1, k + 1, v2, cutF s f k l, by go_num, by omega, by omega, by have := cutF_len s f k l; omega, ⟨by have h := HG2.out; rw [if_pos hsp] at h; exact h⟩, ⟨HC2.out⟩, ⟨HL2.out⟩, ⟨HF2.out⟩, ⟨HR2.out⟩⟩
      · have hsp : bt s k = 32 ∨ bt s k = 10 := Or.inr h2
        go_wp2_with fail
        refine (cut_calls s wr (w.heap.size + 4) w.heap.size (w.heap.size + 1) (w.heap.size + 1 + 1) (by omega) (by omega) (by omega) (by omega) (by omega) (by omega) v l f k HS1.out HL.out HF.out HR.out HZ1.out (by omega) (by omega) (by omega) (by omega) (by omega)).mono ?_
        rintro e w2 ⟨rfl, hC2, v2, hl2, hf2, hR2⟩
        have HL2 := Aside0.mk hl2
        have HF2 := Aside0.mk hf2
        have HR2 := Aside0.mk hR2
        have HC2 := Aside0.mk (HC.out.trans hC2)
        clear hl2 hf2 hR2 hC2
        go_wp2
        go_roundw
        case measure => simp [intOf]; omega
        case rel => exact ⟨k + 1, k + 1, v2, cutF s f k l, by go_num, by omega, by omega, by have := cutF_len s f k l; omega, ⟨by have h := HG2.out; rw [if_pos hsp] at h; exact h⟩, ⟨HC2.out⟩, ⟨HL2.out⟩, ⟨HF2.out⟩, ⟨HR2.out⟩⟩
      · have b1 : (bt s k == 32) = false := beq_eq_false_iff_ne.mpr h1
        have b2 : (bt s k == 10) = false := beq_eq_false_iff_ne.mpr h2
        go_wp2_with fail
        go_roundw
        case measure => simp [intOf]; omega
        case rel => exact ⟨k + 1, f, v, l, by go_num, by omega, by omega, by omega, ⟨by have h := HG2.out; rw [if_neg (by omega)] at h; exact h⟩, ⟨HC.out⟩, ⟨HL.out⟩, ⟨HF.out⟩, ⟨HR.out⟩⟩
    · have e0 : k = s.size := by omega
      subst e0
      have hg := HG.out
      rw [Nat.sub_self, W] at hg
      have HG2 := Aside0.mk hg
      clear hg HG
      go_wp2_with fail
      refine (cut_calls s wr (w.heap.size + 4) w.heap.size (w.heap.size + 1) (w.heap.size + 1 + 1) (by omega) (by omega) (by omega) (by omega) (by omega) (by omega) v l f s.size HS1.out HL.out HF.out HR.out HZ1.out (by omega) (by omega) (by omega) (by omega) (by omega)).mono ?_
      rintro e w2 ⟨rfl, hC2, v2, hl2, hf2, hR2⟩
      have cl2 := cell_of_one hl2
      have HR2 := Aside0.mk hR2
      have HB2 := Aside0.mk (Cutting.below HB.out hC2 (by omega) (by omega) (by omega))
      clear hl2 hf2 hR2 hC2
      go_wp2
      go_ret
      refine ⟨_, rfl, ?_, HB2.out⟩
      rw [← HG2.out]
      exact Kd.R_lower HR2.out (by omega)
end Go.Proofs.Ytebdjhgboeadgaa.Jw
