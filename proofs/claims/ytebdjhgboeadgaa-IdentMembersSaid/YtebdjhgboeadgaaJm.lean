/- ident.Members: a map of bools that the call makes and keeps. -/
import Derived.Test.YtebdjhgboeadgaaProg
import Derived.Test.YtebdjhgboeadgaaWMore
import Derived.Test.YtebdjhgboeadgaaWLast
import Derived.Maps.OwnSet
import Derived.Maps.OwnOps
import Derived.Maps.Views
import Derived.Carry
namespace Go.Proofs.Ytebdjhgboeadgaa.Jm
set_option linter.unusedSimpArgs false
set_option linter.unusedVariables false
open Go Go.RowKit Go.Maps Go.WideMaps Go.Proofs.YtebdjhgboeadgaaW.PrintWords Go.Proofs.YtebdjhgboeadgaaW.PrintLast Go.Proofs.YtebdjhgboeadgaaW.PrintMore
/-- 'm[k]' at elements that are bools. -/
theorem plainElem_bool_inv {H : Type} {P : Program} {e : TypeId} (he : P.underlying e = some .bool) {v : Value} {z : DataW H × List MemPlace} (h : plainElem P e v = some z) : ∃ x, v = .bool x ∧ z = (.lit (.bool x), []) := by
  unfold plainElem at h
  rw [he] at h
  cases v <;> simp at h
  exact ⟨_, rfl, h.symm⟩
theorem lookup_bool {H : Type} {P : Program} {k : TypeId} {w : World} {b n : Nat} {D : DataW H} {t e : TypeId} (h : w.ownsMap P k (plainElem P e) b n D) (K : Keyed P k) (ht : P.underlying t = some (.map k e)) (he : P.underlying e = some .bool) (hz : (zeroValue e).run P w = .ok (.bool false) w)
    {key : Value} {kl : Lit} (hkey : keyOf P k key = some kl) : ∃ c, (Instr.lookup t (.map (some b)) key false).run P w = .ok (.bool c) w ∧ D.atKey kl (.lit (.bool false)) = .lit (.bool c) := by
  obtain ⟨v, ps, hrun, hv⟩ := h.lookup K ht hz (plainElem_bool he false) hkey
  obtain ⟨c, rfl, hc⟩ := plainElem_bool_inv he hv
  simp only [Prod.mk.injEq] at hc
  exact ⟨c, hrun, hc.1⟩
def kOf (s : ByteArray) : Lit := .string s.data.toList
theorem kOf_inj {s t : ByteArray} (h : kOf s = kOf t) : s = t := by
  simp only [kOf, Lit.string.injEq] at h
  exact ByteArray.ext (Array.toList_inj.1 h)
/-- Is a text on a list? -/
def mem (s : ByteArray) (L : List ByteArray) : Bool := L.any fun x => decide (x.data.toList = s.data.toList)
theorem atKey_fold {H : Type} (u z : DataW H) (s : ByteArray) : ∀ (L : List ByteArray) (m : DataW H), IsMap m → ((L.map kOf).foldl (fun m x => m.put x u) m).atKey (kOf s) z = if mem s L = true then u else m.atKey (kOf s) z
  | [], m, _ => by simp [mem]
  | x :: r, m, hm => by
    rw [List.map_cons, List.foldl_cons, atKey_fold u z s r _ (hm.put _ u)]
    by_cases e : s = x
    · subst e
      rw [atKey_put_same hm (by exact trivial)]
      simp [mem]
    · rw [atKey_put_other (fun q => e (kOf_inj q))]
      have e2 : ¬ x.data = s.data := fun q => e (ByteArray.ext q.symm)
      have e3 : mem s (x :: r) = mem s r := by simp [mem, e2]
      rw [e3]
/-- The names met so far. -/
def met (l : List ByteArray) (k : Nat) : DataW Unit := setOf (.lit (.bool true)) ((l.take k).map kOf)
theorem met_at (l : List ByteArray) (k : Nat) (s : ByteArray) : (met l k).atKey (kOf s) (.lit (.bool false)) = .lit (.bool (mem s (l.take k))) := by
  rw [met, setOf, atKey_fold _ _ _ _ _ isMap_empty]
  cases h : mem s (l.take k)
  · simp
    rfl
  · simp
theorem met_succ (l : List ByteArray) (k : Nat) (h : k < l.length) : (met l k).put (kOf (l.getD k ⟨#[]⟩)) (.lit (.bool true)) = met l (k + 1) := by
  have e : l.take (k + 1) = l.take k ++ [l.getD k ⟨#[]⟩] := by
    rw [List.take_add_one, List.getD_eq_getElem?_getD, List.getElem?_eq_getElem h]
    rfl
  rw [met, met, e, List.map_append, List.map_cons, List.map_nil, setOf_snoc]
/-- From the k-th name on, n of them; twice: has one been met twice? -/
def g (mF : ByteArray → Option Int) (l : List ByteArray) : Nat → Nat → Bool → Option Int
  | 0, _, tw => some (if tw then 6 else 0)
  | n + 1, k, tw => (mF (l.getD k ⟨#[]⟩)).bind fun e => if e = 0 then g mF l n (k + 1) (tw || mem (l.getD k ⟨#[]⟩) (l.take k)) else some e
theorem law : Keyed Try.prog 9 := string_keyed Try.underlying9
theorem zero4 (w : World) : (zeroValue 4).run Try.prog w = .ok (.bool false) w := by kernel_rfl
theorem grown_of {w w' : World} (h : Below w.heap.size w w') : w.grownBy w' none := ⟨h.os, h.tape, h.output, h.size, fun k hk _ => h.block k hk⟩
set_option maxRecDepth 100000 in
set_option maxHeartbeats 4000000 in
theorem members_calls (mF : ByteArray → Option Int) (hM : ∀ (s : ByteArray) (e : Int) (w : World), mF s = some e → Calls Try.prog 62 #[.string s] w fun e' w' => e' = .returned (.int .i64 e) ∧ Below w.heap.size w w') (A0 : Option Addr) (c0 : Nat) (l0 : List ByteArray) (r : Int) (w : World) (hr0 : Kd.C Kd.string w A0 l0.length l0) (hc0 : l0.length ≤ c0) (hln : l0.length ≤ 1000) (hss : ∀ s ∈ l0, s.size ≤ 1000) (h : g mF l0 l0.length 0 false = some r) :
    Calls Try.prog 38 #[.slice A0 l0.length c0] w fun e w' => e = .returned (.int .i64 r) ∧ Below w.heap.size w w' := by
  have hmm := @run_makeMap Try.prog
  have hrd : ReadsOf Value.string ⟨#[]⟩ w A0 l0.length l0 := Kd.reads_of_C (h1 := fun _ => rfl) hr0
  have HR := Aside0.mk hrd
  have HH := Aside0.mk h
  clear hr0 h hrd
  go_enter Try.func38, Try.ntmps38
  go_wp2_with fail
  go_loopw [4, 11] (fun v4 v11 wr => ∃ (k : Nat) (tw : Bool), v4 = .bool tw ∧ v11 = .int .i64 k ∧ k ≤ l0.length ∧ Aside0 (g mF l0 (l0.length - k) k tw = some r) ∧ Aside0 (wr.ownsMap Try.prog 9 (plainElem Try.prog 4) w.heap.size k (met l0 k)) ∧ Aside0 (Below w.heap.size w wr)) (fun _ v11 _ => l0.length - (intOf v11).toNat)
  case atStart => exact ⟨0, false, rfl, rfl, Nat.zero_le _, HH, ⟨World.ownsMap_made _ _ _ _⟩, ⟨(Below.refl _ _).alloc (Nat.le_refl _) _⟩⟩
  case round =>
    obtain ⟨k, tw, rfl, rfl, hk, HG, HO, HB⟩ := hrel
    clear HH
    by_cases hlt : k < l0.length
    · obtain ⟨ad, rfl, hcell⟩ := HR.out.2.2 (by omega)
      obtain ⟨s, hs⟩ : ∃ s, l0.getD k ⟨#[]⟩ = s := ⟨_, rfl⟩
      have hce : wr.cell? (ad.add k) = some (.string s) := by
        rw [← hs]
        exact pw_cell_below HB.out (hcell k hlt)
      have hsz : s.size ≤ 1000 := hss s (by rw [← hs, List.getD_eq_getElem?_getD, List.getElem?_eq_getElem hlt]; exact List.getElem_mem hlt)
      have hg := HG.out
      rw [show l0.length - k = (l0.length - (k + 1)) + 1 by omega, g, hs] at hg
      obtain ⟨e, he, hg⟩ := Option.bind_eq_some_iff.mp hg
      have HG2 := Aside0.mk hg
      have HE := Aside0.mk he
      clear hg he HG
      go_wp2_with fail
      refine (hM s e wr HE.out).mono ?_
      rintro e' w2 ⟨rfl, hb2⟩
      have HB2 := Aside0.mk (HB.out.trans (hb2.mono HB.out.size))
      have own2 := HO.out.kept (grown_of hb2) (by simp)
      have hkey : keyOf Try.prog 9 (.string s) = some (kOf s) := keyOf_string_mk Try.underlying9 (by unfold maxLen; omega)
      have HO2 := Aside0.mk own2
      clear HO HB hb2
      by_cases he0 : e = 0
      · subst he0
        have hg := HG2.out
        rw [if_pos rfl] at hg
        obtain ⟨c, hrun, hat⟩ := lookup_bool own2 law Try.underlying95 Try.underlying4 (zero4 _) hkey
        rw [met_at] at hat
        have hc : mem s (l0.take k) = c := by simpa using hat
        rw [hc] at hg
        clear own2 hat
        have HG3 := Aside0.mk hg
        clear hg HG2
        cases tw
        all_goals go_wp2_with (first | (at_mapUpdate; refine wpList_mapUpdate_own _ rfl _ _ _ 95 rfl 9 4 law Try.underlying95 (plainElem (H := Unit) Try.prog 4) w.heap.size k _ rfl HO2.out (by unfold maxLen; omega) _ _ _ rfl rfl hkey _ [] (plainElem_bool Try.underlying4 true) ?_; intro w3 hown3 hgrow3))
        all_goals go_roundw
        case measure => simp [intOf]; omega
        case rel => exact ⟨k + 1, c, rfl, by go_num, by omega, ⟨by rw [show l0.length - (k + 1) = l0.length - (k + 1) from rfl]; simpa using HG3.out⟩, ⟨by rw [← met_succ l0 k hlt, hs]; exact hown3⟩, ⟨HB2.out.grown hgrow3 HB2.out.size (fun j hj => by cases hj; exact Nat.le_refl _)⟩⟩
        case measure => simp [intOf]; omega
        case rel => exact ⟨k + 1, true, rfl, by go_num, by omega, ⟨by simpa using HG3.out⟩, ⟨by rw [← met_succ l0 k hlt, hs]; exact hown3⟩, ⟨HB2.out.grown hgrow3 HB2.out.size (fun j hj => by cases hj; exact Nat.le_refl _)⟩⟩
      · have hg := HG2.out
        rw [if_neg he0] at hg
        obtain rfl := Option.some.inj hg
        go_wp2
        go_ret
        exact ⟨rfl, HB2.out⟩
    · have e0 : k = l0.length := by omega
      subst e0
      have hg := HG.out
      rw [Nat.sub_self, g] at hg
      obtain rfl := Option.some.inj hg
      cases tw
      all_goals go_wp2
      all_goals go_ret
      all_goals exact ⟨rfl, HB.out⟩
end Go.Proofs.Ytebdjhgboeadgaa.Jm
