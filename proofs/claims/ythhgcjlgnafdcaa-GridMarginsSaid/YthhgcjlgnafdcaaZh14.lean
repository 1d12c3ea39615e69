/- Texts of this seat, put together (Zh14). -/
import Derived.Deep.LoopGhost
import Derived.Test.YthhgcjlgnafdcaaZh12
import Derived.Test.YthhgcjlgnafdcaaZh13
section
namespace Go.Proofs.Ythhgcjlgnafdcaa.Tj
set_option linter.unusedVariables false
set_option linter.unusedSimpArgs false
open Go Go.RowKit Go.Proofs.YthhgcjlgnafdcaaW.PrintWords Go.Proofs.YthhgcjlgnafdcaaW.PrintLast Go.Proofs.Ythhgcjlgnafdcaa.Hd Go.Proofs.Ythhgcjlgnafdcaa.Os Go.Proofs.Ythhgcjlgnafdcaa.Tb Go.Proofs.Ythhgcjlgnafdcaa.Tm
theorem key_c {w : World} (a k : ByteArray) (v : Value) : Tells Try.prog 123 #[.agg #[.string a, v], .string k] w (.int .i64 (cmpS a k)) := by
  unfold Tells
  go_enter Try.func123, Try.ntmps123
  have H := (All.start w).box w.heap.size 173 #[.string a, v]
  go_wp2_with fail
  refine (Kc.cmp_c a k).on H fun w1 H => ?_
  go_wp2
  go_ret
  exact ⟨rfl, H.old⟩
set_option maxRecDepth 100000 in
set_option maxHeartbeats 4000000 in
theorem search_c {w : World} {ok : Nat → Prop} {T : World → Prop} (A : Option Addr) (l : Rws) (c : Nat) (k : ByteArray) (hu : Up cmpS l) (hc : l.length ≤ c) (hmax : l.length < 4611686018427387904) (hH : Held w ok T) (hR : ∀ W, T W → Rng A l W) :
    Tells Try.prog 122 #[.slice A l.length c, .string k, .func (.func 123) #[] #[]] w (.tuple #[.int .i64 (pos cmpS l k : Nat), .bool (has cmpS l k)]) := by
  unfold Tells
  have hp : pos cmpS l k ≤ l.length := pos_le
  have HP := Aside0.mk hp
  have HU := Aside0.mk hu
  obtain ⟨p, hp0⟩ : ∃ p, pos cmpS l k = p := ⟨_, rfl⟩
  obtain ⟨q, hq0⟩ : ∃ q, has cmpS l k = q := ⟨_, rfl⟩
  rw [hp0, hq0]
  replace hp0 := Aside0.mk hp0
  replace hq0 := Aside0.mk hq0
  have HR := Aside0.mk hR
  clear hp hu hR
  obtain ⟨H⟩ : Nonempty (All w w [(ok, T)]) := ⟨(All.start w).arg hH⟩
  clear hH
  go_enter Try.func122, Try.ntmps122
  go_wp2_with fail
  go_loopg [9, 10] l.length (fun kx s9 s10 wr => ∃ lo hi : Nat, s9 = .int .i64 lo ∧ s10 = .int .i64 hi ∧ lo ≤ hi ∧ hi ≤ l.length ∧ hi - lo ≤ kx ∧ All w wr [(ok, T)] ∧
    Aside0 ((lo = 0 ∨ ∃ h : lo - 1 < l.length, cmpS l[lo - 1].1 k = -1) ∧ (∀ (h : hi < l.length), cmpS l[hi].1 k ≠ -1)))
  case atStart => exact ⟨0, l.length, rfl, rfl, Nat.zero_le _, Nat.le_refl _, by omega, H, ⟨.inl rfl, fun h => absurd h (Nat.lt_irrefl _)⟩⟩
  case round =>
    clear H
    obtain ⟨lo, hi, rfl, rfl, hlh, hin, hg, H, I⟩ := hrel
    by_cases hlt : lo < hi
    · obtain ⟨g, rfl, hrd⟩ := HR.out wr (H.at 0 rfl) ((lo + hi) / 2) (by omega)
      obtain ⟨r, hr⟩ : ∃ r, l[(lo + hi) / 2]'(by omega) = r := ⟨_, rfl⟩
      rw [hr] at hrd
      have hc0 : wr.cell? ⟨g, (lo + hi) / 2 * 2, none⟩ = some (.string r.1) := hrd 0 _ rfl
      have hc1 : wr.cell? ⟨g, (lo + hi) / 2 * 2 + 1, none⟩ = some r.2 := hrd 1 _ rfl
      replace hr := Aside0.mk hr
      clear hrd
      by_cases hb : cmpS r.1 k = -1
      · go_wp2_with fail
        refine (key_c r.1 k r.2).on H fun w1 H => ?_
        rw [hb]
        go_wp2_with fail
        go_roundg (hi - ((lo + hi) / 2 + 1))
        case measure => omega
        case rel => exact ⟨(lo + hi) / 2 + 1, hi, by rw [show ((lo : Int) + (hi : Int)) / 2 + 1 = (((lo + hi) / 2 + 1 : Nat) : Int) by omega], rfl, by omega, hin, Nat.le_refl _, H, ⟨.inr ⟨by omega, by simp only [Nat.add_sub_cancel]; rw [hr.out]; exact hb⟩, I.out.2⟩⟩
      · have hs := good_S.sgn r.1 k
        have hn : ¬ cmpS r.1 k < 0 := by omega
        clear hs
        go_wp2_with fail
        refine (key_c r.1 k r.2).on H fun w1 H => ?_
        go_wp2_with fail
        go_roundg ((lo + hi) / 2 - lo)
        case measure => omega
        case rel => exact ⟨lo, (lo + hi) / 2, rfl, by rw [show ((lo : Int) + (hi : Int)) / 2 = (((lo + hi) / 2 : Nat) : Int) by omega], by omega, by omega, Nat.le_refl _, H, ⟨I.out.1, fun h => by rw [hr.out]; exact hb⟩⟩
    · obtain rfl : hi = lo := by omega
      have hpos : pos cmpS l k = hi := pos_mid good_S HU.out hin I.out.1 I.out.2
      obtain rfl : p = hi := hp0.out.symm.trans hpos
      have hq1 := hq0.out
      clear hp0 hq0 HP
      by_cases hn : p < l.length
      · have hhas := has_of (c := cmpS) (l := l) (k := k) (by rw [hpos]; exact hn)
        simp only [hpos] at hhas
        obtain ⟨g, rfl, hrd⟩ := HR.out wr (H.at 0 rfl) p hn
        obtain ⟨r, hr⟩ : ∃ r, l[p] = r := ⟨_, rfl⟩
        rw [hr] at hrd hhas
        have hc0 : wr.cell? ⟨g, p * 2, none⟩ = some (.string r.1) := hrd 0 _ rfl
        have hc1 : wr.cell? ⟨g, p * 2 + 1, none⟩ = some r.2 := hrd 1 _ rfl
        rw [hhas] at hq1
        subst hq1
        clear hrd hhas hpos hr I
        by_cases hz : cmpS r.1 k = 0
        · go_wp2_with fail
          refine (key_c r.1 k r.2).on H fun w1 H => ?_
          rw [hz]
          go_wp2
          go_ret2
          exact ⟨by simp [hz], H.old⟩
        · go_wp2_with fail
          refine (key_c r.1 k r.2).on H fun w1 H => ?_
          go_wp2
          go_ret2
          exact ⟨by simp [hz], H.old⟩
      · rw [has_end (by omega)] at hq1
        subst hq1
        clear hpos I
        go_wp2
        go_ret2
        exact ⟨rfl, H.old⟩
section
variable {w0 w : World} {L : List F2} {b i j n c lo : Nat} {A : Option Addr} {l : Rws}
theorem place_c (H : All w0 w L) {tt : TypeId} {bs : Array Value} (hi : L[i]? = some (bx b tt bs)) (hj : L[j]? = some (ow lo 173 2 (.slice A n c) n (flat l))) (hu : Up cmpS l) (hmax : n < 4611686018427387904) (k : ByteArray) (hcs : bs[0]? = some (.slice A n c) := by rfl) :
    Tells Try.prog 94 #[.pointer (some ⟨b, 0, none⟩), .string k] w (.tuple #[.int .i64 (pos cmpS l k : Nat), .bool (has cmpS l k)]) := by
  obtain ⟨rfl, hc, _⟩ := ow_rng (H.at j hj)
  have hs := fun w' (h : All w0 w' L) => search_c (w := w') A l c k hu hc hmax (h.get j hj) (fun W hW => (ow_rng hW).2.2)
  have H' : All w w [(_, _)] := (All.start w).arg (H.get i hi)
  have hs' := hs w H
  clear hs
  unfold Tells
  go_enter Try.func94, Try.ntmps94
  have r0 := (H'.rd 0 rfl 0).trans hcs
  go_wp2_with fail
  refine hs'.on H' fun w1 H1 => ?_
  go_wp2
  go_ret2
  exact ⟨rfl, H1.old⟩
theorem get_nil {w : World} (k : ByteArray) : Tells Try.prog 58 #[.pointer none, .string k] w (.tuple #[.int .i64 0, .bool false]) := by
  unfold Tells
  go_enter Try.func58, Try.ntmps58
  go_wp2
  go_ret2
  exact ⟨rfl, Below.refl _ _⟩
theorem get_c (H : All w0 w L) {tt : TypeId} {bs : Array Value} (hi : L[i]? = some (bx b tt bs)) (hj : L[j]? = some (ow lo 173 2 (.slice A n c) n (flat l))) (hu : Up cmpS l) (hmax : n < 4611686018427387904) (k : ByteArray) (hcs : bs[0]? = some (.slice A n c) := by rfl) :
    Tells Try.prog 58 #[.pointer (some ⟨b, 0, none⟩), .string k] w (.tuple #[(Tb.get cmpS l k).getD (.int .i64 0), .bool (has cmpS l k)]) := by
  have hp := place_c H hi hj hu hmax k hcs
  obtain ⟨hn, hc, hR⟩ := ow_rng (H.at j hj)
  have H2 : All w w [(_, _)] := (All.start w).arg ((H.get i hi).both' (H.get j hj))
  clear H
  cases hh : has cmpS l k with
  | false =>
    have hg : Tb.get cmpS l k = none := by unfold Tb.get; simp [hh]
    rw [hg]
    rw [hh] at hp
    clear hh hg
    unfold Tells
    go_enter Try.func58, Try.ntmps58
    go_wp2_with fail
    refine hp.on H2 fun w1 H1 => ?_
    go_wp2
    go_ret2
    exact ⟨rfl, H1.old⟩
  | true =>
    obtain ⟨hlt, hz0⟩ := has_lt hh
    clear hz0
    obtain ⟨x, hx⟩ : ∃ x, l[pos cmpS l k].2 = x := ⟨_, rfl⟩
    have hg : Tb.get cmpS l k = some x := by unfold Tb.get; simp [hh, List.getElem?_eq_getElem hlt, hx]
    have hcl : ∀ W, Ow lo 173 2 (.slice A n c) n (flat l) W → ∃ g, A = some ⟨g, 0, none⟩ ∧ W.cell? ⟨g, pos cmpS l k * 2 + 1, none⟩ = some x := fun W hW => by
      obtain ⟨g, rfl, hrd⟩ := (ow_rng hW).2.2 (pos cmpS l k) hlt
      exact ⟨g, rfl, by rw [← hx]; exact hrd 1 _ rfl⟩
    rw [hg, Option.getD_some]
    rw [hh] at hp
    have hlt' : pos cmpS l k < n := by omega
    clear hh hg hx hR hlt
    generalize pos cmpS l k = p at *
    unfold Tells
    go_enter Try.func58, Try.ntmps58
    go_wp2_with fail
    refine hp.on H2 fun w1 H1 => ?_
    obtain ⟨h3, h4⟩ := H1.at 0 rfl
    have r0 := (blk_cell h3 0).trans hcs
    obtain ⟨g, rfl, hc1⟩ := hcl _ h4
    clear hcl h3 h4
    go_wp2
    go_ret2
    exact ⟨rfl, H1.old⟩
end
end Go.Proofs.Ythhgcjlgnafdcaa.Tj
end
