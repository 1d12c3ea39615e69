/- Texts of this seat, put together (Zt9). -/
import Derived.Test.YtjbbigodkhnokaaDoorZt0
import Derived.Test.YtjbbigodkhnokaaDoorZt5
import Derived.Test.YtjbbigodkhnokaaDoorZt8
section
namespace Go.Proofs.YtjbbigodkhnokaaDoor.Kn
set_option linter.unusedSimpArgs false
set_option linter.unusedVariables false
open Go Go.RowKit Go.Proofs.YtjbbigodkhnokaaDoorW.PrintWords Go.Proofs.YtjbbigodkhnokaaDoorW.PrintLast Go.Proofs.YtjbbigodkhnokaaDoorW.PrintMore Go.Proofs.YtjbbigodkhnokaaDoor.Hd Go.Proofs.YtjbbigodkhnokaaDoor.Tr
theorem number_c {w0 w : World} {L : List F2} {b : Nat} (s : ByteArray) (n hi lo : Int) (k : Nat) (hp : fixed_Parse.f k s = some (hi, lo, 0)) (hn : fixed_Int.f hi lo = some (n, 0)) (H : All w0 w L) (i : Nat) (hi' : L[i]? = some (bx b 36 #[.int .i64 0])) (hb : w0.heap.size ≤ b) :
    Calls Tryd.prog 45 #[.string s, .pointer (some ⟨b, 0, none⟩)] w fun e w' => e = .returned (.int .i64 n) ∧ All w0 w' L := by
  have hu35 := Tryd.underlying35
  replace hp := Aside0.mk hp
  replace hn := Aside0.mk hn
  go_enter Tryd.func45, Tryd.ntmps45
  go_wp2_with fail
  refine (fixed_Parse.calls k s hi lo 0 _ hp.out).mono ?_
  rintro e w1 ⟨rfl, hb1⟩
  replace H := H.grow hb1
  go_wp2_with fail
  refine (fixed_Int.calls hi lo n 0 _ hn.out).mono ?_
  rintro e w2 ⟨rfl, hb2⟩
  replace H := (H.box w1.heap.size 35 #[.int .i64 hi, .int .u64 lo]).grow hb2
  have hlen : (bx w1.heap.size 35 #[.int .i64 hi, .int .u64 lo] :: L)[i + 1]? = some (bx b 36 #[.int .i64 0]) := hi'
  have r := H.rd (i + 1) hlen
  have z := H.fz (i + 1) hlen
  go_wp2
  go_ret
  refine ⟨rfl, ?_⟩
  exact (H.again (i + 1) hlen 0 (.int .i64 0) rfl hb).tail
def n7 : ByteArray := (⟨#[55]⟩ : ByteArray)
def alfa : ByteArray := (⟨#[97, 108, 102, 97]⟩ : ByteArray)
def beta : ByteArray := (⟨#[98, 101, 116, 97]⟩ : ByteArray)
def us : ByteArray := (⟨#[85, 83, 48, 51, 55, 56, 51, 51, 49, 48, 48, 53]⟩ : ByteArray)
def n10 : ByteArray := (⟨#[49, 48]⟩ : ByteArray)
def n250 : ByteArray := (⟨#[50, 53, 48]⟩ : ByteArray)
def txt : ByteArray := (⟨#[55, 32, 97, 108, 102, 97, 32, 98, 101, 116, 97, 32, 85, 83, 48, 51, 55, 56, 51, 51, 49, 48, 48, 53, 32, 49, 48, 32, 50, 53, 48]⟩ : ByteArray)
def sn : Nat → Code → Code
  | n + 1, .seq _ d => sn n d
  | _, c => c
theorem known_check : trade_Check.f 40 7 alfa beta us 10 250 = some 0 := by kernel_rfl
set_option maxRecDepth 100000 in
set_option maxHeartbeats 2000000 in
theorem parse_t {w W : World} {b2 b5 b7 : Nat} (h2 : w.heap.size ≤ b2) (h5 : w.heap.size ≤ b5) {L : List F2} (H : All w W (bx b7 28 #[.int .i64 7, .string alfa, .string beta, .string us, .int .i64 10, .int .i64 250] :: bx b5 36 #[.int .i64 0] :: bx b2 28 #[.int .i64 0, .string ⟨#[]⟩, .string ⟨#[]⟩, .string ⟨#[]⟩, .int .i64 0, .int .i64 0] :: L))
    {u0 u1 u3 u4 u6 u8 u9 u10 u11 u12 u13 u14 u15 u16 u17 u18 u19 u20 u21 u22 u23 u24 u25 u26 u27 u28 u29 u30 u31 u32 u33 u34 u35 u36 u37 u38 u39 u40 u41 u42 u43 u44 u45 u46 u47 u48 : Value} : Code.wp Tryd.prog (sn 6 (Tryd.f27.body.getD .skip)) (bodyPost Tryd.prog Tryd.f27 fun e w' => e = .returned (.tuple #[.agg #[.int .i64 7, .string alfa, .string beta, .string us, .int .i64 10, .int .i64 250], .int .i64 0]) ∧ Below w.heap.size w w') { tmps := #[u0, u1, .pointer (some ⟨b2, 0, none⟩), u3, u4, .pointer (some ⟨b5, 0, none⟩), u6, .pointer (some ⟨b7, 0, none⟩), u8, u9, u10, u11, u12, u13, u14, u15, u16, u17, u18, u19, u20, u21, u22, u23, u24, u25, u26, u27, u28, u29, u30, u31, u32, u33, u34, u35, u36, u37, u38, u39, u40, u41, u42, u43, u44, u45, u46, u47, u48], defers := [] } W := by
  have hu28 := Tryd.underlying28
  simp only [sn, Tryd.f27, Option.getD]
  have r1 := H.rd 1 rfl
  have z1 := H.fz 1 rfl
  have r0 := H.rd 0 rfl
  go_wp2_with fail
  refine (trade_Check.calls 40 7 alfa beta us 10 250 0 _ known_check).mono ?_
  rintro e w1 ⟨rfl, hb⟩
  replace H := H.grow hb
  clear r1 z1 r0
  have r1 := H.rd 1 rfl
  have z1 := H.fz 1 rfl
  have H2 := H.again 1 rfl 0 (.int .i64 0) rfl h5
  have s0 := H2.rd 0 rfl
  have s1 := H2.rd 1 rfl
  have s2 := H2.rd 2 rfl
  have z2 := H2.fz 2 rfl
  go_wp2
  have H3 := (((((H2.set 2 rfl 0 (.int .i64 7) h2).set 2 rfl 1 (.string alfa) h2).set 2 rfl 2 (.string beta) h2).set 2 rfl 3 (.string us) h2).set 2 rfl 4 (.int .i64 10) h2).set 2 rfl 5 (.int .i64 250) h2
  exact H3.ret2 2 rfl rfl rfl rfl hu28 rfl (by kernel_rfl) rfl ⟨rfl, H3.old⟩
theorem cnt : Lib.countB txt ⟨#[32]⟩ = 5 := by kernel_rfl
theorem spl : Lib.splitB ⟨#[32]⟩ 0 5 txt = [n7, alfa, beta, us, n10, n250] := by kernel_rfl
theorem p7 : fixed_Parse.f 20 n7 = some (0, 7, 0) := by kernel_rfl
theorem p10 : fixed_Parse.f 20 n10 = some (0, 10, 0) := by kernel_rfl
theorem p250 : fixed_Parse.f 20 n250 = some (0, 250, 0) := by kernel_rfl
theorem i7 : fixed_Int.f 0 7 = some (7, 0) := by kernel_rfl
theorem i10 : fixed_Int.f 0 10 = some (10, 0) := by kernel_rfl
theorem i250 : fixed_Int.f 0 250 = some (250, 0) := by kernel_rfl
set_option maxRecDepth 100000 in
set_option maxHeartbeats 4000000 in
theorem parse_c {w : World} : Calls Tryd.prog 27 #[.string txt] w fun e w' => e = .returned (.tuple #[.agg #[.int .i64 7, .string alfa, .string beta, .string us, .int .i64 10, .int .i64 250], .int .i64 0]) ∧ Below w.heap.size w w' := by
  have hu28 := Tryd.underlying28
  have hu78 := Tryd.underlying78
  go_enter Tryd.func27, Tryd.ntmps27
  have H := (All.start w).box w.heap.size 28 #[.int .i64 0, .string ⟨#[]⟩, .string ⟨#[]⟩, .string ⟨#[]⟩, .int .i64 0, .int .i64 0]
  go_wp2_with fail
  refine (Tryd.split_one txt 32 _ (by decide)).mono ?_
  rintro e w1 ⟨rfl, rfl⟩
  rw [cnt, spl]
  replace H := H.box (w.heap.size + 1) 9 #[.string n7, .string alfa, .string beta, .string us, .string n10, .string n250]
  replace H := H.box (w.heap.size + 1 + 1) 36 #[.int .i64 0]
  have zz : w.heap.size ≤ w.heap.size + 1 + 1 := by omega
  go_wp2_with fail
  refine planT_ (true, [([], []), ([], []), ([1], [1]), ([2], [2]), ([0, 3], [0, 3]), ([], []), ([5], [5]), ([6], [6]), ([], []), ([8], [8]), ([9], [9]), ([], []), ([11], [11]), ([12], [12]), ([], []), ([], []), ([15], [15]), ([16], [16]), ([14, 17, 4], [14, 17]), ([], []), ([], []), ([20], [20]), ([21], [21]), ([19, 22, 18], [19, 22]), ([4, 7, 10, 13, 18, 23], [4, 7, 10, 13, 18, 23]), ([], []), ([25, 24, 23, 0, 1, 2, 3, 4, 5, 6, 7, 8, 9, 10, 11, 12, 13, 14, 15, 16, 17, 18, 19, 20, 21, 22, 23, 24, 25], [24, 25])]) (.fork [.p 0, .p 1, .p 2, .t 3, .p 5, .p 6, .t 7, .p 8, .p 9, .t 10, .p 11, .p 12, .t 13, .p 14, .p 15, .p 16, .t 17, .p 19, .p 20, .p 21, .t 22] 4 25 (.fork [] 18 25 (.fork [] 23 25 (.leaf [.p 24, .c 25, .c 26]) (.leaf [.c 23, .p 24, .c 26])) (.leaf [.c 18, .c 23, .p 24, .c 26])) (.leaf [.c 4, .c 18, .c 23, .p 24, .c 26])) H (by kernel_rfl) (by kernel_rfl) rfl rfl (by kernel_rfl) (by intro c a w d v h; cases d <;> exact h) (fun w2 H => ?_)
  refine pl_fork ?_
  refine pl_P (h := ?_)
  refine pl_P (h := ?_)
  refine pl_P (h := ?_)
  refine pl_L 1 0 H rfl (h := ?_)
  refine pl_P (h := ?_)
  refine pl_P (h := ?_)
  refine pl_L 1 1 H rfl (h := ?_)
  refine pl_P (h := ?_)
  refine pl_P (h := ?_)
  refine pl_L 1 2 H rfl (h := ?_)
  refine pl_P (h := ?_)
  refine pl_P (h := ?_)
  refine pl_L 1 3 H rfl (h := ?_)
  refine pl_P (h := ?_)
  refine pl_P (h := ?_)
  refine pl_P (h := ?_)
  refine pl_L 1 4 H rfl (h := ?_)
  refine pl_P (h := ?_)
  refine pl_P (h := ?_)
  refine pl_P (h := ?_)
  refine pl_L 1 5 H rfl (h := ?_)
  refine pl_done ⟨?_, ?_⟩
  · refine pl_callV Tryd.func45 ((number_c n7 7 0 7 20 p7 i7 H 0 rfl (by omega)).mono ?_)
    rintro e w11 ⟨rfl, H⟩
    refine ⟨_, rfl, H, ?_⟩
    refine pl_done (pl_fork ?_)
    refine pl_done ⟨?_, ?_⟩
    · refine pl_callV Tryd.func45 ((number_c n10 10 0 10 20 p10 i10 H 0 rfl (by omega)).mono ?_)
      rintro e w12 ⟨rfl, H⟩
      refine ⟨_, rfl, H, ?_⟩
      refine pl_done (pl_fork ?_)
      refine pl_done ⟨?_, ?_⟩
      · refine pl_callV Tryd.func45 ((number_c n250 250 0 250 20 p250 i250 H 0 rfl (by omega)).mono ?_)
        rintro e w13 ⟨rfl, H⟩
        refine ⟨_, rfl, H, ?_⟩
        refine pl_done (pl_leaf ?_)
        refine pl_P (h := ?_)
        have zb : w.heap.size ≤ w13.heap.size := H.old.size
        refine pl_R (H.box w13.heap.size 28 #[.int .i64 0, .string ⟨#[]⟩, .string ⟨#[]⟩, .string ⟨#[]⟩, .int .i64 0, .int .i64 0]) (fun H => ?_)
        have q0 := H.rd 0 rfl
        have q1 := H.fz 0 rfl
        have z7 := (H.get 0 rfl).lt _ rfl
        refine pl_W ((((((H.set 0 rfl 0 (.int .i64 7) zb).set 0 rfl 1 (.string alfa) zb).set 0 rfl 2 (.string beta) zb).set 0 rfl 3 (.string us) zb).set 0 rfl 4 (.int .i64 10) zb).set 0 rfl 5 (.int .i64 250) zb) (fun H => ?_)
        refine pl_done ?_
        apply_assumption
        exact parse_t (by omega) (by omega) (H.cut 2)
      · have zb : w.heap.size ≤ w12.heap.size := H.old.size
        refine pl_R (H.box w12.heap.size 28 #[.int .i64 0, .string ⟨#[]⟩, .string ⟨#[]⟩, .string ⟨#[]⟩, .int .i64 0, .int .i64 0]) (fun H => ?_)
        refine pl_done (pl_leaf ?_)
        refine pl_callV Tryd.func45 ((number_c n250 250 0 250 20 p250 i250 H 1 rfl (by omega)).mono ?_)
        rintro e w13 ⟨rfl, H⟩
        refine ⟨_, rfl, H.tail, ?_⟩
        refine pl_P (h := ?_)
        have q0 := H.rd 0 rfl
        have q1 := H.fz 0 rfl
        have z7 := (H.get 0 rfl).lt _ rfl
        refine pl_W ((((((H.set 0 rfl 0 (.int .i64 7) zb).set 0 rfl 1 (.string alfa) zb).set 0 rfl 2 (.string beta) zb).set 0 rfl 3 (.string us) zb).set 0 rfl 4 (.int .i64 10) zb).set 0 rfl 5 (.int .i64 250) zb) (fun H => ?_)
        refine pl_done ?_
        apply_assumption
        exact parse_t (by omega) (by omega) (H.cut 2)
    · have zb : w.heap.size ≤ w11.heap.size := H.old.size
      refine pl_R (H.box w11.heap.size 28 #[.int .i64 0, .string ⟨#[]⟩, .string ⟨#[]⟩, .string ⟨#[]⟩, .int .i64 0, .int .i64 0]) (fun H => ?_)
      refine pl_done (pl_leaf ?_)
      refine pl_callV Tryd.func45 ((number_c n10 10 0 10 20 p10 i10 H 1 rfl (by omega)).mono ?_)
      rintro e w12 ⟨rfl, H⟩
      refine ⟨_, rfl, H.tail, ?_⟩
      refine pl_callV Tryd.func45 ((number_c n250 250 0 250 20 p250 i250 H 1 rfl (by omega)).mono ?_)
      rintro e w13 ⟨rfl, H⟩
      refine ⟨_, rfl, H.tail, ?_⟩
      refine pl_P (h := ?_)
      have q0 := H.rd 0 rfl
      have q1 := H.fz 0 rfl
      have z7 := (H.get 0 rfl).lt _ rfl
      refine pl_W ((((((H.set 0 rfl 0 (.int .i64 7) zb).set 0 rfl 1 (.string alfa) zb).set 0 rfl 2 (.string beta) zb).set 0 rfl 3 (.string us) zb).set 0 rfl 4 (.int .i64 10) zb).set 0 rfl 5 (.int .i64 250) zb) (fun H => ?_)
      refine pl_done ?_
      apply_assumption
      exact parse_t (by omega) (by omega) (H.cut 2)
  · have zb : w.heap.size ≤ w2.heap.size := H.old.size
    refine pl_R (H.box w2.heap.size 28 #[.int .i64 0, .string ⟨#[]⟩, .string ⟨#[]⟩, .string ⟨#[]⟩, .int .i64 0, .int .i64 0]) (fun H => ?_)
    refine pl_done (pl_leaf ?_)
    refine pl_callV Tryd.func45 ((number_c n7 7 0 7 20 p7 i7 H 1 rfl (by omega)).mono ?_)
    rintro e w11 ⟨rfl, H⟩
    refine ⟨_, rfl, H.tail, ?_⟩
    refine pl_callV Tryd.func45 ((number_c n10 10 0 10 20 p10 i10 H 1 rfl (by omega)).mono ?_)
    rintro e w12 ⟨rfl, H⟩
    refine ⟨_, rfl, H.tail, ?_⟩
    refine pl_callV Tryd.func45 ((number_c n250 250 0 250 20 p250 i250 H 1 rfl (by omega)).mono ?_)
    rintro e w13 ⟨rfl, H⟩
    refine ⟨_, rfl, H.tail, ?_⟩
    refine pl_P (h := ?_)
    have q0 := H.rd 0 rfl
    have q1 := H.fz 0 rfl
    have z7 := (H.get 0 rfl).lt _ rfl
    refine pl_W ((((((H.set 0 rfl 0 (.int .i64 7) zb).set 0 rfl 1 (.string alfa) zb).set 0 rfl 2 (.string beta) zb).set 0 rfl 3 (.string us) zb).set 0 rfl 4 (.int .i64 10) zb).set 0 rfl 5 (.int .i64 250) zb) (fun H => ?_)
    refine pl_done ?_
    apply_assumption
    exact parse_t (by omega) (by omega) (H.cut 2)
theorem known_check2 : trade_Check.f 40 7 alfa beta us 0 250 = some 2 := by kernel_rfl
theorem known_value : trade_Value.f 7 alfa beta us 10 250 = some (0, 2500) := by kernel_rfl
set_option maxRecDepth 100000 in
set_option maxHeartbeats 2000000 in
theorem known_c {w : World} : Calls Tryd.prog 11 #[] w fun e w' => e = .returned (.bool true) ∧ Below w.heap.size w w' := by
  have hu28 := Tryd.underlying28
  have hu26 := Tryd.underlying26
  have htxt : Aside0 ((⟨#[55, 32, 97, 108, 102, 97, 32, 98, 101, 116, 97, 32, 85, 83, 48, 51, 55, 56, 51, 51, 49, 48, 48, 53, 32, 49, 48, 32, 50, 53, 48]⟩ : ByteArray) = txt) := ⟨rfl⟩
  go_enter Tryd.func11, Tryd.ntmps11
  go_wp2_with fail
  refine (parse_c (w := w)).mono ?_
  rintro e w1 ⟨rfl, hb⟩
  have H := (All.nil hb).box w1.heap.size 28 #[.int .i64 7, .string alfa, .string beta, .string us, .int .i64 10, .int .i64 250]
  have hw1 : w.heap.size ≤ w1.heap.size := hb.size
  go_wp2_with fail
  refine (trade_Value.calls 7 alfa beta us 10 250 0 2500 _ known_value).mono ?_
  rintro e w2 ⟨rfl, hb2⟩
  replace H := H.grow hb2
  go_wp2_with fail
  refine (Nu.num_c (hi := 0) (lo := 2500) (by unfold Nu.I64; omega) (by unfold Nu.U64; omega)).on H fun v w3 H z3 => ?_
  obtain ⟨A3, c3, rfl, hc3, hR3⟩ := Nu.num_open (H.get 0 rfl)
  replace H := H.turn 0 rfl hR3
  unfold Nu.num
  go_wp2_with fail
  refine (Nu.small_c (a := 2500) (by omega) (by omega)).on H fun v w4 H z4 => ?_
  obtain ⟨A4, c4, rfl, hc4, hR4⟩ := Nu.num_open (H.get 0 rfl)
  replace H := H.turn 0 rfl hR4
  unfold Nu.num
  go_wp2_with fail
  have hl : (Nu.dig (Nu.wd 0 2500)).length ≤ 1000000 := Nat.le_trans (Nu.dig_len (n := 1) (by simp [Nu.wd, Nu.B_succ, Nu.B_zero])) (by decide)
  refine (Nu.cmp_c (x := Nu.wd 0 2500) (y := 2500) (H.get 1 rfl) hc3 (H.get 0 rfl) hc4 hl hl).on H fun w5 H => ?_
  rw [show Nu.sgn (Nu.wd 0 2500) 2500 = 0 by simp [Nu.sgn, Nu.wd]]
  have r := H.rd 2 rfl
  have z := H.fz 2 rfl
  have H2 := H.set 2 rfl 4 (.int .i64 0) hw1
  have r2 := H2.rd 2 rfl
  go_wp2_with fail
  refine (trade_Check.calls 40 7 alfa beta us 0 250 2 _ known_check2).mono ?_
  rintro e w6 ⟨rfl, hb6⟩
  go_wp2
  go_ret
  exact ⟨rfl, (H2.grow hb6).old⟩
end Go.Proofs.YtjbbigodkhnokaaDoor.Kn
end
