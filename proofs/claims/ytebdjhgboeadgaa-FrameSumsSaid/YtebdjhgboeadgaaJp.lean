/- The check sum of frames, plain. -/
import Derived.Laws.BitsLemmas
import Derived.RowKit
namespace Go.Proofs.Ytebdjhgboeadgaa.Jp
set_option linter.unusedSimpArgs false
set_option linter.unusedVariables false
open Go Go.RowKit
def st (x : Nat) : Nat := if x % 2 = 1 then (x / 2) ^^^ 3988292384 else x / 2
def it : Nat → Nat → Nat
  | 0, x => x
  | n + 1, x => it n (st x)
theorem st_lin (x y : Nat) : st (x ^^^ y) = st x ^^^ st y := by
  have h1 : (x ^^^ y) / 2 = x / 2 ^^^ y / 2 := Nat.xor_div_two
  have h2 : (x ^^^ y) % 2 = (x + y) % 2 := by
    have h3 : decide ((x ^^^ y) % 2 = 1) = (decide (x % 2 = 1) ^^ decide (y % 2 = 1)) := by
      rw [← Nat.testBit_zero, ← Nat.testBit_zero, ← Nat.testBit_zero, Nat.testBit_xor]
    rcases Nat.mod_two_eq_zero_or_one x with hx | hx <;> rcases Nat.mod_two_eq_zero_or_one y with hy | hy <;> rcases Nat.mod_two_eq_zero_or_one (x ^^^ y) with hz | hz <;> first | omega | (exfalso; rw [hx, hy, hz] at h3; revert h3; decide)
  unfold st
  rw [h1, h2]
  rcases Nat.mod_two_eq_zero_or_one x with hx | hx <;> rcases Nat.mod_two_eq_zero_or_one y with hy | hy
  · rw [if_neg (by omega), if_neg (by omega), if_neg (by omega)]
  · rw [if_pos (by omega), if_neg (by omega), if_pos (by omega), Nat.xor_assoc]
  · rw [if_pos (by omega), if_pos (by omega), if_neg (by omega), Nat.xor_assoc, Nat.xor_assoc, Nat.xor_comm (y / 2)]
  · rw [if_neg (by omega), if_pos (by omega), if_pos (by omega)]
    have : ∀ a b c : Nat, (a ^^^ c) ^^^ (b ^^^ c) = a ^^^ b := fun a b c => by
      rw [Nat.xor_assoc, ← Nat.xor_assoc c, Nat.xor_comm c b, Nat.xor_assoc b, Nat.xor_self, Nat.xor_zero]
    rw [this]
theorem it_lin : ∀ n x y, it n (x ^^^ y) = it n x ^^^ it n y
  | 0, _, _ => rfl
  | n + 1, x, y => by
    simp only [it]
    rw [st_lin, it_lin n]
theorem it_mul : ∀ n h, it n (2 ^ n * h) = h
  | 0, h => by simp [it]
  | n + 1, h => by
    have e : st (2 ^ (n + 1) * h) = 2 ^ n * h := by
      have e2 : 2 ^ (n + 1) * h = 2 * (2 ^ n * h) := by rw [Nat.pow_succ, Nat.mul_comm (2 ^ n) 2, Nat.mul_assoc]
      rw [e2]
      unfold st
      rw [if_neg (by omega)]
      omega
    simp only [it]
    rw [e, it_mul n h]
theorem st_lt (x : Nat) (h : x < 2 ^ 32) : st x < 2 ^ 32 := by
  unfold st
  split
  · exact Nat.xor_lt_two_pow (by omega) (by omega)
  · omega
theorem it_lt : ∀ n x, x < 2 ^ 32 → it n x < 2 ^ 32
  | 0, _, h => h
  | n + 1, x, h => it_lt n (st x) (st_lt x h)
/-- What the program makes of a byte. -/
theorem it_split (c b : Nat) (hb : b < 256) : c / 256 ^^^ it 8 ((c % 256) ^^^ b) = it 8 (c ^^^ b) := by
  have h1 : c = (2 ^ 8 * (c / 256)) ^^^ (c % 256) := by
    have h2 : 2 ^ 8 * (c / 256) + c % 256 = (2 ^ 8 * (c / 256)) ^^^ (c % 256) := by
      apply Nat.eq_of_testBit_eq
      intro i
      rw [Nat.two_pow_add_eq_or_of_lt (by omega : c % 256 < 2 ^ 8), Nat.testBit_or, Nat.testBit_xor, Nat.testBit_two_pow_mul]
      by_cases hi : 8 ≤ i
      · have h3 : (c % 256).testBit i = false := Nat.testBit_lt_two_pow (Nat.lt_of_lt_of_le (by omega : c % 256 < 2 ^ 8) (Nat.pow_le_pow_right (by decide) hi))
        simp [h3]
      · simp [hi]
    rw [← h2]
    omega
  have h3 : c ^^^ b = (2 ^ 8 * (c / 256)) ^^^ ((c % 256) ^^^ b) := by
    rw [← Nat.xor_assoc, ← h1]
  rw [h3, it_lin 8 (2 ^ 8 * (c / 256)), it_mul]
theorem st_inj {x y : Nat} (hx : x < 2 ^ 32) (hy : y < 2 ^ 32) (h : st x = st y) : x = y := by
  have key : ∀ z : Nat, z < 2 ^ 32 → (st z).testBit 31 = decide (z % 2 = 1) := by
    intro z hz
    have h31 : (z / 2).testBit 31 = false := Nat.testBit_lt_two_pow (by omega)
    unfold st
    split
    · rename_i q
      rw [Nat.testBit_xor, h31]
      simp [q]
      decide
    · rename_i q
      rw [h31]
      simp [q]
  have h1 := key x hx
  have h2 := key y hy
  rw [h, h2] at h1
  by_cases q : x % 2 = 1
  · have q2 : y % 2 = 1 := by simpa [q] using h1
    unfold st at h
    rw [if_pos q, if_pos q2] at h
    have h3 := congrArg (· ^^^ 3988292384) h
    simp only [Nat.xor_assoc, Nat.xor_self, Nat.xor_zero] at h3
    omega
  · have q2 : ¬ y % 2 = 1 := by simpa [q] using h1
    unfold st at h
    rw [if_neg q, if_neg q2] at h
    omega
theorem it_inj : ∀ n {x y : Nat}, x < 2 ^ 32 → y < 2 ^ 32 → it n x = it n y → x = y
  | 0, _, _, _, _, h => h
  | n + 1, x, y, hx, hy, h => st_inj hx hy (it_inj n (st_lt x hx) (st_lt y hy) h)
/-- Eight steps. -/
def up (x : Nat) : Nat := it 8 x
/-- The register behind some bytes. -/
def regG (f : Nat → Nat) : Nat → List Int → Nat
  | c, [] => c
  | c, x :: r => regG f (f (c ^^^ x.toNat)) r
def reg (c : Nat) (l : List Int) : Nat := regG up c l
theorem reg_nil (c : Nat) : reg c [] = c := by rw [reg, regG]
theorem regG_cons (f : Nat → Nat) (c : Nat) (x : Int) (r : List Int) : regG f c (x :: r) = regG f (f (c ^^^ x.toNat)) r := by rw [regG]
theorem reg_cons (c : Nat) (x : Int) (r : List Int) : reg c (x :: r) = reg (up (c ^^^ x.toNat)) r := regG_cons up c x r
def c0 : Nat := 4294967295
theorem c0_lt : c0 < 2 ^ 32 := by unfold c0; omega
def crc (l : List Int) : Int := ((reg c0 l ^^^ c0 : Nat) : Int)
theorem reg_append : ∀ (a b : List Int) (c : Nat), reg c (a ++ b) = reg (reg c a) b
  | [], _, c => by rw [reg_nil, List.nil_append]
  | x :: a, b, c => by rw [List.cons_append, reg_cons, reg_cons, reg_append a b]
def byte (x : Int) : Prop := 0 ≤ x ∧ x ≤ 255
def bytes (l : List Int) : Prop := ∀ x ∈ l, byte x
theorem reg_lt : ∀ (l : List Int) (c : Nat), bytes l → c < 2 ^ 32 → reg c l < 2 ^ 32
  | [], c, _, h => by rw [reg_nil]; exact h
  | x :: r, c, hl, h => by
    have hx := hl x (by simp)
    unfold byte at hx
    have h1 : up (c ^^^ x.toNat) < 2 ^ 32 := it_lt 8 (c ^^^ x.toNat) (Nat.xor_lt_two_pow h (by omega))
    rw [reg_cons]
    generalize up (c ^^^ x.toNat) = d at h1 ⊢
    exact reg_lt r d (fun y hy => hl y (by simp [hy])) h1
theorem crc_range (l : List Int) (h : bytes l) : 0 ≤ crc l ∧ crc l < 4294967296 := by
  have h1 := reg_lt l c0 h c0_lt
  have h2 : (reg c0 l) ^^^ c0 < 2 ^ 32 := Nat.xor_lt_two_pow h1 c0_lt
  unfold crc
  omega
theorem bits_xor_nat (k : IntKind) (j : Nat) (hj : j ≤ k.bits) (hk : ∀ n : Int, 0 ≤ n → n < 2 ^ j → k.wrap n = n) (a b : Nat) (ha : a < 2 ^ j) (hb : b < 2 ^ j) : bits .xor k a b = ((a ^^^ b : Nat) : Int) := by
  have hp : 2 ^ j ≤ 2 ^ k.bits := Nat.pow_le_pow_right (by decide) hj
  have ha' : a % 2 ^ k.bits = a := Nat.mod_eq_of_lt (Nat.lt_of_lt_of_le ha hp)
  have hb' : b % 2 ^ k.bits = b := Nat.mod_eq_of_lt (Nat.lt_of_lt_of_le hb hp)
  have cast : ∀ n : Nat, n < 2 ^ j → ((n : Nat) : Int) < 2 ^ j := fun n h => by exact_mod_cast h
  simp only [bits, BitVec.ofInt_natCast, BitVec.toNat_xor, BitVec.toNat_ofNat, ha', hb']
  exact hk _ (Int.natCast_nonneg _) (cast _ (Nat.xor_lt_two_pow ha hb))
theorem bits_xor32 (a b : Nat) (ha : a < 2 ^ 32) (hb : b < 2 ^ 32) : bits .xor .u32 a b = ((a ^^^ b : Nat) : Int) :=
  bits_xor_nat .u32 32 (by decide) (fun n h0 h1 => by rw [IntKind.wrap_u32]; omega) a b ha hb
theorem bits_xor64 (a b : Nat) (ha : a < 2 ^ 32) (hb : b < 2 ^ 32) : bits .xor .i64 a b = ((a ^^^ b : Nat) : Int) :=
  bits_xor_nat .i64 32 (by decide) (fun n h0 h1 => by rw [IntKind.wrap_i64]; omega) a b ha hb
theorem bits_and255 (a : Nat) (ha : a < 2 ^ 32) : bits .and .u32 a 255 = ((a % 256 : Nat) : Int) := by
  have h := bits_mask .u32 32 (by decide) (fun n h0 h1 => by rw [IntKind.wrap_u32]; omega) 8 (by decide) a (by omega) (by omega)
  rw [show ((2 : Int) ^ 8 - 1) = 255 by decide, show ((2 : Int) ^ 8) = 256 by decide] at h
  rw [h]
  omega
theorem bits_and1 (a : Nat) (ha : a < 2 ^ 32) : bits .and .u32 a 1 = ((a % 2 : Nat) : Int) := by
  have h := bits_mask .u32 32 (by decide) (fun n h0 h1 => by rw [IntKind.wrap_u32]; omega) 1 (by decide) a (by omega) (by omega)
  rw [show ((2 : Int) ^ 1 - 1) = 1 by decide, show ((2 : Int) ^ 1) = 2 by decide] at h
  rw [h]
  omega
/-- A number's four bytes, and four bytes' number. -/
def wordL (n : Int) : List Int := [n / 16777216 % 256, n / 65536 % 256, n / 256 % 256, n % 256]
def numL (l : List Int) : Int := ((l.getD 0 0 * 256 + l.getD 1 0) * 256 + l.getD 2 0) * 256 + l.getD 3 0
theorem wordL_bytes (n : Int) : bytes (wordL n) := by
  intro x hx
  unfold wordL at hx
  unfold byte
  simp at hx
  omega
theorem num_word (n : Int) (h0 : 0 ≤ n) (h1 : n < 4294967296) (r : List Int) : numL (wordL n ++ r) = n := by
  unfold numL wordL
  simp
  omega
theorem num_range (l : List Int) (h : bytes l) : 0 ≤ numL l ∧ numL l < 4294967296 := by
  have hg : ∀ i, 0 ≤ l.getD i 0 ∧ l.getD i 0 ≤ 255 := fun i => by
    rw [List.getD_eq_getElem?_getD]
    cases he : l[i]? with
    | none => simp
    | some x =>
      have := h x (List.mem_of_getElem? he)
      exact this
  have h0 := hg 0
  have h1 := hg 1
  have h2 := hg 2
  have h3 := hg 3
  unfold numL
  omega
/-- A frame; what stands at the beginning of bytes. -/
def frameOf (body : List Int) : List Int := wordL body.length ++ body ++ wordL (crc (wordL body.length ++ body))
def nextOf (l : List Int) : List Int × Int × Int :=
  if l.length < 8 then ([], 0, 12) else if 1048568 < numL l then ([], 0, 2) else if (l.length : Int) < numL l + 8 then ([], 0, 12)
  else if crc (l.take ((numL l).toNat + 4)) = numL (l.drop ((numL l).toNat + 4)) then ((l.take ((numL l).toNat + 4)).drop 4, numL l + 8, 0) else ([], 0, 11)
end Go.Proofs.Ytebdjhgboeadgaa.Jp
