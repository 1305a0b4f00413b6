/- The bits of an address: what a mask keeps. -/
import Derived.IntWalk
namespace Go.Proofs.Ytkobhleoebgbhaa.V
open Go Go.RowKit
theorem keep_eq (X n : Nat) (hn : n ≤ 32) : X &&& ((2 ^ n - 1) * 2 ^ (32 - n)) = X % 2 ^ 32 / 2 ^ (32 - n) * 2 ^ (32 - n) := by
  apply Nat.eq_of_testBit_eq
  intro j
  rw [Nat.testBit_and, ← Nat.shiftLeft_eq, ← Nat.shiftLeft_eq, Nat.testBit_shiftLeft, Nat.testBit_shiftLeft, Nat.testBit_two_pow_sub_one, Nat.testBit_div_two_pow, Nat.testBit_mod_two_pow]
  by_cases h1 : 32 - n ≤ j
  · have e : j - (32 - n) + (32 - n) = j := by omega
    rw [e]
    by_cases h2 : j < 32
    · have : j - (32 - n) < n := by omega
      simp [h1, h2, this]
    · have : ¬ j - (32 - n) < n := by omega
      simp [h2, this]
  · simp [h1]
theorem mask_vals : ∀ b : Nat, b < 33 → IntKind.i64.wrap (IntKind.u32.wrap (IntKind.u64.wrap (4294967295 * (2 ^ (min (IntKind.i64.wrap (32 - (b : Int))).toNat IntKind.u64.bits))))) = (((2 ^ b - 1) * 2 ^ (32 - b) : Nat) : Int) := by decide +kernel
theorem mask_small (b : Nat) (hb : b ≤ 32) : (2 ^ b - 1) * 2 ^ (32 - b) < 2 ^ 32 := by
  have h1 : 2 ^ b * 2 ^ (32 - b) = 2 ^ 32 := by rw [← Nat.pow_add]; congr 1; omega
  have h2 : 0 < 2 ^ (32 - b) := Nat.two_pow_pos _
  rw [Nat.sub_mul, h1]
  omega
/-- What a mask keeps of a number, as a number. -/
theorem and_mask (a : Int) (b : Nat) (hb : b ≤ 32) : (((BitVec.ofInt 64 a &&& BitVec.ofInt 64 (((2 ^ b - 1) * 2 ^ (32 - b) : Nat) : Int)).toNat : Nat) : Int) = (((a % 4294967296).toNat / 2 ^ (32 - b) * 2 ^ (32 - b) : Nat) : Int) := by
  have hs := mask_small b hb
  rw [BitVec.toNat_and, BitVec.toNat_ofInt, BitVec.toNat_ofInt]
  have h1 : ((((2 ^ b - 1) * 2 ^ (32 - b) : Nat) : Int) % ((2 ^ 64 : Nat) : Int)).toNat = (2 ^ b - 1) * 2 ^ (32 - b) := by
    generalize (2 ^ b - 1) * 2 ^ (32 - b) = m at hs ⊢
    omega
  rw [h1, keep_eq _ b hb]
  have h2 : (a % ((2 ^ 64 : Nat) : Int)).toNat % 2 ^ 32 = (a % 4294967296).toNat := by omega
  rw [h2]
theorem and_low (a : Int) : (((BitVec.ofInt 64 a &&& BitVec.ofInt 64 4294967295).toNat : Nat) : Int) = a % 4294967296 := by
  have h := and_mask a 32 (by omega)
  have e : (((2 ^ 32 - 1) * 2 ^ (32 - 32) : Nat) : Int) = 4294967295 := by decide
  rw [e] at h
  rw [h]
  simp
  omega
/-- Building it bit by bit. -/
def grow (A n : Nat) (i : Nat) : Nat := A / 2 ^ (32 - min i n) * 2 ^ (i - min i n)
theorem grow_lt (A n i : Nat) (hA : A < 4294967296) (hn : n ≤ 32) (hi : i ≤ 32) : grow A n i < 4294967296 := by
  unfold grow
  have h1 : A / 2 ^ (32 - min i n) < 2 ^ (min i n) := by
    rw [Nat.div_lt_iff_lt_mul (Nat.two_pow_pos _), ← Nat.pow_add, show min i n + (32 - min i n) = 32 by omega]
    exact hA
  calc A / 2 ^ (32 - min i n) * 2 ^ (i - min i n) < 2 ^ (min i n) * 2 ^ (i - min i n) := Nat.mul_lt_mul_of_pos_right h1 (Nat.two_pow_pos _)
    _ = 2 ^ i := by rw [← Nat.pow_add]; congr 1; omega
    _ ≤ 2 ^ 32 := Nat.pow_le_pow_right (by omega) hi
theorem grow_low (A n i : Nat) (hi : i < n) (hn : n ≤ 32) : grow A n (i + 1) = grow A n i * 2 + A / 2 ^ (31 - i) % 2 := by
  unfold grow
  rw [Nat.min_eq_left (by omega), Nat.min_eq_left (by omega), Nat.sub_self, Nat.sub_self, Nat.pow_zero, Nat.mul_one, Nat.mul_one]
  have e1 : 32 - (i + 1) = 31 - i := by omega
  have e2 : 32 - i = 31 - i + 1 := by omega
  rw [e1, e2, Nat.pow_succ, ← Nat.div_div_eq_div_mul]
  omega
theorem grow_high (A n i : Nat) (hi : ¬ i < n) : grow A n (i + 1) = grow A n i * 2 := by
  unfold grow
  rw [Nat.min_eq_right (by omega), Nat.min_eq_right (by omega), show i + 1 - n = i - n + 1 by omega, Nat.pow_succ, Nat.mul_assoc]
theorem grow_end (A n : Nat) (hn : n ≤ 32) : grow A n 32 = A / 2 ^ (32 - n) * 2 ^ (32 - n) := by
  unfold grow
  rw [Nat.min_eq_right hn]
/-- What a mask leaves. -/
theorem and_not_mask (a b : Nat) (ha : a < 2 ^ 32) (hb : b ≤ 32) : (BitVec.ofInt 64 (a : Int) &&& ~~~ BitVec.ofInt 64 (((2 ^ b - 1) * 2 ^ (32 - b) : Nat) : Int)).toNat = a % 2 ^ (32 - b) := by
  apply Nat.eq_of_testBit_eq
  intro j
  rw [BitVec.ofInt_natCast, BitVec.ofInt_natCast]
  rw [← BitVec.getLsbD, BitVec.getLsbD_and, BitVec.getLsbD_not, BitVec.getLsbD_ofNat, BitVec.getLsbD_ofNat, ← Nat.shiftLeft_eq, Nat.testBit_shiftLeft, Nat.testBit_two_pow_sub_one, Nat.testBit_mod_two_pow]
  by_cases h0 : j < 32
  · by_cases h1 : 32 - b ≤ j
    · have h2 : j - (32 - b) < b := by omega
      have h3 : ¬ j < 32 - b := by omega
      simp [h1, h2, h3]
    · have h3 : j < 32 - b := by omega
      have h4 : j < 64 := by omega
      simp [h1, h3, h4]
  · have h5 : a.testBit j = false := Nat.testBit_lt_two_pow (Nat.lt_of_lt_of_le ha (Nat.pow_le_pow_right (by omega) (by omega)))
    simp [h5]
theorem low_zero (a b : Nat) (hb : b ≤ 32) : a % 2 ^ (32 - b) = 0 ↔ ∀ i, b ≤ i → i < 32 → a / 2 ^ (31 - i) % 2 ≠ 1 := by
  constructor
  · intro h i h1 h2 h3
    have ht : a.testBit (31 - i) = true := by rw [Nat.testBit_eq_decide_div_mod_eq]; simpa using h3
    have := Nat.testBit_mod_two_pow a (32 - b) (31 - i)
    rw [h, ht, decide_eq_true (by omega)] at this
    simp at this
  · intro h
    apply Nat.eq_of_testBit_eq
    intro j
    rw [Nat.testBit_mod_two_pow, Nat.zero_testBit]
    by_cases h1 : j < 32 - b
    · have := h (31 - j) (by omega) (by omega)
      rw [show 31 - (31 - j) = j by omega] at this
      rw [Nat.testBit_eq_decide_div_mod_eq, decide_eq_false this, Bool.and_false]
    · simp [h1]
end Go.Proofs.Ytkobhleoebgbhaa.V
