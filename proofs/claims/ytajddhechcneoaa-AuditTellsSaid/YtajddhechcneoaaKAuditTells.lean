/- What the law needs of plain Lean, and the law itself over it. -/
import Derived.Test.YtajddhechcneoaaVF2
import Derived.Test.YtajddhechcneoaaVBase
import Derived.IntWalk
import Derived.Test.YtajddhechcneoaaVZ
namespace Go.Proofs.Ytajddhechcneoaa.V
open Go Go.RowKit
set_option synthInstance.maxSize 2000
set_option synthInstance.maxHeartbeats 200000
set_option linter.unusedVariables false
set_option linter.unusedSimpArgs false
theorem wsucc (i : Nat) (h : i < 1000000) : IntKind.i64.wrap ((i : Int) + 1) = ((i + 1 : Nat) : Int) := by rw [IntWalk.i64_in _ (by omega)]; omega
theorem att_n {e : Ty} (xs : List e.T) (i : Nat) (h : i < xs.length) : att e xs (i : Int) = xs[i] := by
  unfold att
  rw [Int.toNat_natCast, List.getElem?_eq_getElem h]
  rfl
theorem loop_at {R : Type} (B : Nat → Nat → Option R) (j : Nat) (r : Option R) (step : ∀ m i, i < j → B (m + 1) i = B m (i + 1)) (fin : ∀ m, B (m + 1) j = r) : ∀ d i m, i + d = j → d < m → B m i = r
  | 0, i, m + 1, h, _ => by rw [show i = j by omega]; exact fin m
  | d + 1, i, m + 1, h, hm => by rw [step m i (by omega)]; exact loop_at B j r step fin d (i + 1) m (by omega) (by omega)
theorem loop {R : Type} (B : Nat → Nat → Option R) (j : Nat) (r : Option R) (step : ∀ m i, i < j → B (m + 1) i = B m (i + 1)) (fin : ∀ m, B (m + 1) j = r) (m : Nat) (hm : j < m) : B m 0 = r := loop_at B j r step fin j 0 m (by omega) hm
theorem loop_io {σ R : Type} (B : Nat → Nat → σ → Option R) (I : Nat → σ → Prop) (n : Nat) (r : Option R) (step : ∀ m i s, i < n → I i s → (∃ s', I (i + 1) s' ∧ B (m + 1) i s = B m (i + 1) s') ∨ B (m + 1) i s = r) (fin : ∀ m s, I n s → B (m + 1) n s = r) : ∀ m, n < m → ∀ s, I 0 s → B m 0 s = r := by
  have key : ∀ d i m s, i + d = n → d < m → I i s → B m i s = r := by
    intro d
    induction d with
    | zero =>
      intro i m s h hm hi
      obtain rfl : i = n := by omega
      obtain ⟨m, rfl⟩ : ∃ m', m = m' + 1 := ⟨m - 1, by omega⟩
      exact fin m s hi
    | succ d ih =>
      intro i m s h hm hi
      obtain ⟨m, rfl⟩ : ∃ m', m = m' + 1 := ⟨m - 1, by omega⟩
      rcases step m i s (by omega) hi with ⟨s', h1, h2⟩ | h2
      · rw [h2]
        exact ih (i + 1) m s' (by omega) (by omega) h1
      · exact h2
  exact fun m hm s hs => key n 0 m s (by omega) hm hs
abbrev Rl := T1383.T
theorem clone_eq (k : Nat) (xs : List Rl) (h : xs.length < 1000000) : f_slices_Clone_Rule.f k xs = some (xs, ()) := by
  unfold f_slices_Clone_Rule.f
  rw [if_pos (by omega), if_pos (Or.inl rfl)]; rfl
def bnd (n : Int) : Int := if 32 < (if 0 > n then 0 else n) then 32 else if 0 > n then 0 else n
theorem bnd_range (n : Int) : 0 ≤ bnd n ∧ bnd n ≤ 32 := by unfold bnd; split <;> split <;> omega
noncomputable def mask (n : Int) : Int := IntKind.i64.wrap (IntKind.u32.wrap (IntKind.u64.wrap (4294967295 * (2 ^ (min (IntKind.i64.wrap (32 - bnd n)).toNat IntKind.u64.bits)))))
theorem mask_eq (k : Nat) (n : Int) : f_bits_Mask.f k n = some (mask n, ()) := by
  have h := bnd_range n
  unfold f_bits_Mask.f f_bits_bound.f
  simp only [Option.bind_some]
  change (if 0 ≤ IntKind.i64.wrap (32 - bnd n) then _ else _) = _
  rw [if_pos (by rw [IntWalk.i64_in _ (by omega)]; omega)]
  rfl
noncomputable def cut (a n : Int) : T713d.T := (IntKind.i64.wrap (((BitVec.ofInt IntKind.i64.bits a &&& BitVec.ofInt IntKind.i64.bits (mask n)).toNat : Int)), bnd n)
theorem cut_eq (k : Nat) (a n : Int) : f_bits_Cut.f k a n = some (cut a n, ()) := by
  unfold f_bits_Cut.f
  rw [mask_eq, Option.bind_some]
  rfl
noncomputable def fits (inn dst : Int) (r : Rl) : Bool := ((cut dst r.1.2).1 == r.1.1 && ((cut dst r.1.2).2 == r.1.2 && true)) && (if (r.2.1 == (-1 : Int)) = true then true else r.2.1 == inn)
theorem fits_eq (k : Nat) (r : Rl) (inn dst : Int) : f_rule_Fits.f k r inn dst = some (fits inn dst r, ()) := by
  unfold f_rule_Fits.f f_bits_Has.f fits
  rw [cut_eq, Option.bind_some, Option.bind_some]
  by_cases h1 : ((cut dst r.1.2).1 == r.1.1 && ((cut dst r.1.2).2 == r.1.2 && true)) = true
  · rw [if_pos h1, h1, Bool.true_and]
    split <;> rfl
  · rw [if_neg h1, Bool.eq_false_iff.2 h1, Bool.false_and]
def ahead (x y : Rl) : Bool := if (x.1.2 != y.1.2) = true then decide (x.1.2 > y.1.2) else if (x.2.2.1 != y.2.2.1) = true then decide (x.2.2.1 > y.2.2.1) else decide (x.2.1 > y.2.1)
theorem ahead_eq (k : Nat) (x y : Rl) (hk : 10 ≤ k) : f_rule_Ahead.f k x y = some (ahead x y, ()) := by
  obtain ⟨m, rfl⟩ : ∃ m, k = m + 4 := ⟨k - 4, by omega⟩
  have w1 : IntKind.i64.wrap ((0 : Int) + 1) = 1 := by decide +kernel
  have w2 : IntKind.i64.wrap ((1 : Int) + 1) = 2 := by decide +kernel
  have w3 : IntKind.i64.wrap ((2 : Int) + 1) = 3 := by decide +kernel
  unfold f_rule_Ahead.f f_rule_greater.f ahead
  simp only [f_rule_greater.l1, f_rule_greater.b1, w1, w2, w3]
  simp only [att, List.length_cons, List.length_nil, Int.toNat_zero, List.getElem?_cons_zero, Option.getD_some]
  by_cases h1 : (x.1.2 != y.1.2) = true
  · simp [h1]
  · have e1 : x.1.2 = y.1.2 := by simpa using h1
    by_cases h2 : (x.2.2.1 != y.2.2.1) = true
    · simp [e1, h2]
    · have e2 : x.2.2.1 = y.2.2.1 := by simpa using h2
      by_cases h3 : x.2.1 = y.2.1
      · simp [e1, e2, h3]
      · simp [e1, e2, h3]
theorem rahead_eq (k : Nat) (x y : Rl) : f_ref04_Ahead.f k x y = some (ahead x y, ()) := by
  unfold f_ref04_Ahead.f ahead
  split
  · rfl
  · split <;> rfl
def pk (F : Rl → Bool) (rs : List Rl) : Nat → Int
  | 0 => -1
  | i + 1 => if F (att T1383 rs i) = true then (if pk F rs i < 0 then (i : Int) else if ahead (att T1383 rs i) (att T1383 rs (pk F rs i)) = true then (i : Int) else pk F rs i) else pk F rs i
theorem pk_range (F : Rl → Bool) (rs : List Rl) : ∀ i : Nat, -1 ≤ pk F rs i ∧ pk F rs i < (i : Int)
  | 0 => ⟨by simp [pk], by simp [pk]⟩
  | i + 1 => by
    have := pk_range F rs i
    unfold pk
    split
    · split
      · omega
      · split <;> omega
    · omega
theorem first_eq (k : Nat) (rs : List Rl) (inn dst : Int) (hk : rs.length < k) (hk2 : 10 ≤ k) (hs : rs.length < 1000000) : f_pick_First.f k rs inn dst = some (pk (fits inn dst) rs rs.length, ()) := by
  unfold f_pick_First.f
  refine loop (fun m i => f_pick_First.l1 k m rs inn dst (pk (fits inn dst) rs i) rs (rs.length : Int) (i : Int)) rs.length _ (fun m i hl => ?_) (fun m => ?_) k (by omega)
  · have hr := pk_range (fits inn dst) rs i
    simp only [f_pick_First.l1, f_pick_First.b1, f_pick_First.j2, f_pick_First.j3, fits_eq, Option.bind_some, ahead_eq k _ _ hk2]
    rw [if_pos (by (first | omega | (dsimp only [Ty.T]; omega) | (simp only [decide_eq_true_eq, decide_eq_false_iff_not, Bool.not_eq_true, Ty.T]; omega) | (simp only [decide_eq_true_eq, decide_eq_false_iff_not, Ty.T]; omega) | (simp only [beq_iff_eq, bne_iff_ne, ne_eq, decide_eq_true_eq, Ty.T]; omega))), if_pos (by (first | omega | (dsimp only [Ty.T]; omega) | (simp only [decide_eq_true_eq, decide_eq_false_iff_not, Bool.not_eq_true, Ty.T]; omega) | (simp only [decide_eq_true_eq, decide_eq_false_iff_not, Ty.T]; omega) | (simp only [beq_iff_eq, bne_iff_ne, ne_eq, decide_eq_true_eq, Ty.T]; omega))), if_pos (by (first | omega | (dsimp only [Ty.T]; omega) | (simp only [decide_eq_true_eq, decide_eq_false_iff_not, Bool.not_eq_true, Ty.T]; omega) | (simp only [decide_eq_true_eq, decide_eq_false_iff_not, Ty.T]; omega) | (simp only [beq_iff_eq, bne_iff_ne, ne_eq, decide_eq_true_eq, Ty.T]; omega))), wsucc i (by omega)]
    conv => rhs; unfold pk
    by_cases h1 : fits inn dst (att T1383 rs (i : Int)) = true
    · rw [if_pos h1, if_pos h1]
      by_cases h2 : pk (fits inn dst) rs i < 0
      · rw [if_pos (by (first | omega | (dsimp only [Ty.T]; omega) | (simp only [decide_eq_true_eq, decide_eq_false_iff_not, Bool.not_eq_true, Ty.T]; omega) | (simp only [decide_eq_true_eq, decide_eq_false_iff_not, Ty.T]; omega) | (simp only [beq_iff_eq, bne_iff_ne, ne_eq, decide_eq_true_eq, Ty.T]; omega))), if_pos h2]; simp
      · rw [if_neg (by (first | omega | (dsimp only [Ty.T]; omega) | (simp only [decide_eq_true_eq, decide_eq_false_iff_not, Bool.not_eq_true, Ty.T]; omega) | (simp only [decide_eq_true_eq, decide_eq_false_iff_not, Ty.T]; omega) | (simp only [beq_iff_eq, bne_iff_ne, ne_eq, decide_eq_true_eq, Ty.T]; omega))), if_neg h2, if_pos (by (first | omega | (dsimp only [Ty.T]; omega) | (simp only [decide_eq_true_eq, decide_eq_false_iff_not, Bool.not_eq_true, Ty.T]; omega) | (simp only [decide_eq_true_eq, decide_eq_false_iff_not, Ty.T]; omega) | (simp only [beq_iff_eq, bne_iff_ne, ne_eq, decide_eq_true_eq, Ty.T]; omega))), if_pos (by (first | omega | (dsimp only [Ty.T]; omega) | (simp only [decide_eq_true_eq, decide_eq_false_iff_not, Bool.not_eq_true, Ty.T]; omega) | (simp only [decide_eq_true_eq, decide_eq_false_iff_not, Ty.T]; omega) | (simp only [beq_iff_eq, bne_iff_ne, ne_eq, decide_eq_true_eq, Ty.T]; omega)))]
        by_cases h3 : ahead (att T1383 rs (i : Int)) (att T1383 rs (pk (fits inn dst) rs i)) = true
        · rw [if_pos h3, if_pos h3]
        · rw [if_neg h3, if_neg h3]
    · rw [if_neg h1, if_neg h1]; simp
  · simp only [f_pick_First.l1, f_pick_First.b1]
    rw [if_neg (by (first | omega | (dsimp only [Ty.T]; omega) | (simp only [decide_eq_true_eq, decide_eq_false_iff_not, Bool.not_eq_true, Ty.T]; omega) | (simp only [decide_eq_true_eq, decide_eq_false_iff_not, Ty.T]; omega) | (simp only [beq_iff_eq, bne_iff_ne, ne_eq, decide_eq_true_eq, Ty.T]; omega)))]
theorem keep_eq (X n : Nat) (hn : n ≤ 32) : X &&& ((2 ^ n - 1) * 2 ^ (32 - n)) = X % 2 ^ 32 / 2 ^ (32 - n) * 2 ^ (32 - n) := by
  apply Nat.eq_of_testBit_eq
  intro j
  rw [Nat.testBit_and, ← Nat.shiftLeft_eq, ← Nat.shiftLeft_eq, Nat.testBit_shiftLeft, Nat.testBit_shiftLeft, Nat.testBit_two_pow_sub_one, Nat.testBit_div_two_pow, Nat.testBit_mod_two_pow]
  by_cases h1 : 32 - n ≤ j
  · have e : j - (32 - n) + (32 - n) = j := by omega
    rw [e]
    by_cases h2 : j < 32
    · have : j - (32 - n) < n := by omega
      simp [h1, h2, this]
    · have : ¬ j - (32 - n) < n := by omega
      simp [h2, this]
  · simp [h1]
theorem mask_vals : ∀ b : Nat, b < 33 → IntKind.i64.wrap (IntKind.u32.wrap (IntKind.u64.wrap (4294967295 * (2 ^ (min (IntKind.i64.wrap (32 - (b : Int))).toNat IntKind.u64.bits))))) = (((2 ^ b - 1) * 2 ^ (32 - b) : Nat) : Int) := by decide +kernel
theorem mask_small (b : Nat) (hb : b ≤ 32) : (2 ^ b - 1) * 2 ^ (32 - b) < 2 ^ 32 := by
  have h1 : 2 ^ b * 2 ^ (32 - b) = 2 ^ 32 := by rw [← Nat.pow_add]; congr 1; omega
  have h2 : 0 < 2 ^ (32 - b) := Nat.two_pow_pos _
  rw [Nat.sub_mul, h1]
  omega
theorem and_mask (a : Int) (b : Nat) (hb : b ≤ 32) : (((BitVec.ofInt 64 a &&& BitVec.ofInt 64 (((2 ^ b - 1) * 2 ^ (32 - b) : Nat) : Int)).toNat : Nat) : Int) = (((a % 4294967296).toNat / 2 ^ (32 - b) * 2 ^ (32 - b) : Nat) : Int) := by
  have hs := mask_small b hb
  rw [BitVec.toNat_and, BitVec.toNat_ofInt, BitVec.toNat_ofInt]
  have h1 : ((((2 ^ b - 1) * 2 ^ (32 - b) : Nat) : Int) % ((2 ^ 64 : Nat) : Int)).toNat = (2 ^ b - 1) * 2 ^ (32 - b) := by
    generalize (2 ^ b - 1) * 2 ^ (32 - b) = m at hs ⊢
    omega
  rw [h1, keep_eq _ b hb]
  have h2 : (a % ((2 ^ 64 : Nat) : Int)).toNat % 2 ^ 32 = (a % 4294967296).toNat := by omega
  rw [h2]
theorem and_low (a : Int) : (((BitVec.ofInt 64 a &&& BitVec.ofInt 64 4294967295).toNat : Nat) : Int) = a % 4294967296 := by
  have h := and_mask a 32 (by omega)
  have e : (((2 ^ 32 - 1) * 2 ^ (32 - 32) : Nat) : Int) = 4294967295 := by decide
  rw [e] at h
  rw [h]
  simp
  omega
def grow (A n : Nat) (i : Nat) : Nat := A / 2 ^ (32 - min i n) * 2 ^ (i - min i n)
theorem grow_lt (A n i : Nat) (hA : A < 4294967296) (hn : n ≤ 32) (hi : i ≤ 32) : grow A n i < 4294967296 := by
  unfold grow
  have h1 : A / 2 ^ (32 - min i n) < 2 ^ (min i n) := by
    rw [Nat.div_lt_iff_lt_mul (Nat.two_pow_pos _), ← Nat.pow_add, show min i n + (32 - min i n) = 32 by omega]
    exact hA
  calc A / 2 ^ (32 - min i n) * 2 ^ (i - min i n) < 2 ^ (min i n) * 2 ^ (i - min i n) := Nat.mul_lt_mul_of_pos_right h1 (Nat.two_pow_pos _)
    _ = 2 ^ i := by rw [← Nat.pow_add]; congr 1; omega
    _ ≤ 2 ^ 32 := Nat.pow_le_pow_right (by omega) hi
theorem grow_low (A n i : Nat) (hi : i < n) (hn : n ≤ 32) : grow A n (i + 1) = grow A n i * 2 + A / 2 ^ (31 - i) % 2 := by
  unfold grow
  rw [Nat.min_eq_left (by omega), Nat.min_eq_left (by omega), Nat.sub_self, Nat.sub_self, Nat.pow_zero, Nat.mul_one, Nat.mul_one]
  have e1 : 32 - (i + 1) = 31 - i := by omega
  have e2 : 32 - i = 31 - i + 1 := by omega
  rw [e1, e2, Nat.pow_succ, ← Nat.div_div_eq_div_mul]
  omega
theorem grow_high (A n i : Nat) (hi : ¬ i < n) : grow A n (i + 1) = grow A n i * 2 := by
  unfold grow
  rw [Nat.min_eq_right (by omega), Nat.min_eq_right (by omega), show i + 1 - n = i - n + 1 by omega, Nat.pow_succ, Nat.mul_assoc]
theorem grow_end (A n : Nat) (hn : n ≤ 32) : grow A n 32 = A / 2 ^ (32 - n) * 2 ^ (32 - n) := by
  unfold grow
  rw [Nat.min_eq_right hn]
theorem rbound_eq (k : Nat) (n : Int) : f_ref01_bound.f k n = some (bnd n, ()) := by
  unfold f_ref01_bound.f bnd
  by_cases h1 : n < 0
  · rw [if_pos (by (first | omega | (dsimp only [Ty.T]; omega) | (simp only [decide_eq_true_eq, decide_eq_false_iff_not, Bool.not_eq_true, Ty.T]; omega) | (simp only [decide_eq_true_eq, decide_eq_false_iff_not, Ty.T]; omega) | (simp only [beq_iff_eq, bne_iff_ne, ne_eq, decide_eq_true_eq, Ty.T]; omega))), if_pos (show 0 > n by omega)]; rfl
  · rw [if_neg (by (first | omega | (dsimp only [Ty.T]; omega) | (simp only [decide_eq_true_eq, decide_eq_false_iff_not, Bool.not_eq_true, Ty.T]; omega) | (simp only [decide_eq_true_eq, decide_eq_false_iff_not, Ty.T]; omega) | (simp only [beq_iff_eq, bne_iff_ne, ne_eq, decide_eq_true_eq, Ty.T]; omega))), if_neg (show ¬ 0 > n by omega)]
    by_cases h2 : n > 32
    · rw [if_pos (by (first | omega | (dsimp only [Ty.T]; omega) | (simp only [decide_eq_true_eq, decide_eq_false_iff_not, Bool.not_eq_true, Ty.T]; omega) | (simp only [decide_eq_true_eq, decide_eq_false_iff_not, Ty.T]; omega) | (simp only [beq_iff_eq, bne_iff_ne, ne_eq, decide_eq_true_eq, Ty.T]; omega))), if_pos (by omega)]
    · rw [if_neg (by (first | omega | (dsimp only [Ty.T]; omega) | (simp only [decide_eq_true_eq, decide_eq_false_iff_not, Bool.not_eq_true, Ty.T]; omega) | (simp only [decide_eq_true_eq, decide_eq_false_iff_not, Ty.T]; omega) | (simp only [beq_iff_eq, bne_iff_ne, ne_eq, decide_eq_true_eq, Ty.T]; omega))), if_neg (by omega)]
def low (a : Int) : Nat := (a % 4294967296).toNat
theorem low_lt (a : Int) : low a < 4294967296 := by unfold low; omega
theorem half_eq (x : Nat) (h : x < 4294967296) : IntKind.i64.wrap (Int.tdiv (x : Int) 2) = ((x / 2 : Nat) : Int) := by
  rw [IntWalk.i64_quo _ _ ⟨by omega, by omega, by omega⟩]; rfl
theorem bit_eq (k : Nat) (a : Int) (i : Nat) (hi : i < 32) (hk : 100 ≤ k) : f_ref01_Bit.f k a (i : Int) = some (((low a / 2 ^ (31 - i) % 2 : Nat) : Int), ()) := by
  have hlt := low_lt a
  have hA : IntKind.i64.wrap ((((BitVec.ofInt IntKind.i64.bits a &&& BitVec.ofInt IntKind.i64.bits 4294967295).toNat : Nat) : Int)) = (low a : Int) := by
    rw [show ((BitVec.ofInt IntKind.i64.bits a &&& BitVec.ofInt IntKind.i64.bits 4294967295).toNat : Int) = a % 4294967296 from and_low a, IntWalk.i64_in _ (by omega)]
    unfold low
    omega
  unfold f_ref01_Bit.f f_ref01_Bit.j1
  rw [if_neg (by (first | omega | (dsimp only [Ty.T]; omega) | (simp only [decide_eq_true_eq, decide_eq_false_iff_not, Bool.not_eq_true, Ty.T]; omega) | (simp only [decide_eq_true_eq, decide_eq_false_iff_not, Ty.T]; omega) | (simp only [beq_iff_eq, bne_iff_ne, ne_eq, decide_eq_true_eq, Ty.T]; omega))), decide_eq_false (by omega), if_neg (by simp), hA]
  have hdl : ∀ q, low a / 2 ^ q < 4294967296 := fun q => Nat.lt_of_le_of_lt (Nat.div_le_self _ _) hlt
  refine (congrArg (fun z : Int => f_ref01_Bit.l2 k k (i : Int) z 31) (show (low a : Int) = ((low a / 2 ^ 0 : Nat) : Int) by simp)).trans ?_
  refine loop (fun m q => f_ref01_Bit.l2 k m (i : Int) ((low a / 2 ^ q : Nat) : Int) (31 - (q : Int))) (31 - i) _ (fun m q hq => ?_) (fun m => ?_) k (by omega)
  · simp only [f_ref01_Bit.l2, f_ref01_Bit.b2]
    have hw : IntKind.i64.wrap (31 - (q : Int) - 1) = 31 - ((q + 1 : Nat) : Int) := by rw [IntWalk.i64_in _ (by omega)]; omega
    rw [if_pos (by (first | omega | (dsimp only [Ty.T]; omega) | (simp only [decide_eq_true_eq, decide_eq_false_iff_not, Bool.not_eq_true, Ty.T]; omega) | (simp only [decide_eq_true_eq, decide_eq_false_iff_not, Ty.T]; omega) | (simp only [beq_iff_eq, bne_iff_ne, ne_eq, decide_eq_true_eq, Ty.T]; omega))), half_eq _ (hdl q), hw, Nat.div_div_eq_div_mul, ← Nat.pow_succ]
  · simp only [f_ref01_Bit.l2, f_ref01_Bit.b2]
    rw [if_neg (by (first | omega | (dsimp only [Ty.T]; omega) | (simp only [decide_eq_true_eq, decide_eq_false_iff_not, Bool.not_eq_true, Ty.T]; omega) | (simp only [decide_eq_true_eq, decide_eq_false_iff_not, Ty.T]; omega) | (simp only [beq_iff_eq, bne_iff_ne, ne_eq, decide_eq_true_eq, Ty.T]; omega)))]
    rfl
theorem bnd_nat (n : Int) : ∃ b : Nat, b ≤ 32 ∧ bnd n = (b : Int) := ⟨(bnd n).toNat, by have := bnd_range n; omega, by have := bnd_range n; omega⟩
theorem mask_nat (n : Int) (b : Nat) (hb : b ≤ 32) (h : bnd n = (b : Int)) : mask n = (((2 ^ b - 1) * 2 ^ (32 - b) : Nat) : Int) := by
  unfold mask
  rw [h]
  exact mask_vals b (by omega)
theorem cut_nat (a n : Int) (b : Nat) (hb : b ≤ 32) (h : bnd n = (b : Int)) : cut a n = (((low a / 2 ^ (32 - b) * 2 ^ (32 - b) : Nat) : Int), (b : Int)) := by
  have hlt := low_lt a
  unfold cut
  rw [mask_nat n b hb h, h]
  have h1 := and_mask a b hb
  have h2 : low a / 2 ^ (32 - b) * 2 ^ (32 - b) ≤ low a := Nat.div_mul_le_self _ _
  rw [show ((BitVec.ofInt IntKind.i64.bits a &&& BitVec.ofInt IntKind.i64.bits (((2 ^ b - 1) * 2 ^ (32 - b) : Nat) : Int)).toNat : Int) = (((a % 4294967296).toNat / 2 ^ (32 - b) * 2 ^ (32 - b) : Nat) : Int) from h1]
  change (IntKind.i64.wrap ((low a / 2 ^ (32 - b) * 2 ^ (32 - b) : Nat) : Int), _) = _
  rw [IntWalk.i64_in _ (by omega)]
theorem rcut_eq (k : Nat) (a n : Int) (hk : 100 ≤ k) : f_ref01_Cut.f k a n = some (cut a n, ()) := by
  obtain ⟨b, hb, hbn⟩ := bnd_nat n
  rw [cut_nat a n b hb hbn]
  have hlt := low_lt a
  unfold f_ref01_Cut.f
  refine (congrArg (fun z : Int => f_ref01_Cut.l1 k k a n z 0 (0, 0)) (show (0 : Int) = ((grow (low a) b 0 : Nat) : Int) by
    unfold grow
    rw [Nat.zero_min, Nat.div_eq_of_lt (by simpa using hlt), Nat.zero_mul]; rfl)).trans ?_
  refine loop (fun m i => f_ref01_Cut.l1 k m a n ((grow (low a) b i : Nat) : Int) (i : Int) (0, 0)) 32 _ (fun m i hi => ?_) (fun m => ?_) k (by omega)
  · simp only [f_ref01_Cut.l1, f_ref01_Cut.b1, f_ref01_Cut.j2]
    have h1 := grow_lt (low a) b i hlt hb (by omega)
    have h2 := grow_lt (low a) b (i + 1) hlt hb (by omega)
    rw [if_pos (by (first | omega | (dsimp only [Ty.T]; omega) | (simp only [decide_eq_true_eq, decide_eq_false_iff_not, Bool.not_eq_true, Ty.T]; omega) | (simp only [decide_eq_true_eq, decide_eq_false_iff_not, Ty.T]; omega) | (simp only [beq_iff_eq, bne_iff_ne, ne_eq, decide_eq_true_eq, Ty.T]; omega))), rbound_eq, Option.bind_some, hbn]
    have hw : IntKind.i64.wrap (((grow (low a) b i : Nat) : Int) * 2) = ((grow (low a) b i * 2 : Nat) : Int) := by rw [IntWalk.i64_in _ (by omega)]; omega
    by_cases hl : i < b
    · have h3 := grow_low (low a) b i hl hb
      rw [if_pos (by (first | omega | (dsimp only [Ty.T]; omega) | (simp only [decide_eq_true_eq, decide_eq_false_iff_not, Bool.not_eq_true, Ty.T]; omega) | (simp only [decide_eq_true_eq, decide_eq_false_iff_not, Ty.T]; omega) | (simp only [beq_iff_eq, bne_iff_ne, ne_eq, decide_eq_true_eq, Ty.T]; omega))), bit_eq k a i (by omega) hk, Option.bind_some, hw, wsucc i (by omega), h3]
      have hw2 : IntKind.i64.wrap (((grow (low a) b i * 2 : Nat) : Int) + ((low a / 2 ^ (31 - i) % 2 : Nat) : Int)) = ((grow (low a) b i * 2 + low a / 2 ^ (31 - i) % 2 : Nat) : Int) := by rw [IntWalk.i64_in _ (by omega)]; omega
      rw [hw2]
    · have h3 := grow_high (low a) b i hl
      rw [if_neg (by (first | omega | (dsimp only [Ty.T]; omega) | (simp only [decide_eq_true_eq, decide_eq_false_iff_not, Bool.not_eq_true, Ty.T]; omega) | (simp only [decide_eq_true_eq, decide_eq_false_iff_not, Ty.T]; omega) | (simp only [beq_iff_eq, bne_iff_ne, ne_eq, decide_eq_true_eq, Ty.T]; omega))), hw, wsucc i (by omega), h3]
  · simp only [f_ref01_Cut.l1, f_ref01_Cut.b1, f_ref01_Cut.j2]
    rw [if_neg (by (first | omega | (dsimp only [Ty.T]; omega) | (simp only [decide_eq_true_eq, decide_eq_false_iff_not, Bool.not_eq_true, Ty.T]; omega) | (simp only [decide_eq_true_eq, decide_eq_false_iff_not, Ty.T]; omega) | (simp only [beq_iff_eq, bne_iff_ne, ne_eq, decide_eq_true_eq, Ty.T]; omega))), rbound_eq, Option.bind_some, hbn, grow_end (low a) b hb]
theorem rfits_eq (k : Nat) (r : Rl) (inn dst : Int) (hk : 100 ≤ k) : f_ref04_Fits.f k r inn dst = some (fits inn dst r, ()) := by
  unfold f_ref04_Fits.f f_ref01_Has.f fits
  rw [rcut_eq k _ _ hk, Option.bind_some, Option.bind_some]
  by_cases h1 : ((cut dst r.1.2).1 == r.1.1 && ((cut dst r.1.2).2 == r.1.2 && true)) = true
  · rw [if_pos h1, h1, Bool.true_and]
    split <;> rfl
  · rw [if_neg h1, Bool.eq_false_iff.2 h1, Bool.false_and]
theorem rfirst_eq (k : Nat) (rs : List Rl) (inn dst : Int) (hk : rs.length < k) (hk2 : 100 ≤ k) (hs : rs.length < 1000000) : f_ref08_First.f k rs inn dst = some (pk (fits inn dst) rs rs.length, ()) := by
  unfold f_ref08_First.f
  refine loop (fun m i => f_ref08_First.l1 k m rs inn dst (pk (fits inn dst) rs i) (i : Int)) rs.length _ (fun m i hl => ?_) (fun m => ?_) k (by omega)
  · have hr := pk_range (fits inn dst) rs i
    simp only [f_ref08_First.l1, f_ref08_First.b1, f_ref08_First.j2, rfits_eq k _ _ _ hk2, Option.bind_some, rahead_eq]
    rw [if_pos (by (first | omega | (dsimp only [Ty.T]; omega) | (simp only [decide_eq_true_eq, decide_eq_false_iff_not, Bool.not_eq_true, Ty.T]; omega) | (simp only [decide_eq_true_eq, decide_eq_false_iff_not, Ty.T]; omega) | (simp only [beq_iff_eq, bne_iff_ne, ne_eq, decide_eq_true_eq, Ty.T]; omega))), if_pos (by omega), if_pos (by omega), wsucc i (by omega)]
    conv => rhs; unfold pk
    by_cases h1 : fits inn dst (att T1383 rs (i : Int)) = true
    · rw [if_pos h1, if_neg (by rw [h1]; simp)]
      by_cases h2 : pk (fits inn dst) rs i < 0
      · rw [if_pos (by (first | omega | (dsimp only [Ty.T]; omega) | (simp only [decide_eq_true_eq, decide_eq_false_iff_not, Bool.not_eq_true, Ty.T]; omega) | (simp only [decide_eq_true_eq, decide_eq_false_iff_not, Ty.T]; omega) | (simp only [beq_iff_eq, bne_iff_ne, ne_eq, decide_eq_true_eq, Ty.T]; omega))), if_pos h2]
      · rw [if_neg (by (first | omega | (dsimp only [Ty.T]; omega) | (simp only [decide_eq_true_eq, decide_eq_false_iff_not, Bool.not_eq_true, Ty.T]; omega) | (simp only [decide_eq_true_eq, decide_eq_false_iff_not, Ty.T]; omega) | (simp only [beq_iff_eq, bne_iff_ne, ne_eq, decide_eq_true_eq, Ty.T]; omega))), if_neg h2, if_pos (by omega), if_pos (by omega)]
        by_cases h3 : ahead (att T1383 rs (i : Int)) (att T1383 rs (pk (fits inn dst) rs i)) = true
        · rw [if_pos h3, if_pos h3]
        · rw [if_neg h3, if_neg h3]
    · rw [if_neg h1, if_pos (by simpa using h1)]
  · simp only [f_ref08_First.l1, f_ref08_First.b1]
    rw [if_neg (by (first | omega | (dsimp only [Ty.T]; omega) | (simp only [decide_eq_true_eq, decide_eq_false_iff_not, Bool.not_eq_true, Ty.T]; omega) | (simp only [decide_eq_true_eq, decide_eq_false_iff_not, Ty.T]; omega) | (simp only [beq_iff_eq, bne_iff_ne, ne_eq, decide_eq_true_eq, Ty.T]; omega)))]
abbrev Tp := T5477.T
abbrev Ed := Int × Int
def epA (l : Td285.T) : Ed := (l.1, l.2.1)
def epB (l : Td285.T) : Ed := l.2.2
def jput (m : List (Ed × Ed)) (a b : Ed) : List (Ed × Ed) := if a ∈ m.map (·.1) then m else m ++ [(a, b)]
def jst (m : List (Ed × Ed)) (l : Td285.T) : List (Ed × Ed) := jput (jput m (epA l) (epB l)) (epB l) (epA l)
theorem keq_e (a b : Ed) : keq T713d a b = true ↔ a = b := by
  show ((a.1 == b.1) && (a.2 == b.2)) = true ↔ a = b
  rw [Bool.and_eq_true, beq_iff_eq, beq_iff_eq, Prod.ext_iff]
theorem has_e (m : List (Ed × Ed)) (a : Ed) : dmHas (V := T713d) T713d m a = decide (a ∈ m.map (·.1)) := by
  rw [Bool.eq_iff_iff, decide_eq_true_eq]
  unfold dmHas
  rw [List.any_eq_true, List.mem_map]
  constructor
  · rintro ⟨p, h1, h2⟩; exact ⟨p, h1, ((keq_e _ _).1 h2).symm⟩
  · rintro ⟨p, h1, h2⟩; exact ⟨p, h1, (keq_e _ _).2 h2.symm⟩
theorem put_e (m : List (Ed × Ed)) (a b : Ed) (h : ¬ a ∈ m.map (·.1)) : dmPut (V := T713d) T713d m a b = m ++ [(a, b)] := by
  unfold dmPut
  rw [has_e, decide_eq_false h, if_neg Bool.false_ne_true]
theorem port_eq (k : Nat) (t : Tp) (a b : Int) : f_ref11_port.f k t a b = some (f_topo_May.isB (a, b) t, ()) := by
  unfold f_ref11_port.f f_topo_May.isB
  cases decide (a ≥ (0 : Int)) <;> cases decide (a < t.1) <;> cases decide (b ≥ (0 : Int)) <;> rfl
abbrev Hp := Td8a9.T
abbrev Fl := T70a7.T
theorem loop_all {R : Type} (B : Nat → Nat → Option R) (n : Nat) (Q : Nat → Bool) (r a : Option R) (step : ∀ m i, i < n → B (m + 1) i = if Q i = true then B m (i + 1) else a) (fin : ∀ m, B (m + 1) n = r) (m : Nat) (hm : n < m) : B m 0 = if (List.range n).all Q = true then r else a := by
  have key : ∀ d i m, i + d = n → d < m → B m i = if ((List.range n).drop i).all Q = true then r else a := by
    intro d
    induction d with
    | zero =>
      intro i m h hm
      obtain rfl : i = n := by omega
      obtain ⟨m, rfl⟩ : ∃ m', m = m' + 1 := ⟨m - 1, by omega⟩
      rw [fin, List.drop_eq_nil_of_le (by simp), List.all_nil, if_pos rfl]
    | succ d ih =>
      intro i m h hm
      obtain ⟨m, rfl⟩ : ∃ m', m = m' + 1 := ⟨m - 1, by omega⟩
      rw [step m i (by omega), ih (i + 1) m (by omega) (by omega), List.drop_eq_getElem_cons (i := i) (by simp; omega), List.getElem_range, List.all_cons]
      cases Q i <;> simp
  simpa using key n 0 m (by omega) hm
theorem awake_23 : f_law23_awake.f 1000 = some (true, ()) := by kernel_rfl
def few12C (c : List (List Rl)) : Bool := decide (c.length ≤ 10) && c.all fun l => decide (l.length ≤ 60)
theorem few12 (t : List (List Rl)) : f_law12_Few.f 1000 t = some (few12C t, ()) := by
  unfold f_law12_Few.f few12C
  by_cases h : t.length ≤ 10
  · rw [if_neg (by simp; omega), decide_eq_true h, Bool.true_and]
    refine (loop_all (fun m i => f_law12_Few.l1 1000 m t (i : Int)) t.length (fun i => decide ((att (.slice T1383) t (i : Int)).length ≤ 60)) (some (true, ())) (some (false, ())) (fun m i hi => ?_) (fun m => ?_) 1000 (by omega)).trans ?_
    · simp only [f_law12_Few.l1, f_law12_Few.b1]
      rw [if_pos (by (first | omega | (dsimp only [Ty.T]; omega) | (simp only [decide_eq_true_eq, decide_eq_false_iff_not, Bool.not_eq_true, Ty.T]; omega) | (simp only [decide_eq_true_eq, decide_eq_false_iff_not, Ty.T]; omega) | (simp only [beq_iff_eq, bne_iff_ne, ne_eq, decide_eq_true_eq, Ty.T]; omega))), if_pos (by omega), if_pos (by omega), wsucc i (by omega)]
      by_cases h6 : (att (.slice T1383) t (i : Int)).length ≤ 60
      · rw [if_neg (by (first | omega | (dsimp only [Ty.T]; omega) | (simp only [decide_eq_true_eq, decide_eq_false_iff_not, Bool.not_eq_true, Ty.T]; omega) | (simp only [decide_eq_true_eq, decide_eq_false_iff_not, Ty.T]; omega) | (simp only [beq_iff_eq, bne_iff_ne, ne_eq, decide_eq_true_eq, Ty.T]; omega))), if_pos (by (first | omega | (dsimp only [Ty.T]; omega) | (simp only [decide_eq_true_eq, decide_eq_false_iff_not, Bool.not_eq_true, Ty.T]; omega) | (simp only [decide_eq_true_eq, decide_eq_false_iff_not, Ty.T]; omega) | (simp only [beq_iff_eq, bne_iff_ne, ne_eq, decide_eq_true_eq, Ty.T]; omega)))]
      · rw [if_pos (by (first | omega | (dsimp only [Ty.T]; omega) | (simp only [decide_eq_true_eq, decide_eq_false_iff_not, Bool.not_eq_true, Ty.T]; omega) | (simp only [decide_eq_true_eq, decide_eq_false_iff_not, Ty.T]; omega) | (simp only [beq_iff_eq, bne_iff_ne, ne_eq, decide_eq_true_eq, Ty.T]; omega))), if_neg (by (first | omega | (dsimp only [Ty.T]; omega) | (simp only [decide_eq_true_eq, decide_eq_false_iff_not, Bool.not_eq_true, Ty.T]; omega) | (simp only [decide_eq_true_eq, decide_eq_false_iff_not, Ty.T]; omega) | (simp only [beq_iff_eq, bne_iff_ne, ne_eq, decide_eq_true_eq, Ty.T]; omega)))]
    · simp only [f_law12_Few.l1, f_law12_Few.b1]
      rw [if_neg (by (first | omega | (dsimp only [Ty.T]; omega) | (simp only [decide_eq_true_eq, decide_eq_false_iff_not, Bool.not_eq_true, Ty.T]; omega) | (simp only [decide_eq_true_eq, decide_eq_false_iff_not, Ty.T]; omega) | (simp only [beq_iff_eq, bne_iff_ne, ne_eq, decide_eq_true_eq, Ty.T]; omega)))]
    · have : ((List.range t.length).all fun i => decide ((att (.slice T1383) t (i : Int)).length ≤ 60)) = t.all fun l => decide (l.length ≤ 60) := by
        rw [Bool.eq_iff_iff, List.all_eq_true, List.all_eq_true]
        constructor
        · intro h l hl
          obtain ⟨i, hi, rfl⟩ := List.getElem_of_mem hl
          have := h i (List.mem_range.2 hi)
          rw [att_n (e := .slice T1383) t i hi] at this
          exact this
        · intro h i hi
          rw [att_n (e := .slice T1383) t i (List.mem_range.1 hi)]
          exact h _ (List.getElem_mem _)
      rw [this]
      cases t.all fun l => decide (l.length ≤ 60) <;> simp
  · rw [if_pos (by simp; omega)]; simp [h]
theorem few12_of {c : List (List Rl)} (h : few12C c = true) : c.length ≤ 10 ∧ ∀ l ∈ c, l.length ≤ 60 := by
  unfold few12C at h
  rw [Bool.and_eq_true, decide_eq_true_eq, List.all_eq_true] at h
  exact ⟨h.1, fun l hl => by simpa using h.2 l hl⟩
def atR (c : List (List Rl)) (sw : Int) : List Rl := if sw < 0 then [] else if sw < (c.length : Int) then att (.slice T1383) c sw else []
theorem atR_len {c : List (List Rl)} (h : ∀ l ∈ c, l.length ≤ 60) (sw : Int) : (atR c sw).length ≤ 60 := by
  unfold atR
  split
  · simp
  · split
    · obtain ⟨n, rfl⟩ := Int.eq_ofNat_of_zero_le (Int.not_lt.1 ‹_›)
      rw [att_n (e := .slice T1383) c n (by omega)]
      exact h _ (List.getElem_mem _)
    · simp
theorem at_code {c : List (List Rl)} (h : ∀ l ∈ c, l.length ≤ 60) (sw : Int) : f_conf_At.f 1000 c sw = some (atR c sw, ()) := by
  have hl := atR_len h sw
  unfold f_conf_At.f f_conf_At.j1
  unfold atR at hl ⊢
  by_cases h1 : sw < 0
  · rw [if_pos (by simp [h1]), if_pos rfl, if_pos h1]
  · rw [if_neg (by simp; omega), if_neg h1]
    rw [if_neg h1] at hl
    by_cases h2 : sw < (c.length : Int)
    · rw [if_pos h2] at hl
      rw [if_neg (by (first | omega | (dsimp only [Ty.T]; omega) | (simp only [decide_eq_true_eq, decide_eq_false_iff_not, Bool.not_eq_true, Ty.T]; omega) | (simp only [decide_eq_true_eq, decide_eq_false_iff_not, Ty.T]; omega) | (simp only [beq_iff_eq, bne_iff_ne, ne_eq, decide_eq_true_eq, Ty.T]; omega))), if_pos (by omega), if_pos h2, if_pos h2, clone_eq 1000 _ (Nat.lt_of_le_of_lt hl (by decide))]
      rfl
    · rw [if_pos (by (first | omega | (dsimp only [Ty.T]; omega) | (simp only [decide_eq_true_eq, decide_eq_false_iff_not, Bool.not_eq_true, Ty.T]; omega) | (simp only [decide_eq_true_eq, decide_eq_false_iff_not, Ty.T]; omega) | (simp only [beq_iff_eq, bne_iff_ne, ne_eq, decide_eq_true_eq, Ty.T]; omega))), if_neg h2]
theorem at_ref {c : List (List Rl)} (h : ∀ l ∈ c, l.length ≤ 60) (sw : Int) : f_ref12_At.f 1000 c sw = some (atR c sw, ()) := by
  have hl := atR_len h sw
  unfold f_ref12_At.f f_ref12_At.j1
  unfold atR at hl ⊢
  by_cases h1 : sw < 0
  · rw [if_pos (by simp [h1]), if_pos rfl, if_pos h1]
  · rw [if_neg (by simp; omega), if_neg h1]
    rw [if_neg h1] at hl
    by_cases h2 : sw < (c.length : Int)
    · rw [if_pos h2] at hl
      rw [if_neg (by (first | omega | (dsimp only [Ty.T]; omega) | (simp only [decide_eq_true_eq, decide_eq_false_iff_not, Bool.not_eq_true, Ty.T]; omega) | (simp only [decide_eq_true_eq, decide_eq_false_iff_not, Ty.T]; omega) | (simp only [beq_iff_eq, bne_iff_ne, ne_eq, decide_eq_true_eq, Ty.T]; omega))), if_pos (by omega), if_pos h2, if_pos h2, if_pos (by omega)]
    · rw [if_pos (by (first | omega | (dsimp only [Ty.T]; omega) | (simp only [decide_eq_true_eq, decide_eq_false_iff_not, Bool.not_eq_true, Ty.T]; omega) | (simp only [decide_eq_true_eq, decide_eq_false_iff_not, Ty.T]; omega) | (simp only [beq_iff_eq, bne_iff_ne, ne_eq, decide_eq_true_eq, Ty.T]; omega))), if_neg h2]
def farL : List Td285.T → Ed → Option Ed
  | [], _ => none
  | l :: r, e => if epA l = e then some (epB l) else if epB l = e then some (epA l) else farL r e
def farR (t : Tp) (e : Ed) : Option Ed := if f_topo_May.isB e t = true then farL t.2.2 e else none
def farT : Option Ed → Int × (Int × (Bool × Unit))
  | none => (0, (0, (false, ())))
  | some e => (e.1, (e.2, (true, ())))
def lkE (m : List (Ed × Ed)) (e : Ed) : Option Ed := (m.find? fun p => keq T713d e p.1).map (·.2)
theorem lk_has (m : List (Ed × Ed)) (e : Ed) : dmHas (V := T713d) T713d m e = (lkE m e).isSome := by
  unfold dmHas lkE
  rw [Option.isSome_map, List.isSome_find?]
theorem lk_jput (m : List (Ed × Ed)) (a b e : Ed) : lkE (jput m a b) e = (lkE m e).or (if a = e then some b else none) := by
  unfold jput
  split
  · rename_i h
    by_cases hae : a = e
    · subst hae
      have : (lkE m a).isSome = true := by rw [← lk_has, has_e]; exact decide_eq_true h
      obtain ⟨v, hv⟩ := Option.isSome_iff_exists.1 this
      rw [hv]; rfl
    · rw [if_neg hae, Option.or_none]
  · unfold lkE
    rw [List.find?_append, Option.map_or]
    congr 1
    rw [List.find?_cons]
    by_cases hae : a = e
    · rw [if_pos hae, (keq_e e a).2 hae.symm]; rfl
    · rw [if_neg hae]
      cases hk : keq T713d e a
      · rfl
      · exact absurd ((keq_e e a).1 hk).symm hae
theorem lk_fold : ∀ (ls : List Td285.T) (m : List (Ed × Ed)) (e : Ed), lkE (ls.foldl jst m) e = (lkE m e).or (farL ls e)
  | [], m, e => by rw [List.foldl_nil]; unfold farL; rw [Option.or_none]
  | l :: r, m, e => by
    rw [List.foldl_cons, lk_fold r]
    unfold jst
    rw [lk_jput, lk_jput]
    conv => rhs; unfold farL
    cases lkE m e with
    | some v => simp
    | none => by_cases h1 : epA l = e <;> by_cases h2 : epB l = e <;> simp [h1, h2]
theorem joined_in (t : Tp) (u : Tp) (x : Ed) (h : t.2.2.length < 999) : i_topo_joined_042.f 1000 t u x = some (t.2.2.foldl jst [], ()) := by
  unfold i_topo_joined_042.f
  refine loop (fun m i => i_topo_joined_042.l1 u x 1000 m t.2.2 (t.2.2.length : Int) (i : Int) ((t.2.2.take i).foldl jst [])) t.2.2.length _ (fun m i hi => ?_) (fun m => ?_) 1000 (by omega)
  · simp only [i_topo_joined_042.l1, i_topo_joined_042.b1]
    rw [if_pos (by (first | omega | (dsimp only [Ty.T]; omega) | (simp only [decide_eq_true_eq, decide_eq_false_iff_not, Bool.not_eq_true, Ty.T]; omega) | (simp only [decide_eq_true_eq, decide_eq_false_iff_not, Ty.T]; omega) | (simp only [beq_iff_eq, bne_iff_ne, ne_eq, decide_eq_true_eq, Ty.T]; omega))), if_pos (by omega), if_pos (by omega), att_n (e := Td285) t.2.2 i hi, List.take_succ_eq_append_getElem hi, List.foldl_append]
    generalize (t.2.2.take i).foldl jst [] = M
    generalize t.2.2[i] = l
    show (f_topo_both.f 1000 l).bind _ = i_topo_joined_042.l1 u x 1000 m t.2.2 (t.2.2.length : Int) ((i + 1 : Nat) : Int) (jput (jput M (epA l) (epB l)) (epB l) (epA l))
    have g : ∀ M : List (Ed × Ed), i_topo_joined_042.j3 u x (i_topo_joined_042.l1 u x 1000 m) 1000 t.2.2 (t.2.2.length : Int) (i : Int) M (epA l) (epB l) = i_topo_joined_042.l1 u x 1000 m t.2.2 (t.2.2.length : Int) ((i + 1 : Nat) : Int) (jput M (epB l) (epA l)) := by
      intro M
      unfold i_topo_joined_042.j3 i_topo_joined_042.j2 jput
      rw [has_e, wsucc i (by omega)]
      by_cases hm : epB l ∈ M.map (·.1)
      · rw [decide_eq_true hm, if_pos hm]; rfl
      · rw [decide_eq_false hm, if_neg hm, put_e _ _ _ hm]; rfl
    unfold f_topo_both.f
    rw [Option.bind_some]
    show (if (!dmHas (V := T713d) T713d M (epA l)) = true then i_topo_joined_042.j3 u x (i_topo_joined_042.l1 u x 1000 m) 1000 t.2.2 (t.2.2.length : Int) (i : Int) (dmPut (V := T713d) T713d M (epA l) (epB l)) (epA l) (epB l) else i_topo_joined_042.j3 u x (i_topo_joined_042.l1 u x 1000 m) 1000 t.2.2 (t.2.2.length : Int) (i : Int) M (epA l) (epB l)) = _
    rw [g, g, has_e]
    by_cases hm : epA l ∈ M.map (·.1)
    · rw [decide_eq_true hm, if_neg (by decide), show jput M (epA l) (epB l) = M from if_pos hm]
    · rw [decide_eq_false hm, if_pos (by decide), put_e _ _ _ hm, show jput M (epA l) (epB l) = M ++ [(epA l, epB l)] from if_neg hm]
  · simp only [i_topo_joined_042.l1, i_topo_joined_042.b1]
    rw [if_neg (by (first | omega | (dsimp only [Ty.T]; omega) | (simp only [decide_eq_true_eq, decide_eq_false_iff_not, Bool.not_eq_true, Ty.T]; omega) | (simp only [decide_eq_true_eq, decide_eq_false_iff_not, Ty.T]; omega) | (simp only [beq_iff_eq, bne_iff_ne, ne_eq, decide_eq_true_eq, Ty.T]; omega))), List.take_length]
theorem far_code (t : Tp) (h : t.2.2.length < 999) (a b : Int) : f_topo_Far.f 1000 t a b = some (farT (farR t (a, b))) := by
  unfold f_topo_Far.f
  rw [joined_in t t (a, b) h, Option.bind_some, f_topo_May.is_eq 1000 (a, b) t, Option.bind_some]
  show (if (!(dmHas (V := T713d) T713d (t.2.2.foldl jst []) (a, b))) = true then f_topo_Far.j1 1000 true (((lkE (t.2.2.foldl jst []) (a, b)).getD (0, 0))) else f_topo_Far.j1 1000 (!(f_topo_May.isB (a, b) t)) (((lkE (t.2.2.foldl jst []) (a, b)).getD (0, 0)))) = _
  rw [lk_has, lk_fold]
  unfold farR f_topo_Far.j1
  have h0 : lkE [] (a, b) = none := rfl
  rw [h0, Option.none_or]
  cases farL t.2.2 (a, b) with
  | none => cases f_topo_May.isB (a, b) t <;> rfl
  | some e => cases f_topo_May.isB (a, b) t <;> rfl
theorem far_loop (t : Tp) (h : t.2.2.length < 999) (a b : Int) : ∀ d i m, i + d = t.2.2.length → d < m → f_ref11_Far.l1 t a b 1000 m (i : Int) = some (farT (farL (t.2.2.drop i) (a, b))) := by
  intro d
  induction d with
  | zero =>
    intro i m hi hm
    obtain ⟨m, rfl⟩ : ∃ m', m = m' + 1 := ⟨m - 1, by omega⟩
    simp only [f_ref11_Far.l1, f_ref11_Far.b1]
    rw [if_neg (by (first | omega | (dsimp only [Ty.T]; omega) | (simp only [decide_eq_true_eq, decide_eq_false_iff_not, Bool.not_eq_true, Ty.T]; omega) | (simp only [decide_eq_true_eq, decide_eq_false_iff_not, Ty.T]; omega) | (simp only [beq_iff_eq, bne_iff_ne, ne_eq, decide_eq_true_eq, Ty.T]; omega))), List.drop_eq_nil_of_le (by omega)]
    rfl
  | succ d ih =>
    intro i m hi hm
    obtain ⟨m, rfl⟩ : ∃ m', m = m' + 1 := ⟨m - 1, by omega⟩
    have hl : i < t.2.2.length := by omega
    simp only [f_ref11_Far.l1, f_ref11_Far.b1, f_ref11_Far.j3, f_ref11_Far.j2]
    rw [if_pos (by (first | omega | (dsimp only [Ty.T]; omega) | (simp only [decide_eq_true_eq, decide_eq_false_iff_not, Bool.not_eq_true, Ty.T]; omega) | (simp only [decide_eq_true_eq, decide_eq_false_iff_not, Ty.T]; omega) | (simp only [beq_iff_eq, bne_iff_ne, ne_eq, decide_eq_true_eq, Ty.T]; omega))), if_pos (by omega), if_pos (by omega), att_n (e := Td285) t.2.2 i hl, wsucc i (by omega), ih (i + 1) m (by omega) (by omega), List.drop_eq_getElem_cons hl]
    conv => rhs; unfold farL
    generalize t.2.2[i] = l
    obtain ⟨l1, l2, l3, l4⟩ := l
    show _ = some (farT (if ((l1, l2) : Ed) = (a, b) then some (l3, l4) else if ((l3, l4) : Ed) = (a, b) then some (l1, l2) else farL (List.drop (i + 1) t.2.2) (a, b)))
    generalize farL (List.drop (i + 1) t.2.2) (a, b) = o
    simp only [Prod.mk.injEq]
    by_cases h1 : l1 = a <;> by_cases h2 : l2 = b <;> by_cases h3 : l3 = a <;> by_cases h4 : l4 = b <;> simp [h1, h2, h3, h4, farT]
theorem far_ref (t : Tp) (h : t.2.2.length < 999) (a b : Int) : f_ref11_Far.f 1000 t a b = some (farT (farR t (a, b))) := by
  unfold f_ref11_Far.f farR
  have hf : f_ref11_Far.l1 t a b 1000 1000 0 = _ := far_loop t h a b t.2.2.length 0 1000 (by omega) (by omega)
  rw [port_eq, Option.bind_some, hf, List.drop_zero]
  cases f_topo_May.isB (a, b) t <;> rfl
def hopR (x : Fl) (w o : Int) : Hp := (0, (x.1.1, (x.2.1, (x.2.2, (x.1.2.2.2.2, (w, o))))))
def flz : Fl := ((0, (0, (0, (0, 0)))), (0, 0))
noncomputable def pstp (t : Tp) (c : List (List Rl)) (x : Fl) : Hp × Fl :=
  if x.1.2.2.2.1 < (1 : Int) then (hopR x 5 0, flz)
  else if pk (fits x.2.2 x.1.2.2.1) (atR c x.2.1) (atR c x.2.1).length < 0 then (hopR x 3 0, flz)
  else if ((att T1383 (atR c x.2.1) (pk (fits x.2.2 x.1.2.2.1) (atR c x.2.1) (atR c x.2.1).length)).2.2.2.1 != (1 : Int)) = true then (hopR x 2 0, flz)
  else match farR t (x.2.1, (att T1383 (atR c x.2.1) (pk (fits x.2.2 x.1.2.2.1) (atR c x.2.1) (atR c x.2.1).length)).2.2.2.2) with
    | none => (hopR x 1 (att T1383 (atR c x.2.1) (pk (fits x.2.2 x.1.2.2.1) (atR c x.2.1) (atR c x.2.1).length)).2.2.2.2, flz)
    | some e => (hopR x 0 (att T1383 (atR c x.2.1) (pk (fits x.2.2 x.1.2.2.1) (atR c x.2.1) (atR c x.2.1).length)).2.2.2.2, ((x.1.1, (x.1.2.1, (x.1.2.2.1, (IntKind.i64.wrap (x.1.2.2.2.1 - 1), x.1.2.2.2.2)))), e))
theorem pstp_code {t : Tp} (h : t.2.2.length < 999) {c : List (List Rl)} (hc : ∀ l ∈ c, l.length ≤ 60) (x : Fl) : f_path_Step.f 1000 t c x = some ((pstp t c x).1, ((pstp t c x).2, ())) := by
  have hl := atR_len hc x.2.1
  unfold f_path_Step.f f_path_Step.j1 pstp
  rw [at_code hc, Option.bind_some, first_eq 1000 _ _ _ (by dsimp only; omega) (by omega) (by dsimp only; omega), Option.bind_some]
  dsimp only
  have hr := pk_range (fits x.2.2 x.1.2.2.1) (atR c x.2.1) (atR c x.2.1).length
  generalize pk (fits x.2.2 x.1.2.2.1) (atR c x.2.1) (atR c x.2.1).length = n at hr ⊢
  by_cases h1 : x.1.2.2.2.1 < (1 : Int)
  · rw [if_pos (decide_eq_true h1), if_pos h1]; rfl
  · rw [if_neg (by rw [decide_eq_false h1]; exact Bool.false_ne_true), if_neg h1]
    by_cases h2 : n < 0
    · rw [if_pos (decide_eq_true h2), if_pos h2]; rfl
    · rw [if_neg (by rw [decide_eq_false h2]; exact Bool.false_ne_true), if_neg h2, if_pos (Int.not_lt.1 h2), if_pos hr.2]
      by_cases h3 : ((att T1383 (atR c x.2.1) n).2.2.2.1 != (1 : Int)) = true
      · rw [if_pos h3, if_pos h3]; rfl
      · rw [if_neg h3, if_neg h3, far_code t h, Option.bind_some]
        cases farR t (x.2.1, (att T1383 (atR c x.2.1) n).2.2.2.2) <;> rfl
theorem pstp_ref {t : Tp} (h : t.2.2.length < 999) {c : List (List Rl)} (hc : ∀ l ∈ c, l.length ≤ 60) (x : Fl) : f_ref13_Step.f 1000 t c x = some ((pstp t c x).1, ((pstp t c x).2, ())) := by
  have hl := atR_len hc x.2.1
  unfold f_ref13_Step.f pstp
  rw [at_ref hc, Option.bind_some, rfirst_eq 1000 _ _ _ (by dsimp only; omega) (by omega) (by dsimp only; omega), Option.bind_some]
  dsimp only
  have hr := pk_range (fits x.2.2 x.1.2.2.1) (atR c x.2.1) (atR c x.2.1).length
  generalize pk (fits x.2.2 x.1.2.2.1) (atR c x.2.1) (atR c x.2.1).length = n at hr ⊢
  by_cases h1 : x.1.2.2.2.1 < (1 : Int)
  · rw [if_pos (decide_eq_true h1), if_pos h1]; rfl
  · rw [if_neg (by rw [decide_eq_false h1]; exact Bool.false_ne_true), if_neg h1]
    by_cases h2 : n < 0
    · rw [if_pos (decide_eq_true h2), if_pos h2]; rfl
    · rw [if_neg (by rw [decide_eq_false h2]; exact Bool.false_ne_true), if_neg h2, if_pos (Int.not_lt.1 h2), if_pos hr.2]
      by_cases h3 : ((att T1383 (atR c x.2.1) n).2.2.2.1 != (1 : Int)) = true
      · rw [if_pos h3, if_pos h3]; rfl
      · rw [if_neg h3, if_neg h3, far_ref t h, Option.bind_some]
        cases farR t (x.2.1, (att T1383 (atR c x.2.1) n).2.2.2.2) <;> rfl
theorem pstp_ttl (t : Tp) (c : List (List Rl)) (x : Fl) (h : (pstp t c x).1.2.2.2.2.2.1 = (0 : Int)) : (1 : Int) ≤ x.1.2.2.2.1 ∧ (pstp t c x).2.1.2.2.2.1 = IntKind.i64.wrap (x.1.2.2.2.1 - 1) := by
  unfold pstp at h ⊢
  split at h
  · exact absurd h (show ¬ (5 : Int) = 0 by decide)
  · rename_i h1
    rw [if_neg h1]
    split at h
    · exact absurd h (show ¬ (3 : Int) = 0 by decide)
    · rename_i h2
      rw [if_neg h2]
      split at h
      · exact absurd h (show ¬ (2 : Int) = 0 by decide)
      · rename_i h3
        rw [if_neg h3]
        split at h
        · exact absurd h (show ¬ (1 : Int) = 0 by decide)
        · exact ⟨Int.not_lt.1 h1, rfl⟩
noncomputable def wk (t : Tp) (c : List (List Rl)) : Nat → Fl → List Hp
  | 0, _ => []
  | m + 1, x => (pstp t c x).1 :: (if (pstp t c x).1.2.2.2.2.2.1 = (0 : Int) then wk t c m (pstp t c x).2 else [])
theorem wk_len (t : Tp) (c : List (List Rl)) : ∀ m x, (wk t c m x).length ≤ m
  | 0, _ => Nat.le_refl _
  | m + 1, x => by
    unfold wk
    rw [List.length_cons]
    split
    · have := wk_len t c m (pstp t c x).2; omega
    · simp
theorem dec_ttl {z z' : Int} {n : Nat} (h1 : 1 ≤ z) (h2 : z ≤ 16) (h3 : z' = IntKind.i64.wrap (z - 1)) (hn : z.toNat ≤ n) : z' ≤ 16 ∧ 0 < n ∧ z'.toNat ≤ n - 1 := by
  rw [IntKind.wrap_i64] at h3; omega
theorem wkIn {t : Tp} (h : t.2.2.length < 999) {c : List (List Rl)} (hc : ∀ l ∈ c, l.length ≤ 60) : ∀ n (x : Fl) m, x.1.2.2.2.1 ≤ (16 : Int) → x.1.2.2.2.1.toNat ≤ n → n < m → f_path_Walk.walkR 1000 t c m x = some (wk t c (n + 1) x) := by
  intro n
  induction n with
  | zero =>
    intro x m h16 hn hm
    obtain ⟨m, rfl⟩ : ∃ m', m = m' + 1 := ⟨m - 1, by omega⟩
    unfold f_path_Walk.walkR wk
    rw [pstp_code h hc, Option.bind_some]
    dsimp only
    split
    · rename_i hw
      obtain ⟨h1, h2⟩ := pstp_ttl t c x hw
      have := dec_ttl h1 h16 h2 hn
      omega
    · rfl
  | succ n ih =>
    intro x m h16 hn hm
    obtain ⟨m, rfl⟩ : ∃ m', m = m' + 1 := ⟨m - 1, by omega⟩
    unfold f_path_Walk.walkR wk
    rw [pstp_code h hc, Option.bind_some]
    dsimp only
    split
    · rename_i hw
      obtain ⟨h1, h2⟩ := pstp_ttl t c x hw
      obtain ⟨k1, k2, k3⟩ := dec_ttl h1 h16 h2 hn
      rw [ih _ m k1 (by omega) (by omega)]
      rfl
    · rfl
theorem clampT_le (x : Fl) : (f_path_Walk.clampT x).1.2.2.2.1 ≤ (16 : Int) := f_path_Walk.clamp16 x
noncomputable def wkT (t : Tp) (c : List (List Rl)) (x : Fl) : List Hp := wk t c 17 (f_path_Walk.clampT x)
theorem wkT_len (t : Tp) (c : List (List Rl)) (x : Fl) : (wkT t c x).length ≤ 17 := wk_len t c 17 _
theorem nat16 {z : Int} (h : z ≤ 16) : z.toNat ≤ 16 := by omega
theorem walk_code {t : Tp} (h : t.2.2.length < 999) {c : List (List Rl)} (hc : ∀ l ∈ c, l.length ≤ 60) (x : Fl) : f_path_Walk.f 1000 t c x = some (wkT t c x, ()) := by
  have hl := wkT_len t c x
  unfold f_path_Walk.f
  rw [wkIn h hc 16 _ 100 (clampT_le x) (nat16 (clampT_le x)) (by omega), Option.bind_some]
  unfold wkT at hl ⊢
  rw [if_pos (show (wk t c 17 (f_path_Walk.clampT x)).length * 56 ≤ 140737488355328 by omega)]
theorem rwkIn {t : Tp} (h : t.2.2.length < 999) {c : List (List Rl)} (hc : ∀ l ∈ c, l.length ≤ 60) : ∀ n (x : Fl) m (l : List Hp), l.length + n < 1000000 → x.1.2.2.2.1 ≤ (16 : Int) → x.1.2.2.2.1.toNat ≤ n → n < m → f_ref13_Walk.l1 t c 1000 m x l = some (l ++ wk t c (n + 1) x, ()) := by
  intro n
  induction n with
  | zero =>
    intro x m l hl h16 hn hm
    obtain ⟨m, rfl⟩ : ∃ m', m = m' + 1 := ⟨m - 1, by omega⟩
    simp only [f_ref13_Walk.l1, f_ref13_Walk.b1]
    unfold wk
    rw [pstp_ref h hc, Option.bind_some, if_pos (by omega)]
    dsimp only
    by_cases hw : (pstp t c x).1.2.2.2.2.2.1 = (0 : Int)
    · obtain ⟨h1, h2⟩ := pstp_ttl t c x hw
      have := dec_ttl h1 h16 h2 hn
      omega
    · rw [if_pos (bne_iff_ne.2 hw), if_neg hw]
  | succ n ih =>
    intro x m l hl h16 hn hm
    obtain ⟨m, rfl⟩ : ∃ m', m = m' + 1 := ⟨m - 1, by omega⟩
    simp only [f_ref13_Walk.l1, f_ref13_Walk.b1]
    unfold wk
    rw [pstp_ref h hc, Option.bind_some, if_pos (by omega)]
    dsimp only
    by_cases hw : (pstp t c x).1.2.2.2.2.2.1 = (0 : Int)
    · obtain ⟨h1, h2⟩ := pstp_ttl t c x hw
      obtain ⟨k1, k2, k3⟩ := dec_ttl h1 h16 h2 hn
      rw [if_neg (fun k => bne_iff_ne.1 k hw), if_pos hw, ih _ m _ (by rw [List.length_append, List.length_singleton]; omega) k1 (by omega) (by omega), List.append_assoc]
      rfl
    · rw [if_pos (bne_iff_ne.2 hw), if_neg hw]
theorem walk_ref {t : Tp} (h : t.2.2.length < 999) {c : List (List Rl)} (hc : ∀ l ∈ c, l.length ≤ 60) (x : Fl) : f_ref13_Walk.f 1000 t c x = some (wkT t c x, ()) := by
  unfold f_ref13_Walk.f f_ref13_Walk.j2 wkT
  have hx := clampT_le x
  have he : (if (decide (x.1.2.2.2.1 > (16 : Int))) = true then f_ref13_Walk.l1 t c 1000 1000 ((x.1.1, (x.1.2.1, (x.1.2.2.1, (16, x.1.2.2.2.2)))), x.2) [] else f_ref13_Walk.l1 t c 1000 1000 x []) = f_ref13_Walk.l1 t c 1000 1000 (f_path_Walk.clampT x) [] := by
    unfold f_path_Walk.clampT
    by_cases h1 : (16 : Int) < x.1.2.2.2.1
    · rw [if_pos (decide_eq_true h1), if_pos h1]
    · rw [if_neg (by rw [decide_eq_false h1]; exact Bool.false_ne_true), if_neg h1]
  rw [he, rwkIn h hc 16 _ 1000 [] (by decide) hx (nat16 hx) (by omega)]
  rfl
def cutB (a b : Hp) : Bool := a.2.2.2.2.2.1 == (6 : Int) || (a.2.2.2.2.2.1 == (7 : Int) && (a.2.2.2.2.2.2 == b.2.2.2.2.2.2 && b.2.2.2.2.2.1 == (0 : Int)))
def okH (last : Bool) (a b : Hp) : Bool := a.2.2.1 == b.2.2.1 && (a.2.2.2.1 == b.2.2.2.1 && ((a.2.2.2.2.2.1 == b.2.2.2.2.2.1 && a.2.2.2.2.2.2 == b.2.2.2.2.2.2) || (last && cutB a b)))
def fol (l w : List Hp) : Bool := decide (l.length ≤ w.length) && (List.range l.length).all fun i => okH (decide (i + 1 = l.length)) (att Td8a9 l (i : Int)) (att Td8a9 w (i : Int))
theorem last_eq (n i : Nat) (hn : n < 1000000) (hi : i < n) : decide ((i : Int) < IntKind.i64.wrap ((n : Int) - 1)) = !decide (i + 1 = n) := by
  rw [IntKind.wrap_i64]
  by_cases h : i + 1 = n
  · rw [decide_eq_true h, decide_eq_false (by omega)]; rfl
  · rw [decide_eq_false h, decide_eq_true (by omega)]; rfl
theorem last_beq (n i : Nat) (hn : n < 1000000) (hi : i < n) : ((i : Int) == IntKind.i64.wrap ((n : Int) - 1)) = decide (i + 1 = n) := by
  rw [IntKind.wrap_i64, Bool.eq_iff_iff, beq_iff_eq, decide_eq_true_eq]
  omega
theorem follows_code {t : Tp} (h : t.2.2.length < 999) {c : List (List Rl)} (hc : ∀ l ∈ c, l.length ≤ 60) (x : Fl) (l : List Hp) : f_audit_Follows.f 1000 t c x l = some (fol l (wkT t c x), ()) := by
  have hl := wkT_len t c x
  unfold f_audit_Follows.f fol
  rw [walk_code h hc, Option.bind_some]
  generalize wkT t c x = w at hl ⊢
  by_cases h1 : l.length ≤ w.length
  · rw [if_neg (by simp; omega), decide_eq_true h1, Bool.true_and]
    refine (loop_all (fun m i => f_audit_Follows.l1 l 1000 m w (l.length : Int) (i : Int)) l.length (fun i => okH (decide (i + 1 = l.length)) (att Td8a9 l (i : Int)) (att Td8a9 w (i : Int))) (some (true, ())) (some (false, ())) (fun m i hi => ?_) (fun m => ?_) 1000 (by omega)).trans ?_
    · simp only [f_audit_Follows.l1, f_audit_Follows.b1, f_audit_Follows.j3, f_audit_Follows.j2, f_audit_cut.f]
      rw [if_pos (by (first | omega | (dsimp only [Ty.T]; omega) | (simp only [decide_eq_true_eq, decide_eq_false_iff_not, Bool.not_eq_true, Ty.T]; omega) | (simp only [decide_eq_true_eq, decide_eq_false_iff_not, Ty.T]; omega) | (simp only [beq_iff_eq, bne_iff_ne, ne_eq, decide_eq_true_eq, Ty.T]; omega))), if_pos (by omega), if_pos (by omega), if_pos (by omega), wsucc i (by omega), last_eq l.length i (by omega) hi]
      unfold okH cutB
      generalize att Td8a9 l (i : Int) = a
      generalize att Td8a9 w (i : Int) = b
      generalize f_audit_Follows.l1 l 1000 m w (l.length : Int) ((i + 1 : Nat) : Int) = L
      rw [bne, bne]
      generalize (a.2.2.1 == b.2.2.1) = q1
      generalize (a.2.2.2.1 == b.2.2.2.1) = q2
      generalize (a.2.2.2.2.2.1 == b.2.2.2.2.2.1) = q3
      generalize (a.2.2.2.2.2.2 == b.2.2.2.2.2.2) = q4
      generalize (a.2.2.2.2.2.1 == (6 : Int)) = q5
      generalize (a.2.2.2.2.2.1 == (7 : Int)) = q6
      generalize (b.2.2.2.2.2.1 == (0 : Int)) = q7
      generalize decide (i + 1 = l.length) = q8
      cases q1 <;> cases q2 <;> cases q3 <;> cases q4 <;> cases q8 <;> cases q5 <;> cases q6 <;> cases q7 <;> rfl
    · simp only [f_audit_Follows.l1, f_audit_Follows.b1]
      rw [if_neg (by (first | omega | (dsimp only [Ty.T]; omega) | (simp only [decide_eq_true_eq, decide_eq_false_iff_not, Bool.not_eq_true, Ty.T]; omega) | (simp only [decide_eq_true_eq, decide_eq_false_iff_not, Ty.T]; omega) | (simp only [beq_iff_eq, bne_iff_ne, ne_eq, decide_eq_true_eq, Ty.T]; omega)))]
    · generalize (List.range l.length).all _ = q
      cases q <;> rfl
  · rw [if_pos (by (first | omega | (dsimp only [Ty.T]; omega) | (simp only [decide_eq_true_eq, decide_eq_false_iff_not, Bool.not_eq_true, Ty.T]; omega) | (simp only [decide_eq_true_eq, decide_eq_false_iff_not, Ty.T]; omega) | (simp only [beq_iff_eq, bne_iff_ne, ne_eq, decide_eq_true_eq, Ty.T]; omega))), decide_eq_false h1]; rfl
theorem follows_ref {t : Tp} (h : t.2.2.length < 999) {c : List (List Rl)} (hc : ∀ l ∈ c, l.length ≤ 60) (x : Fl) (l : List Hp) : f_ref23_Follows.f 1000 t c x l = some (fol l (wkT t c x), ()) := by
  have hl := wkT_len t c x
  unfold f_ref23_Follows.f fol
  rw [walk_ref h hc, Option.bind_some]
  generalize wkT t c x = w at hl ⊢
  by_cases h1 : l.length ≤ w.length
  · rw [if_neg (by simp; omega), decide_eq_true h1, Bool.true_and]
    refine (loop_all (fun m i => f_ref23_Follows.l1 l 1000 m w (i : Int)) l.length (fun i => okH (decide (i + 1 = l.length)) (att Td8a9 l (i : Int)) (att Td8a9 w (i : Int))) (some (true, ())) (some (false, ())) (fun m i hi => ?_) (fun m => ?_) 1000 (by omega)).trans ?_
    · simp only [f_ref23_Follows.l1, f_ref23_Follows.b1, f_ref23_Follows.j2, f_ref23_Follows.j6, f_ref23_Follows.j5, f_ref23_Follows.j3, f_ref23_Follows.j4]
      rw [if_pos (by (first | omega | (dsimp only [Ty.T]; omega) | (simp only [decide_eq_true_eq, decide_eq_false_iff_not, Bool.not_eq_true, Ty.T]; omega) | (simp only [decide_eq_true_eq, decide_eq_false_iff_not, Ty.T]; omega) | (simp only [beq_iff_eq, bne_iff_ne, ne_eq, decide_eq_true_eq, Ty.T]; omega))), if_pos (by omega), if_pos (by omega), if_pos (by omega), wsucc i (by omega), last_beq l.length i (by omega) hi]
      unfold okH cutB
      generalize att Td8a9 l (i : Int) = a
      generalize att Td8a9 w (i : Int) = b
      generalize f_ref23_Follows.l1 l 1000 m w ((i + 1 : Nat) : Int) = L
      rw [bne, bne]
      generalize (a.2.2.1 == b.2.2.1) = q1
      generalize (a.2.2.2.1 == b.2.2.2.1) = q2
      generalize (a.2.2.2.2.2.1 == b.2.2.2.2.2.1) = q3
      generalize (a.2.2.2.2.2.2 == b.2.2.2.2.2.2) = q4
      generalize (a.2.2.2.2.2.1 == (6 : Int)) = q5
      generalize (a.2.2.2.2.2.1 == (7 : Int)) = q6
      generalize (b.2.2.2.2.2.1 == (0 : Int)) = q7
      generalize decide (i + 1 = l.length) = q8
      cases q1 <;> cases q2 <;> cases q3 <;> cases q4 <;> cases q8 <;> cases q5 <;> cases q6 <;> cases q7 <;> rfl
    · simp only [f_ref23_Follows.l1, f_ref23_Follows.b1]
      rw [if_neg (by (first | omega | (dsimp only [Ty.T]; omega) | (simp only [decide_eq_true_eq, decide_eq_false_iff_not, Bool.not_eq_true, Ty.T]; omega) | (simp only [decide_eq_true_eq, decide_eq_false_iff_not, Ty.T]; omega) | (simp only [beq_iff_eq, bne_iff_ne, ne_eq, decide_eq_true_eq, Ty.T]; omega)))]
    · generalize (List.range l.length).all _ = q
      cases q <;> rfl
  · rw [if_pos (by (first | omega | (dsimp only [Ty.T]; omega) | (simp only [decide_eq_true_eq, decide_eq_false_iff_not, Bool.not_eq_true, Ty.T]; omega) | (simp only [decide_eq_true_eq, decide_eq_false_iff_not, Ty.T]; omega) | (simp only [beq_iff_eq, bne_iff_ne, ne_eq, decide_eq_true_eq, Ty.T]; omega))), decide_eq_false h1]; rfl
theorem tag_code (l : List Hp) (h : l.length < 1000000) : f_audit_Tag.f 1000 l = some (f_audit_Tag.tagR (l.filter f_audit_Tag.open_), ()) := by
  unfold f_audit_Tag.f
  rw [if_pos (by omega)]
theorem of_code (l : List Hp) (id : Int) (h : l.length < 1000000) : f_audit_Of.f 1000 l id = some (l.filter (fun x => x.2.1 == id), ()) := by
  unfold f_audit_Of.f
  rw [if_pos (by omega)]
theorem fi_take {α : Type} (p : α → Bool) (l : List α) (i : Nat) (hi : i < l.length) : (l.take (i + 1)).filter p = (l.take i).filter p ++ (if p l[i] = true then [l[i]] else []) := by
  rw [List.take_succ_eq_append_getElem hi, List.filter_append, List.filter_cons, List.filter_nil]
theorem of_ref (l : List Hp) (id : Int) (h : l.length ≤ 200) : f_ref23_Of.f 1000 l id = some (l.filter (fun x => x.2.1 == id), ()) := by
  unfold f_ref23_Of.f
  generalize hq : (fun x : Hp => x.2.1 == id) = q
  refine loop (fun m i => f_ref23_Of.l1 l id 1000 m (i : Int) ((l.take i).filter q)) l.length _ (fun m i hi => ?_) (fun m => ?_) 1000 (by omega)
  · simp only [f_ref23_Of.l1, f_ref23_Of.b1, f_ref23_Of.j2]
    have hle : ((l.take i).filter q).length ≤ i := Nat.le_trans (List.length_filter_le _ _) (by rw [List.length_take]; omega)
    rw [if_pos (by (first | omega | (dsimp only [Ty.T]; omega) | (simp only [decide_eq_true_eq, decide_eq_false_iff_not, Bool.not_eq_true, Ty.T]; omega) | (simp only [decide_eq_true_eq, decide_eq_false_iff_not, Ty.T]; omega) | (simp only [beq_iff_eq, bne_iff_ne, ne_eq, decide_eq_true_eq, Ty.T]; omega))), if_pos (by omega), if_pos (by omega), att_n (e := Td8a9) l i hi, wsucc i (by omega), fi_take q l i hi]
    have hqi : q l[i] = (l[i].2.1 == id) := by rw [← hq]
    by_cases hp : q l[i] = true
    · rw [if_pos (by rw [← hqi]; exact hp), if_pos (by omega), if_pos hp]
    · rw [if_neg (by rw [← hqi]; exact hp), if_neg hp, List.append_nil]
  · simp only [f_ref23_Of.l1, f_ref23_Of.b1]
    rw [if_neg (by (first | omega | (dsimp only [Ty.T]; omega) | (simp only [decide_eq_true_eq, decide_eq_false_iff_not, Bool.not_eq_true, Ty.T]; omega) | (simp only [decide_eq_true_eq, decide_eq_false_iff_not, Ty.T]; omega) | (simp only [beq_iff_eq, bne_iff_ne, ne_eq, decide_eq_true_eq, Ty.T]; omega))), List.take_length]
theorem same_13 (l : List Hp) (h : l.length ≤ 200) : f_ref13_Same.f 1000 l l = some (true, ()) := by
  unfold f_ref13_Same.f
  rw [if_neg (by simp)]
  refine loop (fun m i => f_ref13_Same.l1 l l 1000 m (i : Int)) l.length _ (fun m i hi => ?_) (fun m => ?_) 1000 (by omega)
  · simp only [f_ref13_Same.l1, f_ref13_Same.b1]
    rw [if_pos (by (first | omega | (dsimp only [Ty.T]; omega) | (simp only [decide_eq_true_eq, decide_eq_false_iff_not, Bool.not_eq_true, Ty.T]; omega) | (simp only [decide_eq_true_eq, decide_eq_false_iff_not, Ty.T]; omega) | (simp only [beq_iff_eq, bne_iff_ne, ne_eq, decide_eq_true_eq, Ty.T]; omega))), if_pos (by omega), if_pos (by omega), if_pos (by omega), wsucc i (by omega), if_neg (by simp)]
  · simp only [f_ref13_Same.l1, f_ref13_Same.b1]
    rw [if_neg (by (first | omega | (dsimp only [Ty.T]; omega) | (simp only [decide_eq_true_eq, decide_eq_false_iff_not, Bool.not_eq_true, Ty.T]; omega) | (simp only [decide_eq_true_eq, decide_eq_false_iff_not, Ty.T]; omega) | (simp only [beq_iff_eq, bne_iff_ne, ne_eq, decide_eq_true_eq, Ty.T]; omega)))]
theorem tag_ref (l : List Hp) (h : l.length ≤ 200) : f_ref23_Tag.f 1000 l = some (f_audit_Tag.tagR (l.filter f_audit_Tag.open_), ()) := by
  unfold f_ref23_Tag.f
  refine loop_io (fun m i (s : Int × Bool) => f_ref23_Tag.l1 l 1000 m s.1 s.2 (i : Int)) (fun i s => s.2 = !((l.take i).filter f_audit_Tag.open_).isEmpty ∧ (((l.take i).filter f_audit_Tag.open_) = [] → s.1 = 0) ∧ ∀ x ∈ (l.take i).filter f_audit_Tag.open_, f_audit_Tag.tg x = s.1) l.length _ (fun m i s hi hI => ?_) (fun m s hI => ?_) 1000 (by omega) ((0 : Int), false) ⟨by simp, fun _ => rfl, fun x hx => by simp at hx⟩
  · obtain ⟨tag, any⟩ := s
    obtain ⟨hA, hZ, hT⟩ := hI
    dsimp only at hA hZ hT
    simp only [f_ref23_Tag.l1, f_ref23_Tag.b1, f_ref23_Tag.j2, f_ref23_Tag.j3]
    rw [if_pos (by (first | omega | (dsimp only [Ty.T]; omega) | (simp only [decide_eq_true_eq, decide_eq_false_iff_not, Bool.not_eq_true, Ty.T]; omega) | (simp only [decide_eq_true_eq, decide_eq_false_iff_not, Ty.T]; omega) | (simp only [beq_iff_eq, bne_iff_ne, ne_eq, decide_eq_true_eq, Ty.T]; omega))), if_pos (by omega), if_pos (by omega), att_n (e := Td8a9) l i hi, wsucc i (by omega)]
    by_cases hp : f_audit_Tag.open_ l[i] = true
    · have h6 : ¬ (l[i].2.2.2.2.2.1 == (6 : Int)) = true := fun e => bne_iff_ne.1 hp (beq_iff_eq.1 e)
      rw [if_neg h6]
      have hft := fi_take f_audit_Tag.open_ l i hi
      rw [if_pos hp] at hft
      by_cases ha : any = true
      · rw [if_pos ha]
        by_cases ht : f_audit_Tag.tg l[i] = tag
        · have hb : ¬ (l[i].2.2.2.2.1 != tag) = true := fun e => bne_iff_ne.1 e ht
          rw [if_neg hb]
          refine .inl ⟨(f_audit_Tag.tg l[i], true), ⟨?_, fun e => ?_, fun x hx => ?_⟩, by rw [if_pos (by omega), if_pos (by omega)]; rfl⟩
          · rw [hft]; simp
          · rw [hft] at e; simp at e
          · rw [hft] at hx
            rcases List.mem_append.1 hx with hx | hx
            · exact (hT x hx).trans ht.symm
            · rw [List.mem_singleton.1 hx]
        · have hb : (l[i].2.2.2.2.1 != tag) = true := bne_iff_ne.2 ht
          rw [if_pos hb]
          refine .inr ?_
          have hne : (l.take i).filter f_audit_Tag.open_ ≠ [] := fun e => by rw [e, ha] at hA; simp at hA
          have hsplit : l.filter f_audit_Tag.open_ = (l.take i).filter f_audit_Tag.open_ ++ l[i] :: (l.drop (i + 1)).filter f_audit_Tag.open_ := by
            conv => lhs; rw [← List.take_append_drop i l]
            rw [List.filter_append, List.drop_eq_getElem_cons hi, List.filter_cons, if_pos hp]
          have hhT : f_audit_Tag.hT (l.filter f_audit_Tag.open_) = tag := by
            rw [hsplit]
            cases hq : (l.take i).filter f_audit_Tag.open_ with
            | nil => exact absurd hq hne
            | cons a r => exact hT a (by rw [hq]; exact List.mem_cons_self ..)
          unfold f_audit_Tag.tagR
          rw [hhT, if_neg]
          intro k
          rw [List.all_eq_true] at k
          exact ht (beq_iff_eq.1 (k l[i] (by rw [hsplit]; exact List.mem_append_right _ (List.mem_cons_self ..))))
      · rw [if_neg ha]
        have he : (l.take i).filter f_audit_Tag.open_ = [] := by
          rw [Bool.eq_false_iff.2 ha] at hA
          cases hq : (l.take i).filter f_audit_Tag.open_ with
          | nil => rfl
          | cons a r => rw [hq] at hA; simp at hA
        rw [if_neg (by simp)]
        refine .inl ⟨(f_audit_Tag.tg l[i], true), ⟨?_, fun e => ?_, fun x hx => ?_⟩, by rw [if_pos (by omega), if_pos (by omega)]; rfl⟩
        · rw [hft]; simp
        · rw [hft] at e; simp at e
        · rw [hft, he] at hx
          rw [List.mem_singleton.1 hx]
    · have h6 : (l[i].2.2.2.2.2.1 == (6 : Int)) = true := by
        cases hq : (l[i].2.2.2.2.2.1 == (6 : Int))
        · exact absurd (bne_iff_ne.2 (beq_eq_false_iff_ne.1 hq)) hp
        · rfl
      rw [if_pos h6]
      have hft := fi_take f_audit_Tag.open_ l i hi
      rw [if_neg hp, List.append_nil] at hft
      refine .inl ⟨(tag, any), ?_, rfl⟩
      rw [hft]
      exact ⟨hA, hZ, hT⟩
  · obtain ⟨tag, any⟩ := s
    obtain ⟨hA, hZ, hT⟩ := hI
    dsimp only at hA hZ hT
    rw [List.take_length] at hA hZ hT
    simp only [f_ref23_Tag.l1, f_ref23_Tag.b1]
    rw [if_neg (by (first | omega | (dsimp only [Ty.T]; omega) | (simp only [decide_eq_true_eq, decide_eq_false_iff_not, Bool.not_eq_true, Ty.T]; omega) | (simp only [decide_eq_true_eq, decide_eq_false_iff_not, Ty.T]; omega) | (simp only [beq_iff_eq, bne_iff_ne, ne_eq, decide_eq_true_eq, Ty.T]; omega)))]
    have hhT : f_audit_Tag.hT (l.filter f_audit_Tag.open_) = tag := by
      cases hq : l.filter f_audit_Tag.open_ with
      | nil => exact (hZ hq).symm
      | cons a r => exact hT a (by rw [hq]; exact List.mem_cons_self ..)
    unfold f_audit_Tag.tagR
    rw [hhT, if_pos (List.all_eq_true.2 fun x hx => beq_iff_eq.2 (hT x hx))]
theorem P_AuditTells (x0 : T5477.T) (x1 : List (List T1383.T)) (x2 : T70a7.T) (x3 : List Td8a9.T) (x4 : Int) (_ : Wf T5477 x0) (_ : Wf (.slice (.slice T1383)) x1) (_ : Wf T70a7 x2) (_ : Wf (.slice Td8a9) x3) (_ : Wf (.int .i64) x4) : ∃ k, f_law23_AuditTells.f k x0 x1 x2 x3 x4 = some (true, ()) := by
  refine ⟨1000, ?_⟩
  unfold f_law23_AuditTells.f
  rw [awake_23, Option.bind_some, few12, Option.bind_some, if_neg (by simp)]
  unfold f_law23_AuditTells.j1
  by_cases hf : few12C x1 = true
  · obtain ⟨_, hc⟩ := few12_of hf
    rw [if_neg (by rw [hf]; simp)]
    by_cases h1 : (x0.2.2.length : Int) > (60 : Int)
    · rw [if_pos (decide_eq_true h1), if_pos rfl]
    rw [if_neg (by rw [decide_eq_false h1]; simp)]
    have ht : x0.2.2.length < 999 := by omega
    by_cases h2 : (x3.length : Int) > (200 : Int)
    · rw [if_pos (decide_eq_true h2)]
    have hl : x3.length ≤ 200 := by omega
    have hfl : (x3.filter fun x => x.2.1 == x4).length ≤ 200 := Nat.le_trans (List.length_filter_le _ _) hl
    rw [if_neg (by rw [decide_eq_false h2]; simp), of_code x3 x4 (by omega), Option.bind_some, of_ref x3 x4 hl, Option.bind_some, same_13 _ hfl, Option.bind_some, follows_ref ht hc, Option.bind_some, if_pos rfl, tag_code x3 (by omega), Option.bind_some, tag_ref x3 hl, Option.bind_some, if_pos (by simp), follows_code ht hc, Option.bind_some]
    simp
  · rw [if_pos (by rw [Bool.eq_false_iff.2 hf]; rfl), if_pos rfl]
end Go.Proofs.Ytajddhechcneoaa.V
