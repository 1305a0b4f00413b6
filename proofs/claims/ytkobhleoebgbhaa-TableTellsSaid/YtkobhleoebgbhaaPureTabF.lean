/- The references' functions on bits, Fits, First and Look. -/
import Derived.Test.YtkobhleoebgbhaaPureTabD
import Derived.Test.YtkobhleoebgbhaaPureBits
namespace Go.Proofs.Ytkobhleoebgbhaa.V
open Go Go.RowKit
set_option linter.unusedVariables false
set_option linter.unusedSimpArgs false
theorem rbound_eq (k : Nat) (n : Int) : f_ref01_bound.f k n = some (bnd n, ()) := by
  unfold f_ref01_bound.f bnd
  by_cases h1 : n < 0
  · rw [if_pos (by (first | omega | (dsimp only [Ty.T]; omega) | (simp only [decide_eq_true_eq, decide_eq_false_iff_not, Bool.not_eq_true, Ty.T]; omega) | (simp only [decide_eq_true_eq, decide_eq_false_iff_not, Ty.T]; omega) | (simp only [beq_iff_eq, bne_iff_ne, ne_eq, decide_eq_true_eq, Ty.T]; omega))), if_pos (show 0 > n by omega)]; rfl
  · rw [if_neg (by (first | omega | (dsimp only [Ty.T]; omega) | (simp only [decide_eq_true_eq, decide_eq_false_iff_not, Bool.not_eq_true, Ty.T]; omega) | (simp only [decide_eq_true_eq, decide_eq_false_iff_not, Ty.T]; omega) | (simp only [beq_iff_eq, bne_iff_ne, ne_eq, decide_eq_true_eq, Ty.T]; omega))), if_neg (show ¬ 0 > n by omega)]
    by_cases h2 : n > 32
    · rw [if_pos (by (first | omega | (dsimp only [Ty.T]; omega) | (simp only [decide_eq_true_eq, decide_eq_false_iff_not, Bool.not_eq_true, Ty.T]; omega) | (simp only [decide_eq_true_eq, decide_eq_false_iff_not, Ty.T]; omega) | (simp only [beq_iff_eq, bne_iff_ne, ne_eq, decide_eq_true_eq, Ty.T]; omega))), if_pos (by omega)]
    · rw [if_neg (by (first | omega | (dsimp only [Ty.T]; omega) | (simp only [decide_eq_true_eq, decide_eq_false_iff_not, Bool.not_eq_true, Ty.T]; omega) | (simp only [decide_eq_true_eq, decide_eq_false_iff_not, Ty.T]; omega) | (simp only [beq_iff_eq, bne_iff_ne, ne_eq, decide_eq_true_eq, Ty.T]; omega))), if_neg (by omega)]
def low (a : Int) : Nat := (a % 4294967296).toNat
theorem low_lt (a : Int) : low a < 4294967296 := by unfold low; omega
theorem half_eq (x : Nat) (h : x < 4294967296) : IntKind.i64.wrap (Int.tdiv (x : Int) 2) = ((x / 2 : Nat) : Int) := by
  rw [IntWalk.i64_quo _ _ ⟨by omega, by omega, by omega⟩]; rfl
theorem bit_eq (k : Nat) (a : Int) (i : Nat) (hi : i < 32) (hk : 100 ≤ k) : f_ref01_Bit.f k a (i : Int) = some (((low a / 2 ^ (31 - i) % 2 : Nat) : Int), ()) := by
  have hlt := low_lt a
  have hA : IntKind.i64.wrap ((((BitVec.ofInt IntKind.i64.bits a &&& BitVec.ofInt IntKind.i64.bits 4294967295).toNat : Nat) : Int)) = (low a : Int) := by
    rw [show ((BitVec.ofInt IntKind.i64.bits a &&& BitVec.ofInt IntKind.i64.bits 4294967295).toNat : Int) = a % 4294967296 from and_low a, IntWalk.i64_in _ (by omega)]
    unfold low
    omega
  unfold f_ref01_Bit.f f_ref01_Bit.j1
  rw [if_neg (by (first | omega | (dsimp only [Ty.T]; omega) | (simp only [decide_eq_true_eq, decide_eq_false_iff_not, Bool.not_eq_true, Ty.T]; omega) | (simp only [decide_eq_true_eq, decide_eq_false_iff_not, Ty.T]; omega) | (simp only [beq_iff_eq, bne_iff_ne, ne_eq, decide_eq_true_eq, Ty.T]; omega))), decide_eq_false (by omega), if_neg (by simp), hA]
  have hdl : ∀ q, low a / 2 ^ q < 4294967296 := fun q => Nat.lt_of_le_of_lt (Nat.div_le_self _ _) hlt
  refine (congrArg (fun z : Int => f_ref01_Bit.l2 k k (i : Int) z 31) (show (low a : Int) = ((low a / 2 ^ 0 : Nat) : Int) by simp)).trans ?_
  refine loop (fun m q => f_ref01_Bit.l2 k m (i : Int) ((low a / 2 ^ q : Nat) : Int) (31 - (q : Int))) (31 - i) _ (fun m q hq => ?_) (fun m => ?_) k (by omega)
  · simp only [f_ref01_Bit.l2, f_ref01_Bit.b2]
    have hw : IntKind.i64.wrap (31 - (q : Int) - 1) = 31 - ((q + 1 : Nat) : Int) := by rw [IntWalk.i64_in _ (by omega)]; omega
    rw [if_pos (by (first | omega | (dsimp only [Ty.T]; omega) | (simp only [decide_eq_true_eq, decide_eq_false_iff_not, Bool.not_eq_true, Ty.T]; omega) | (simp only [decide_eq_true_eq, decide_eq_false_iff_not, Ty.T]; omega) | (simp only [beq_iff_eq, bne_iff_ne, ne_eq, decide_eq_true_eq, Ty.T]; omega))), half_eq _ (hdl q), hw, Nat.div_div_eq_div_mul, ← Nat.pow_succ]
  · simp only [f_ref01_Bit.l2, f_ref01_Bit.b2]
    rw [if_neg (by (first | omega | (dsimp only [Ty.T]; omega) | (simp only [decide_eq_true_eq, decide_eq_false_iff_not, Bool.not_eq_true, Ty.T]; omega) | (simp only [decide_eq_true_eq, decide_eq_false_iff_not, Ty.T]; omega) | (simp only [beq_iff_eq, bne_iff_ne, ne_eq, decide_eq_true_eq, Ty.T]; omega)))]
    rfl
theorem bnd_nat (n : Int) : ∃ b : Nat, b ≤ 32 ∧ bnd n = (b : Int) := ⟨(bnd n).toNat, by have := bnd_range n; omega, by have := bnd_range n; omega⟩
theorem mask_nat (n : Int) (b : Nat) (hb : b ≤ 32) (h : bnd n = (b : Int)) : mask n = (((2 ^ b - 1) * 2 ^ (32 - b) : Nat) : Int) := by
  unfold mask
  rw [h]
  exact mask_vals b (by omega)
theorem cut_nat (a n : Int) (b : Nat) (hb : b ≤ 32) (h : bnd n = (b : Int)) : cut a n = (((low a / 2 ^ (32 - b) * 2 ^ (32 - b) : Nat) : Int), (b : Int)) := by
  have hlt := low_lt a
  unfold cut
  rw [mask_nat n b hb h, h]
  have h1 := and_mask a b hb
  have h2 : low a / 2 ^ (32 - b) * 2 ^ (32 - b) ≤ low a := Nat.div_mul_le_self _ _
  rw [show ((BitVec.ofInt IntKind.i64.bits a &&& BitVec.ofInt IntKind.i64.bits (((2 ^ b - 1) * 2 ^ (32 - b) : Nat) : Int)).toNat : Int) = (((a % 4294967296).toNat / 2 ^ (32 - b) * 2 ^ (32 - b) : Nat) : Int) from h1]
  change (IntKind.i64.wrap ((low a / 2 ^ (32 - b) * 2 ^ (32 - b) : Nat) : Int), _) = _
  rw [IntWalk.i64_in _ (by omega)]
theorem rcut_eq (k : Nat) (a n : Int) (hk : 100 ≤ k) : f_ref01_Cut.f k a n = some (cut a n, ()) := by
  obtain ⟨b, hb, hbn⟩ := bnd_nat n
  rw [cut_nat a n b hb hbn]
  have hlt := low_lt a
  unfold f_ref01_Cut.f
  refine (congrArg (fun z : Int => f_ref01_Cut.l1 k k a n z 0 (0, 0)) (show (0 : Int) = ((grow (low a) b 0 : Nat) : Int) by
    unfold grow
    rw [Nat.zero_min, Nat.div_eq_of_lt (by simpa using hlt), Nat.zero_mul]; rfl)).trans ?_
  refine loop (fun m i => f_ref01_Cut.l1 k m a n ((grow (low a) b i : Nat) : Int) (i : Int) (0, 0)) 32 _ (fun m i hi => ?_) (fun m => ?_) k (by omega)
  · simp only [f_ref01_Cut.l1, f_ref01_Cut.b1, f_ref01_Cut.j2]
    have h1 := grow_lt (low a) b i hlt hb (by omega)
    have h2 := grow_lt (low a) b (i + 1) hlt hb (by omega)
    rw [if_pos (by (first | omega | (dsimp only [Ty.T]; omega) | (simp only [decide_eq_true_eq, decide_eq_false_iff_not, Bool.not_eq_true, Ty.T]; omega) | (simp only [decide_eq_true_eq, decide_eq_false_iff_not, Ty.T]; omega) | (simp only [beq_iff_eq, bne_iff_ne, ne_eq, decide_eq_true_eq, Ty.T]; omega))), rbound_eq, Option.bind_some, hbn]
    have hw : IntKind.i64.wrap (((grow (low a) b i : Nat) : Int) * 2) = ((grow (low a) b i * 2 : Nat) : Int) := by rw [IntWalk.i64_in _ (by omega)]; omega
    by_cases hl : i < b
    · have h3 := grow_low (low a) b i hl hb
      rw [if_pos (by (first | omega | (dsimp only [Ty.T]; omega) | (simp only [decide_eq_true_eq, decide_eq_false_iff_not, Bool.not_eq_true, Ty.T]; omega) | (simp only [decide_eq_true_eq, decide_eq_false_iff_not, Ty.T]; omega) | (simp only [beq_iff_eq, bne_iff_ne, ne_eq, decide_eq_true_eq, Ty.T]; omega))), bit_eq k a i (by omega) hk, Option.bind_some, hw, wsucc i (by omega), h3]
      have hw2 : IntKind.i64.wrap (((grow (low a) b i * 2 : Nat) : Int) + ((low a / 2 ^ (31 - i) % 2 : Nat) : Int)) = ((grow (low a) b i * 2 + low a / 2 ^ (31 - i) % 2 : Nat) : Int) := by rw [IntWalk.i64_in _ (by omega)]; omega
      rw [hw2]
    · have h3 := grow_high (low a) b i hl
      rw [if_neg (by (first | omega | (dsimp only [Ty.T]; omega) | (simp only [decide_eq_true_eq, decide_eq_false_iff_not, Bool.not_eq_true, Ty.T]; omega) | (simp only [decide_eq_true_eq, decide_eq_false_iff_not, Ty.T]; omega) | (simp only [beq_iff_eq, bne_iff_ne, ne_eq, decide_eq_true_eq, Ty.T]; omega))), hw, wsucc i (by omega), h3]
  · simp only [f_ref01_Cut.l1, f_ref01_Cut.b1, f_ref01_Cut.j2]
    rw [if_neg (by (first | omega | (dsimp only [Ty.T]; omega) | (simp only [decide_eq_true_eq, decide_eq_false_iff_not, Bool.not_eq_true, Ty.T]; omega) | (simp only [decide_eq_true_eq, decide_eq_false_iff_not, Ty.T]; omega) | (simp only [beq_iff_eq, bne_iff_ne, ne_eq, decide_eq_true_eq, Ty.T]; omega))), rbound_eq, Option.bind_some, hbn, grow_end (low a) b hb]
theorem rfits_eq (k : Nat) (r : Rl) (inn dst : Int) (hk : 100 ≤ k) : f_ref04_Fits.f k r inn dst = some (fits inn dst r, ()) := by
  unfold f_ref04_Fits.f f_ref01_Has.f fits
  rw [rcut_eq k _ _ hk, Option.bind_some, Option.bind_some]
  by_cases h1 : ((cut dst r.1.2).1 == r.1.1 && ((cut dst r.1.2).2 == r.1.2 && true)) = true
  · rw [if_pos h1, h1, Bool.true_and]
    split <;> rfl
  · rw [if_neg h1, Bool.eq_false_iff.2 h1, Bool.false_and]
theorem rfirst_eq (k : Nat) (rs : List Rl) (inn dst : Int) (hk : rs.length < k) (hk2 : 100 ≤ k) (hs : rs.length < 1000000) : f_ref08_First.f k rs inn dst = some (pk (fits inn dst) rs rs.length, ()) := by
  unfold f_ref08_First.f
  refine loop (fun m i => f_ref08_First.l1 k m rs inn dst (pk (fits inn dst) rs i) (i : Int)) rs.length _ (fun m i hl => ?_) (fun m => ?_) k (by omega)
  · have hr := pk_range (fits inn dst) rs i
    simp only [f_ref08_First.l1, f_ref08_First.b1, f_ref08_First.j2, rfits_eq k _ _ _ hk2, Option.bind_some, rahead_eq]
    rw [if_pos (by (first | omega | (dsimp only [Ty.T]; omega) | (simp only [decide_eq_true_eq, decide_eq_false_iff_not, Bool.not_eq_true, Ty.T]; omega) | (simp only [decide_eq_true_eq, decide_eq_false_iff_not, Ty.T]; omega) | (simp only [beq_iff_eq, bne_iff_ne, ne_eq, decide_eq_true_eq, Ty.T]; omega))), if_pos (by omega), if_pos (by omega), wsucc i (by omega)]
    conv => rhs; unfold pk
    by_cases h1 : fits inn dst (att T1383 rs (i : Int)) = true
    · rw [if_pos h1, if_neg (by rw [h1]; simp)]
      by_cases h2 : pk (fits inn dst) rs i < 0
      · rw [if_pos (by (first | omega | (dsimp only [Ty.T]; omega) | (simp only [decide_eq_true_eq, decide_eq_false_iff_not, Bool.not_eq_true, Ty.T]; omega) | (simp only [decide_eq_true_eq, decide_eq_false_iff_not, Ty.T]; omega) | (simp only [beq_iff_eq, bne_iff_ne, ne_eq, decide_eq_true_eq, Ty.T]; omega))), if_pos h2]
      · rw [if_neg (by (first | omega | (dsimp only [Ty.T]; omega) | (simp only [decide_eq_true_eq, decide_eq_false_iff_not, Bool.not_eq_true, Ty.T]; omega) | (simp only [decide_eq_true_eq, decide_eq_false_iff_not, Ty.T]; omega) | (simp only [beq_iff_eq, bne_iff_ne, ne_eq, decide_eq_true_eq, Ty.T]; omega))), if_neg h2, if_pos (by omega), if_pos (by omega)]
        by_cases h3 : ahead (att T1383 rs (i : Int)) (att T1383 rs (pk (fits inn dst) rs i)) = true
        · rw [if_pos h3, if_pos h3]
        · rw [if_neg h3, if_neg h3]
    · rw [if_neg h1, if_pos (by simpa using h1)]
  · simp only [f_ref08_First.l1, f_ref08_First.b1]
    rw [if_neg (by (first | omega | (dsimp only [Ty.T]; omega) | (simp only [decide_eq_true_eq, decide_eq_false_iff_not, Bool.not_eq_true, Ty.T]; omega) | (simp only [decide_eq_true_eq, decide_eq_false_iff_not, Ty.T]; omega) | (simp only [beq_iff_eq, bne_iff_ne, ne_eq, decide_eq_true_eq, Ty.T]; omega)))]
theorem where_eq (k : Nat) (t : List Vr) (tag : Int) (hk : t.length < k) (hs : t.length < 1000000) : f_ref09_where.f k t tag = some (if tagAt t tag < t.length then (tagAt t tag : Int) else -1, ()) := by
  have hle := tagAt_le t tag
  refine loop (fun m i => f_ref09_where.l1 k m t tag (i : Int)) (tagAt t tag) _ (fun m i hi => ?_) (fun m => ?_) k (by omega)
  · have hl : i < t.length := by omega
    have hn : (t[i].1 == tag) = false := fi_not (p := hasTag tag) hi hl
    simp only [f_ref09_where.l1, f_ref09_where.b1, att_n t i hl]
    rw [if_pos (by (first | omega | (dsimp only [Ty.T]; omega) | (simp only [decide_eq_true_eq, decide_eq_false_iff_not, Bool.not_eq_true, Ty.T]; omega) | (simp only [decide_eq_true_eq, decide_eq_false_iff_not, Ty.T]; omega) | (simp only [beq_iff_eq, bne_iff_ne, ne_eq, decide_eq_true_eq, Ty.T]; omega))), if_pos (by omega), if_pos (by omega), hn, wsucc i (by omega)]
    simp
  · by_cases hl : tagAt t tag < t.length
    · have hn : (t[tagAt t tag].1 == tag) = true := List.findIdx_getElem (p := hasTag tag) (w := hl)
      simp only [f_ref09_where.l1, f_ref09_where.b1, att_n t _ hl]
      rw [if_pos (by (first | omega | (dsimp only [Ty.T]; omega) | (simp only [decide_eq_true_eq, decide_eq_false_iff_not, Bool.not_eq_true, Ty.T]; omega) | (simp only [decide_eq_true_eq, decide_eq_false_iff_not, Ty.T]; omega) | (simp only [beq_iff_eq, bne_iff_ne, ne_eq, decide_eq_true_eq, Ty.T]; omega))), if_pos (by omega), if_pos (by omega), hn, if_pos hl]
      simp
    · simp only [f_ref09_where.l1, f_ref09_where.b1, if_neg hl]
      rw [if_neg (by (first | omega | (dsimp only [Ty.T]; omega) | (simp only [decide_eq_true_eq, decide_eq_false_iff_not, Bool.not_eq_true, Ty.T]; omega) | (simp only [decide_eq_true_eq, decide_eq_false_iff_not, Ty.T]; omega) | (simp only [beq_iff_eq, bne_iff_ne, ne_eq, decide_eq_true_eq, Ty.T]; omega)))]
theorem rof_eq (k : Nat) (t : List Vr) (tag : Int) (hk : 1000 ≤ k) (hs : Sm t) : f_ref09_Of.f k t tag = some ((of t tag).1, ((of t tag).2, ())) := by
  have h1 := hs.1
  unfold f_ref09_Of.f of
  rw [where_eq k t tag (by omega) (by omega), Option.bind_some]
  by_cases hl : tagAt t tag < t.length
  · have hv := hs.2 _ (List.getElem_mem hl)
    rw [if_pos hl, if_neg (by (first | omega | (dsimp only [Ty.T]; omega) | (simp only [decide_eq_true_eq, decide_eq_false_iff_not, Bool.not_eq_true, Ty.T]; omega) | (simp only [decide_eq_true_eq, decide_eq_false_iff_not, Ty.T]; omega) | (simp only [beq_iff_eq, bne_iff_ne, ne_eq, decide_eq_true_eq, Ty.T]; omega))), if_pos (by (first | omega | (dsimp only [Ty.T]; omega) | (simp only [decide_eq_true_eq, decide_eq_false_iff_not, Bool.not_eq_true, Ty.T]; omega) | (simp only [decide_eq_true_eq, decide_eq_false_iff_not, Ty.T]; omega) | (simp only [beq_iff_eq, bne_iff_ne, ne_eq, decide_eq_true_eq, Ty.T]; omega))), if_pos (by (first | omega | (dsimp only [Ty.T]; omega) | (simp only [decide_eq_true_eq, decide_eq_false_iff_not, Bool.not_eq_true, Ty.T]; omega) | (simp only [decide_eq_true_eq, decide_eq_false_iff_not, Ty.T]; omega) | (simp only [beq_iff_eq, bne_iff_ne, ne_eq, decide_eq_true_eq, Ty.T]; omega))), att_n t _ hl, if_pos (by omega), dif_pos hl]
  · rw [if_neg hl, if_pos (by (first | omega | (dsimp only [Ty.T]; omega) | (simp only [decide_eq_true_eq, decide_eq_false_iff_not, Bool.not_eq_true, Ty.T]; omega) | (simp only [decide_eq_true_eq, decide_eq_false_iff_not, Ty.T]; omega) | (simp only [beq_iff_eq, bne_iff_ne, ne_eq, decide_eq_true_eq, Ty.T]; omega))), dif_neg hl]
theorem of_len {t : List Vr} (hs : Sm t) (tag : Int) : (of t tag).1.length < 1000 := by
  unfold of
  split
  · exact hs.2 _ (List.getElem_mem _)
  · simp
theorem rlook_eq (k : Nat) (t : List Vr) (tag inn dst : Int) (hk : 1000 ≤ k) (hs : Sm t) : f_ref09_Look.f k t tag inn dst = some ((lkp (fits inn dst) (of t tag)).1, ((lkp (fits inn dst) (of t tag)).2, ())) := by
  have hol := of_len hs tag
  unfold f_ref09_Look.f
  rw [rof_eq k t tag hk hs, Option.bind_some]
  generalize of t tag = o at hol ⊢
  obtain ⟨rs, b⟩ := o
  unfold lkp
  cases b with
  | false => rfl
  | true =>
    dsimp only at hol ⊢
    have hr := pk_range (fits inn dst) rs rs.length
    rw [if_neg (by simp), if_pos rfl, rfirst_eq k rs inn dst (by omega) (by omega) (by omega), Option.bind_some]
    by_cases h2 : pk (fits inn dst) rs rs.length < 0
    · rw [if_pos (by (first | omega | (dsimp only [Ty.T]; omega) | (simp only [decide_eq_true_eq, decide_eq_false_iff_not, Bool.not_eq_true, Ty.T]; omega) | (simp only [decide_eq_true_eq, decide_eq_false_iff_not, Ty.T]; omega) | (simp only [beq_iff_eq, bne_iff_ne, ne_eq, decide_eq_true_eq, Ty.T]; omega))), if_pos h2]
    · rw [if_neg (by (first | omega | (dsimp only [Ty.T]; omega) | (simp only [decide_eq_true_eq, decide_eq_false_iff_not, Bool.not_eq_true, Ty.T]; omega) | (simp only [decide_eq_true_eq, decide_eq_false_iff_not, Ty.T]; omega) | (simp only [beq_iff_eq, bne_iff_ne, ne_eq, decide_eq_true_eq, Ty.T]; omega))), if_neg h2, if_pos (by (first | omega | (dsimp only [Ty.T]; omega) | (simp only [decide_eq_true_eq, decide_eq_false_iff_not, Bool.not_eq_true, Ty.T]; omega) | (simp only [decide_eq_true_eq, decide_eq_false_iff_not, Ty.T]; omega) | (simp only [beq_iff_eq, bne_iff_ne, ne_eq, decide_eq_true_eq, Ty.T]; omega))), if_pos (by (first | omega | (dsimp only [Ty.T]; omega) | (simp only [decide_eq_true_eq, decide_eq_false_iff_not, Bool.not_eq_true, Ty.T]; omega) | (simp only [decide_eq_true_eq, decide_eq_false_iff_not, Ty.T]; omega) | (simp only [beq_iff_eq, bne_iff_ne, ne_eq, decide_eq_true_eq, Ty.T]; omega)))]
      by_cases h3 : (att T1383 rs (pk (fits inn dst) rs rs.length)).2.2.2.1 = 1
      · rw [if_pos (by simpa using h3), if_pos h3]
      · rw [if_neg (by simpa using h3), if_neg h3]
end Go.Proofs.Ytkobhleoebgbhaa.V
