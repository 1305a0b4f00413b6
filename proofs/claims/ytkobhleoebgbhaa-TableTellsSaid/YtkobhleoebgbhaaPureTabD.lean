/- Look as plain Lean. -/
import Derived.Test.YtkobhleoebgbhaaPureTabC
namespace Go.Proofs.Ytkobhleoebgbhaa.V
open Go Go.RowKit
set_option linter.unusedVariables false
set_option linter.unusedSimpArgs false
noncomputable def cut (a n : Int) : T713d.T := (IntKind.i64.wrap (((BitVec.ofInt IntKind.i64.bits a &&& BitVec.ofInt IntKind.i64.bits (mask n)).toNat : Int)), bnd n)
theorem cut_eq (k : Nat) (a n : Int) : f_bits_Cut.f k a n = some (cut a n, ()) := by
  unfold f_bits_Cut.f
  rw [mask_eq, Option.bind_some]
  rfl
noncomputable def fits (inn dst : Int) (r : Rl) : Bool := ((cut dst r.1.2).1 == r.1.1 && ((cut dst r.1.2).2 == r.1.2 && true)) && (if (r.2.1 == (-1 : Int)) = true then true else r.2.1 == inn)
theorem fits_eq (k : Nat) (r : Rl) (inn dst : Int) : f_rule_Fits.f k r inn dst = some (fits inn dst r, ()) := by
  unfold f_rule_Fits.f f_bits_Has.f fits
  rw [cut_eq, Option.bind_some, Option.bind_some]
  by_cases h1 : ((cut dst r.1.2).1 == r.1.1 && ((cut dst r.1.2).2 == r.1.2 && true)) = true
  · rw [if_pos h1, h1, Bool.true_and]
    split <;> rfl
  · rw [if_neg h1, Bool.eq_false_iff.2 h1, Bool.false_and]
def ahead (x y : Rl) : Bool := if (x.1.2 != y.1.2) = true then decide (x.1.2 > y.1.2) else if (x.2.2.1 != y.2.2.1) = true then decide (x.2.2.1 > y.2.2.1) else decide (x.2.1 > y.2.1)
theorem ahead_eq (k : Nat) (x y : Rl) (hk : 10 ≤ k) : f_rule_Ahead.f k x y = some (ahead x y, ()) := by
  obtain ⟨m, rfl⟩ : ∃ m, k = m + 4 := ⟨k - 4, by omega⟩
  have w1 : IntKind.i64.wrap ((0 : Int) + 1) = 1 := by decide +kernel
  have w2 : IntKind.i64.wrap ((1 : Int) + 1) = 2 := by decide +kernel
  have w3 : IntKind.i64.wrap ((2 : Int) + 1) = 3 := by decide +kernel
  unfold f_rule_Ahead.f f_rule_greater.f ahead
  simp only [f_rule_greater.l1, f_rule_greater.b1, w1, w2, w3]
  simp only [att, List.length_cons, List.length_nil, Int.toNat_zero, List.getElem?_cons_zero, Option.getD_some]
  by_cases h1 : (x.1.2 != y.1.2) = true
  · simp [h1]
  · have e1 : x.1.2 = y.1.2 := by simpa using h1
    by_cases h2 : (x.2.2.1 != y.2.2.1) = true
    · simp [e1, h2]
    · have e2 : x.2.2.1 = y.2.2.1 := by simpa using h2
      by_cases h3 : x.2.1 = y.2.1
      · simp [e1, e2, h3]
      · simp [e1, e2, h3]
theorem rahead_eq (k : Nat) (x y : Rl) : f_ref04_Ahead.f k x y = some (ahead x y, ()) := by
  unfold f_ref04_Ahead.f ahead
  split
  · rfl
  · split <;> rfl
/-- The best so far. -/
def pk (F : Rl → Bool) (rs : List Rl) : Nat → Int
  | 0 => -1
  | i + 1 => if F (att T1383 rs i) = true then (if pk F rs i < 0 then (i : Int) else if ahead (att T1383 rs i) (att T1383 rs (pk F rs i)) = true then (i : Int) else pk F rs i) else pk F rs i
theorem pk_range (F : Rl → Bool) (rs : List Rl) : ∀ i : Nat, -1 ≤ pk F rs i ∧ pk F rs i < (i : Int)
  | 0 => ⟨by simp [pk], by simp [pk]⟩
  | i + 1 => by
    have := pk_range F rs i
    unfold pk
    split
    · split
      · omega
      · split <;> omega
    · omega
theorem first_eq (k : Nat) (rs : List Rl) (inn dst : Int) (hk : rs.length < k) (hk2 : 10 ≤ k) (hs : rs.length < 1000000) : f_pick_First.f k rs inn dst = some (pk (fits inn dst) rs rs.length, ()) := by
  unfold f_pick_First.f
  refine loop (fun m i => f_pick_First.l1 k m rs inn dst (pk (fits inn dst) rs i) rs (rs.length : Int) (i : Int)) rs.length _ (fun m i hl => ?_) (fun m => ?_) k (by omega)
  · have hr := pk_range (fits inn dst) rs i
    simp only [f_pick_First.l1, f_pick_First.b1, f_pick_First.j2, f_pick_First.j3, fits_eq, Option.bind_some, ahead_eq k _ _ hk2]
    rw [if_pos (by (first | omega | (dsimp only [Ty.T]; omega) | (simp only [decide_eq_true_eq, decide_eq_false_iff_not, Bool.not_eq_true, Ty.T]; omega) | (simp only [decide_eq_true_eq, decide_eq_false_iff_not, Ty.T]; omega) | (simp only [beq_iff_eq, bne_iff_ne, ne_eq, decide_eq_true_eq, Ty.T]; omega))), if_pos (by (first | omega | (dsimp only [Ty.T]; omega) | (simp only [decide_eq_true_eq, decide_eq_false_iff_not, Bool.not_eq_true, Ty.T]; omega) | (simp only [decide_eq_true_eq, decide_eq_false_iff_not, Ty.T]; omega) | (simp only [beq_iff_eq, bne_iff_ne, ne_eq, decide_eq_true_eq, Ty.T]; omega))), if_pos (by (first | omega | (dsimp only [Ty.T]; omega) | (simp only [decide_eq_true_eq, decide_eq_false_iff_not, Bool.not_eq_true, Ty.T]; omega) | (simp only [decide_eq_true_eq, decide_eq_false_iff_not, Ty.T]; omega) | (simp only [beq_iff_eq, bne_iff_ne, ne_eq, decide_eq_true_eq, Ty.T]; omega))), wsucc i (by omega)]
    conv => rhs; unfold pk
    by_cases h1 : fits inn dst (att T1383 rs (i : Int)) = true
    · rw [if_pos h1, if_pos h1]
      by_cases h2 : pk (fits inn dst) rs i < 0
      · rw [if_pos (by (first | omega | (dsimp only [Ty.T]; omega) | (simp only [decide_eq_true_eq, decide_eq_false_iff_not, Bool.not_eq_true, Ty.T]; omega) | (simp only [decide_eq_true_eq, decide_eq_false_iff_not, Ty.T]; omega) | (simp only [beq_iff_eq, bne_iff_ne, ne_eq, decide_eq_true_eq, Ty.T]; omega))), if_pos h2]; simp
      · rw [if_neg (by (first | omega | (dsimp only [Ty.T]; omega) | (simp only [decide_eq_true_eq, decide_eq_false_iff_not, Bool.not_eq_true, Ty.T]; omega) | (simp only [decide_eq_true_eq, decide_eq_false_iff_not, Ty.T]; omega) | (simp only [beq_iff_eq, bne_iff_ne, ne_eq, decide_eq_true_eq, Ty.T]; omega))), if_neg h2, if_pos (by (first | omega | (dsimp only [Ty.T]; omega) | (simp only [decide_eq_true_eq, decide_eq_false_iff_not, Bool.not_eq_true, Ty.T]; omega) | (simp only [decide_eq_true_eq, decide_eq_false_iff_not, Ty.T]; omega) | (simp only [beq_iff_eq, bne_iff_ne, ne_eq, decide_eq_true_eq, Ty.T]; omega))), if_pos (by (first | omega | (dsimp only [Ty.T]; omega) | (simp only [decide_eq_true_eq, decide_eq_false_iff_not, Bool.not_eq_true, Ty.T]; omega) | (simp only [decide_eq_true_eq, decide_eq_false_iff_not, Ty.T]; omega) | (simp only [beq_iff_eq, bne_iff_ne, ne_eq, decide_eq_true_eq, Ty.T]; omega)))]
        by_cases h3 : ahead (att T1383 rs (i : Int)) (att T1383 rs (pk (fits inn dst) rs i)) = true
        · rw [if_pos h3, if_pos h3]
        · rw [if_neg h3, if_neg h3]
    · rw [if_neg h1, if_neg h1]; simp
  · simp only [f_pick_First.l1, f_pick_First.b1]
    rw [if_neg (by (first | omega | (dsimp only [Ty.T]; omega) | (simp only [decide_eq_true_eq, decide_eq_false_iff_not, Bool.not_eq_true, Ty.T]; omega) | (simp only [decide_eq_true_eq, decide_eq_false_iff_not, Ty.T]; omega) | (simp only [beq_iff_eq, bne_iff_ne, ne_eq, decide_eq_true_eq, Ty.T]; omega)))]
def lkp (F : Rl → Bool) (o : List Rl × Bool) : (Int × Int) × Int :=
  if o.2 = true then (if pk F o.1 o.1.length < 0 then ((0, 0), 3) else if (att T1383 o.1 (pk F o.1 o.1.length)).2.2.2.1 = 1 then ((att T1383 o.1 (pk F o.1 o.1.length)).2.2.2, 0) else ((att T1383 o.1 (pk F o.1 o.1.length)).2.2.2, 2))
  else ((0, 0), 4)
theorem look_eq (k : Nat) (t : List Vr) (tag inn dst : Int) (hk : 1000 ≤ k) (hs : Sm t) : f_table_Look.f k t tag inn dst = some ((lkp (fits inn dst) (of t tag)).1, ((lkp (fits inn dst) (of t tag)).2, ())) := by
  have h1 := hs.1
  have hle := tagAt_le t tag
  unfold f_table_Look.f of lkp
  rw [at_eq k t tag (by omega) (by omega), Option.bind_some]
  by_cases hl : tagAt t tag < t.length
  · have hv := hs.2 _ (List.getElem_mem hl)
    have hr := pk_range (fits inn dst) t[tagAt t tag].2 t[tagAt t tag].2.length
    rw [if_neg (by (first | omega | (dsimp only [Ty.T]; omega) | (simp only [decide_eq_true_eq, decide_eq_false_iff_not, Bool.not_eq_true, Ty.T]; omega) | (simp only [decide_eq_true_eq, decide_eq_false_iff_not, Ty.T]; omega) | (simp only [beq_iff_eq, bne_iff_ne, ne_eq, decide_eq_true_eq, Ty.T]; omega))), if_pos (by (first | omega | (dsimp only [Ty.T]; omega) | (simp only [decide_eq_true_eq, decide_eq_false_iff_not, Bool.not_eq_true, Ty.T]; omega) | (simp only [decide_eq_true_eq, decide_eq_false_iff_not, Ty.T]; omega) | (simp only [beq_iff_eq, bne_iff_ne, ne_eq, decide_eq_true_eq, Ty.T]; omega))), if_pos (by (first | omega | (dsimp only [Ty.T]; omega) | (simp only [decide_eq_true_eq, decide_eq_false_iff_not, Bool.not_eq_true, Ty.T]; omega) | (simp only [decide_eq_true_eq, decide_eq_false_iff_not, Ty.T]; omega) | (simp only [beq_iff_eq, bne_iff_ne, ne_eq, decide_eq_true_eq, Ty.T]; omega))), att_n t _ hl, first_eq k _ _ _ (by omega) (by omega) (by omega), Option.bind_some, dif_pos hl, if_pos rfl]
    by_cases h2 : pk (fits inn dst) t[tagAt t tag].2 t[tagAt t tag].2.length < 0
    · rw [if_pos (by (first | omega | (dsimp only [Ty.T]; omega) | (simp only [decide_eq_true_eq, decide_eq_false_iff_not, Bool.not_eq_true, Ty.T]; omega) | (simp only [decide_eq_true_eq, decide_eq_false_iff_not, Ty.T]; omega) | (simp only [beq_iff_eq, bne_iff_ne, ne_eq, decide_eq_true_eq, Ty.T]; omega))), if_pos h2]
    · rw [if_neg (by (first | omega | (dsimp only [Ty.T]; omega) | (simp only [decide_eq_true_eq, decide_eq_false_iff_not, Bool.not_eq_true, Ty.T]; omega) | (simp only [decide_eq_true_eq, decide_eq_false_iff_not, Ty.T]; omega) | (simp only [beq_iff_eq, bne_iff_ne, ne_eq, decide_eq_true_eq, Ty.T]; omega))), if_neg h2, if_pos (by (first | omega | (dsimp only [Ty.T]; omega) | (simp only [decide_eq_true_eq, decide_eq_false_iff_not, Bool.not_eq_true, Ty.T]; omega) | (simp only [decide_eq_true_eq, decide_eq_false_iff_not, Ty.T]; omega) | (simp only [beq_iff_eq, bne_iff_ne, ne_eq, decide_eq_true_eq, Ty.T]; omega))), if_pos (by (first | omega | (dsimp only [Ty.T]; omega) | (simp only [decide_eq_true_eq, decide_eq_false_iff_not, Bool.not_eq_true, Ty.T]; omega) | (simp only [decide_eq_true_eq, decide_eq_false_iff_not, Ty.T]; omega) | (simp only [beq_iff_eq, bne_iff_ne, ne_eq, decide_eq_true_eq, Ty.T]; omega)))]
      by_cases h3 : (att T1383 t[tagAt t tag].2 (pk (fits inn dst) t[tagAt t tag].2 t[tagAt t tag].2.length)).2.2.2.1 = 1
      · rw [if_neg (by simp [h3]), if_pos h3]
      · rw [if_pos (by simpa using h3), if_neg h3]
  · rw [if_pos (by (first | omega | (dsimp only [Ty.T]; omega) | (simp only [decide_eq_true_eq, decide_eq_false_iff_not, Bool.not_eq_true, Ty.T]; omega) | (simp only [decide_eq_true_eq, decide_eq_false_iff_not, Ty.T]; omega) | (simp only [beq_iff_eq, bne_iff_ne, ne_eq, decide_eq_true_eq, Ty.T]; omega))), dif_neg hl, if_neg (by simp)]
end Go.Proofs.Ytkobhleoebgbhaa.V
