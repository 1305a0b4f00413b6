/- The references' May, Put and Drop. -/
import Derived.Test.YtkobhleoebgbhaaPureTabF
namespace Go.Proofs.Ytkobhleoebgbhaa.V
open Go Go.RowKit
set_option linter.unusedVariables false
set_option linter.unusedSimpArgs false
theorem rpmay_eq (k : Nat) (p : T713d.T) (hk : 100 ≤ k) : f_ref01_May.f k p = some (pmay p, ()) := by
  unfold f_ref01_May.f f_ref01_May.j1
  by_cases h1 : p.2 < (0 : Int)
  · rw [if_pos (decide_eq_true h1), if_pos rfl]
    unfold pmay
    rw [decide_eq_false (Int.not_le.2 h1)]; rfl
  rw [if_neg (by rw [decide_eq_false h1]; exact Bool.false_ne_true)]
  by_cases h2 : p.2 > (32 : Int)
  · rw [if_pos (decide_eq_true h2), if_pos rfl]
    unfold pmay
    rw [decide_eq_false (p := p.2 ≤ 32) (Int.not_le.2 h2), Bool.false_and, Bool.and_false]
  rw [if_neg (by rw [decide_eq_false h2]; exact Bool.false_ne_true)]
  by_cases h3 : p.1 < (0 : Int)
  · rw [if_pos (decide_eq_true h3), if_pos rfl]
    unfold pmay
    rw [decide_eq_false (p := p.1 ≥ 0) (Int.not_le.2 h3), Bool.false_and, Bool.and_false, Bool.and_false]
  rw [if_neg (by rw [decide_eq_false h3]; exact Bool.false_ne_true)]
  by_cases h4 : p.1 > (4294967295 : Int)
  · rw [decide_eq_true h4, if_pos rfl]
    unfold pmay
    rw [decide_eq_false (p := p.1 ≤ 4294967295) (Int.not_le.2 h4), Bool.false_and, Bool.and_false, Bool.and_false, Bool.and_false]
  rw [decide_eq_false h4, if_neg Bool.false_ne_true]
  obtain ⟨pa, pn⟩ := p
  dsimp only at h1 h2 h3 h4 ⊢
  have g1 : (0 : Int) ≤ pn := Int.not_lt.1 h1
  have g2 : pn ≤ (32 : Int) := Int.not_lt.1 h2
  have g3 : (0 : Int) ≤ pa := Int.not_lt.1 h3
  have g4 : pa ≤ (4294967295 : Int) := Int.not_lt.1 h4
  obtain ⟨a, rfl⟩ : ∃ a : Nat, pa = (a : Int) := ⟨Int.toNat pa, (Int.toNat_of_nonneg g3).symm⟩
  obtain ⟨b, rfl⟩ : ∃ b : Nat, pn = (b : Int) := ⟨Int.toNat pn, (Int.toNat_of_nonneg g1).symm⟩
  have g2' : b ≤ 32 := by have : ((b : Nat) : Int) ≤ 32 := g2; omega
  have g4' : a < 2 ^ 32 := by have : ((a : Nat) : Int) ≤ 4294967295 := g4; omega
  have hb : bnd (b : Int) = (b : Int) := by unfold bnd; rw [if_neg (by omega), if_neg (by omega)]
  have hlow : low (a : Int) = a := by unfold low; omega
  have hand : IntKind.i64.wrap (((BitVec.ofInt IntKind.i64.bits (a : Int) &&& ~~~ BitVec.ofInt IntKind.i64.bits (mask (b : Int))).toNat : Nat) : Int) = ((a % 2 ^ (32 - b) : Nat) : Int) := by
    rw [mask_nat _ b g2' hb, show (BitVec.ofInt IntKind.i64.bits (a : Int) &&& ~~~ BitVec.ofInt IntKind.i64.bits (((2 ^ b - 1) * 2 ^ (32 - b) : Nat) : Int)).toNat = a % 2 ^ (32 - b) from and_not_mask a b g4' g2']
    have : a % 2 ^ (32 - b) ≤ a := Nat.mod_le _ _
    rw [IntWalk.i64_in _ (by omega)]
  have hp : pmay ((a : Int), (b : Int)) = decide (a % 2 ^ (32 - b) = 0) := by
    unfold pmay
    dsimp only
    rw [decide_eq_true (p := (b : Int) ≥ 0) (by omega), decide_eq_true (p := (b : Int) ≤ 32) (by omega), decide_eq_true (p := (a : Int) ≥ 0) (by omega), decide_eq_true (p := (a : Int) ≤ 4294967295) (by omega), hand]
    simp only [Bool.true_and]
    by_cases hz : a % 2 ^ (32 - b) = 0
    · rw [hz]; rfl
    · rw [decide_eq_false hz]
      exact beq_eq_false_iff_ne.2 (by omega)
  rw [hp]
  have hz := low_zero a b g2'
  rcases loop_or (fun m q => f_ref01_May.l2 k m ((b + q : Nat) : Int) ((a : Int), (b : Int))) (32 - b) (fun q => a / 2 ^ (31 - (b + q)) % 2 ≠ 1) (some (true, ())) (some (false, ())) (fun m q hq => by
      simp only [f_ref01_May.l2, f_ref01_May.b2]
      rw [if_pos (by (first | omega | (dsimp only [Ty.T]; omega) | (simp only [decide_eq_true_eq, decide_eq_false_iff_not, Bool.not_eq_true, Ty.T]; omega) | (simp only [decide_eq_true_eq, decide_eq_false_iff_not, Ty.T]; omega) | (simp only [beq_iff_eq, bne_iff_ne, ne_eq, decide_eq_true_eq, Ty.T]; omega))), bit_eq k _ (b + q) (by omega) hk, Option.bind_some, wsucc (b + q) (by omega), hlow]
      by_cases h5 : a / 2 ^ (31 - (b + q)) % 2 = 1
      · exact .inr (if_pos (by rw [h5]; rfl))
      · exact .inl ⟨h5, if_neg (by simp only [beq_iff_eq, Ty.T]; omega)⟩) (fun _ m => by
      simp only [f_ref01_May.l2, f_ref01_May.b2]
      rw [if_neg (by (first | omega | (dsimp only [Ty.T]; omega) | (simp only [decide_eq_true_eq, decide_eq_false_iff_not, Bool.not_eq_true, Ty.T]; omega) | (simp only [decide_eq_true_eq, decide_eq_false_iff_not, Ty.T]; omega) | (simp only [beq_iff_eq, bne_iff_ne, ne_eq, decide_eq_true_eq, Ty.T]; omega)))]) k (by omega) with ⟨h6, h7⟩ | h7
  · have : a % 2 ^ (32 - b) = 0 := hz.2 fun i hi1 hi2 => by
      have := h6 (i - b) (by omega)
      rwa [show b + (i - b) = i by omega] at this
    rw [decide_eq_true this]
    exact h7
  · by_cases h8 : a % 2 ^ (32 - b) = 0
    · have h9 := hz.1 h8
      have : f_ref01_May.l2 k k ((b + 0 : Nat) : Int) ((a : Int), (b : Int)) = some (true, ()) := by
        refine loop (fun m q => f_ref01_May.l2 k m ((b + q : Nat) : Int) ((a : Int), (b : Int))) (32 - b) _ (fun m q hq => ?_) (fun m => ?_) k (by omega)
        · have h5 := h9 (b + q) (by omega) (by omega)
          simp only [f_ref01_May.l2, f_ref01_May.b2]
          rw [if_pos (by (first | omega | (dsimp only [Ty.T]; omega) | (simp only [decide_eq_true_eq, decide_eq_false_iff_not, Bool.not_eq_true, Ty.T]; omega) | (simp only [decide_eq_true_eq, decide_eq_false_iff_not, Ty.T]; omega) | (simp only [beq_iff_eq, bne_iff_ne, ne_eq, decide_eq_true_eq, Ty.T]; omega))), bit_eq k _ (b + q) (by omega) hk, Option.bind_some, wsucc (b + q) (by omega), hlow]
          exact if_neg (by simp only [beq_iff_eq, Ty.T]; omega)
        · simp only [f_ref01_May.l2, f_ref01_May.b2]
          rw [if_neg (by (first | omega | (dsimp only [Ty.T]; omega) | (simp only [decide_eq_true_eq, decide_eq_false_iff_not, Bool.not_eq_true, Ty.T]; omega) | (simp only [decide_eq_true_eq, decide_eq_false_iff_not, Ty.T]; omega) | (simp only [beq_iff_eq, bne_iff_ne, ne_eq, decide_eq_true_eq, Ty.T]; omega)))]
      rw [decide_eq_true h8]
      exact this
    · rw [decide_eq_false h8]
      exact h7
theorem rport_eq (r : Rl) : port r = (if (r.2.2.2.1 == (0 : Int)) = true then (r.2.2.2.2 == (0 : Int)) else if (r.2.2.2.1 == (1 : Int)) = true then (if decide (r.2.2.2.2 ≥ (0 : Int)) = true then decide (r.2.2.2.2 ≤ (7 : Int)) else false) else false) := by
  unfold port
  by_cases h1 : r.2.2.2.1 = (0 : Int)
  · rw [h1]
    by_cases h2 : r.2.2.2.2 = (0 : Int)
    · rw [h2]; rfl
    · rw [beq_eq_false_iff_ne.2 h2]; simp
  · rw [beq_eq_false_iff_ne.2 h1]
    by_cases h3 : r.2.2.2.1 = (1 : Int)
    · rw [beq_iff_eq.2 h3]
      by_cases h4 : decide (r.2.2.2.2 ≥ (0 : Int)) = true
      · rw [h4]; simp
      · rw [Bool.eq_false_iff.2 h4]; simp
    · rw [beq_eq_false_iff_ne.2 h3]; simp
theorem rrmay_eq (k : Nat) (r : Rl) (hk : 100 ≤ k) : f_ref04_May.f k r = some (rmay r, ()) := by
  have hj1 : f_ref04_May.j1 k true r = some (false, ()) := by unfold f_ref04_May.j1; rw [if_pos rfl]
  have hj2 : f_ref04_May.j1 k false r = some (port r, ()) := by
    unfold f_ref04_May.j1
    rw [if_neg Bool.false_ne_true, rport_eq]
    split
    · rfl
    · split
      · split <;> rfl
      · rfl
  unfold f_ref04_May.f rmay
  rw [rpmay_eq k _ hk, Option.bind_some]
  dsimp only
  cases hp : pmay r.1
  · rw [if_pos (by rfl), hj1, Bool.false_and, Bool.and_false]
  · rw [if_neg (by simp)]
    by_cases h1 : r.2.1 < (-1 : Int)
    · rw [if_pos (decide_eq_true h1), hj1, decide_eq_false (p := r.2.1 ≥ -1) (Int.not_le.2 h1)]; simp
    · rw [if_neg (by rw [decide_eq_false h1]; exact Bool.false_ne_true), decide_eq_true (p := r.2.1 ≥ -1) (Int.not_lt.1 h1)]
      by_cases h2 : r.2.1 > (7 : Int)
      · rw [if_pos (decide_eq_true h2), hj1, decide_eq_false (p := r.2.1 ≤ 7) (Int.not_le.2 h2)]; simp
      · rw [if_neg (by rw [decide_eq_false h2]; exact Bool.false_ne_true), decide_eq_true (p := r.2.1 ≤ 7) (Int.not_lt.1 h2)]
        by_cases h3 : r.2.2.1 < (0 : Int)
        · rw [if_pos (decide_eq_true h3), hj1, decide_eq_false (p := r.2.2.1 ≥ 0) (Int.not_le.2 h3)]; simp
        · rw [if_neg (by rw [decide_eq_false h3]; exact Bool.false_ne_true), decide_eq_true (p := r.2.2.1 ≥ 0) (Int.not_lt.1 h3)]
          by_cases h4 : r.2.2.1 > (255 : Int)
          · rw [decide_eq_true h4, hj1, decide_eq_false (p := r.2.2.1 ≤ 255) (Int.not_le.2 h4)]; simp
          · rw [decide_eq_false h4, hj2, decide_eq_true (p := r.2.2.1 ≤ 255) (Int.not_lt.1 h4)]; simp
theorem ralike_eq (k : Nat) (x r : Rl) : f_ref04_Alike.f k x r = some (alike r x, ()) := by
  unfold f_ref04_Alike.f alike
  cases h1 : (x.1.1 == r.1.1)
  · rfl
  · cases h2 : (x.1.2 == r.1.2)
    · rfl
    · cases h3 : (x.2.1 == r.2.1)
      · rfl
      · rfl
theorem with_eq (k : Nat) (t : List Vr) (i : Nat) (hi : i < t.length) (hs : t.length < 1000000) (ys : List Rl) : i_ref09_with_b4d.f k t (i : Int) ys = some (t.set i (t[i].1, ys), ()) := by
  unfold i_ref09_with_b4d.f
  rw [if_pos (by omega), if_pos (by omega), if_pos (by omega), att_n t i hi]
  rfl
theorem iof_eq (k : Nat) (t : List Vr) (tag : Int) (r : Rl) (hk : 1000 ≤ k) (hs : Sm t) : i_ref09_Of_baa.f k t tag r = some ((of t tag).2, (r, ((of t tag).1, ()))) := by
  have h1 := hs.1
  unfold i_ref09_Of_baa.f of
  rw [where_eq k t tag (by omega) (by omega), Option.bind_some]
  by_cases hl : tagAt t tag < t.length
  · have hv := hs.2 _ (List.getElem_mem hl)
    rw [if_pos hl, if_neg (by (first | omega | (dsimp only [Ty.T]; omega) | (simp only [decide_eq_true_eq, decide_eq_false_iff_not, Bool.not_eq_true, Ty.T]; omega) | (simp only [decide_eq_true_eq, decide_eq_false_iff_not, Ty.T]; omega) | (simp only [beq_iff_eq, bne_iff_ne, ne_eq, decide_eq_true_eq, Ty.T]; omega))), if_pos (by (first | omega | (dsimp only [Ty.T]; omega) | (simp only [decide_eq_true_eq, decide_eq_false_iff_not, Bool.not_eq_true, Ty.T]; omega) | (simp only [decide_eq_true_eq, decide_eq_false_iff_not, Ty.T]; omega) | (simp only [beq_iff_eq, bne_iff_ne, ne_eq, decide_eq_true_eq, Ty.T]; omega))), if_pos (by (first | omega | (dsimp only [Ty.T]; omega) | (simp only [decide_eq_true_eq, decide_eq_false_iff_not, Bool.not_eq_true, Ty.T]; omega) | (simp only [decide_eq_true_eq, decide_eq_false_iff_not, Ty.T]; omega) | (simp only [beq_iff_eq, bne_iff_ne, ne_eq, decide_eq_true_eq, Ty.T]; omega))), att_n t _ hl, if_pos (by omega), dif_pos hl]
  · rw [if_neg hl, if_pos (by (first | omega | (dsimp only [Ty.T]; omega) | (simp only [decide_eq_true_eq, decide_eq_false_iff_not, Bool.not_eq_true, Ty.T]; omega) | (simp only [decide_eq_true_eq, decide_eq_false_iff_not, Ty.T]; omega) | (simp only [beq_iff_eq, bne_iff_ne, ne_eq, decide_eq_true_eq, Ty.T]; omega))), dif_neg hl]
def adding (t : List Vr) (tag : Int) (r : Rl) (i : Nat) : List Vr := if aboveAt t tag < i then t.take (aboveAt t tag) ++ [(tag, [r])] ++ (t.take i).drop (aboveAt t tag) else t.take i
theorem added_ref (k : Nat) (t : List Vr) (tag : Int) (r : Rl) (hk : 1000 ≤ k) (hs : t.length < 900) : f_ref09_Put.l3 k k t tag false 0 r [] = some (added t tag r, (0, ())) := by
  have hle := aboveAt_le t tag
  have hal : ∀ i, i ≤ t.length → (adding t tag r i).length ≤ i + 1 := by
    intro i hi
    unfold adding
    split
    · simp only [List.length_append, List.length_take, List.length_drop, List.length_singleton]; omega
    · rw [List.length_take]; omega
  refine loop (fun m i => f_ref09_Put.l3 k m t tag (decide (aboveAt t tag < i)) (i : Int) r (adding t tag r i)) t.length _ (fun m i hi => ?_) (fun m => ?_) k (by omega)
  · have hai := hal i (by omega)
    simp only [f_ref09_Put.l3, f_ref09_Put.b3, f_ref09_Put.j5, f_ref09_Put.j4]
    rw [if_pos (by (first | omega | (dsimp only [Ty.T]; omega) | (simp only [decide_eq_true_eq, decide_eq_false_iff_not, Bool.not_eq_true, Ty.T]; omega) | (simp only [decide_eq_true_eq, decide_eq_false_iff_not, Ty.T]; omega) | (simp only [beq_iff_eq, bne_iff_ne, ne_eq, decide_eq_true_eq, Ty.T]; omega)))]
    rcases Nat.lt_trichotomy (aboveAt t tag) i with hlt | heq | hgt
    · rw [decide_eq_true hlt, if_neg (by simp), if_neg (by simp), if_pos (by omega), if_pos (by omega), if_pos (by omega), att_n t i hi, wsucc i (by omega), decide_eq_true (p := aboveAt t tag < i + 1) (by omega)]
      congr 1
      unfold adding
      rw [if_pos hlt, if_pos (by omega), List.take_succ_eq_append_getElem hi, List.drop_append_of_le_length (by rw [List.length_take]; omega)]
      simp only [List.append_assoc]
    · subst heq
      have hn : decide (t[aboveAt t tag].1 > tag) = true := List.findIdx_getElem (xs := t) (p := above tag) (w := hi)
      rw [decide_eq_false (Nat.lt_irrefl _), if_pos (by simp), if_pos (by omega), if_pos (by omega), att_n t _ hi, hn, if_pos rfl, if_pos (by omega), if_pos (by omega), if_pos (by omega), if_pos (by rw [List.length_append, List.length_singleton]; omega), wsucc _ (by omega), decide_eq_true (p := aboveAt t tag < aboveAt t tag + 1) (by omega)]
      congr 1
      unfold adding
      rw [if_neg (Nat.lt_irrefl _), if_pos (by omega), List.take_succ_eq_append_getElem hi, List.drop_append_of_le_length (by rw [List.length_take]; omega), List.drop_eq_nil_of_le (by rw [List.length_take]; omega)]
      simp only [List.append_assoc, List.nil_append]
    · have hn : decide (t[i].1 > tag) = false := fi_not (p := above tag) hgt hi
      rw [decide_eq_false (by omega), if_pos (by simp), if_pos (by omega), if_pos (by omega), att_n t _ hi, hn, if_neg (by simp), if_pos (by omega), if_pos (by omega), if_pos (by omega), wsucc _ (by omega), decide_eq_false (p := aboveAt t tag < i + 1) (by omega)]
      congr 1
      unfold adding
      rw [if_neg (by omega), if_neg (by omega), List.take_succ_eq_append_getElem hi]
  · have hai := hal t.length (by omega)
    simp only [f_ref09_Put.l3, f_ref09_Put.b3, f_ref09_Put.j6]
    rw [if_neg (by (first | omega | (dsimp only [Ty.T]; omega) | (simp only [decide_eq_true_eq, decide_eq_false_iff_not, Bool.not_eq_true, Ty.T]; omega) | (simp only [decide_eq_true_eq, decide_eq_false_iff_not, Ty.T]; omega) | (simp only [beq_iff_eq, bne_iff_ne, ne_eq, decide_eq_true_eq, Ty.T]; omega)))]
    by_cases hl : aboveAt t tag < t.length
    · rw [decide_eq_true hl, if_neg (by simp)]
      unfold adding added
      rw [if_pos hl, List.take_length]
    · rw [decide_eq_false hl, if_pos (by simp), if_pos (by omega)]
      unfold adding added
      rw [if_neg hl, List.take_length, List.take_of_length_le (by omega), List.drop_eq_nil_of_le (by omega), List.append_nil]
theorem rput_eq (k : Nat) (t : List Vr) (tag : Int) (r : Rl) (n : Int) (hk : 1000 ≤ k) (hs : Sm t) (h9 : t.length < 900) : f_ref09_Put.f k t tag r n = some ((put t tag r n).1, ((put t tag r n).2, ())) := by
  have h1 := hs.1
  have hsz := hs.size
  have hol := of_len hs tag
  have hle := tagAt_le t tag
  have hj1 : f_ref09_Put.j1 k t tag n true r = some (t, (1, ())) := by unfold f_ref09_Put.j1; rw [if_pos rfl]
  have hj2 : f_ref09_Put.j1 k t tag n false r = some ((if h : tagAt t tag < t.length then if alikeAt t[tagAt t tag].2 r < t[tagAt t tag].2.length then (grown t _ h r, (0 : Int)) else if (sizeOf' t : Int) ≥ n then (t, 7) else (grown t _ h r, 0) else if (sizeOf' t : Int) ≥ n then (t, 7) else (added t tag r, 0)).1, ((if h : tagAt t tag < t.length then if alikeAt t[tagAt t tag].2 r < t[tagAt t tag].2.length then (grown t _ h r, (0 : Int)) else if (sizeOf' t : Int) ≥ n then (t, 7) else (grown t _ h r, 0) else if (sizeOf' t : Int) ≥ n then (t, 7) else (added t tag r, 0)).2, ())) := by
    unfold f_ref09_Put.j1
    rw [if_neg Bool.false_ne_true, iof_eq k t tag r hk hs, Option.bind_some]
    dsimp only
    have hle2 := alikeAt_le (of t tag).1 r
    refine loop (fun m i => f_ref09_Put.l2 k m t tag n (of t tag).2 (i : Int) r (of t tag).1) (alikeAt (of t tag).1 r) _ (fun m i hi => ?_) (fun m => ?_) k (by omega)
    · have hl : i < (of t tag).1.length := by omega
      have hn : alike r (of t tag).1[i] = false := fi_not (p := alike r) hi hl
      simp only [f_ref09_Put.l2, f_ref09_Put.b2]
      rw [if_pos (by (first | omega | (dsimp only [Ty.T]; omega) | (simp only [decide_eq_true_eq, decide_eq_false_iff_not, Bool.not_eq_true, Ty.T]; omega) | (simp only [decide_eq_true_eq, decide_eq_false_iff_not, Ty.T]; omega) | (simp only [beq_iff_eq, bne_iff_ne, ne_eq, decide_eq_true_eq, Ty.T]; omega))), if_pos (by omega), if_pos (by omega), att_n _ i hl, ralike_eq, Option.bind_some, hn, if_neg Bool.false_ne_true, wsucc i (by omega)]
    · simp only [f_ref09_Put.l2, f_ref09_Put.b2]
      by_cases h : tagAt t tag < t.length
      · have ho : of t tag = (t[tagAt t tag].2, true) := by unfold of; rw [dif_pos h]
        rw [ho] at hol hle2 ⊢
        dsimp only at hol hle2 ⊢
        rw [dif_pos h, where_eq k t tag (by omega) (by omega), if_pos h]
        by_cases ha : alikeAt t[tagAt t tag].2 r < t[tagAt t tag].2.length
        · have hn : alike r t[tagAt t tag].2[alikeAt t[tagAt t tag].2 r] = true := List.findIdx_getElem (p := alike r) (w := ha)
          rw [if_pos (by (first | omega | (dsimp only [Ty.T]; omega) | (simp only [decide_eq_true_eq, decide_eq_false_iff_not, Bool.not_eq_true, Ty.T]; omega) | (simp only [decide_eq_true_eq, decide_eq_false_iff_not, Ty.T]; omega) | (simp only [beq_iff_eq, bne_iff_ne, ne_eq, decide_eq_true_eq, Ty.T]; omega))), if_pos (by omega), if_pos (by omega), att_n _ _ ha, ralike_eq, Option.bind_some, hn, if_pos rfl, Option.bind_some, with_eq k t _ h (by omega), Option.bind_some, if_pos ha]
          unfold grown
          rw [if_pos ha, Int.toNat_natCast]
        · rw [if_neg (by (first | omega | (dsimp only [Ty.T]; omega) | (simp only [decide_eq_true_eq, decide_eq_false_iff_not, Bool.not_eq_true, Ty.T]; omega) | (simp only [decide_eq_true_eq, decide_eq_false_iff_not, Ty.T]; omega) | (simp only [beq_iff_eq, bne_iff_ne, ne_eq, decide_eq_true_eq, Ty.T]; omega))), rsize_eq k t (by omega) (by omega) hsz, Option.bind_some, if_neg ha]
          by_cases hz : (sizeOf' t : Int) ≥ n
          · rw [if_pos (by (first | omega | (dsimp only [Ty.T]; omega) | (simp only [decide_eq_true_eq, decide_eq_false_iff_not, Bool.not_eq_true, Ty.T]; omega) | (simp only [decide_eq_true_eq, decide_eq_false_iff_not, Ty.T]; omega) | (simp only [beq_iff_eq, bne_iff_ne, ne_eq, decide_eq_true_eq, Ty.T]; omega))), if_pos hz]
          · rw [if_neg (by (first | omega | (dsimp only [Ty.T]; omega) | (simp only [decide_eq_true_eq, decide_eq_false_iff_not, Bool.not_eq_true, Ty.T]; omega) | (simp only [decide_eq_true_eq, decide_eq_false_iff_not, Ty.T]; omega) | (simp only [beq_iff_eq, bne_iff_ne, ne_eq, decide_eq_true_eq, Ty.T]; omega))), if_neg hz, if_pos rfl, if_pos (by omega), Option.bind_some, with_eq k t _ h (by omega), Option.bind_some]
            unfold grown
            rw [if_neg ha]
      · have ho : of t tag = ([], false) := by unfold of; rw [dif_neg h]
        rw [ho] at hol hle2 ⊢
        dsimp only at hol hle2 ⊢
        rw [dif_neg h, if_neg (by simp [alikeAt]), rsize_eq k t (by omega) (by omega) hsz, Option.bind_some]
        by_cases hz : (sizeOf' t : Int) ≥ n
        · rw [if_pos (by (first | omega | (dsimp only [Ty.T]; omega) | (simp only [decide_eq_true_eq, decide_eq_false_iff_not, Bool.not_eq_true, Ty.T]; omega) | (simp only [decide_eq_true_eq, decide_eq_false_iff_not, Ty.T]; omega) | (simp only [beq_iff_eq, bne_iff_ne, ne_eq, decide_eq_true_eq, Ty.T]; omega))), if_pos hz]
        · rw [if_neg (by (first | omega | (dsimp only [Ty.T]; omega) | (simp only [decide_eq_true_eq, decide_eq_false_iff_not, Bool.not_eq_true, Ty.T]; omega) | (simp only [decide_eq_true_eq, decide_eq_false_iff_not, Ty.T]; omega) | (simp only [beq_iff_eq, bne_iff_ne, ne_eq, decide_eq_true_eq, Ty.T]; omega))), if_neg hz, if_neg Bool.false_ne_true, added_ref k t tag r hk h9]
  unfold f_ref09_Put.f
  rw [rrmay_eq k r (by omega), Option.bind_some]
  unfold put
  by_cases ho : okIn tag r = false
  · rw [if_pos ho]
    unfold okIn at ho
    cases hr : rmay r
    · rw [if_pos (by rfl), hj1]
    · rw [hr, Bool.true_and, Bool.and_eq_false_iff] at ho
      rw [if_neg (by simp)]
      by_cases h3 : tag < 1
      · rw [if_pos (by (first | omega | (dsimp only [Ty.T]; omega) | (simp only [decide_eq_true_eq, decide_eq_false_iff_not, Bool.not_eq_true, Ty.T]; omega) | (simp only [decide_eq_true_eq, decide_eq_false_iff_not, Ty.T]; omega) | (simp only [beq_iff_eq, bne_iff_ne, ne_eq, decide_eq_true_eq, Ty.T]; omega))), hj1]
      · rw [if_neg (by (first | omega | (dsimp only [Ty.T]; omega) | (simp only [decide_eq_true_eq, decide_eq_false_iff_not, Bool.not_eq_true, Ty.T]; omega) | (simp only [decide_eq_true_eq, decide_eq_false_iff_not, Ty.T]; omega) | (simp only [beq_iff_eq, bne_iff_ne, ne_eq, decide_eq_true_eq, Ty.T]; omega))), decide_eq_true (p := tag > (4095 : Int)) (by rcases ho with h | h <;> rw [decide_eq_false_iff_not] at h <;> omega), hj1]
  · rw [if_neg ho]
    have ho2 : okIn tag r = true := by simpa using ho
    unfold okIn at ho2
    rw [Bool.and_eq_true, Bool.and_eq_true, decide_eq_true_eq, decide_eq_true_eq] at ho2
    rw [if_neg (by rw [ho2.1]; simp), if_neg (by (first | omega | (dsimp only [Ty.T]; omega) | (simp only [decide_eq_true_eq, decide_eq_false_iff_not, Bool.not_eq_true, Ty.T]; omega) | (simp only [decide_eq_true_eq, decide_eq_false_iff_not, Ty.T]; omega) | (simp only [beq_iff_eq, bne_iff_ne, ne_eq, decide_eq_true_eq, Ty.T]; omega))), decide_eq_false (p := tag > (4095 : Int)) (by omega), hj2]
theorem rdrop_eq (k : Nat) (t : List Vr) (tag : Int) (hk : 1000 ≤ k) (hs : Sm t) : f_ref09_Drop.f k t tag = some (drop t tag, ()) := by
  have h1 := hs.1
  have hle := tagAt_le t tag
  unfold f_ref09_Drop.f drop
  rw [where_eq k t tag (by omega) (by omega), Option.bind_some]
  dsimp only
  have hal : ∀ i, ((t.take i).eraseIdx (tagAt t tag)).length ≤ t.length := fun i => Nat.le_trans (List.length_eraseIdx_le ..) (by rw [List.length_take]; omega)
  refine loop (fun m i => f_ref09_Drop.l1 k m t (if tagAt t tag < t.length then (tagAt t tag : Int) else -1) (i : Int) ((t.take i).eraseIdx (tagAt t tag))) t.length _ (fun m i hi => ?_) (fun m => ?_) k (by omega)
  · have ha := hal i
    simp only [f_ref09_Drop.l1, f_ref09_Drop.b1, f_ref09_Drop.j2]
    rw [if_pos (by (first | omega | (dsimp only [Ty.T]; omega) | (simp only [decide_eq_true_eq, decide_eq_false_iff_not, Bool.not_eq_true, Ty.T]; omega) | (simp only [decide_eq_true_eq, decide_eq_false_iff_not, Ty.T]; omega) | (simp only [beq_iff_eq, bne_iff_ne, ne_eq, decide_eq_true_eq, Ty.T]; omega)))]
    by_cases he : i = tagAt t tag
    · rw [if_pos (show tagAt t tag < t.length by omega), if_neg (by rw [he]; simp), wsucc i (by omega), List.take_succ_eq_append_getElem hi, List.eraseIdx_of_length_le (by rw [List.length_take]; omega)]
      congr 1
      subst he
      rw [List.eraseIdx_append_of_length_le (by rw [List.length_take]; omega), List.length_take, Nat.min_eq_left (by omega), Nat.sub_self]
      simp
    · rw [if_pos (by
        rw [bne_iff_ne]
        intro e
        split at e <;> omega), if_pos (by omega), if_pos (by omega), if_pos (by omega), att_n t i hi, wsucc i (by omega), List.take_succ_eq_append_getElem hi]
      congr 1
      rcases Nat.lt_or_gt_of_ne he with hlt | hgt
      · rw [List.eraseIdx_of_length_le (by rw [List.length_take]; omega), List.eraseIdx_of_length_le (by rw [List.length_append, List.length_take, List.length_singleton]; omega)]
      · rw [List.eraseIdx_append_of_lt_length (by rw [List.length_take]; omega)]
  · simp only [f_ref09_Drop.l1, f_ref09_Drop.b1, f_ref09_Drop.j2]
    rw [if_neg (by (first | omega | (dsimp only [Ty.T]; omega) | (simp only [decide_eq_true_eq, decide_eq_false_iff_not, Bool.not_eq_true, Ty.T]; omega) | (simp only [decide_eq_true_eq, decide_eq_false_iff_not, Ty.T]; omega) | (simp only [beq_iff_eq, bne_iff_ne, ne_eq, decide_eq_true_eq, Ty.T]; omega))), List.take_length]
end Go.Proofs.Ytkobhleoebgbhaa.V
