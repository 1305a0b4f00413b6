/- A table that grows by Put and Drop stays in order, with no empty version. -/
import Derived.Test.YtkobhleoebgbhaaPureTabE
import Derived.Test.YtkobhleoebgbhaaVZ
namespace Go.Proofs.Ytkobhleoebgbhaa.V
open Go Go.RowKit
set_option linter.unusedVariables false
set_option linter.unusedSimpArgs false
def Rising (t : List Vr) : Prop := t.Pairwise fun a b => a.1 < b.1
structure Fine (n : Nat) (t : List Vr) : Prop where
  len : t.length ≤ n
  each : ∀ v ∈ t, v.2.length ≤ n
  full : ∀ v ∈ t, v.2 ≠ []
  rise : Rising t
theorem rising_set {t : List Vr} (i : Nat) (h : i < t.length) (ys : List Rl) (hr : Rising t) : Rising (t.set i (t[i].1, ys)) := by
  have e : (t.set i (t[i].1, ys)).map (fun v => v.1) = t.map (fun v => v.1) := by
    rw [List.map_set]
    have : t[i].1 = (t.map fun v => v.1)[i]'(by rw [List.length_map]; exact h) := by rw [List.getElem_map]
    rw [this, List.set_getElem_self]
  unfold Rising at hr ⊢
  rw [← List.pairwise_map (f := fun v : Vr => v.1) (R := fun a b : Int => a < b)] at hr ⊢
  rw [e]
  exact hr
theorem fine_grown {n : Nat} {t : List Vr} (h : Fine n t) (i : Nat) (hi : i < t.length) (r : Rl) : Fine (n + 1) (grown t i hi r) := by
  have h1 := h.each _ (List.getElem_mem hi)
  have h2 := h.full _ (List.getElem_mem hi)
  have h0 := h.len
  unfold grown
  split
  · refine ⟨by rw [List.length_set]; omega, fun v hv => ?_, fun v hv => ?_, rising_set i hi _ h.rise⟩
    · rcases List.mem_or_eq_of_mem_set hv with hv | rfl
      · have := h.each v hv; omega
      · simp only [List.length_set]; omega
    · rcases List.mem_or_eq_of_mem_set hv with hv | rfl
      · exact h.full v hv
      · intro e
        have := congrArg List.length e
        rw [List.length_set] at this
        exact h2 (List.eq_nil_of_length_eq_zero this)
  · refine ⟨by rw [List.length_set]; omega, fun v hv => ?_, fun v hv => ?_, rising_set i hi _ h.rise⟩
    · rcases List.mem_or_eq_of_mem_set hv with hv | rfl
      · have := h.each v hv; omega
      · simp only [List.length_append, List.length_singleton]; omega
    · rcases List.mem_or_eq_of_mem_set hv with hv | rfl
      · exact h.full v hv
      · simp
theorem fine_added {n : Nat} {t : List Vr} (h : Fine n t) (tag : Int) (r : Rl) (hn : ¬ tagAt t tag < t.length) : Fine (n + 1) (added t tag r) := by
  have h0 := h.len
  have hle := aboveAt_le t tag
  have hr := h.rise
  have hsplit : t = t.take (aboveAt t tag) ++ t.drop (aboveAt t tag) := (List.take_append_drop _ _).symm
  have hlow : ∀ v ∈ t.take (aboveAt t tag), v.1 < tag := by
    intro v hv
    obtain ⟨j, hj, rfl⟩ := List.getElem_of_mem hv
    rw [List.length_take] at hj
    rw [List.getElem_take]
    have h1 := fi_not (p := above tag) (xs := t) (i := j) (by unfold aboveAt at hj; omega) (by omega)
    have h2 := fi_not (p := hasTag tag) (xs := t) (i := j) (by unfold tagAt at hn; omega) (by omega)
    unfold above at h1
    unfold hasTag at h2
    rw [decide_eq_false_iff_not] at h1
    have h3 : t[j].1 ≠ tag := by simpa using h2
    exact Int.lt_iff_le_and_ne.2 ⟨Int.not_lt.1 h1, h3⟩
  have hup : ∀ v ∈ t.drop (aboveAt t tag), tag < v.1 := by
    intro v hv
    by_cases hl : aboveAt t tag < t.length
    · have h1 := List.findIdx_getElem (xs := t) (p := above tag) (w := hl)
      have h2 : tag < t[aboveAt t tag].1 := by
        have : decide (t[aboveAt t tag].1 > tag) = true := h1
        rw [decide_eq_true_eq] at this
        exact this
      rw [← List.getElem_cons_drop hl] at hv
      rcases List.mem_cons.1 hv with rfl | hv
      · exact h2
      · have h3 : Rising (t.drop (aboveAt t tag)) := List.Pairwise.sublist (List.drop_sublist _ _) hr
        unfold Rising at h3
        rw [← List.getElem_cons_drop hl, List.pairwise_cons] at h3
        exact Int.lt_trans h2 (h3.1 v hv)
    · rw [List.drop_eq_nil_of_le (by omega)] at hv
      cases hv
  unfold added
  refine ⟨by simp only [List.length_append, List.length_take, List.length_drop, List.length_singleton]; omega, fun v hv => ?_, fun v hv => ?_, ?_⟩
  · simp only [List.mem_append, List.mem_singleton] at hv
    rcases hv with (hv | rfl) | hv
    · have := h.each v (List.mem_of_mem_take hv); omega
    · simp
    · have := h.each v (List.mem_of_mem_drop hv); omega
  · simp only [List.mem_append, List.mem_singleton] at hv
    rcases hv with (hv | rfl) | hv
    · exact h.full v (List.mem_of_mem_take hv)
    · simp
    · exact h.full v (List.mem_of_mem_drop hv)
  · unfold Rising at hr ⊢
    rw [hsplit, List.pairwise_append] at hr
    rw [List.append_assoc, List.singleton_append, List.pairwise_append, List.pairwise_cons]
    refine ⟨hr.1, ⟨fun v hv => hup v hv, hr.2.1⟩, fun a ha b hb => ?_⟩
    have := hlow a ha
    rcases List.mem_cons.1 hb with rfl | hb
    · exact this
    · exact Int.lt_trans this (hup b hb)
theorem fine_put {n : Nat} {t : List Vr} (h : Fine n t) (tag : Int) (r : Rl) (m : Int) : Fine (n + 1) (put t tag r m).1 := by
  have ht : Fine (n + 1) t := ⟨by have := h.len; omega, fun v hv => by have := h.each v hv; omega, h.full, h.rise⟩
  unfold put
  split
  · exact ht
  · split
    · split
      · exact fine_grown h _ _ _
      · split
        · exact ht
        · exact fine_grown h _ _ _
    · rename_i hn
      split
      · exact ht
      · exact fine_added h tag r hn
theorem fine_drop {n : Nat} {t : List Vr} (h : Fine n t) (tag : Int) : Fine n (drop t tag) := by
  unfold drop
  exact ⟨Nat.le_trans (List.length_eraseIdx_le ..) h.len, fun v hv => h.each v (List.mem_of_mem_eraseIdx hv), fun v hv => h.full v (List.mem_of_mem_eraseIdx hv), List.Pairwise.sublist (List.eraseIdx_sublist ..) h.rise⟩
theorem Fine.sm {n : Nat} {t : List Vr} (h : Fine n t) (hn : n < 1000) : Sm t := .mk' h.len h.each hn hn
noncomputable def after (rs : List Rl) (tags : List Int) (n : Int) : Nat → List Vr
  | 0 => []
  | i + 1 => if i % 5 = 4 then drop (put (after rs tags n i) (att (.int .i64) tags (i : Int)) (att T1383 rs (i : Int)) n).1 (att (.int .i64) tags ((i - 1 : Nat) : Int)) else (put (after rs tags n i) (att (.int .i64) tags (i : Int)) (att T1383 rs (i : Int)) n).1
theorem after_fine (rs : List Rl) (tags : List Int) (n : Int) : ∀ i, Fine i (after rs tags n i)
  | 0 => ⟨by simp [after], by simp [after], by simp [after], by simp [after, Rising]⟩
  | i + 1 => by
    have h := fine_put (after_fine rs tags n i) (att (.int .i64) tags (i : Int)) (att T1383 rs (i : Int)) n
    unfold after
    split
    · exact fine_drop h _
    · exact h
theorem rises_in (L2 : List Rl → List Int → Int → List Vr → Int → Option f_law09_TableRises.R) (x0 : List Rl) (x1 : List Int) (x2 : Int) (t : List Vr) (i n : Nat) (h : Fine n t) (hn : n < 900) (hi : i < 900) :
    f_law09_TableRises.j5 L2 1000 x0 x1 x2 t (i : Int) = L2 x0 x1 x2 t ((i + 1 : Nat) : Int) := by
  have hl := h.len
  unfold f_law09_TableRises.j5
  refine loop (fun m j => f_law09_TableRises.l3 L2 1000 m x0 x1 x2 t (i : Int) (j : Int)) t.length _ (fun m j hj => ?_) (fun m => ?_) 1000 (by omega)
  · have h1 := h.full _ (List.getElem_mem hj)
    have h2 : 0 < t[j].2.length := List.length_pos_iff.2 h1
    simp only [f_law09_TableRises.l3, f_law09_TableRises.b3, f_law09_TableRises.j4]
    rw [if_pos (by (first | omega | (dsimp only [Ty.T]; omega) | (simp only [decide_eq_true_eq, decide_eq_false_iff_not, Bool.not_eq_true, Ty.T]; omega) | (simp only [decide_eq_true_eq, decide_eq_false_iff_not, Ty.T]; omega) | (simp only [beq_iff_eq, bne_iff_ne, ne_eq, decide_eq_true_eq, Ty.T]; omega))), if_pos (by omega), if_pos (by omega), att_n t j hj, if_neg (by (first | omega | (dsimp only [Ty.T]; omega) | (simp only [decide_eq_true_eq, decide_eq_false_iff_not, Bool.not_eq_true, Ty.T]; omega) | (simp only [decide_eq_true_eq, decide_eq_false_iff_not, Ty.T]; omega) | (simp only [beq_iff_eq, bne_iff_ne, ne_eq, decide_eq_true_eq, Ty.T]; omega))), wsucc j (by omega)]
    by_cases h0 : 0 < j
    · have hw : IntKind.i64.wrap ((j : Int) - 1) = ((j - 1 : Nat) : Int) := by rw [IntWalk.i64_in _ (by omega)]; omega
      have hlt : t[j - 1].1 < t[j].1 := List.pairwise_iff_getElem.1 h.rise (j - 1) j (by omega) hj (by omega)
      rw [if_pos (by (first | omega | (dsimp only [Ty.T]; omega) | (simp only [decide_eq_true_eq, decide_eq_false_iff_not, Bool.not_eq_true, Ty.T]; omega) | (simp only [decide_eq_true_eq, decide_eq_false_iff_not, Ty.T]; omega) | (simp only [beq_iff_eq, bne_iff_ne, ne_eq, decide_eq_true_eq, Ty.T]; omega))), hw, if_pos (by omega), if_pos (by omega), att_n t (j - 1) (by omega), decide_eq_false (Int.not_le.2 hlt), if_neg (by simp)]
    · rw [if_neg (by (first | omega | (dsimp only [Ty.T]; omega) | (simp only [decide_eq_true_eq, decide_eq_false_iff_not, Bool.not_eq_true, Ty.T]; omega) | (simp only [decide_eq_true_eq, decide_eq_false_iff_not, Ty.T]; omega) | (simp only [beq_iff_eq, bne_iff_ne, ne_eq, decide_eq_true_eq, Ty.T]; omega))), if_neg (by simp)]
  · simp only [f_law09_TableRises.l3, f_law09_TableRises.b3]
    rw [if_neg (by (first | omega | (dsimp only [Ty.T]; omega) | (simp only [decide_eq_true_eq, decide_eq_false_iff_not, Bool.not_eq_true, Ty.T]; omega) | (simp only [decide_eq_true_eq, decide_eq_false_iff_not, Ty.T]; omega) | (simp only [beq_iff_eq, bne_iff_ne, ne_eq, decide_eq_true_eq, Ty.T]; omega))), wsucc i (by omega)]
theorem P_TableRises (x0 : List Rl) (x1 : List Int) (x2 : Int) (_ : Wf (.slice T1383) x0) (_ : Wf (.slice (.int .i64)) x1) (_ : Wf (.int .i64) x2) : ∃ k, f_law09_TableRises.f k x0 x1 x2 = some (true, ()) := by
  refine ⟨1000, ?_⟩
  unfold f_law09_TableRises.f
  rw [awake_k, Option.bind_some, if_neg (by simp)]
  have hj : ∀ b, f_law09_TableRises.j1 1000 x0 x1 x2 b true = some (b, ()) := fun b => rfl
  by_cases h1 : (x0.length : Int) > 60
  · rw [if_pos (by (first | omega | (dsimp only [Ty.T]; omega) | (simp only [decide_eq_true_eq, decide_eq_false_iff_not, Bool.not_eq_true, Ty.T]; omega) | (simp only [decide_eq_true_eq, decide_eq_false_iff_not, Ty.T]; omega) | (simp only [beq_iff_eq, bne_iff_ne, ne_eq, decide_eq_true_eq, Ty.T]; omega))), hj]
  · rw [if_neg (by (first | omega | (dsimp only [Ty.T]; omega) | (simp only [decide_eq_true_eq, decide_eq_false_iff_not, Bool.not_eq_true, Ty.T]; omega) | (simp only [decide_eq_true_eq, decide_eq_false_iff_not, Ty.T]; omega) | (simp only [beq_iff_eq, bne_iff_ne, ne_eq, decide_eq_true_eq, Ty.T]; omega)))]
    by_cases h2 : (x1.length : Int) < (x0.length : Int)
    · rw [decide_eq_true h2, hj]
    · rw [decide_eq_false h2]
      unfold f_law09_TableRises.j1
      rw [if_neg (by simp)]
      refine loop (fun m i => f_law09_TableRises.l2 1000 m x0 x1 x2 (after x0 x1 x2 i) (i : Int)) x0.length _ (fun m i hi => ?_) (fun m => ?_) 1000 (by omega)
      · have hf := after_fine x0 x1 x2 i
        have hf1 := fine_put hf (att (.int .i64) x1 (i : Int)) (att T1383 x0 (i : Int)) x2
        have hf2 := after_fine x0 x1 x2 (i + 1)
        unfold after at hf2
        simp only [f_law09_TableRises.l2, f_law09_TableRises.b2]
        conv => rhs; unfold after
        rw [if_pos (by (first | omega | (dsimp only [Ty.T]; omega) | (simp only [decide_eq_true_eq, decide_eq_false_iff_not, Bool.not_eq_true, Ty.T]; omega) | (simp only [decide_eq_true_eq, decide_eq_false_iff_not, Ty.T]; omega) | (simp only [beq_iff_eq, bne_iff_ne, ne_eq, decide_eq_true_eq, Ty.T]; omega))), if_pos (by omega), if_pos (by omega), if_pos (by omega), put_eq 1000 _ _ _ _ (by omega) (hf.sm (by omega)), Option.bind_some]
        have htm : Int.tmod (i : Int) 5 = ((i % 5 : Nat) : Int) := by rw [Int.tmod_eq_emod_of_nonneg (by omega)]; omega
        by_cases h5 : i % 5 = 4
        · have hw : IntKind.i64.wrap ((i : Int) - 1) = ((i - 1 : Nat) : Int) := by rw [IntWalk.i64_in _ (by omega)]; omega
          rw [if_pos (by (first | omega | (dsimp only [Ty.T]; omega) | (simp only [decide_eq_true_eq, decide_eq_false_iff_not, Bool.not_eq_true, Ty.T]; omega) | (simp only [decide_eq_true_eq, decide_eq_false_iff_not, Ty.T]; omega) | (simp only [beq_iff_eq, bne_iff_ne, ne_eq, decide_eq_true_eq, Ty.T]; omega))), if_pos h5, hw, if_pos (by omega), if_pos (by omega), drop_eq 1000 _ _ (by omega) (hf1.sm (by omega)), Option.bind_some]
          rw [if_pos h5] at hf2
          exact rises_in _ x0 x1 x2 _ i (i + 1) hf2 (by omega) (by omega)
        · rw [if_neg (by (first | omega | (dsimp only [Ty.T]; omega) | (simp only [decide_eq_true_eq, decide_eq_false_iff_not, Bool.not_eq_true, Ty.T]; omega) | (simp only [decide_eq_true_eq, decide_eq_false_iff_not, Ty.T]; omega) | (simp only [beq_iff_eq, bne_iff_ne, ne_eq, decide_eq_true_eq, Ty.T]; omega))), if_neg h5]
          exact rises_in _ x0 x1 x2 _ i (i + 1) hf1 (by omega) (by omega)
      · simp only [f_law09_TableRises.l2, f_law09_TableRises.b2]
        rw [if_neg (by (first | omega | (dsimp only [Ty.T]; omega) | (simp only [decide_eq_true_eq, decide_eq_false_iff_not, Bool.not_eq_true, Ty.T]; omega) | (simp only [decide_eq_true_eq, decide_eq_false_iff_not, Ty.T]; omega) | (simp only [beq_iff_eq, bne_iff_ne, ne_eq, decide_eq_true_eq, Ty.T]; omega)))]
end Go.Proofs.Ytkobhleoebgbhaa.V
