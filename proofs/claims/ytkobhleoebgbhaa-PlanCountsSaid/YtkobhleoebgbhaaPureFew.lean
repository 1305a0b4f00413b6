/- Few, and how many rules there are. -/
import Derived.Test.YtkobhleoebgbhaaPureSessA
namespace Go.Proofs.Ytkobhleoebgbhaa.V
open Go Go.RowKit
set_option linter.unusedVariables false
set_option linter.unusedSimpArgs false
abbrev Rl := T1383.T
abbrev Vr := T814c.T
theorem few_eq (k : Nat) (t : List Vr) (hk : 20 < k) : f_law09_Few.f k t = some (decide (t.length ≤ 20) && t.all fun v => decide (v.2.length ≤ 60), ()) := by
  unfold f_law09_Few.f
  by_cases h : t.length ≤ 20
  · rw [if_neg (by simp; omega)]
    have hle : t.findIdx (fun v => decide (60 < v.2.length)) ≤ t.length := List.findIdx_le_length
    refine loop (fun m i => f_law09_Few.l1 k m t (i : Int)) (t.findIdx fun v => decide (60 < v.2.length)) _ (fun m i hi => ?_) (fun m => ?_) k (by omega)
    · have hl : i < t.length := by omega
      have hn := fi_not (p := fun v : Vr => decide (60 < v.2.length)) hi hl
      simp only [decide_eq_false_iff_not] at hn
      simp only [f_law09_Few.l1, f_law09_Few.b1, att_n t i hl]
      rw [if_pos (by simp; exact hl), if_pos (by omega), if_pos (by omega), if_neg (by simp; omega), wsucc i (by omega)]
    · by_cases hl : t.findIdx (fun v => decide (60 < v.2.length)) < t.length
      · have hn := List.findIdx_getElem (p := fun v : Vr => decide (60 < v.2.length)) (w := hl)
        simp only [f_law09_Few.l1, f_law09_Few.b1, att_n t _ hl]
        have hn2 : 60 < t[t.findIdx fun v => decide (60 < v.2.length)].2.length := by simpa using hn
        rw [if_pos (by (first | omega | (dsimp only [Ty.T]; omega) | (simp only [decide_eq_true_eq, decide_eq_false_iff_not, Bool.not_eq_true, Ty.T]; omega) | (simp only [decide_eq_true_eq, decide_eq_false_iff_not, Ty.T]; omega) | (simp only [beq_iff_eq, bne_iff_ne, ne_eq, decide_eq_true_eq, Ty.T]; omega))), if_pos (by omega), if_pos (by omega), if_pos (by (first | omega | (dsimp only [Ty.T]; omega) | (simp only [decide_eq_true_eq, decide_eq_false_iff_not, Bool.not_eq_true, Ty.T]; omega) | (simp only [decide_eq_true_eq, decide_eq_false_iff_not, Ty.T]; omega) | (simp only [beq_iff_eq, bne_iff_ne, ne_eq, decide_eq_true_eq, Ty.T]; omega)))]
        have : (t.all fun v => decide (v.2.length ≤ 60)) = false := by
          rw [List.all_eq_false]
          exact ⟨_, List.getElem_mem hl, by simpa using hn⟩
        rw [this]; simp
      · simp only [f_law09_Few.l1, f_law09_Few.b1]
        rw [if_neg (by (first | omega | (dsimp only [Ty.T]; omega) | (simp only [decide_eq_true_eq, decide_eq_false_iff_not, Bool.not_eq_true, Ty.T]; omega) | (simp only [decide_eq_true_eq, decide_eq_false_iff_not, Ty.T]; omega) | (simp only [beq_iff_eq, bne_iff_ne, ne_eq, decide_eq_true_eq, Ty.T]; omega)))]
        have : (t.all fun v => decide (v.2.length ≤ 60)) = true := by
          rw [List.all_eq_true]
          intro x hx
          have h2 := List.findIdx_eq_length.1 (show t.findIdx (fun v => decide (60 < v.2.length)) = t.length by omega) x hx
          have h3 : decide (60 < x.2.length) = false := h2
          rw [decide_eq_false_iff_not] at h3
          rw [decide_eq_true_eq]
          exact Nat.le_of_not_lt h3
        rw [this]; simp [h]
  · rw [if_pos (by simp; omega)]; simp [h]
def sizeOf' (t : List Vr) : Nat := (t.map fun v => v.2.length).sum
theorem size_take (t : List Vr) (i : Nat) (h : i < t.length) : sizeOf' (t.take (i + 1)) = sizeOf' (t.take i) + t[i].2.length := by
  unfold sizeOf'
  rw [List.take_succ_eq_append_getElem h, List.map_append, List.sum_append]
  simp
theorem size_take_le (t : List Vr) (i : Nat) : sizeOf' (t.take i) ≤ sizeOf' t := by
  unfold sizeOf'
  conv => rhs; rw [← List.take_append_drop i t, List.map_append, List.sum_append]
  omega
theorem size_le {t : List Vr} (h : ∀ v ∈ t, v.2.length < 1000) : sizeOf' t ≤ t.length * 999 := by
  induction t with
  | nil => simp [sizeOf']
  | cons v t ih =>
    have h1 := h v List.mem_cons_self
    have h2 := ih fun x hx => h x (List.mem_cons_of_mem _ hx)
    simp only [sizeOf', List.map_cons, List.sum_cons, List.length_cons] at h2 ⊢
    omega
theorem few_of {t : List Vr} (h : (decide (t.length ≤ 20) && t.all fun v => decide (v.2.length ≤ 60)) = true) : t.length ≤ 20 ∧ ∀ v ∈ t, v.2.length ≤ 60 := by
  rw [Bool.and_eq_true, decide_eq_true_eq, List.all_eq_true] at h
  exact ⟨h.1, fun v hv => by simpa using h.2 v hv⟩
end Go.Proofs.Ytkobhleoebgbhaa.V
