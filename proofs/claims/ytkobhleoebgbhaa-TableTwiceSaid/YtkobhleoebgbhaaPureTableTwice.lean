/- Twice the same is once. -/
import Derived.Test.YtkobhleoebgbhaaPureTabE
import Derived.Test.YtkobhleoebgbhaaVZ
namespace Go.Proofs.Ytkobhleoebgbhaa.V
open Go Go.RowKit
set_option linter.unusedVariables false
set_option linter.unusedSimpArgs false
theorem P_TableTwice (x0 : List Vr) (x1 : Int) (x2 : Rl) (_ : Wf (.slice T814c) x0) (_ : Wf (.int .i64) x1) (_ : Wf T1383 x2) : ∃ k, f_law09_TableTwice.f k x0 x1 x2 = some (true, ()) := by
  refine ⟨1000, ?_⟩
  unfold f_law09_TableTwice.f
  rw [awake_k, few_eq 1000 x0 (by omega), Option.bind_some, Option.bind_some, if_neg (by simp)]
  by_cases hf : (decide (x0.length ≤ 20) && x0.all fun v => decide (v.2.length ≤ 60)) = true
  · obtain ⟨f1, f2⟩ := few_of hf
    rw [hf]
    unfold f_law09_TableTwice.j1
    rw [if_neg (by simp)]
    have s0 : Sm x0 := .mk' f1 f2 (by omega) (by omega)
    obtain ⟨g1, g2⟩ := put_mem x0 x1 x2 10000 60 f2
    have s1 : Sm (put x0 x1 x2 10000).1 := .mk' (A := 21) (by omega) g2 (by omega) (by omega)
    obtain ⟨d1, d2⟩ := drop_mem x0 x1 60 f2
    have s2 : Sm (drop x0 x1) := .mk' (A := 21) (by omega) d2 (by omega) (by omega)
    have hend : Distinct x0 → ∀ m, f_law09_TableTwice.l2 1000 (m + 1) x0 x1 (x0.length : Int) x2 = some (true, ()) := by
      intro hd m
      simp only [f_law09_TableTwice.l2, f_law09_TableTwice.b2]
      rw [if_neg (by (first | omega | (dsimp only [Ty.T]; omega) | (simp only [decide_eq_true_eq, decide_eq_false_iff_not, Bool.not_eq_true, Ty.T]; omega) | (simp only [decide_eq_true_eq, decide_eq_false_iff_not, Ty.T]; omega) | (simp only [beq_iff_eq, bne_iff_ne, ne_eq, decide_eq_true_eq, Ty.T]; omega))), put_eq 1000 x0 x1 x2 10000 (by omega) s0, Option.bind_some, put_eq 1000 _ x1 x2 10000 (by omega) s1, Option.bind_some]
      simp only [put_twice]
      rw [same09 1000 _ _ (by omega) s1 (fun _ => s1), Option.bind_some, drop_eq 1000 x0 x1 (by omega) s0, Option.bind_some, drop_eq 1000 _ x1 (by omega) s2, Option.bind_some]
      simp only [drop_twice x0 x1 hd]
      rw [same09 1000 _ _ (by omega) s2 (fun _ => s2)]
      simp
    have hin : ∀ m i, i < x0.length → ((∀ j, j < i → ∀ hi : i < x0.length, ∀ hj : j < x0.length, x0[i].1 ≠ x0[j].1) ∧ f_law09_TableTwice.l2 1000 (m + 1) x0 x1 (i : Int) x2 = f_law09_TableTwice.l2 1000 m x0 x1 ((i + 1 : Nat) : Int) x2) ∨ f_law09_TableTwice.l2 1000 (m + 1) x0 x1 (i : Int) x2 = some (true, ()) := by
      intro m i hi
      simp only [f_law09_TableTwice.l2, f_law09_TableTwice.b2]
      rw [if_pos (by (first | omega | (dsimp only [Ty.T]; omega) | (simp only [decide_eq_true_eq, decide_eq_false_iff_not, Bool.not_eq_true, Ty.T]; omega) | (simp only [decide_eq_true_eq, decide_eq_false_iff_not, Ty.T]; omega) | (simp only [beq_iff_eq, bne_iff_ne, ne_eq, decide_eq_true_eq, Ty.T]; omega)))]
      rcases loop_or (fun q j => f_law09_TableTwice.l3 (f_law09_TableTwice.l2 1000 m) 1000 q x0 x1 (i : Int) (j : Int) x2) i (fun j => ∀ hi : i < x0.length, ∀ hj : j < x0.length, x0[i].1 ≠ x0[j].1) (f_law09_TableTwice.l2 1000 m x0 x1 ((i + 1 : Nat) : Int) x2) (some (true, ())) (fun q j hj => by
          have hjl : j < x0.length := by omega
          simp only [f_law09_TableTwice.l3, f_law09_TableTwice.b3]
          rw [if_pos (by (first | omega | (dsimp only [Ty.T]; omega) | (simp only [decide_eq_true_eq, decide_eq_false_iff_not, Bool.not_eq_true, Ty.T]; omega) | (simp only [decide_eq_true_eq, decide_eq_false_iff_not, Ty.T]; omega) | (simp only [beq_iff_eq, bne_iff_ne, ne_eq, decide_eq_true_eq, Ty.T]; omega))), if_pos (by omega), if_pos (by omega), if_pos (by omega), if_pos (by omega), att_n x0 i hi, att_n x0 j hjl, wsucc j (by omega)]
          by_cases he : x0[i].1 = x0[j].1
          · exact .inr (if_pos (beq_iff_eq.2 he))
          · exact .inl ⟨fun _ _ => he, if_neg (by simpa using he)⟩) (fun _ q => by
          simp only [f_law09_TableTwice.l3, f_law09_TableTwice.b3]
          rw [if_neg (by (first | omega | (dsimp only [Ty.T]; omega) | (simp only [decide_eq_true_eq, decide_eq_false_iff_not, Bool.not_eq_true, Ty.T]; omega) | (simp only [decide_eq_true_eq, decide_eq_false_iff_not, Ty.T]; omega) | (simp only [beq_iff_eq, bne_iff_ne, ne_eq, decide_eq_true_eq, Ty.T]; omega))), wsucc i (by omega)]) 1000 (by omega) with h | h
      · exact .inl h
      · exact .inr h
    rcases loop_or (fun m i => f_law09_TableTwice.l2 1000 m x0 x1 (i : Int) x2) x0.length (fun i => ∀ j, j < i → ∀ hi : i < x0.length, ∀ hj : j < x0.length, x0[i].1 ≠ x0[j].1) (some (true, ())) (some (true, ())) (fun m i hi => hin m i hi) (fun hq m => hend (fun i j hji hi hj => hq i hi j hji hi hj) m) 1000 (by omega) with h | h
    · exact h.2
    · exact h
  · rw [Bool.eq_false_iff.2 hf]; rfl
end Go.Proofs.Ytkobhleoebgbhaa.V
