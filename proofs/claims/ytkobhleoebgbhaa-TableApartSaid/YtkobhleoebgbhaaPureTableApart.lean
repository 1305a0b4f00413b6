/- The law of things apart. -/
import Derived.Test.YtkobhleoebgbhaaPureTabD
import Derived.Test.YtkobhleoebgbhaaVZ
namespace Go.Proofs.Ytkobhleoebgbhaa.V
open Go Go.RowKit
theorem P_TableApart (x0 : List Vr) (x1 : Int) (x2 : Rl) (x3 x4 x5 : Int) (_ : Wf (.slice T814c) x0) (_ : Wf (.int .i64) x1) (_ : Wf T1383 x2) (_ : Wf (.int .i64) x3) (_ : Wf (.int .i64) x4) (_ : Wf (.int .i64) x5) : ∃ k, f_law09_TableApart.f k x0 x1 x2 x3 x4 x5 = some (true, ()) := by
  refine ⟨1000, ?_⟩
  unfold f_law09_TableApart.f
  rw [awake_k, few_eq 1000 x0 (by omega), Option.bind_some, Option.bind_some, if_neg (by simp)]
  have hj : ∀ a b c d x y, f_law09_TableApart.j1 1000 a b c d x true true y = some (true, ()) := fun a b c d x y => rfl
  by_cases hf : (decide (x0.length ≤ 20) && x0.all fun v => decide (v.2.length ≤ 60)) = true
  · obtain ⟨f1, f2⟩ := few_of hf
    rw [hf, if_neg (by simp)]
    by_cases he : x3 = x1
    · rw [beq_iff_eq.2 he]; exact hj ..
    · rw [beq_eq_false_iff_ne.2 he]
      have s0 : Sm x0 := .mk' f1 f2 (by omega) (by omega)
      obtain ⟨g1, g2⟩ := put_mem x0 x1 x2 10000 60 f2
      have s1 : Sm (put x0 x1 x2 10000).1 := .mk' (A := 21) (by omega) g2 (by omega) (by omega)
      obtain ⟨d1, d2⟩ := drop_mem x0 x1 60 f2
      have s2 : Sm (drop x0 x1) := .mk' (A := 21) (by omega) d2 (by omega) (by omega)
      unfold f_law09_TableApart.j1
      have hl : (of x0 x3).1.length < 1000 := by
        unfold of
        split
        · exact s0.2 _ (List.getElem_mem _)
        · simp
      rw [if_neg (by simp), put_eq 1000 x0 x1 x2 10000 (by omega) s0, drop_eq 1000 x0 x1 (by omega) s0, look_eq 1000 x0 x3 x4 x5 (by omega) s0]
      simp only [Option.bind_some]
      rw [look_eq 1000 _ x3 x4 x5 (by omega) s1, look_eq 1000 _ x3 x4 x5 (by omega) s2, of_eq 1000 _ x3 (by omega) s0, of_eq 1000 _ x3 (by omega) s1, of_eq 1000 _ x3 (by omega) s2]
      simp only [Option.bind_some]
      rw [of_put x0 x1 x3 x2 10000 he, of_drop x0 x1 x3 he]
      rw [same08 1000 _ _ hl (by omega)]
      simp
  · rw [Bool.eq_false_iff.2 hf, if_pos (by rfl)]; exact hj ..
end Go.Proofs.Ytkobhleoebgbhaa.V
