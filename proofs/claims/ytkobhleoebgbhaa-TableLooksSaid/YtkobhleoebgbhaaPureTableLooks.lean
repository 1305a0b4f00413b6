/- Look answers as the reference. -/
import Derived.Test.YtkobhleoebgbhaaPureTabF
import Derived.Test.YtkobhleoebgbhaaVZ
namespace Go.Proofs.Ytkobhleoebgbhaa.V
open Go Go.RowKit
theorem P_TableLooks (x0 : List Vr) (x1 x2 x3 : Int) (_ : Wf (.slice T814c) x0) (_ : Wf (.int .i64) x1) (_ : Wf (.int .i64) x2) (_ : Wf (.int .i64) x3) : ∃ k, f_law09_TableLooks.f k x0 x1 x2 x3 = some (true, ()) := by
  refine ⟨1000, ?_⟩
  unfold f_law09_TableLooks.f
  rw [awake_k, few_eq 1000 x0 (by omega), Option.bind_some, Option.bind_some, if_neg (by simp)]
  by_cases hf : (decide (x0.length ≤ 20) && x0.all fun v => decide (v.2.length ≤ 60)) = true
  · obtain ⟨f1, f2⟩ := few_of hf
    have s0 : Sm x0 := .mk' f1 f2 (by omega) (by omega)
    rw [hf]
    unfold f_law09_TableLooks.j1
    rw [if_neg (by simp), look_eq 1000 x0 x1 x2 x3 (by omega) s0, Option.bind_some, rlook_eq 1000 x0 x1 x2 x3 (by omega) s0, Option.bind_some]
    simp
  · rw [Bool.eq_false_iff.2 hf]; rfl
end Go.Proofs.Ytkobhleoebgbhaa.V
