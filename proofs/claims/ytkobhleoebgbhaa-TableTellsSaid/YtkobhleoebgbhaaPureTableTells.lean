/- Put, Drop, Of and Size answer as the reference. -/
import Derived.Test.YtkobhleoebgbhaaPureTabG
import Derived.Test.YtkobhleoebgbhaaVZ
namespace Go.Proofs.Ytkobhleoebgbhaa.V
open Go Go.RowKit
theorem P_TableTells (x0 : List Vr) (x1 : Int) (x2 : Rl) (x3 : Int) (_ : Wf (.slice T814c) x0) (_ : Wf (.int .i64) x1) (_ : Wf T1383 x2) (_ : Wf (.int .i64) x3) : ∃ k, f_law09_TableTells.f k x0 x1 x2 x3 = some (true, ()) := by
  refine ⟨1000, ?_⟩
  unfold f_law09_TableTells.f
  rw [awake_k, few_eq 1000 x0 (by omega), Option.bind_some, Option.bind_some, if_neg (by simp)]
  by_cases hf : (decide (x0.length ≤ 20) && x0.all fun v => decide (v.2.length ≤ 60)) = true
  · obtain ⟨f1, f2⟩ := few_of hf
    have s0 : Sm x0 := .mk' f1 f2 (by omega) (by omega)
    obtain ⟨g1, g2⟩ := put_mem x0 x1 x2 x3 60 f2
    have s1 : Sm (put x0 x1 x2 x3).1 := .mk' (A := 21) (by omega) g2 (by omega) (by omega)
    obtain ⟨d1, d2⟩ := drop_mem x0 x1 60 f2
    have s2 : Sm (drop x0 x1) := .mk' (A := 21) (by omega) d2 (by omega) (by omega)
    have hol := of_len s0 x1
    rw [hf]
    unfold f_law09_TableTells.j1
    rw [if_neg (by simp), put_eq 1000 x0 x1 x2 x3 (by omega) s0, Option.bind_some, rput_eq 1000 x0 x1 x2 x3 (by omega) s0 (by omega), Option.bind_some]
    dsimp only
    rw [same09 1000 _ _ (by omega) s1 (fun _ => s1), Option.bind_some, drop_eq 1000 x0 x1 (by omega) s0, Option.bind_some, rdrop_eq 1000 x0 x1 (by omega) s0, Option.bind_some]
    dsimp only
    rw [same09 1000 _ _ (by omega) s2 (fun _ => s2), Option.bind_some, of_eq 1000 x0 x1 (by omega) s0, Option.bind_some, rof_eq 1000 x0 x1 (by omega) s0, Option.bind_some]
    dsimp only
    rw [same08 1000 _ _ (by omega) (by omega), Option.bind_some, size_eq 1000 x0 (by omega) (by omega) s0.size, Option.bind_some, rsize_eq 1000 x0 (by omega) (by omega) s0.size, Option.bind_some]
    simp
  · rw [Bool.eq_false_iff.2 hf]; rfl
end Go.Proofs.Ytkobhleoebgbhaa.V
