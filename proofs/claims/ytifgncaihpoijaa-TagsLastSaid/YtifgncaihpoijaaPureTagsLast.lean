/- The plain law of TagsLast: the printed function answers true. -/
import Derived.Test.YtifgncaihpoijaaPrint15
import Derived.Test.YtifgncaihpoijaaPureTags
namespace Go.Proofs.Ytifgncaihpoijaa.Pure
open Go.RowKit Go.Proofs.Ytifgncaihpoijaa.Print Go.Proofs.YtifgncaihpoijaaW.PrintWords Go.Proofs.YtifgncaihpoijaaW.PrintLast Go.Proofs.YtifgncaihpoijaaW.PrintMore
set_option linter.unusedVariables false
set_option linter.unusedSimpArgs false

theorem TagsLast : wayfinderlaw16_TagsLast.Pure := by
  intro l0 a b c _ _ _ _ _
  apply Ev.rounds
  unfold wayfinderlaw16_TagsLast.f
  refine ev_bindc awake16 (ev_pos rfl ?_)
  refine Ev.step (fun k => by rw [wayfinderlaw16_TagsLast.j0]) ?_
  refine ev_ite (fun _ => Ev.now _) (fun hl => ?_)
  have hl : l0.length ≤ 200 := by simp at hl; omega
  refine ev_pos (by simp; omega) (ev_bindc rfl (ev_bindc rfl (ev_pos (by simp; omega) (ev_bindc rfl (ev_bindc rfl ?_)))))
  simp only [List.nil_append]
  refine ev_pos (by rw [of_snoc]; simp) (ev_ite (fun _ => Ev.now _) (fun hc => ev_bindc rfl (ev_bindc rfl (ev_eq ?_))))
  rw [of_snoc, if_neg (fun h => hc h.symm)]
  simp

end Go.Proofs.Ytifgncaihpoijaa.Pure
