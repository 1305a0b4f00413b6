/- The plain law of PlanParts: the printed function answers true. -/
import Derived.Test.YtibkmiffibacbaaPrint25
import Derived.Test.YtibkmiffibacbaaPurePlan
import Derived.Test.YtibkmiffibacbaaPureSess
import Derived.Test.YtibkmiffibacbaaPurePlanPush
namespace Go.Proofs.Ytibkmiffibacbaa.Pure
open Go.RowKit Go.Proofs.Ytibkmiffibacbaa.Print Go.Proofs.YtibkmiffibacbaaW.PrintWords Go.Proofs.YtibkmiffibacbaaW.PrintLast Go.Proofs.YtibkmiffibacbaaW.PrintMore
set_option linter.unusedVariables false
set_option linter.unusedSimpArgs false

theorem PlanParts : wayfinderlaw20_PlanParts.Pure := by
  intro a0_0 a0_1 l0_2 l1 a2 _ wb _ _ _ _ _
  have wb := int_wf wb
  apply Ev.rounds
  unfold wayfinderlaw20_PlanParts.f
  refine ev_bindc awake20 (ev_pos rfl ?_)
  refine ev_ite (fun _ => Ev.step (fun k => by rw [wayfinderlaw20_PlanParts.j0]) (ev_pos rfl (Ev.now _))) (fun h1 => ?_)
  refine ev_ite (fun _ => Ev.step (fun k => by rw [wayfinderlaw20_PlanParts.j0]) (ev_pos rfl (Ev.now _))) (fun h2 => ?_)
  refine ev_ite (fun _ => Ev.step (fun k => by rw [wayfinderlaw20_PlanParts.j0]) (ev_pos rfl (Ev.now _))) (fun h3 => ?_)
  refine Ev.step (fun k => by rw [wayfinderlaw20_PlanParts.j0]) ?_
  refine ev_ite (fun _ => Ev.now _) (fun h4 => ?_)
  have h4 : a2 ≤ (l1.length : Int) := by simpa using h4
  have hc : a2.toNat ≤ l1.length := by omega
  have e : l1.take a2.toNat ++ l1.drop a2.toNat = l1 := List.take_append_drop _ _
  have k1 : (l1.take a2.toNat).length ≤ l1.length := by rw [List.length_take]; omega
  have k2 : (l1.drop a2.toNat).length ≤ l1.length := by rw [List.length_drop]; omega
  have k3 := pushAll_len a0_0 (l1.take a2.toNat) a0_1 l0_2
  have k4 := pushAll_low a0_0 (l1.take a2.toNat) a0_1 l0_2
  have k5 := pushAll_fst a0_0 (l1.take a2.toNat) a0_1 l0_2
  have k6 := pushAll_len a0_0 l1 a0_1 l0_2
  have k7 := pushAll_app a0_0 (l1.take a2.toNat) (l1.drop a2.toNat) a0_1 l0_2
  rw [e] at k7
  refine ev_bind (planPush_ev (by omega) (by omega) wb.1) (ev_pos (by omega) (ev_pos h4 ?_))
  refine ev_bind (planPush_ev (by omega) (by omega) wb.1) ?_
  refine ev_bind (planPush_ev (by omega) (by omega) (by omega)) ?_
  rw [k5, ← k7]
  refine ev_bind (same15 _ _ _ (by omega)) ?_
  exact Ev.now _

end Go.Proofs.Ytibkmiffibacbaa.Pure
