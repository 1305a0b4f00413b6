/- The plain law of PlanTells: the printed function answers true. -/
import Derived.Test.YtibkmiffibacbaaPrint33
import Derived.Test.YtibkmiffibacbaaPurePlan
import Derived.Test.YtibkmiffibacbaaPureSess
import Derived.Test.YtibkmiffibacbaaPureSessRef
import Derived.Test.YtibkmiffibacbaaPurePlanPush
import Derived.Test.YtibkmiffibacbaaPurePlanRef
namespace Go.Proofs.Ytibkmiffibacbaa.Pure
open Go.RowKit Go.Proofs.Ytibkmiffibacbaa.Print Go.Proofs.YtibkmiffibacbaaW.PrintWords Go.Proofs.YtibkmiffibacbaaW.PrintLast Go.Proofs.YtibkmiffibacbaaW.PrintMore
set_option linter.unusedVariables false
set_option linter.unusedSimpArgs false

theorem tells_l0 (t : Int) (l : List SV) (h : fewV l) : ∀ (m i : Nat), l.length - i = m → i ≤ l.length → Ev (fun k => wayfinderlaw20_PlanTells.l0 k t l true true true (i : Int)) true
  | 0, i, hm, hi => by
    refine Ev.step (fun k => by rw [wayfinderlaw20_PlanTells.l0]) ?_
    exact ev_neg (by omega) (ev_pos rfl (ev_pos rfl (Ev.now _)))
  | m + 1, i, hm, hi => by
    have hlt : i < l.length := by omega
    have h2 := h.1
    have h5 : (l[i]).f1.length ≤ 60 := h.2 _ (List.getElem_mem hlt)
    have h6 : (addsSpec t (l[i]).f1).length = (l[i]).f1.length := by unfold addsSpec; rw [List.length_map]
    refine Ev.step (fun k => by rw [wayfinderlaw20_PlanTells.l0]) ?_
    refine ev_pos (by omega) (ev_pos (by omega) ?_)
    rw [rdV hlt, wrap_id (by omega) (by omega)]
    refine ev_bindc (adds_f t (by omega)) (ev_bind (refAdds_ev _ _ (by omega)) (ev_bind (msgs_self _ (by omega)) (ev_pos rfl ?_)))
    exact tells_l0 t l h m (i + 1) (by omega) (by omega)
theorem PlanTells : wayfinderlaw20_PlanTells.Pure := by
  intro a0 l1 a2_0 a2_1 l2_2 _ _ _ _ wb _ _
  have wb := int_wf wb
  apply Ev.rounds
  unfold wayfinderlaw20_PlanTells.f
  refine ev_bindc awake20 (ev_bind (fewV_ev l1) (ev_pos rfl ?_))
  refine ev_ite (fun hf => ?_) (fun _ => Ev.step (fun k => by rw [wayfinderlaw20_PlanTells.j0]) (ev_pos rfl (Ev.now _)))
  have hf : fewV l1 := of_decide_eq_true hf
  refine Ev.step (fun k => by rw [wayfinderlaw20_PlanTells.j0]) ?_
  refine ev_ite (fun _ => Ev.now _) (fun hq => ?_)
  have hq : l2_2.length ≤ 200 := by have : ¬ ((l2_2.length : Int) > 200) := by simpa using hq
                                    omega
  have h1 := flat_len l1 hf.2
  have h2 := hf.1
  have h3 := sync_len2 l1 a0
  have h4 := pushAll_len a2_0 (syncSpec l1 a0) a2_1 l2_2
  refine ev_bind (refSync_ev l1 a0 hf) (ev_bindc (sync_f hf a0) (ev_bind (msgs_self _ (by omega)) ?_))
  refine ev_bind (planPush_ev (by omega) (by omega) wb.1) (ev_bind (refPPush_ev (by omega) (by omega) wb.1) ?_)
  refine ev_bind (same15 _ _ _ (by omega)) ?_
  exact tells_l0 a0 l1 hf l1.length 0 rfl (Nat.zero_le _)

end Go.Proofs.Ytibkmiffibacbaa.Pure
