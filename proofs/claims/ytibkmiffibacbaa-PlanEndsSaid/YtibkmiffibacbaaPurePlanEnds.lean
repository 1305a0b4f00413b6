/- The plain law of PlanEnds: the printed function answers true. -/
import Derived.Test.YtibkmiffibacbaaPrint5
import Derived.Test.YtibkmiffibacbaaPurePlan
namespace Go.Proofs.Ytibkmiffibacbaa.Pure
open Go.RowKit Go.Proofs.Ytibkmiffibacbaa.Print Go.Proofs.YtibkmiffibacbaaW.PrintWords Go.Proofs.YtibkmiffibacbaaW.PrintLast Go.Proofs.YtibkmiffibacbaaW.PrintMore
set_option linter.unusedVariables false
set_option linter.unusedSimpArgs false

theorem ends_l (l : List SV) (t : Int) (hf : fewV l) : ∀ (n i : Nat), l.length - i = n → i ≤ l.length → Ev (fun k => wayfinderlaw20_PlanEnds.l0 k l (syncSpec l t) ((syncSpec l t).length : Int) ((flat (l.take i)).length : Int) (i : Int)) true
  | 0, i, hn, hi => by
    have hL := flat_len l hf.2
    have h1 := hf.1
    have hs := sync_len2 l t
    refine Ev.step (fun k => by rw [wayfinderlaw20_PlanEnds.l0]) ?_
    refine ev_neg (by omega) (ev_eq ?_)
    rw [List.take_of_length_le (by omega), wrap_id (by omega) (by omega), hs]
    simp
  | n + 1, i, hn, hi => by
    have hlt : i < l.length := by omega
    have ih := ends_l l t hf n (i + 1) (by omega) hlt
    have hL := flat_len l hf.2
    have h1 := hf.1
    have hs := sync_len2 l t
    have hv := hf.2 _ (List.getElem_mem hlt)
    have hlen : (addsSpec (l[i]).f0 (l[i]).f1).length = (l[i]).f1.length := by unfold addsSpec; rw [List.length_map]
    have hsp : (flat l).length = (flat (l.take i)).length + ((l[i]).f1.length + (flat (l.drop (i + 1))).length) := by
      conv => lhs; rw [flat_split l i hlt]
      rw [List.length_append, List.length_append, hlen]
    have hsu : (flat (l.take (i + 1))).length = (flat (l.take i)).length + (l[i]).f1.length := by rw [flat_succ l i hlt, List.length_append, hlen]
    have inner : ∀ (m j : Nat), (l[i]).f1.length - j = m → j ≤ (l[i]).f1.length → Ev (fun k => wayfinderlaw20_PlanEnds.l1 k l (syncSpec l t) ((syncSpec l t).length : Int) (((flat (l.take i)).length + j : Nat) : Int) (i : Int) (j : Int)) true := by
      intro m
      induction m with
      | zero =>
        intro j hm hj
        refine Ev.step (fun k => by rw [wayfinderlaw20_PlanEnds.l1]) ?_
        refine ev_pos (by omega) ?_
        refine ev_pos (by omega) ?_
        rw [rdV hlt]
        refine ev_neg (by omega) ?_
        rw [wrap_id (by omega) (by omega)]
        have e : (flat (l.take i)).length + j = (flat (l.take (i + 1))).length := by omega
        rw [e]
        exact ih
      | succ m ihm =>
        intro j hm hj
        have hjl : j < (l[i]).f1.length := by omega
        have hat := sync_at l t i j hlt hjl
        have hk : (flat (l.take i)).length + j < (syncSpec l t).length := by omega
        rw [List.getElem?_eq_getElem hk] at hat
        have hat := Option.some.inj hat
        refine Ev.step (fun k => by rw [wayfinderlaw20_PlanEnds.l1]) ?_
        refine ev_pos (by omega) ?_
        refine ev_pos (by omega) ?_
        rw [rdV hlt, rdM hk, rdR hjl, hat]
        refine ev_pos (by omega) ?_
        refine ev_neg (by rw [wrap_id (by omega) (by omega)]; omega) ?_
        refine ev_pos (by omega) ?_
        refine ev_pos (by omega) ?_
        refine ev_pos (by omega) ?_
        refine ev_neg (by simp [addMsg]) ?_
        rw [wrap_id (by omega) (by omega), wrap_id (by omega) (by omega)]
        exact ihm (j + 1) (by omega) hjl
    refine Ev.step (fun k => by rw [wayfinderlaw20_PlanEnds.l0]) ?_
    refine ev_pos (by omega) ?_
    exact inner _ 0 rfl (Nat.zero_le _)
theorem PlanEnds : wayfinderlaw20_PlanEnds.Pure := by
  intro l0 a1 _ _ _
  apply Ev.rounds
  unfold wayfinderlaw20_PlanEnds.f
  refine ev_bindc awake20 (ev_bind (fewV_ev l0) (ev_pos rfl ?_))
  refine Ev.step (fun k => by rw [wayfinderlaw20_PlanEnds.j0]) ?_
  refine ev_ite (fun _ => Ev.now _) (fun hf => ?_)
  have hf : fewV l0 := by simpa using hf
  have hL := flat_len l0 hf.2
  have h1 := hf.1
  have hs := sync_len2 l0 a1
  refine ev_bindc (sync_f hf a1) ?_
  have e1 : (syncSpec l0 a1)[(flat l0).length + 1]? = some openMsg := by rw [sync_eq, List.getElem?_append_right (by omega), Nat.add_sub_cancel_left]; rfl
  have e2 : (syncSpec l0 a1)[(flat l0).length]? = some (flipMsg a1) := by rw [sync_eq, List.getElem?_append_right (by omega), Nat.sub_self]; rfl
  have k1 : (flat l0).length + 1 < (syncSpec l0 a1).length := by omega
  have k2 : (flat l0).length < (syncSpec l0 a1).length := by omega
  rw [List.getElem?_eq_getElem k1] at e1
  rw [List.getElem?_eq_getElem k2] at e2
  have e1 := Option.some.inj e1
  have e2 := Option.some.inj e2
  have w1 : wrap64 (((syncSpec l0 a1).length : Int) - 1) = (((flat l0).length + 1 : Nat) : Int) := by rw [wrap_id (by omega) (by omega)]; omega
  have w2 : wrap64 (((syncSpec l0 a1).length : Int) - 2) = ((flat l0).length : Int) := by rw [wrap_id (by omega) (by omega)]; omega
  rw [w1, w2, rdM k1, rdM k2, e1, e2]
  refine ev_neg (by omega) ?_
  refine ev_pos (by omega) ?_
  refine ev_pos (by omega) ?_
  refine ev_neg (by simp [openMsg]; try decide) ?_
  refine ev_pos (by omega) ?_
  refine ev_pos (by omega) ?_
  refine Ev.step (fun k => by rw [wayfinderlaw20_PlanEnds.j1]) ?_
  refine ev_neg (by simp [flipMsg]; try decide) ?_
  exact ends_l l0 a1 hf l0.length 0 rfl (Nat.zero_le _)

end Go.Proofs.Ytibkmiffibacbaa.Pure
