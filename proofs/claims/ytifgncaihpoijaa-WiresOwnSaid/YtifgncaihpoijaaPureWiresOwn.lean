/- The plain law of WiresOwn: the printed function answers true. -/
import Derived.Test.YtifgncaihpoijaaPrint27
import Derived.Test.YtifgncaihpoijaaPureWires
namespace Go.Proofs.Ytifgncaihpoijaa.Pure
open Go.RowKit Go.Proofs.Ytifgncaihpoijaa.Print Go.Proofs.YtifgncaihpoijaaW.PrintWords Go.Proofs.YtifgncaihpoijaaW.PrintLast Go.Proofs.YtifgncaihpoijaaW.PrintMore
set_option linter.unusedVariables false
set_option linter.unusedSimpArgs false

theorem WiresOwn : wayfinderlaw14_WiresOwn.Pure := by
  intro l0 a1_0 a1_1 l1_2 _ _ _ _ _
  apply Ev.rounds
  unfold wayfinderlaw14_WiresOwn.f
  refine ev_bindc awake14 (ev_bind (few_ev l0) (ev_pos rfl ?_))
  refine ev_ite (fun hf => ?_) (fun _ => Ev.step (fun k => by rw [wayfinderlaw14_WiresOwn.j0]) (ev_pos rfl (Ev.now _)))
  have hf : few l0 := of_decide_eq_true hf
  refine ev_ite (fun _ => Ev.step (fun k => by rw [wayfinderlaw14_WiresOwn.j0]) (ev_pos rfl (Ev.now _))) (fun h0 => ?_)
  refine Ev.step (fun k => by rw [wayfinderlaw14_WiresOwn.j0]) ?_
  refine ev_ite (fun _ => Ev.now _) (fun h1 => ?_)
  have h1 : l1_2.length ≤ 300 := by
    simp at h1
    omega
  have hl := hf.1
  refine ev_pos (by simp; omega) ?_
  refine ev_bindc rfl ?_
  rw [List.nil_append]
  refine ev_pos (by omega) ?_
  refine ev_bindc (send_f (few_small hf) ⟨a1_0, a1_1, l1_2⟩ (by simp; omega)) ?_
  by_cases h6 : 60 ≤ l0.length
  · have e : sendSpec l0 ⟨a1_0, a1_1, l1_2⟩ = (l0, false) := if_pos h6
    rw [e]
    refine ev_neg (by simp) ?_
    refine ev_bind (same_self l0 (by omega)) ?_
    refine ev_pos (by first | rfl | trivial) (ev_eq ?_)
    simp
    omega
  · have e : sendSpec l0 ⟨a1_0, a1_1, l1_2⟩ = (l0 ++ [⟨a1_0, a1_1, l1_2⟩], true) := if_neg h6
    have r : rd_T54 (l0 ++ [⟨a1_0, a1_1, l1_2⟩]) (l0.length : Int) = ⟨a1_0, a1_1, l1_2⟩ := by
      rw [rd_wire (by simp)]
      simp
    rw [e]
    simp only [r]
    refine ev_pos (by first | rfl | trivial) ?_
    refine ev_pos (by rw [wrap_id (by omega) (by omega)]; simp) ?_
    refine ev_pos (by omega) ?_
    refine ev_pos (by omega) ?_
    refine ev_pos (by simp; omega) ?_
    refine ev_pos (by first | rfl | trivial) ?_
    refine ev_pos (by omega) (ev_eq ?_)
    simp

end Go.Proofs.Ytifgncaihpoijaa.Pure
