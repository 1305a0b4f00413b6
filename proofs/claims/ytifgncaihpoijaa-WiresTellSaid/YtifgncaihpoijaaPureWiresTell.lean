/- The plain law of WiresTell: the printed function answers true. -/
import Derived.Test.YtifgncaihpoijaaPrint25
import Derived.Test.YtifgncaihpoijaaPureWires
namespace Go.Proofs.Ytifgncaihpoijaa.Pure
open Go.RowKit Go.Proofs.Ytifgncaihpoijaa.Print Go.Proofs.YtifgncaihpoijaaW.PrintWords Go.Proofs.YtifgncaihpoijaaW.PrintLast Go.Proofs.YtifgncaihpoijaaW.PrintMore
set_option linter.unusedVariables false
set_option linter.unusedSimpArgs false

theorem WiresTell : wayfinderlaw14_WiresTell.Pure := by
  intro l0 a1_0 a1_1 l1_2 a2 a3 _ _ _ _ _ _ _
  apply Ev.rounds
  unfold wayfinderlaw14_WiresTell.f
  refine ev_bindc awake14 (ev_bind (few_ev l0) (ev_pos rfl ?_))
  refine ev_ite (fun hf => ?_) (fun _ => Ev.step (fun k => by rw [wayfinderlaw14_WiresTell.j0]) (ev_pos rfl (Ev.now _)))
  have hf : few l0 := of_decide_eq_true hf
  refine Ev.step (fun k => by rw [wayfinderlaw14_WiresTell.j0]) ?_
  refine ev_ite (fun _ => Ev.now _) (fun h1 => ?_)
  have h1 : l1_2.length ≤ 300 := by
    simp at h1
    omega
  have hl : l0.length < 1000000 := by have := hf.1; omega
  refine ev_bindc (send_f (few_small hf) ⟨a1_0, a1_1, l1_2⟩ (by simp; omega)) ?_
  refine ev_bindc (refSend l0 ⟨a1_0, a1_1, l1_2⟩ hl) ?_
  refine ev_bind (same_self _ (by have := (send_small hf ⟨a1_0, a1_1, l1_2⟩ h1).1; omega)) ?_
  refine ev_bindc (fate_f (few_small hf) a2 a3) ?_
  refine ev_bind (refFate l0 a2 a3 hl) ?_
  refine ev_bind (same_self _ ?_) ?_
  · unfold fateSpec
    have := List.length_eraseIdx_le l0 a2.toNat
    split
    · split
      · simp; omega
      · split
        · simp; omega
        · simp; omega
    · simp; omega
  refine ev_bindc (one_self ⟨(fateSpec l0 a2 a3).2.1, (fateSpec l0 a2 a3).2.2.1, (fateSpec l0 a2 a3).2.2.2.1⟩) ?_
  refine ev_pos rfl (ev_pos (by simp) (ev_pos rfl (ev_pos rfl (ev_eq (by simp)))))

end Go.Proofs.Ytifgncaihpoijaa.Pure
