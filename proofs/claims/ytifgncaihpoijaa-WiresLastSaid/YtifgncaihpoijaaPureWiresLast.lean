/- The plain law of WiresLast: the printed function answers true. -/
import Derived.Test.YtifgncaihpoijaaPrint28
import Derived.Test.YtifgncaihpoijaaPureWires
namespace Go.Proofs.Ytifgncaihpoijaa.Pure
open Go.RowKit Go.Proofs.Ytifgncaihpoijaa.Print Go.Proofs.YtifgncaihpoijaaW.PrintWords Go.Proofs.YtifgncaihpoijaaW.PrintLast Go.Proofs.YtifgncaihpoijaaW.PrintMore
set_option linter.unusedVariables false
set_option linter.unusedSimpArgs false

theorem WiresLast : wayfinderlaw14_WiresLast.Pure := by
  intro l0 a1_0 a1_1 l1_2 _ _ _ _ _
  apply Ev.rounds
  unfold wayfinderlaw14_WiresLast.f
  refine ev_bindc awake14 (ev_bind (few_ev l0) (ev_pos rfl ?_))
  refine ev_ite (fun hf => ?_) (fun _ => Ev.step (fun k => by rw [wayfinderlaw14_WiresLast.j0]) (ev_pos rfl (Ev.now _)))
  have hf : few l0 := of_decide_eq_true hf
  refine ev_ite (fun _ => Ev.step (fun k => by rw [wayfinderlaw14_WiresLast.j0]) (ev_pos rfl (Ev.now _))) (fun h0 => ?_)
  refine Ev.step (fun k => by rw [wayfinderlaw14_WiresLast.j0]) ?_
  refine ev_ite (fun _ => Ev.now _) (fun h1 => ?_)
  have h1 : l1_2.length ≤ 300 := by
    simp at h1
    omega
  have hl := hf.1
  have hs := send_small hf ⟨a1_0, a1_1, l1_2⟩ h1
  refine ev_bindc (send_f (few_small hf) ⟨a1_0, a1_1, l1_2⟩ (by simp; omega)) ?_
  have e : sendSpec l0 ⟨a1_0, a1_1, l1_2⟩ = (l0 ++ [⟨a1_0, a1_1, l1_2⟩], true) := if_neg (by omega)
  rw [e] at hs ⊢
  refine ev_bindc (fate_f hs (l0.length : Int) 0) ?_
  have r : rd_T54 (l0 ++ [⟨a1_0, a1_1, l1_2⟩]) (l0.length : Int) = ⟨a1_0, a1_1, l1_2⟩ := by
    rw [rd_wire (by simp)]
    simp
  have ef : fateSpec (l0 ++ [⟨a1_0, a1_1, l1_2⟩]) (l0.length : Int) 0 = (l0, a1_0, a1_1, l1_2, true) := by
    unfold fateSpec
    rw [if_pos ⟨by omega, by simp; omega, by omega, by omega⟩, if_pos rfl, r]
    rw [Int.toNat_natCast, List.eraseIdx_append_of_length_le (Nat.le_refl _)]
    simp
  rw [ef]
  refine ev_bind (same_self l0 (by omega)) ?_
  refine ev_bindc (one_self ⟨a1_0, a1_1, l1_2⟩) ?_
  exact ev_pos rfl (ev_pos rfl (ev_pos rfl (Ev.now _)))

end Go.Proofs.Ytifgncaihpoijaa.Pure
