/- The plain law of WiresTwice: the printed function answers true. -/
import Derived.Test.YtifgncaihpoijaaPrint29
import Derived.Test.YtifgncaihpoijaaPureWires
namespace Go.Proofs.Ytifgncaihpoijaa.Pure
open Go.RowKit Go.Proofs.Ytifgncaihpoijaa.Print Go.Proofs.YtifgncaihpoijaaW.PrintWords Go.Proofs.YtifgncaihpoijaaW.PrintLast Go.Proofs.YtifgncaihpoijaaW.PrintMore
set_option linter.unusedVariables false
set_option linter.unusedSimpArgs false

theorem WiresTwice : wayfinderlaw14_WiresTwice.Pure := by
  intro l0 a1 _ _ _
  apply Ev.rounds
  unfold wayfinderlaw14_WiresTwice.f
  refine ev_bindc awake14 (ev_bind (few_ev l0) (ev_pos rfl ?_))
  refine ev_ite (fun hf => ?_) (fun _ => Ev.step (fun k => by rw [wayfinderlaw14_WiresTwice.j0]) (ev_pos rfl (Ev.now _)))
  have hf : few l0 := of_decide_eq_true hf
  refine ev_ite (fun _ => Ev.step (fun k => by rw [wayfinderlaw14_WiresTwice.j0]) (ev_pos rfl (Ev.now _))) (fun h0 => ?_)
  refine Ev.step (fun k => by rw [wayfinderlaw14_WiresTwice.j0]) ?_
  refine ev_ite (fun _ => Ev.now _) (fun h1 => ?_)
  have h1 : a1 < l0.length := by simpa using h1
  have hl := hf.1
  obtain ⟨i, rfl⟩ := Int.eq_ofNat_of_zero_le (Int.not_lt.1 h0)
  have hi : i < l0.length := by omega
  have e2 : fateSpec l0 (i : Int) 2 = (l0, (rd_T54 l0 i).f0, (rd_T54 l0 i).f1, (rd_T54 l0 i).f2, true) := by
    unfold fateSpec
    rw [if_pos ⟨by omega, h1, by omega, by omega⟩]
    rfl
  have e0 : fateSpec l0 (i : Int) 0 = (l0.eraseIdx i, (rd_T54 l0 i).f0, (rd_T54 l0 i).f1, (rd_T54 l0 i).f2, true) := by
    unfold fateSpec
    rw [if_pos ⟨by omega, h1, by omega, by omega⟩]
    rfl
  have e1 : fateSpec l0 (i : Int) 1 = (l0.eraseIdx i, 0, false, [], false) := by
    unfold fateSpec
    rw [if_pos ⟨by omega, h1, by omega, by omega⟩]
    rfl
  have he : (l0.eraseIdx i).length = l0.length - 1 := by rw [List.length_eraseIdx, if_pos hi]
  refine ev_bindc (fate_f (few_small hf) (i : Int) 2) ?_
  rw [e2]
  refine ev_bindc (fate_f (few_small hf) (i : Int) 0) ?_
  rw [e0]
  refine ev_bindc (fate_f (few_small hf) (i : Int) 1) ?_
  rw [e1]
  refine ev_bindc (one_self (rd_T54 l0 i)) ?_
  refine ev_bind (same_self (l0.eraseIdx i) (by omega)) ?_
  refine ev_pos rfl (ev_pos rfl (ev_neg (by simp) (ev_pos rfl (ev_pos rfl (ev_eq ?_)))))
  rw [wrap_id (by omega) (by omega)]
  simp only [he, beq_iff_eq]
  omega

end Go.Proofs.Ytifgncaihpoijaa.Pure
