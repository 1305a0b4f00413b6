/- The plain law of SessFirst: the printed function answers true. -/
import Derived.Test.YtibkmiffibacbaaPrint18
import Derived.Test.YtibkmiffibacbaaPureSess
import Derived.Test.YtibkmiffibacbaaPureSessRef
namespace Go.Proofs.Ytibkmiffibacbaa.Pure
open Go.RowKit Go.Proofs.Ytibkmiffibacbaa.Print Go.Proofs.YtibkmiffibacbaaW.PrintWords Go.Proofs.YtibkmiffibacbaaW.PrintLast Go.Proofs.YtibkmiffibacbaaW.PrintMore
set_option linter.unusedVariables false
set_option linter.unusedSimpArgs false

theorem SessFirst : wayfinderlaw15_SessFirst.Pure := by
  intro a0_0 a0_1 l0_2 a1_0 a1_1 a1_2 a1_3 a1_4 a1_5 a1_6 a1_7 a1_8 a1_9 a2 _ wb _ _ _ _ _ _ _ _ _ _ _ _ _
  have wb := int_wf wb
  apply Ev.rounds
  unfold wayfinderlaw15_SessFirst.f
  refine ev_bindc awake15 (ev_pos rfl ?_)
  refine ev_ite (fun _ => Ev.step (fun k => by rw [wayfinderlaw15_SessFirst.j0]) (ev_pos rfl (Ev.now _))) (fun hl => ?_)
  refine ev_ite (fun _ => Ev.step (fun k => by rw [wayfinderlaw15_SessFirst.j0]) (ev_pos rfl (Ev.now _))) (fun hs => ?_)
  refine Ev.step (fun k => by rw [wayfinderlaw15_SessFirst.j0]) ?_
  refine ev_ite (fun _ => Ev.now _) (fun hq => ?_)
  have hq : a2 ≤ (l0_2.length : Int) := by simpa using hq
  have hl2 : l0_2.length < 1000000 := by omega
  have hp := push_f (a := a0_0) hl2 wb.1 (⟨a1_0, a1_1, a1_2, a1_3, ⟨⟨a1_4, a1_5⟩, a1_6, a1_7, ⟨a1_8, a1_9⟩⟩⟩ : SQ)
  have h1 := push_len a0_0 a0_1 l0_2 (⟨a1_0, a1_1, a1_2, a1_3, ⟨⟨a1_4, a1_5⟩, a1_6, a1_7, ⟨a1_8, a1_9⟩⟩⟩ : SQ)
  have e1 : firstSpec l0_2 a2 = l0_2.take a2.toNat := by
    unfold firstSpec
    congr 1
    unfold mn mx
    split <;> split <;> omega
  have e2 : firstSpec (pushSpec a0_0 a0_1 l0_2 (⟨a1_0, a1_1, a1_2, a1_3, ⟨⟨a1_4, a1_5⟩, a1_6, a1_7, ⟨a1_8, a1_9⟩⟩⟩ : SQ)).2.2.1 a2 = l0_2.take a2.toNat := by
    have : (mn (mx a2 0) ((pushSpec a0_0 a0_1 l0_2 (⟨a1_0, a1_1, a1_2, a1_3, ⟨⟨a1_4, a1_5⟩, a1_6, a1_7, ⟨a1_8, a1_9⟩⟩⟩ : SQ)).2.2.1.length : Int)).toNat = a2.toNat := by
      have : l0_2.length ≤ (pushSpec a0_0 a0_1 l0_2 (⟨a1_0, a1_1, a1_2, a1_3, ⟨⟨a1_4, a1_5⟩, a1_6, a1_7, ⟨a1_8, a1_9⟩⟩⟩ : SQ)).2.2.1.length := by unfold pushSpec; split <;> simp
      unfold mn mx
      split <;> split <;> omega
    unfold firstSpec
    rw [this]
    unfold pushSpec
    split
    · rfl
    · simp only
      rw [List.take_append_of_le_length (by omega)]
  have e3 : (l0_2.take a2.toNat).length ≤ l0_2.length := by rw [List.length_take]; exact Nat.min_le_right _ _
  refine ev_bindc (first_f hl2 a2) (ev_bindc hp ?_)
  refine ev_pos (by omega) (ev_pos hq ?_)
  rw [e1]
  refine ev_bind (msgs_self _ (by omega)) ?_
  refine ev_bindc (first_f (by omega) a2) ?_
  rw [e2]
  refine ev_bind (msgs_self _ (by omega)) ?_
  exact ev_pos rfl (Ev.now _)

end Go.Proofs.Ytibkmiffibacbaa.Pure
