/- The plain law of SessTells: the printed function answers true. -/
import Derived.Test.YtibkmiffibacbaaPrint16
import Derived.Test.YtibkmiffibacbaaPureSess
import Derived.Test.YtibkmiffibacbaaPureSessRef
namespace Go.Proofs.Ytibkmiffibacbaa.Pure
open Go.RowKit Go.Proofs.Ytibkmiffibacbaa.Print Go.Proofs.YtibkmiffibacbaaW.PrintWords Go.Proofs.YtibkmiffibacbaaW.PrintLast Go.Proofs.YtibkmiffibacbaaW.PrintMore
set_option linter.unusedVariables false
set_option linter.unusedSimpArgs false

theorem SessTells : wayfinderlaw15_SessTells.Pure := by
  intro a0_0 a0_1 l0_2 a1_0 a1_1 a1_2 a1_3 a1_4 a1_5 a1_6 a1_7 a1_8 a1_9 a2 a3 a4 _ wb _ _ _ _ wq _ _ _ _ _ _ _ _ ws _
  have ws := int_wf ws
  have wb := int_wf wb
  have wq := int_wf wq
  apply Ev.rounds
  unfold wayfinderlaw15_SessTells.f
  refine ev_bindc awake15 (ev_pos rfl ?_)
  refine ev_ite (fun _ => Ev.step (fun k => by rw [wayfinderlaw15_SessTells.j0]) (ev_pos rfl (Ev.now _))) (fun hl => ?_)
  refine ev_ite (fun _ => Ev.step (fun k => by rw [wayfinderlaw15_SessTells.j0]) (ev_pos rfl (Ev.now _))) (fun hs => ?_)
  refine Ev.step (fun k => by rw [wayfinderlaw15_SessTells.j0]) ?_
  refine ev_ite (fun _ => Ev.now _) (fun hq => ?_)
  have hq : -1099511627776 ≤ a1_2 := by simpa using hq
  have hl2 : l0_2.length < 1000000 := by omega
  have hp := push_f (a := a0_0) hl2 wb.1 (⟨a1_0, a1_1, a1_2, a1_3, ⟨⟨a1_4, a1_5⟩, a1_6, a1_7, ⟨a1_8, a1_9⟩⟩⟩ : SQ)
  have hr := refPush_f (a := a0_0) hl2 wb.1 (⟨a1_0, a1_1, a1_2, a1_3, ⟨⟨a1_4, a1_5⟩, a1_6, a1_7, ⟨a1_8, a1_9⟩⟩⟩ : SQ)
  have h1 := push_len a0_0 a0_1 l0_2 (⟨a1_0, a1_1, a1_2, a1_3, ⟨⟨a1_4, a1_5⟩, a1_6, a1_7, ⟨a1_8, a1_9⟩⟩⟩ : SQ)
  have h2 := done_len a0_0 a0_1 l0_2 a2 a3
  have h3 := first_len l0_2 a4
  refine ev_bindc hp (ev_bindc hr ?_)
  refine ev_bind (same15 _ _ _ (by omega)) ?_
  refine ev_bindc (done_f hl2 a2 a3) (ev_bind (refDone_ev hl2 a2 a3) (ev_bind (same15 _ _ _ (by omega)) ?_))
  refine ev_bindc (first_f hl2 a4) (ev_bind (refFirst_ev hl2 a4) (ev_bind (msgs_self _ (by omega)) ?_))
  refine ev_bindc rfl (ev_bindc rfl (ev_bind (same15 _ _ _ (by simp)) ?_))
  refine ev_pos rfl (ev_pos rfl (ev_pos rfl (ev_pos rfl (ev_pos rfl ?_))))
  unfold sess_Take.f wayfinderref15_Take.f
  rw [wrap_id (x := a1_2 - 1) (by omega) (by omega), ]
  by_cases c1 : a1_1 = a2
  · rw [if_pos c1, if_pos c1]
    by_cases c2 : a1_2 ≤ a3
    · rw [if_pos c2, if_pos c2]
      exact ev_eq rfl
    · rw [if_neg c2, if_neg c2, wrap_id (x := a3 + 1) (by omega) (by omega)]
      by_cases c3 : a1_2 - 1 > a3
      · rw [if_pos c3, if_neg (by omega)]
        exact ev_eq rfl
      · rw [if_neg c3, if_pos (by omega)]
        exact ev_eq rfl
  · rw [if_neg c1, if_neg c1]
    exact ev_eq rfl

end Go.Proofs.Ytibkmiffibacbaa.Pure
