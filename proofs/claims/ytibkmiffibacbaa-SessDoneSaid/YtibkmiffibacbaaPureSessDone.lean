/- The plain law of SessDone: the printed function answers true. -/
import Derived.Test.YtibkmiffibacbaaPrint12
import Derived.Test.YtibkmiffibacbaaPureSess
namespace Go.Proofs.Ytibkmiffibacbaa.Pure
open Go.RowKit Go.Proofs.Ytibkmiffibacbaa.Print Go.Proofs.YtibkmiffibacbaaW.PrintWords Go.Proofs.YtibkmiffibacbaaW.PrintLast Go.Proofs.YtibkmiffibacbaaW.PrintMore
set_option linter.unusedVariables false
set_option linter.unusedSimpArgs false

theorem SessDone : wayfinderlaw15_SessDone.Pure := by
  intro a0_0 a0_1 l0_2 a1 a2 a3 _ _ _ _ _ _ _
  apply Ev.rounds
  unfold wayfinderlaw15_SessDone.f
  refine ev_bindc awake15 (ev_pos rfl ?_)
  refine ev_ite (fun _ => Ev.step (fun k => by rw [wayfinderlaw15_SessDone.j0]) (ev_pos rfl (Ev.now _))) (fun hl => ?_)
  refine Ev.step (fun k => by rw [wayfinderlaw15_SessDone.j0]) ?_
  refine ev_ite (fun _ => Ev.now _) (fun hba => ?_)
  have hba : a2 ≤ a1 := by simpa using hba
  have hl : l0_2.length ≤ 200 := by omega
  have hk : (keepL l0_2 a1).length ≤ 200 := Nat.le_trans (List.length_filter_le _ _) hl
  have h1 : doneSpec a0_0 a0_1 l0_2 a0_0 a1 = (a0_0, a0_1, keepL l0_2 a1) := by simp [doneSpec]
  have hkk : ∀ b, b ≤ a1 → keepL (keepL l0_2 a1) b = keepL l0_2 a1 := by
    intro b hb
    refine List.filter_eq_self.2 (fun x hx => ?_)
    have := (List.mem_filter.1 hx).2
    simp at this ⊢
    omega
  refine ev_bindc (done_f (by omega) a0_0 a1) ?_
  rw [h1]
  refine ev_bindc (done_f (a := a0_0) (b := a0_1) (l := keepL l0_2 a1) (by omega) a0_0 a1) ?_
  have h2 : doneSpec a0_0 a0_1 (keepL l0_2 a1) a0_0 a1 = (a0_0, a0_1, keepL l0_2 a1) := by simp [doneSpec, hkk a1 (Int.le_refl _)]
  rw [h2]
  refine ev_bind (same15 a0_0 a0_1 (keepL l0_2 a1) (by omega)) ?_
  refine ev_bindc (done_f (a := a0_0) (b := a0_1) (l := keepL l0_2 a1) (by omega) a0_0 a2) ?_
  have h3 : doneSpec a0_0 a0_1 (keepL l0_2 a1) a0_0 a2 = (a0_0, a0_1, keepL l0_2 a1) := by simp [doneSpec, hkk a2 hba]
  rw [h3]
  refine ev_bind (same15 a0_0 a0_1 (keepL l0_2 a1) (by omega)) ?_
  refine ev_ite (fun he => ev_pos rfl (ev_pos rfl (ev_eq (by simp [he])))) (fun he => ?_)
  refine ev_bindc (done_f (by omega) a3 a1) ?_
  have h4 : doneSpec a0_0 a0_1 l0_2 a3 a1 = (a0_0, a0_1, l0_2) := by simp [doneSpec, he]
  rw [h4]
  refine ev_bind (same15 a0_0 a0_1 l0_2 (by omega)) ?_
  exact ev_pos rfl (ev_pos rfl (Ev.now _))

end Go.Proofs.Ytibkmiffibacbaa.Pure
