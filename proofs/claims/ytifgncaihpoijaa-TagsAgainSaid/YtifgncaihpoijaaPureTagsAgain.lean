/- The plain law of TagsAgain: the printed function answers true. -/
import Derived.Test.YtifgncaihpoijaaPrint14
import Derived.Test.YtifgncaihpoijaaPureTags
namespace Go.Proofs.Ytifgncaihpoijaa.Pure
open Go.RowKit Go.Proofs.Ytifgncaihpoijaa.Print Go.Proofs.YtifgncaihpoijaaW.PrintWords Go.Proofs.YtifgncaihpoijaaW.PrintLast Go.Proofs.YtifgncaihpoijaaW.PrintMore
set_option linter.unusedVariables false
set_option linter.unusedSimpArgs false

theorem next_alone (t : Int) (h0 : 1 ≤ t) (h1 : t ≤ 4095) : nextSpec t [] = t % 4095 + 1 := by
  have hc : candN (frOf t) 0 = t % 4095 + 1 := by rw [frOf_tag (by omega) h1]; unfold candN; simp
  rw [nextSpec_found (k := 0) (by decide) (fun j hj => by omega) (by rw [hc]; simp; omega), hc]
theorem again_l0 (tag n : Int) (h0 : 1 ≤ tag) (h1 : tag ≤ 4095) (hn : n ≤ 200) (d : Nat) : ∀ (i : Nat) (t : Int), (i : Int) + d = n → t = (tag + i - 1) % 4095 + 1 →
    Ev (fun k => wayfinderlaw16_TagsAgain.l0 k tag n t (i : Int)) true := by
  induction d with
  | zero =>
    intro i t hi ht
    refine Ev.step (fun k => by rw [wayfinderlaw16_TagsAgain.l0]) ?_
    exact ev_neg (by omega) (Ev.now _)
  | succ d ih =>
    intro i t hi ht
    refine Ev.step (fun k => by rw [wayfinderlaw16_TagsAgain.l0]) ?_
    refine ev_pos (by omega) (ev_bindc (next_f _ _ (by simp)) ?_)
    rw [next_alone t (by omega) (by omega)]
    rw [wrap_id (x := tag + i) (by omega) (by omega), Int.tmod_eq_emod_of_nonneg (by omega), wrap_id (by omega) (by omega), wrap_id (by omega) (by omega)]
    refine ev_pos (by omega) ?_
    have := ih (i + 1) (t % 4095 + 1) (by omega) (by omega)
    rw [show ((i + 1 : Nat) : Int) = (i : Int) + 1 by omega] at this
    exact this
theorem TagsAgain : wayfinderlaw16_TagsAgain.Pure := by
  intro a0 a1 _ _
  apply Ev.rounds
  unfold wayfinderlaw16_TagsAgain.f
  refine ev_bindc awake16 (ev_pos rfl ?_)
  refine ev_ite (fun hc => ?_) (fun h0 => ev_ite (fun hc => ?_) (fun h1 => ev_ite (fun hc => ?_) (fun h2 => ?_)))
  · exact Ev.step (fun k => by rw [wayfinderlaw16_TagsAgain.j0]) (ev_pos rfl (Ev.now _))
  · exact Ev.step (fun k => by rw [wayfinderlaw16_TagsAgain.j0]) (ev_pos rfl (Ev.now _))
  · exact Ev.step (fun k => by rw [wayfinderlaw16_TagsAgain.j0]) (ev_pos rfl (Ev.now _))
  · refine Ev.step (fun k => by rw [wayfinderlaw16_TagsAgain.j0]) ?_
    refine ev_ite (fun _ => Ev.now _) (fun h3 => ?_)
    have h3 : a1 ≤ 200 := by simpa using h3
    have := again_l0 a0 a1 (by omega) (by omega) h3 a1.toNat 0 a0 (by omega) (by omega)
    exact this

end Go.Proofs.Ytifgncaihpoijaa.Pure
