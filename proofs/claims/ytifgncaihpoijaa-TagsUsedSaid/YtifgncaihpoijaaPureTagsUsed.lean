/- The plain law of TagsUsed: the printed function answers true. -/
import Derived.Test.YtifgncaihpoijaaPrint16
import Derived.Test.YtifgncaihpoijaaPureTags
namespace Go.Proofs.Ytifgncaihpoijaa.Pure
open Go.RowKit Go.Proofs.Ytifgncaihpoijaa.Print Go.Proofs.YtifgncaihpoijaaW.PrintWords Go.Proofs.YtifgncaihpoijaaW.PrintLast Go.Proofs.YtifgncaihpoijaaW.PrintMore
set_option linter.unusedVariables false
set_option linter.unusedSimpArgs false

theorem TagsUsed : wayfinderlaw16_TagsUsed.Pure := by
  intro a0 l1 a2 _ _ _ _
  apply Ev.rounds
  unfold wayfinderlaw16_TagsUsed.f
  refine ev_bindc awake16 (ev_pos rfl ?_)
  refine ev_ite (fun hc => ?_) (fun hl => ev_ite (fun hc => ?_) (fun h0 => ?_))
  · exact Ev.step (fun k => by rw [wayfinderlaw16_TagsUsed.j0]) (ev_pos rfl (Ev.now _))
  · exact Ev.step (fun k => by rw [wayfinderlaw16_TagsUsed.j0]) (ev_pos rfl (Ev.now _))
  · refine Ev.step (fun k => by rw [wayfinderlaw16_TagsUsed.j0]) ?_
    refine ev_ite (fun _ => Ev.now _) (fun h1 => ?_)
    have h1 : a0 ≤ 4095 := by simpa using h1
    refine ev_bindc (next_f _ _ (by omega)) ?_
    refine ev_pos (by simp; omega) (ev_bindc rfl ?_)
    refine ev_pos (by simp; omega) (ev_bindc (next_f _ _ (by simp; omega)) ?_)
    refine ev_eq ?_
    simp only [List.nil_append]
    obtain ⟨m, hm, he, hn, hj⟩ := next_tells a0 l1 (by omega)
    obtain ⟨q, hq, he2, hn2, hj2⟩ := next_tells a0 (l1 ++ [a2]) (by simp; omega)
    rw [he, he2]
    by_cases e : candN (frOf a0) m = a2
    · have hne : ¬ candN (frOf a0) m = candN (frOf a0) q := by
        intro hc
        apply hn2
        rw [← hc, e]
        simp
      simp [e, hne]
      intro h
      exact hne (e.trans h)
    · have hmq : m = q := by
        rcases Nat.lt_trichotomy m q with h | h | h
        · have := hj2 m h
          simp only [List.mem_append, List.mem_singleton] at this hn
          rcases this with (h3 | h3) | h3
          · exact absurd (.inl h3) hn
          · exact absurd h3 e
          · exact absurd (.inr h3) hn
        · exact h
        · have := hj q h
          simp only [List.mem_append, List.mem_singleton] at this hn2
          rcases this with h3 | h3
          · exact absurd (.inl (.inl h3)) hn2
          · exact absurd (.inr h3) hn2
      subst hmq
      simp [e]

end Go.Proofs.Ytifgncaihpoijaa.Pure
