/- The plain law of TagsNone: the printed function answers true. -/
import Derived.Test.YtifgncaihpoijaaPrint16
import Derived.Test.YtifgncaihpoijaaPureTags
namespace Go.Proofs.Ytifgncaihpoijaa.Pure
open Go.RowKit Go.Proofs.Ytifgncaihpoijaa.Print Go.Proofs.YtifgncaihpoijaaW.PrintWords Go.Proofs.YtifgncaihpoijaaW.PrintLast Go.Proofs.YtifgncaihpoijaaW.PrintMore
set_option linter.unusedVariables false
set_option linter.unusedSimpArgs false

theorem of_in (l : List S47) (t : Int) : (∃ g ∈ l, g.f0 = t ∧ ofSpec l t = g.f1) ∨ ((∀ g ∈ l, g.f0 ≠ t) ∧ ofSpec l t = -1) := by
  unfold ofSpec
  cases h : l.reverse.find? (fun g => g.f0 == t) with
  | none =>
    right
    rw [List.find?_eq_none] at h
    exact ⟨fun g hg => by simpa using h g (by simpa using hg), rfl⟩
  | some g =>
    left
    have h1 := List.mem_of_find?_eq_some h
    have h2 := List.find?_some h
    exact ⟨g, by simpa using h1, by simpa using h2, rfl⟩
theorem none_l0 (l : List S47) (t : Int) (hl : l.length ≤ 200) (d : Nat) : ∀ (i : Nat) (a b : Bool), i + d = l.length → (a = true ↔ ∃ j, j < i ∧ ∃ hj : j < l.length, (l[j]).f0 = t) → (b = true ↔ ∃ j, j < i ∧ ∃ hj : j < l.length, (l[j]).f0 = t ∧ (l[j]).f1 = ofSpec l t) →
    (∀ j, j < i → ∀ hj : j < l.length, 0 ≤ (l[j]).f1) → Ev (fun k => wayfinderlaw16_TagsNone.l0 k l t a (ofSpec l t) b (i : Int)) true := by
  induction d with
  | zero =>
    intro i a b hi ha hb hp
    obtain rfl : i = l.length := by omega
    refine Ev.step (fun k => by rw [wayfinderlaw16_TagsNone.l0]) ?_
    refine ev_neg (by omega) ?_
    rcases of_in l t with ⟨g, hg, h1, h2⟩ | ⟨h1, h2⟩
    · obtain ⟨j, hj, rfl⟩ := List.mem_iff_getElem.1 hg
      have hat : a = true := ha.2 ⟨j, hj, hj, h1⟩
      have hbt : b = true := hb.2 ⟨j, hj, hj, h1, h2.symm⟩
      have hp := hp j hj hj
      rw [← h2] at hp
      refine ev_pos (by rw [hat]; simp; omega) (ev_pos hat (ev_eq hbt))
    · have haf : a = false := by
        cases a with
        | false => rfl
        | true =>
          obtain ⟨j, _, hj, e⟩ := ha.1 rfl
          exact absurd e (h1 _ (List.getElem_mem hj))
      refine ev_pos (by rw [haf, h2]; decide) (ev_neg (by rw [haf]; decide) (Ev.now _))
  | succ d ih =>
    intro i a b hi ha hb hp
    have hlt : i < l.length := by omega
    refine Ev.step (fun k => by rw [wayfinderlaw16_TagsNone.l0]) ?_
    have hr : rd_T47 l (i : Int) = l[i] := by simp [rd_T47, hlt]
    rw [hr, wrap_id (by omega) (by omega)]
    refine ev_pos (by omega) (ev_pos (by omega) (ev_ite (fun _ => Ev.now _) (fun hpos => ?_)))
    have next : ∀ a' b' : Bool, (a' = true ↔ a = true ∨ (l[i]).f0 = t) → (b' = true ↔ b = true ∨ (l[i]).f0 = t ∧ (l[i]).f1 = ofSpec l t) → Ev (fun k => wayfinderlaw16_TagsNone.l0 k l t a' (ofSpec l t) b' ((i : Int) + 1)) true := by
      intro a' b' ha' hb'
      have ext : ∀ P : Nat → Prop, (∃ j, j < i + 1 ∧ P j) ↔ (∃ j, j < i ∧ P j) ∨ P i := fun P =>
        ⟨fun ⟨j, hj, h⟩ => by
          by_cases e : j = i
          · right; rw [← e]; exact h
          · exact .inl ⟨j, by omega, h⟩, fun h => h.elim (fun ⟨j, hj, h⟩ => ⟨j, by omega, h⟩) (fun h => ⟨i, by omega, h⟩)⟩
      have := ih (i + 1) a' b' (by omega) (by
        rw [ha', ha, ext]
        exact ⟨fun h => h.imp id (fun h => ⟨hlt, h⟩), fun h => h.imp id (fun ⟨_, h⟩ => h)⟩) (by
        rw [hb', hb, ext]
        exact ⟨fun h => h.imp id (fun h => ⟨hlt, h⟩), fun h => h.imp id (fun ⟨_, h⟩ => h)⟩) (fun j hj hj2 => by
        by_cases e : j = i
        · subst e; omega
        · exact hp j (by omega) hj2)
      exact_mod_cast this
    refine ev_ite (fun hat => ?_) (fun haf => ?_)
    · refine ev_ite (fun hbt => ?_) (fun hbf => ev_ite (fun he => ?_) (fun he => ?_))
      · exact next true true (by simp [hat]) (by simp [hbt])
      · exact next true _ (by simp [hat]) (by simp [hbf, he])
      · exact next true false (by simp [hat]) (by simp [hbf, he])
    · refine ev_ite (fun hbt => ?_) (fun hbf => ev_ite (fun he => ?_) (fun he => ?_))
      · exact next _ true (by simp [haf]) (by simp [hbt])
      · exact next _ _ (by simp [haf]) (by simp [hbf, he])
      · exact next _ false (by simp [haf]) (by simp [hbf, he])
theorem TagsNone : wayfinderlaw16_TagsNone.Pure := by
  intro l0 a1 _ _ _
  apply Ev.rounds
  unfold wayfinderlaw16_TagsNone.f
  refine ev_bindc awake16 (ev_pos rfl ?_)
  refine Ev.step (fun k => by rw [wayfinderlaw16_TagsNone.j0]) ?_
  refine ev_ite (fun _ => Ev.now _) (fun h1 => ?_)
  have h1 : l0.length ≤ 200 := by simp at h1; omega
  refine ev_bindc rfl ?_
  have := none_l0 l0 a1 h1 l0.length 0 false false (by omega) (by simp) (by simp) (fun j hj => by omega)
  exact_mod_cast this

end Go.Proofs.Ytifgncaihpoijaa.Pure
