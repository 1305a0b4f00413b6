/- What was put is there, what was dropped is gone. -/
import Derived.Test.YtkobhleoebgbhaaPureTabE
import Derived.Test.YtkobhleoebgbhaaVZ
namespace Go.Proofs.Ytkobhleoebgbhaa.V
open Go Go.RowKit
set_option linter.unusedVariables false
set_option linter.unusedSimpArgs false
theorem size_app (a b : List Vr) : sizeOf' (a ++ b) = sizeOf' a + sizeOf' b := by simp [sizeOf']
theorem size_cons (v : Vr) (b : List Vr) : sizeOf' (v :: b) = v.2.length + sizeOf' b := by simp [sizeOf']
theorem size_set (t : List Vr) (i : Nat) (h : i < t.length) (a : Int) (ys : List Rl) : sizeOf' (t.set i (a, ys)) + t[i].2.length = sizeOf' t + ys.length := by
  rw [set_at t i h]
  conv => rhs; rw [split_at t i h]
  rw [size_app, size_app, size_cons, size_cons]
  dsimp only
  omega
theorem of_set (t : List Vr) (tag : Int) (h : tagAt t tag < t.length) (ys : List Rl) : of (t.set (tagAt t tag) (t[tagAt t tag].1, ys)) tag = (ys, true) := by
  have e := tagAt_set t tag h ys
  unfold of
  rw [dif_pos (by rw [e, List.length_set]; exact h)]
  simp only [e, List.getElem_set_self]
theorem of_added (t : List Vr) (tag : Int) (r : Rl) (h : ¬ tagAt t tag < t.length) : of (added t tag r) tag = ([r], true) := by
  obtain ⟨e1, e2⟩ := tagAt_added t tag r h
  have hle := aboveAt_le t tag
  unfold of
  rw [dif_pos (by omega)]
  have e4 : (added t tag r)[tagAt (added t tag r) tag]'(by omega) = (tag, [r]) := by
    simp only [e1]
    unfold added
    rw [List.getElem_append_left (by simp; omega), List.getElem_append_right (by rw [List.length_take]; omega)]
    simp
  rw [e4]
theorem put_cases (t : List Vr) (tag : Int) (r : Rl) (n : Int) : put t tag r n = (t, 1) ∨ (put t tag r n = (t, 7) ∧ (sizeOf' t : Int) ≥ n) ∨
    ((put t tag r n).2 = 0 ∧ rmay r = true ∧ (∃ rs, of (put t tag r n).1 tag = (rs, true) ∧ r ∈ rs) ∧ (sizeOf' (put t tag r n).1 = sizeOf' t ∨ (sizeOf' (put t tag r n).1 = sizeOf' t + 1 ∧ (sizeOf' t : Int) < n))) := by
  by_cases ho : okIn tag r = false
  · left; unfold put; rw [if_pos ho]
  · right
    have hm : rmay r = true := by
      have h := ho
      rw [Bool.not_eq_false] at h
      unfold okIn at h
      rw [Bool.and_eq_true] at h
      exact h.1
    by_cases h : tagAt t tag < t.length
    · have hg : alikeAt t[tagAt t tag].2 r < t[tagAt t tag].2.length ∨ (sizeOf' t : Int) < n → put t tag r n = (grown t _ h r, 0) := by
        intro hh
        unfold put
        rw [if_neg ho, dif_pos h]
        by_cases ha : alikeAt t[tagAt t tag].2 r < t[tagAt t tag].2.length
        · rw [if_pos ha]
        · rw [if_neg ha, if_neg (by rcases hh with hh | hh; exact absurd hh ha; omega)]
      by_cases ha : alikeAt t[tagAt t tag].2 r < t[tagAt t tag].2.length
      · right
        rw [hg (.inl ha)]
        have hs := size_set t _ h t[tagAt t tag].1 (t[tagAt t tag].2.set (alikeAt t[tagAt t tag].2 r) r)
        unfold grown
        rw [if_pos ha]
        refine ⟨rfl, hm, ⟨_, of_set t tag h _, List.mem_set ha _⟩, .inl ?_⟩
        rw [List.length_set] at hs
        dsimp only
        omega
      · by_cases hz : (sizeOf' t : Int) ≥ n
        · left
          refine ⟨?_, hz⟩
          unfold put
          rw [if_neg ho, dif_pos h, if_neg ha, if_pos hz]
        · right
          rw [hg (.inr (by omega))]
          have hs := size_set t _ h t[tagAt t tag].1 (t[tagAt t tag].2 ++ [r])
          unfold grown
          rw [if_neg ha]
          refine ⟨rfl, hm, ⟨_, of_set t tag h _, by simp⟩, .inr ⟨?_, by omega⟩⟩
          rw [List.length_append, List.length_singleton] at hs
          dsimp only
          omega
    · by_cases hz : (sizeOf' t : Int) ≥ n
      · left
        refine ⟨?_, hz⟩
        unfold put
        rw [if_neg ho, dif_neg h, if_pos hz]
      · right
        have : put t tag r n = (added t tag r, 0) := by unfold put; rw [if_neg ho, dif_neg h, if_neg hz]
        rw [this]
        refine ⟨rfl, hm, ⟨_, of_added t tag r h, by simp⟩, .inr ⟨?_, by omega⟩⟩
        unfold added
        conv => rhs; rw [← List.take_append_drop (aboveAt t tag) t]
        rw [size_app, size_app, size_app, size_cons]
        simp [sizeOf']
        omega
theorem of_gone (t : List Vr) (tag : Int) (hd : Distinct t) : of (drop t tag) tag = ([], false) := by
  have h := tagAt_none _ tag (drop_gone t tag hd)
  unfold of
  rw [dif_neg (by omega)]
theorem P_TableHas (x0 : List Vr) (x1 : Int) (x2 : Rl) (x3 : Int) (_ : Wf (.slice T814c) x0) (_ : Wf (.int .i64) x1) (_ : Wf T1383 x2) (_ : Wf (.int .i64) x3) : ∃ k, f_law09_TableHas.f k x0 x1 x2 x3 = some (true, ()) := by
  refine ⟨1000, ?_⟩
  unfold f_law09_TableHas.f
  rw [awake_k, few_eq 1000 x0 (by omega), Option.bind_some, Option.bind_some, if_neg (by simp)]
  by_cases hf : (decide (x0.length ≤ 20) && x0.all fun v => decide (v.2.length ≤ 60)) = true
  · obtain ⟨f1, f2⟩ := few_of hf
    rw [hf]
    unfold f_law09_TableHas.j1
    rw [if_neg (by simp)]
    have s0 : Sm x0 := .mk' f1 f2 (by omega) (by omega)
    obtain ⟨g1, g2⟩ := put_mem x0 x1 x2 x3 60 f2
    have s1 : Sm (put x0 x1 x2 x3).1 := .mk' (A := 21) (by omega) g2 (by omega) (by omega)
    obtain ⟨d1, d2⟩ := drop_mem x0 x1 60 f2
    have s2 : Sm (drop x0 x1) := .mk' (A := 21) (by omega) d2 (by omega) (by omega)
    have z0 := s0.size
    have z1 := s1.size
    have hl1 : ∀ rs b, of (put x0 x1 x2 x3).1 x1 = (rs, b) → rs.length < 1000 := by
      intro rs b h
      unfold of at h
      split at h
      · injection h with h1 h2
        rw [← h1]
        exact s1.2 _ (List.getElem_mem _)
      · injection h with h1 h2
        rw [← h1]; simp
    have hend : Distinct x0 → ∀ m, f_law09_TableHas.l2 1000 (m + 1) x0 x1 x3 (x0.length : Int) x2 = some (true, ()) := by
      intro hd m
      simp only [f_law09_TableHas.l2, f_law09_TableHas.b2]
      rw [if_neg (by (first | omega | (dsimp only [Ty.T]; omega) | (simp only [decide_eq_true_eq, decide_eq_false_iff_not, Bool.not_eq_true, Ty.T]; omega) | (simp only [decide_eq_true_eq, decide_eq_false_iff_not, Ty.T]; omega) | (simp only [beq_iff_eq, bne_iff_ne, ne_eq, decide_eq_true_eq, Ty.T]; omega))), put_eq 1000 x0 x1 x2 x3 (by omega) s0, Option.bind_some, drop_eq 1000 x0 x1 (by omega) s0, Option.bind_some, of_eq 1000 _ x1 (by omega) s2, Option.bind_some, of_gone x0 x1 hd]
      dsimp only
      rw [if_neg (by simp), size_eq 1000 _ (by have := s1.1; omega) (by have := s1.1; omega) z1, Option.bind_some, size_eq 1000 _ (by omega) (by omega) z0, Option.bind_some]
      dsimp only
      rcases put_cases x0 x1 x2 x3 with hp | ⟨hp, hz⟩ | ⟨hc, hm, ⟨rs, hof, hmem⟩, hsz⟩
      · rw [hp]
        dsimp only
        rw [if_pos (by rfl), same09 1000 _ _ (by omega) s0 (fun _ => s0), Option.bind_some, if_pos (by simp), Int.sub_self, if_pos (by rfl), if_pos (by rfl)]
      · rw [hp]
        dsimp only
        rw [if_pos (by rfl), same09 1000 _ _ (by omega) s0 (fun _ => s0), Option.bind_some, if_pos (by simp), Int.sub_self, if_pos (by rfl), if_neg (by decide), if_pos (by rfl), Option.bind_some, decide_eq_true (by (first | omega | (dsimp only [Ty.T]; omega) | (simp only [decide_eq_true_eq, decide_eq_false_iff_not, Bool.not_eq_true, Ty.T]; omega) | (simp only [decide_eq_true_eq, decide_eq_false_iff_not, Ty.T]; omega) | (simp only [beq_iff_eq, bne_iff_ne, ne_eq, decide_eq_true_eq, Ty.T]; omega)))]
      · have hrl := hl1 _ _ hof
        rw [hc, if_neg (by decide), of_eq 1000 _ x1 (by omega) s1, Option.bind_some, hof]
        dsimp only
        have hw : IntKind.i64.wrap ((sizeOf' (put x0 x1 x2 x3).1 : Int) - (sizeOf' x0 : Int)) = (sizeOf' (put x0 x1 x2 x3).1 : Int) - (sizeOf' x0 : Int) := IntWalk.i64_in _ (by omega)
        rw [hw]
        refine loop (fun m i => f_law09_TableHas.l4 1000 m x3 (put x0 x1 x2 x3).1 ((sizeOf' (put x0 x1 x2 x3).1 : Int) - (sizeOf' x0 : Int)) rs true ((rs.take i).any fun y => eqr y x2) (i : Int) x2) rs.length _ (fun m i hi => ?_) (fun m => ?_) 1000 (by omega)
        · simp only [f_law09_TableHas.l4, f_law09_TableHas.b4, f_law09_TableHas.j5]
          have ht : (rs.take (i + 1)).any (fun y => eqr y x2) = ((rs.take i).any (fun y => eqr y x2) || eqr rs[i] x2) := by
            rw [List.take_succ_eq_append_getElem hi, List.any_append]
            simp
          rw [if_pos (by (first | omega | (dsimp only [Ty.T]; omega) | (simp only [decide_eq_true_eq, decide_eq_false_iff_not, Bool.not_eq_true, Ty.T]; omega) | (simp only [decide_eq_true_eq, decide_eq_false_iff_not, Ty.T]; omega) | (simp only [beq_iff_eq, bne_iff_ne, ne_eq, decide_eq_true_eq, Ty.T]; omega))), wsucc i (by omega), ht]
          by_cases hb : ((rs.take i).any fun y => eqr y x2) = true
          · rw [if_pos hb, hb, Bool.true_or]
          · rw [if_neg hb, if_pos (by omega), if_pos (by omega), att_n rs i hi, Bool.eq_false_iff.2 hb, Bool.false_or]
            rfl
        · simp only [f_law09_TableHas.l4, f_law09_TableHas.b4, f_law09_TableHas.j5]
          have hany : (rs.take rs.length).any (fun y => eqr y x2) = true := by
            rw [List.take_length, List.any_eq_true]
            exact ⟨x2, hmem, (eqr_iff _ _).2 rfl⟩
          rw [if_neg (by (first | omega | (dsimp only [Ty.T]; omega) | (simp only [decide_eq_true_eq, decide_eq_false_iff_not, Bool.not_eq_true, Ty.T]; omega) | (simp only [decide_eq_true_eq, decide_eq_false_iff_not, Ty.T]; omega) | (simp only [beq_iff_eq, bne_iff_ne, ne_eq, decide_eq_true_eq, Ty.T]; omega))), hany]
          simp only [if_true]
          rw [rmay_eq, hm]
          rcases hsz with hsz | ⟨hsz, hlt⟩
          · rw [if_pos (by rw [hsz]; simp)]; rfl
          · rw [if_neg (by (first | omega | (dsimp only [Ty.T]; omega) | (simp only [decide_eq_true_eq, decide_eq_false_iff_not, Bool.not_eq_true, Ty.T]; omega) | (simp only [decide_eq_true_eq, decide_eq_false_iff_not, Ty.T]; omega) | (simp only [beq_iff_eq, bne_iff_ne, ne_eq, decide_eq_true_eq, Ty.T]; omega))), if_pos (by (first | omega | (dsimp only [Ty.T]; omega) | (simp only [decide_eq_true_eq, decide_eq_false_iff_not, Bool.not_eq_true, Ty.T]; omega) | (simp only [decide_eq_true_eq, decide_eq_false_iff_not, Ty.T]; omega) | (simp only [beq_iff_eq, bne_iff_ne, ne_eq, decide_eq_true_eq, Ty.T]; omega))), Option.bind_some, if_pos rfl, size_eq 1000 _ (by have := s1.1; omega) (by have := s1.1; omega) z1, Option.bind_some, decide_eq_true (by (first | omega | (dsimp only [Ty.T]; omega) | (simp only [decide_eq_true_eq, decide_eq_false_iff_not, Bool.not_eq_true, Ty.T]; omega) | (simp only [decide_eq_true_eq, decide_eq_false_iff_not, Ty.T]; omega) | (simp only [beq_iff_eq, bne_iff_ne, ne_eq, decide_eq_true_eq, Ty.T]; omega)))]
    have hin : ∀ m i, i < x0.length → ((∀ j, j < i → ∀ hi : i < x0.length, ∀ hj : j < x0.length, x0[i].1 ≠ x0[j].1) ∧ f_law09_TableHas.l2 1000 (m + 1) x0 x1 x3 (i : Int) x2 = f_law09_TableHas.l2 1000 m x0 x1 x3 ((i + 1 : Nat) : Int) x2) ∨ f_law09_TableHas.l2 1000 (m + 1) x0 x1 x3 (i : Int) x2 = some (true, ()) := by
      intro m i hi
      simp only [f_law09_TableHas.l2, f_law09_TableHas.b2]
      rw [if_pos (by (first | omega | (dsimp only [Ty.T]; omega) | (simp only [decide_eq_true_eq, decide_eq_false_iff_not, Bool.not_eq_true, Ty.T]; omega) | (simp only [decide_eq_true_eq, decide_eq_false_iff_not, Ty.T]; omega) | (simp only [beq_iff_eq, bne_iff_ne, ne_eq, decide_eq_true_eq, Ty.T]; omega)))]
      rcases loop_or (fun q j => f_law09_TableHas.l3 (f_law09_TableHas.l2 1000 m) 1000 q x0 x1 x3 (i : Int) (j : Int) x2) i (fun j => ∀ hi : i < x0.length, ∀ hj : j < x0.length, x0[i].1 ≠ x0[j].1) (f_law09_TableHas.l2 1000 m x0 x1 x3 ((i + 1 : Nat) : Int) x2) (some (true, ())) (fun q j hj => by
          have hjl : j < x0.length := by omega
          simp only [f_law09_TableHas.l3, f_law09_TableHas.b3]
          rw [if_pos (by (first | omega | (dsimp only [Ty.T]; omega) | (simp only [decide_eq_true_eq, decide_eq_false_iff_not, Bool.not_eq_true, Ty.T]; omega) | (simp only [decide_eq_true_eq, decide_eq_false_iff_not, Ty.T]; omega) | (simp only [beq_iff_eq, bne_iff_ne, ne_eq, decide_eq_true_eq, Ty.T]; omega))), if_pos (by omega), if_pos (by omega), if_pos (by omega), if_pos (by omega), att_n x0 i hi, att_n x0 j hjl, wsucc j (by omega)]
          by_cases he : x0[i].1 = x0[j].1
          · exact .inr (if_pos (beq_iff_eq.2 he))
          · exact .inl ⟨fun _ _ => he, if_neg (by simpa using he)⟩) (fun _ q => by
          simp only [f_law09_TableHas.l3, f_law09_TableHas.b3]
          rw [if_neg (by (first | omega | (dsimp only [Ty.T]; omega) | (simp only [decide_eq_true_eq, decide_eq_false_iff_not, Bool.not_eq_true, Ty.T]; omega) | (simp only [decide_eq_true_eq, decide_eq_false_iff_not, Ty.T]; omega) | (simp only [beq_iff_eq, bne_iff_ne, ne_eq, decide_eq_true_eq, Ty.T]; omega))), wsucc i (by omega)]) 1000 (by omega) with h | h
      · exact .inl h
      · exact .inr h
    rcases loop_or (fun m i => f_law09_TableHas.l2 1000 m x0 x1 x3 (i : Int) x2) x0.length (fun i => ∀ j, j < i → ∀ hi : i < x0.length, ∀ hj : j < x0.length, x0[i].1 ≠ x0[j].1) (some (true, ())) (some (true, ())) (fun m i hi => hin m i hi) (fun hq m => hend (fun i j hji hi hj => hq i hi j hji hi hj) m) 1000 (by omega) with h | h
    · exact h.2
    · exact h
  · rw [Bool.eq_false_iff.2 hf]; rfl
end Go.Proofs.Ytkobhleoebgbhaa.V
