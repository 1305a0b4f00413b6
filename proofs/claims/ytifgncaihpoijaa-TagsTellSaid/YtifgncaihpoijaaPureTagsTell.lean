/- The plain law of TagsTell: the printed function answers true. -/
import Derived.Test.YtifgncaihpoijaaPrint12
import Derived.Test.YtifgncaihpoijaaPureTags
namespace Go.Proofs.Ytifgncaihpoijaa.Pure
open Go.RowKit Go.Proofs.Ytifgncaihpoijaa.Print Go.Proofs.YtifgncaihpoijaaW.PrintWords Go.Proofs.YtifgncaihpoijaaW.PrintLast Go.Proofs.YtifgncaihpoijaaW.PrintMore
set_option linter.unusedVariables false
set_option linter.unusedSimpArgs false

theorem in16 (l : List Int) (n : Int) (hl : l.length ≤ 5000) : Ev (fun k => wayfinderref16_in.f k l n) (decide (n ∈ l)) := by
  have key : ∀ (d i : Nat), i + d = l.length → (∀ j, j < i → ∀ hj : j < l.length, l[j] ≠ n) → Ev (fun k => wayfinderref16_in.l0 k l n (i : Int)) (decide (n ∈ l)) := by
    intro d
    induction d with
    | zero =>
      intro i hi hb
      refine Ev.step (fun k => by rw [wayfinderref16_in.l0]) ?_
      refine ev_neg (by omega) (ev_eq ?_)
      symm
      rw [decide_eq_false_iff_not]
      intro hm
      obtain ⟨j, hj, e⟩ := List.mem_iff_getElem.1 hm
      exact hb j (by omega) hj e
    | succ d ih =>
      intro i hi hb
      refine Ev.step (fun k => by rw [wayfinderref16_in.l0]) ?_
      refine ev_pos (by omega) (ev_pos (by omega) (ev_ite (fun hc => ev_eq ?_) (fun hc => ?_)))
      · rw [rd_nat _ _ (by omega)] at hc
        symm
        rw [decide_eq_true_eq, ← hc]
        exact List.getElem_mem _
      · rw [rd_nat _ _ (by omega)] at hc
        rw [wrap_id (by omega) (by omega)]
        have := ih (i + 1) (by omega) (fun j hj hj2 => by
          by_cases e : j = i
          · subst e; exact hc
          · exact hb j (by omega) hj2)
        exact_mod_cast this
  have := key l.length 0 (by omega) (fun j hj => by omega)
  unfold wayfinderref16_in.f
  exact_mod_cast this
theorem ref_next (tag : Int) (l : List Int) (hl : l.length ≤ 5000) (hw : -9223372036854775808 ≤ tag ∧ tag ≤ 9223372036854775807) : Ev (fun k => wayfinderref16_Next.f k tag l) (nextSpec tag l) := by
  have hfr := frOf_range tag
  have key : ∀ (d i : Nat) (t : Int), i + d = 4095 → (i = 0 ∧ t = tag ∨ ∃ j, i = j + 1 ∧ t = candN (frOf tag) j) → (∀ j, j < i → candN (frOf tag) j ∈ l ++ [tag]) →
      Ev (fun k => wayfinderref16_Next.l0 k tag l t (i : Int)) (nextSpec tag l) := by
    intro d
    induction d with
    | zero =>
      intro i t hi ht hj
      refine Ev.step (fun k => by rw [wayfinderref16_Next.l0]) ?_
      obtain rfl : i = 4095 := by omega
      exact ev_neg (by omega) (ev_eq (nextSpec_none hj).symm)
    | succ d ih =>
      intro i t hi ht hj
      refine Ev.step (fun k => by rw [wayfinderref16_Next.l0]) ?_
      refine ev_pos (by omega) ?_
      have goon : ∀ n : Int, n = candN (frOf tag) i → n ∈ l ++ [tag] → Ev (fun k => wayfinderref16_Next.l0 k tag l n (wrap64 ((i : Int) + 1))) (nextSpec tag l) := by
        intro n hn hin
        rw [wrap_id (by omega) (by omega)]
        have := ih (i + 1) n (by omega) (.inr ⟨i, rfl, hn⟩) (fun j hj2 => by
          by_cases e : j = i
          · rw [e, ← hn]; exact hin
          · exact hj j (by omega))
        exact_mod_cast this
      have tail : ∀ n : Int, n = candN (frOf tag) i → ∀ b : Bool, b = decide (n ∈ l) → Ev (fun k => (if n = tag then (wayfinderref16_Next.l0 k tag l n (wrap64 ((i : Int) + 1))) else (if b = true then (wayfinderref16_Next.l0 k tag l n (wrap64 ((i : Int) + 1))) else (some n)))) (nextSpec tag l) := by
        intro n hn b hb
        refine ev_ite (fun hc => ?_) (fun hc => ev_ite (fun hb2 => ?_) (fun hb2 => ev_eq ?_))
        · exact goon n hn (by rw [hc]; simp)
        · rw [hb, decide_eq_true_eq] at hb2
          exact goon n hn (List.mem_append_left _ hb2)
        · rw [hb, decide_eq_true_eq] at hb2
          rw [nextSpec_found (k := i) (by omega) hj (by rw [← hn]; simp [hb2, hc]), hn]
      have j1t : t < 1 ∨ 4095 ≤ t → Ev (fun k => wayfinderref16_Next.j1 k tag l t (i : Int) true) (nextSpec tag l) := by
        intro hc
        refine Ev.step (fun k => by rw [wayfinderref16_Next.j1]) ?_
        refine ev_pos rfl (ev_bind (in16 l 1 hl) (tail 1 ?_ _ rfl))
        rcases ht with ⟨rfl, rfl⟩ | ⟨j, rfl, rfl⟩
        · unfold candN frOf
          split <;> omega
        · have := candN_range (fr := frOf tag) hfr.1 j
          rw [candN_succ hfr.1]
          omega
      refine ev_ite (fun hc => j1t (.inl hc)) (fun hc => ?_)
      by_cases h2 : 4095 ≤ t
      · rw [show decide (t ≥ 4095) = true by simpa using h2]
        exact j1t (.inr h2)
      · rw [show decide (t ≥ 4095) = false by simpa using h2]
        refine Ev.step (fun k => by rw [wayfinderref16_Next.j1]) ?_
        rw [wrap_id (x := t + 1) (by omega) (by omega)]
        refine ev_neg (by simp) (ev_bind (in16 l (t + 1) hl) (tail (t + 1) ?_ _ rfl))
        rcases ht with ⟨rfl, rfl⟩ | ⟨j, rfl, rfl⟩
        · rw [frOf_tag (by omega) (by omega)]
          unfold candN
          omega
        · rw [candN_succ hfr.1]
          omega
  have := key 4095 0 tag (by omega) (.inl ⟨rfl, rfl⟩) (fun j hj => by omega)
  unfold wayfinderref16_Next.f
  exact_mod_cast this
theorem of_take (l : List S47) (t : Int) (i : Nat) (hi : i < l.length) : ofSpec (l.take (i + 1)) t = if (l[i]).f0 = t then (l[i]).f1 else ofSpec (l.take i) t := by
  rw [List.take_succ_eq_append_getElem hi, of_snoc]
theorem ref_of (l : List S47) (t : Int) (hl : l.length ≤ 200) : Ev (fun k => wayfinderref16_Of.f k l t) (ofSpec l t) := by
  have key : ∀ (d i : Nat), i + d = l.length → Ev (fun k => wayfinderref16_Of.l0 k l t (ofSpec (l.take i) t) (i : Int)) (ofSpec l t) := by
    intro d
    induction d with
    | zero =>
      intro i hi
      refine Ev.step (fun k => by rw [wayfinderref16_Of.l0]) ?_
      refine ev_neg (by omega) (ev_eq ?_)
      rw [List.take_of_length_le (by omega)]
    | succ d ih =>
      intro i hi
      refine Ev.step (fun k => by rw [wayfinderref16_Of.l0]) ?_
      have hr : rd_T47 l (i : Int) = l[i]'(by omega) := by simp [rd_T47, show i < l.length by omega]
      have hs := of_take l t i (by omega)
      have hn := ih (i + 1) (by omega)
      rw [hs] at hn
      rw [hr, wrap_id (by omega) (by omega)]
      refine ev_pos (by omega) (ev_pos (by omega) (ev_ite (fun hc => ?_) (fun hc => ?_)))
      · rw [if_pos hc] at hn
        exact_mod_cast hn
      · rw [if_neg hc] at hn
        exact_mod_cast hn
  have := key l.length 0 (by omega)
  unfold wayfinderref16_Of.f
  exact_mod_cast this
theorem TagsTell : wayfinderlaw16_TagsTell.Pure := by
  intro a0 l1 l2 hw _ _ _ _
  have hw := int_wf hw
  apply Ev.rounds
  unfold wayfinderlaw16_TagsTell.f
  refine ev_bindc awake16 (ev_pos rfl ?_)
  refine ev_ite (fun hc => ?_) (fun hl => ?_)
  · exact Ev.step (fun k => by rw [wayfinderlaw16_TagsTell.j0]) (ev_pos rfl (Ev.now _))
  · refine Ev.step (fun k => by rw [wayfinderlaw16_TagsTell.j0]) ?_
    refine ev_ite (fun _ => Ev.now _) (fun h1 => ?_)
    have h1 : l2.length ≤ 200 := by simp at h1; omega
    refine ev_bindc (next_f _ _ (by omega)) (ev_bind (ref_next a0 l1 (by omega) hw) (ev_pos rfl ?_))
    exact ev_bindc rfl (ev_bind (ref_of l2 a0 h1) (ev_eq (by simp)))

end Go.Proofs.Ytifgncaihpoijaa.Pure
