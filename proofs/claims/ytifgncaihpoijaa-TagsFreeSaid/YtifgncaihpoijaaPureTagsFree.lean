/- The plain law of TagsFree: the printed function answers true. -/
import Derived.Test.YtifgncaihpoijaaPrint13
import Derived.Test.YtifgncaihpoijaaPureTags
namespace Go.Proofs.Ytifgncaihpoijaa.Pure
open Go.RowKit Go.Proofs.Ytifgncaihpoijaa.Print Go.Proofs.YtifgncaihpoijaaW.PrintWords Go.Proofs.YtifgncaihpoijaaW.PrintLast Go.Proofs.YtifgncaihpoijaaW.PrintMore
set_option linter.unusedVariables false
set_option linter.unusedSimpArgs false

theorem free_l2 (l : List Int) (n : Int) (hl : l.length ≤ 200) (hn : n ∉ l) (d : Nat) : ∀ i : Nat, i + d = l.length → Ev (fun k => wayfinderlaw16_TagsFree.l2 k l n (i : Int)) true := by
  induction d with
  | zero =>
    intro i hi
    refine Ev.step (fun k => by rw [wayfinderlaw16_TagsFree.l2]) ?_
    refine ev_neg (by omega) (Ev.now _)
  | succ d ih =>
    intro i hi
    refine Ev.step (fun k => by rw [wayfinderlaw16_TagsFree.l2]) ?_
    refine ev_pos (by omega) (ev_pos (by omega) (ev_neg ?_ ?_))
    · rw [rd_nat _ _ (by omega)]
      exact fun e => hn (e ▸ List.getElem_mem _)
    · rw [wrap_id (by omega) (by omega)]
      exact_mod_cast ih (i + 1) (by omega)
theorem free_l1 (tag : Int) (l : List Int) (n t : Int) (hl : l.length ≤ 200) (h : Ev (fun k => wayfinderlaw16_TagsFree.l0 k tag l n (wrap64 (Int.tmod t 4095 + 1))) true) (d : Nat) : ∀ (i : Nat) (b : Bool), i + d = l.length → (b = true ∨ ∃ j, i ≤ j ∧ ∃ hj : j < l.length, l[j] = t) →
    Ev (fun k => wayfinderlaw16_TagsFree.l1 k tag l n t b (i : Int)) true := by
  induction d with
  | zero =>
    intro i b hi hb
    have hb : b = true := by
      rcases hb with hb | ⟨j, h1, h2, _⟩
      · exact hb
      · omega
    refine Ev.step (fun k => by rw [wayfinderlaw16_TagsFree.l1]) ?_
    exact ev_neg (by omega) (ev_pos hb h)
  | succ d ih =>
    intro i b hi hb
    refine Ev.step (fun k => by rw [wayfinderlaw16_TagsFree.l1]) ?_
    refine ev_pos (by omega) ?_
    rw [wrap_id (by omega) (by omega)]
    refine ev_ite (fun hc => ?_) (fun hc => ev_pos (by omega) ?_)
    · exact_mod_cast ih (i + 1) true (by omega) (.inl rfl)
    · have := ih (i + 1) (rd l (i : Int) == t) (by omega) (by
        rcases hb with hb | ⟨j, h1, h2, h3⟩
        · exact absurd hb hc
        · by_cases e : j = i
          · left
            subst e
            rw [rd_nat _ _ h2, h3]
            simp
          · exact .inr ⟨j, by omega, h2, h3⟩)
      exact_mod_cast this
theorem free_l0 (tag : Int) (h0 : 1 ≤ tag) (h1 : tag ≤ 4095) (l : List Int) (hl : l.length ≤ 200) (m : Nat) (hm : m < 4095) (hn : candN tag m ∉ l ++ [tag]) (hj : ∀ j, j < m → candN tag j ∈ l ++ [tag]) (d : Nat) : ∀ i : Nat, i + d = m →
    Ev (fun k => wayfinderlaw16_TagsFree.l0 k tag l (candN tag m) (candN tag i)) true := by
  induction d with
  | zero =>
    intro i hi
    obtain rfl : i = m := by omega
    refine Ev.step (fun k => by rw [wayfinderlaw16_TagsFree.l0]) ?_
    refine ev_pos rfl ?_
    exact_mod_cast free_l2 l _ hl (fun hc => hn (List.mem_append_left _ hc)) l.length 0 (by omega)
  | succ d ih =>
    intro i hi
    refine Ev.step (fun k => by rw [wayfinderlaw16_TagsFree.l0]) ?_
    refine ev_neg (fun e => ?_) ?_
    · have := candN_inj (by omega) (by omega) hm e
      omega
    · have hin := hj i (by omega)
      have hr := candN_range (fr := tag) (by omega) i
      have hs := ih (i + 1) (by omega)
      rw [candN_succ (by omega)] at hs
      have := free_l1 tag l (candN tag m) (candN tag i) hl (by
        rw [Int.tmod_eq_emod_of_nonneg (by omega), wrap_id (by omega) (by omega)]
        exact hs) l.length 0 (candN tag i == tag) (by omega) (by
        rcases List.mem_append.1 hin with hin | hin
        · obtain ⟨j, hj2, e⟩ := List.mem_iff_getElem.1 hin
          exact .inr ⟨j, by omega, hj2, e⟩
        · left
          simpa using hin)
      exact_mod_cast this
theorem TagsFree : wayfinderlaw16_TagsFree.Pure := by
  intro a0 l1 _ _ _
  apply Ev.rounds
  unfold wayfinderlaw16_TagsFree.f
  refine ev_bindc awake16 (ev_pos rfl ?_)
  refine ev_ite (fun hc => ?_) (fun hl => ev_ite (fun hc => ?_) (fun h0 => ?_))
  · exact Ev.step (fun k => by rw [wayfinderlaw16_TagsFree.j0]) (ev_pos rfl (Ev.now _))
  · exact Ev.step (fun k => by rw [wayfinderlaw16_TagsFree.j0]) (ev_pos rfl (Ev.now _))
  · refine Ev.step (fun k => by rw [wayfinderlaw16_TagsFree.j0]) ?_
    refine ev_ite (fun _ => Ev.now _) (fun h1 => ?_)
    have h1 : a0 ≤ 4095 := by simpa using h1
    obtain ⟨m, hm, he, hn, hj⟩ := next_tells a0 l1 (by omega)
    rw [frOf_tag (by omega) h1] at he hn hj
    have hr := candN_range (fr := a0) (by omega) m
    refine ev_bindc (next_f _ _ (by omega)) ?_
    rw [he]
    refine ev_neg (by omega) (ev_neg (by omega) ?_)
    refine Ev.step (fun k => by rw [wayfinderlaw16_TagsFree.j1]) ?_
    refine ev_neg (fun e => hn (by
      have e : candN a0 m = a0 := by simpa using e
      rw [e]
      simp)) ?_
    have := free_l0 a0 (by omega) h1 l1 (by omega) m hm hn hj m 0 (by omega)
    rw [Int.tmod_eq_emod_of_nonneg (by omega), wrap_id (by omega) (by omega)]
    rw [show a0 % 4095 + 1 = candN a0 0 by unfold candN; simp]
    exact this

end Go.Proofs.Ytifgncaihpoijaa.Pure
