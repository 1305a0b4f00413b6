/- The plain law of WiresCount: the printed function answers true. -/
import Derived.Test.YtifgncaihpoijaaPrint26
import Derived.Test.YtifgncaihpoijaaPureWires
namespace Go.Proofs.Ytifgncaihpoijaa.Pure
open Go.RowKit Go.Proofs.Ytifgncaihpoijaa.Print Go.Proofs.YtifgncaihpoijaaW.PrintWords Go.Proofs.YtifgncaihpoijaaW.PrintLast Go.Proofs.YtifgncaihpoijaaW.PrintMore
set_option linter.unusedVariables false
set_option linter.unusedSimpArgs false

/-- Which one it is behind a fate. -/
def keep (gone : Bool) (a : Int) (i : Nat) : Nat := if gone = true ∧ a ≤ i then i + 1 else i
theorem count_l0 (l m : List SW) (a : Int) (is gone : Bool) (x : SW) (hl : l.length < 1000000) (hm : m.length ≤ l.length)
    (hk : ∀ i : Nat, i < m.length → keep gone a i < l.length ∧ rdW m (i : Int) = rdW l (keep gone a i : Int))
    (he : (is = true → 0 ≤ a ∧ a < l.length ∧ x = rdW l a) ∧ (is = false → x.f2 = [])) : ∀ (n i : Nat), m.length - i = n → i ≤ m.length → Ev (fun k => wayfinderlaw14_WiresCount.l0 k l a m is gone (i : Int) x.f0 x.f1 x.f2) true
  | 0, i, hn, hi => by
    refine Ev.step (fun k => by rw [wayfinderlaw14_WiresCount.l0]) ?_
    refine ev_neg (by omega) ?_
    refine ev_ite (fun h => ?_) (fun h => ?_)
    · obtain ⟨h1, h2, h3⟩ := he.1 h
      refine ev_pos h1 ?_
      refine ev_pos h2 ?_
      rw [h3]
      exact ev_bindc (one_self (rdW l a)) (Ev.now _)
    · refine ev_eq ?_
      rw [he.2 (by simpa using h)]
      rfl
  | n + 1, i, hn, hi => by
    have hlt : i < m.length := by omega
    obtain ⟨hk1, hk2⟩ := hk i hlt
    have ih := count_l0 l m a is gone x hl hm hk he n (i + 1) (by omega) hlt
    have hw : wrap64 ((i : Int) + 1) = ((i + 1 : Nat) : Int) := wrap_id (by omega) (by omega)
    refine Ev.step (fun k => by rw [wayfinderlaw14_WiresCount.l0]) ?_
    refine ev_pos (by omega) ?_
    refine ev_ite (fun hg => ?_) (fun hg => ?_)
    · refine Ev.step (fun k => by rw [wayfinderlaw14_WiresCount.j6]) ?_
      refine ev_ite (fun h => ?_) (fun h => ?_)
      · have h : a ≤ (i : Int) := by simpa using h
        have hkk : keep gone a i = i + 1 := if_pos ⟨hg, h⟩
        rw [hkk] at hk1 hk2
        refine ev_pos (by omega) ?_
        refine ev_pos (by omega) ?_
        rw [hw]
        refine ev_pos (by omega) ?_
        refine ev_pos (by omega) ?_
        have : wayfinderref14_One.f (rdW m (i : Int)).f0 (rdW m (i : Int)).f1 (rdW m (i : Int)).f2 (rdW l ((i + 1 : Nat) : Int)).f0 (rdW l ((i + 1 : Nat) : Int)).f1 (rdW l ((i + 1 : Nat) : Int)).f2 = some true := by
          rw [hk2]
          exact one_self _
        refine ev_bindc this ?_
        exact ev_pos rfl ih
      · have h : ¬ a ≤ (i : Int) := by simpa using h
        have hkk : keep gone a i = i := if_neg (fun hc => h hc.2)
        rw [hkk] at hk1 hk2
        refine ev_pos (by omega) ?_
        refine ev_pos (by omega) ?_
        refine ev_pos (by omega) ?_
        refine ev_pos (by omega) ?_
        have : wayfinderref14_One.f (rdW m (i : Int)).f0 (rdW m (i : Int)).f1 (rdW m (i : Int)).f2 (rdW l (i : Int)).f0 (rdW l (i : Int)).f1 (rdW l (i : Int)).f2 = some true := by
          rw [hk2]
          exact one_self _
        refine ev_bindc this ?_
        rw [hw]
        exact ev_pos rfl ih
    · have hkk : keep gone a i = i := if_neg (fun hc => hg hc.1)
      rw [hkk] at hk1 hk2
      refine Ev.step (fun k => by rw [wayfinderlaw14_WiresCount.j6]) ?_
      refine ev_neg (by simp) ?_
      refine ev_pos (by omega) ?_
      refine ev_pos (by omega) ?_
      refine ev_pos (by omega) ?_
      refine ev_pos (by omega) ?_
      have : wayfinderref14_One.f (rdW m (i : Int)).f0 (rdW m (i : Int)).f1 (rdW m (i : Int)).f2 (rdW l (i : Int)).f0 (rdW l (i : Int)).f1 (rdW l (i : Int)).f2 = some true := by
        rw [hk2]
        exact one_self _
      refine ev_bindc this ?_
      rw [hw]
      exact ev_pos rfl ih
def goneB (l : List SW) (a f : Int) : Bool := decide (0 ≤ a ∧ a < l.length ∧ (f = 0 ∨ f = 1))
def comesB (l : List SW) (a f : Int) : Bool := decide (0 ≤ a ∧ a < l.length ∧ (f = 0 ∨ f = 2))
theorem count_fate (l : List SW) (a f : Int) : (fateSpec l a f).1 = (if goneB l a f = true then l.eraseIdx a.toNat else l) ∧ (fateSpec l a f).2.2.2.2 = comesB l a f ∧ (comesB l a f = true → (⟨(fateSpec l a f).2.1, (fateSpec l a f).2.2.1, (fateSpec l a f).2.2.2.1⟩ : SW) = rdW l a) ∧ (comesB l a f = false → (fateSpec l a f).2.2.2.1 = []) := by
  unfold fateSpec goneB comesB
  by_cases h : 0 ≤ a ∧ a < l.length ∧ 0 ≤ f ∧ f < 3
  · rw [if_pos h]
    by_cases h0 : f = 0
    · subst h0
      simp [h.1, h.2.1, rdW]
    · by_cases h1 : f = 1
      · subst h1
        simp [h.1, h.2.1]
      · have h2 : f = 2 := by omega
        subst h2
        simp [h.1, h.2.1, rdW]
  · rw [if_neg h]
    have hn : ¬ (0 ≤ a ∧ a < l.length ∧ (f = 0 ∨ f = 1)) := by omega
    have hn2 : ¬ (0 ≤ a ∧ a < l.length ∧ (f = 0 ∨ f = 2)) := by omega
    simp only [decide_eq_false hn, decide_eq_false hn2]
    simp
theorem count_end (l : List SW) (a f : Int) (hl : l.length < 1000000) (n : Int) (hn : n = ((fateSpec l a f).1.length : Int)) (in_ : Bool) (hin : in_ = decide (0 ≤ a ∧ a < l.length)) :
    Ev (fun k => wayfinderlaw14_WiresCount.j3 k l a f (fateSpec l a f).1 (fateSpec l a f).2.2.2.2 in_ (goneB l a f) n (fateSpec l a f).2.1 (fateSpec l a f).2.2.1 (fateSpec l a f).2.2.2.1) true := by
  obtain ⟨h1, h2, h3, h4⟩ := count_fate l a f
  have hlen : (fateSpec l a f).1.length ≤ l.length := by
    rw [h1]
    split
    · exact List.length_eraseIdx_le _ _
    · exact Nat.le_refl _
  have hj4 : Ev (fun k => wayfinderlaw14_WiresCount.j4 k l a (fateSpec l a f).1 (fateSpec l a f).2.2.2.2 (goneB l a f) false (fateSpec l a f).2.1 (fateSpec l a f).2.2.1 (fateSpec l a f).2.2.2.1) true := by
    refine Ev.step (fun k => by rw [wayfinderlaw14_WiresCount.j4]) ?_
    refine ev_neg (by simp) ?_
    refine count_l0 l _ a _ _ ⟨(fateSpec l a f).2.1, (fateSpec l a f).2.2.1, (fateSpec l a f).2.2.2.1⟩ hl hlen (fun i hi => ?_) ⟨fun hc => ?_, fun hc => ?_⟩ _ 0 rfl (Nat.zero_le _)
    · unfold keep
      by_cases hg : goneB l a f = true
      · have hgg := of_decide_eq_true hg
        rw [h1, if_pos hg] at hi ⊢
        obtain ⟨j, rfl⟩ := Int.eq_ofNat_of_zero_le hgg.1
        have hj : j < l.length := by omega
        rw [Int.toNat_natCast] at hi ⊢
        have hle : (l.eraseIdx j).length = l.length - 1 := by rw [List.length_eraseIdx, if_pos hj]
        by_cases hji : (j : Int) ≤ (i : Int)
        · rw [if_pos ⟨hg, hji⟩]
          refine ⟨by omega, ?_⟩
          rw [rdW_nat hi, rdW_nat (by omega), List.getElem_eraseIdx, dif_neg (by omega)]
        · rw [if_neg (fun hc => hji hc.2)]
          refine ⟨by omega, ?_⟩
          rw [rdW_nat hi, rdW_nat (by omega), List.getElem_eraseIdx, dif_pos (by omega)]
      · rw [if_neg (fun hc => hg hc.1)]
        rw [h1, if_neg hg] at hi ⊢
        exact ⟨hi, rfl⟩
    · rw [h2] at hc
      have := of_decide_eq_true hc
      exact ⟨this.1, this.2.1, h3 hc⟩
    · rw [h2] at hc
      exact h4 hc
  refine Ev.step (fun k => by rw [wayfinderlaw14_WiresCount.j3]) ?_
  refine ev_pos hn.symm ?_
  refine ev_ite (fun hi => ?_) (fun hi => ?_)
  · rw [hin] at hi
    have hi := of_decide_eq_true hi
    refine ev_ite (fun h0 => ?_) (fun h0 => ?_)
    · have : ((fateSpec l a f).2.2.2.2 != true) = false := by
        rw [h2]
        unfold comesB
        simp [hi.1, hi.2, h0]
      rw [this]
      exact hj4
    · have : ((fateSpec l a f).2.2.2.2 != (f == 2)) = false := by
        rw [h2]
        unfold comesB
        by_cases h22 : f = 2
        · simp [hi.1, hi.2, h22]
        · simp [h0, h22]
      rw [this]
      exact hj4
  · rw [hin] at hi
    have : ((fateSpec l a f).2.2.2.2 != false) = false := by
      rw [h2]
      unfold comesB
      have hi : ¬ (0 ≤ a ∧ a < l.length) := fun hc => hi (decide_eq_true hc)
      have : ¬ (0 ≤ a ∧ a < l.length ∧ (f = 0 ∨ f = 2)) := fun hc => hi ⟨hc.1, hc.2.1⟩
      rw [decide_eq_false this]
      rfl
    rw [this]
    exact hj4
theorem count_j2 (l : List SW) (a f : Int) (hl : l.length < 1000000) (in_ gone : Bool) (hin : in_ = decide (0 ≤ a ∧ a < l.length)) (hg : gone = goneB l a f) :
    Ev (fun k => wayfinderlaw14_WiresCount.j2 k l a f (fateSpec l a f).1 (fateSpec l a f).2.2.2.2 in_ gone (fateSpec l a f).2.1 (fateSpec l a f).2.2.1 (fateSpec l a f).2.2.2.1) true := by
  subst hg
  have h1 := (count_fate l a f).1
  refine Ev.step (fun k => by rw [wayfinderlaw14_WiresCount.j2]) ?_
  refine ev_ite (fun hg => ?_) (fun hg => ?_)
  · refine count_end l a f hl _ ?_ _ hin
    have hgg := of_decide_eq_true hg
    rw [h1, if_pos hg, List.length_eraseIdx, if_pos (by omega), wrap_id (by omega) (by omega)]
    omega
  · refine count_end l a f hl _ ?_ _ hin
    rw [h1, if_neg hg]
theorem WiresCount : wayfinderlaw14_WiresCount.Pure := by
  intro l0 a1 a2 _ _ _ _
  apply Ev.rounds
  unfold wayfinderlaw14_WiresCount.f
  refine ev_bindc awake14 (ev_bind (few_ev l0) (ev_pos rfl ?_))
  refine Ev.step (fun k => by rw [wayfinderlaw14_WiresCount.j0]) ?_
  refine ev_ite (fun _ => Ev.now _) (fun hf => ?_)
  have hf : few l0 := by simpa using hf
  have hl : l0.length < 1000000 := by have := hf.1; omega
  refine ev_bindc (fate_f (few_small hf) a1 a2) ?_
  refine ev_ite (fun h => ?_) (fun h => ?_)
  · refine Ev.step (fun k => by rw [wayfinderlaw14_WiresCount.j1]) ?_
    by_cases hi : a1 < l0.length
    · refine ev_pos (decide_eq_true hi) ?_
      have hin : decide (a1 < (l0.length : Int)) = decide (0 ≤ a1 ∧ a1 < l0.length) := by
        rw [decide_eq_decide]; omega
      refine ev_ite (fun h0 => ?_) (fun h0 => ?_)
      · exact count_j2 l0 a1 a2 hl _ _ hin (by unfold goneB; rw [decide_eq_true]; omega)
      · refine count_j2 l0 a1 a2 hl _ _ hin ?_
        unfold goneB
        by_cases h1 : a2 = 1
        · rw [decide_eq_true (by omega)]; simp [h1]
        · rw [decide_eq_false (by omega)]; simp [h1]
    · refine ev_neg (by simpa using hi) ?_
      exact count_j2 l0 a1 a2 hl _ _ (by rw [decide_eq_decide]; omega) (by unfold goneB; rw [decide_eq_false]; omega)
  · refine Ev.step (fun k => by rw [wayfinderlaw14_WiresCount.j1]) ?_
    refine ev_neg (by simp) ?_
    exact count_j2 l0 a1 a2 hl _ _ (by rw [decide_eq_false]; omega) (by unfold goneB; rw [decide_eq_false]; omega)

end Go.Proofs.Ytifgncaihpoijaa.Pure
