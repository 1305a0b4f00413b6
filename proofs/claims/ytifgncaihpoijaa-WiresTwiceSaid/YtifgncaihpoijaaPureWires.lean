/- Plain lemmas for this seat's laws. -/
import Derived.Test.YtifgncaihpoijaaPrint19
import Derived.Test.YtifgncaihpoijaaPrint21
import Derived.Test.YtifgncaihpoijaaPrint22
import Derived.Test.YtifgncaihpoijaaPrint23
import Derived.Test.YtifgncaihpoijaaPrint24
import Derived.Test.YtifgncaihpoijaaPrintH
namespace Go.Proofs.Ytifgncaihpoijaa.Pure
open Go.RowKit Go.Proofs.Ytifgncaihpoijaa.Print Go.Proofs.YtifgncaihpoijaaW.PrintWords Go.Proofs.YtifgncaihpoijaaW.PrintLast Go.Proofs.YtifgncaihpoijaaW.PrintMore
set_option linter.unusedVariables false
set_option linter.unusedSimpArgs false

abbrev SW := S54
abbrev rdW (l : List SW) (i : Int) : SW := rd_T54 l i
theorem rdW_nat {l : List SW} {i : Nat} (h : i < l.length) : rdW l (i : Int) = l[i] := rd_wire h
theorem one_self (x : SW) : wayfinderref14_One.f x.f0 x.f1 x.f2 x.f0 x.f1 x.f2 = some true := by
  unfold wayfinderref14_One.f
  simp
theorem awake14 : wayfinderlaw14_awake.f = some true := by
  have h0 : wiresSmall ([] : List SW) := ⟨by decide, fun x hx => by simp at hx⟩
  have h1 : wiresSmall ([⟨1, false, []⟩] : List SW) := ⟨by decide, fun x hx => by simp at hx; subst hx; decide⟩
  have h2 : wiresSmall ([⟨1, false, []⟩, ⟨2, false, []⟩] : List SW) := ⟨by decide, fun x hx => by simp at hx; rcases hx with rfl | rfl <;> decide⟩
  unfold wayfinderlaw14_awake.f wires_Send.f wires_Fate.f
  simp [h0, h1, h2, sendSpec, fateSpec, rd_T54]
theorem same_l0 (l : List SW) (hl : l.length < 1000000000) : ∀ (m i : Nat), l.length - i = m → i ≤ l.length → Ev (fun k => wayfinderref14_Same.l0 k l l (i : Int)) true
  | 0, i, hm, hi => by
    refine Ev.step (fun k => by rw [wayfinderref14_Same.l0]) ?_
    exact ev_neg (by omega) (Ev.now _)
  | m + 1, i, hm, hi => by
    refine Ev.step (fun k => by rw [wayfinderref14_Same.l0]) ?_
    refine ev_pos (by omega) ?_
    refine ev_pos (by omega) ?_
    refine ev_pos (by omega) ?_
    refine ev_bindc (one_self _) ?_
    refine ev_pos rfl ?_
    rw [wrap_id (by omega) (by omega)]
    exact same_l0 l hl m (i + 1) (by omega) (by omega)
theorem same_self (l : List SW) (hl : l.length < 1000000000) : Ev (fun k => wayfinderref14_Same.f k l l) true := by
  unfold wayfinderref14_Same.f
  refine ev_pos rfl ?_
  exact same_l0 l hl l.length 0 rfl (Nat.zero_le _)
def few (l : List SW) : Prop := l.length ≤ 100 ∧ ∀ x ∈ l, x.f2.length ≤ 300
instance (l : List SW) : Decidable (few l) := by unfold few; infer_instance
theorem few_small {l : List SW} (h : few l) : wiresSmall l := ⟨by have := h.1; omega, fun x hx => by have := h.2 x hx; omega⟩
theorem few_l0 (l : List SW) (hl : l.length ≤ 100) : ∀ (m i : Nat), l.length - i = m → i ≤ l.length → Ev (fun k => wayfinderlaw14_Few.l0 k l (i : Int)) ((l.drop i).all fun x => decide (x.f2.length ≤ 300))
  | 0, i, hm, hi => by
    refine Ev.step (fun k => by rw [wayfinderlaw14_Few.l0]) ?_
    refine ev_neg (by omega) (ev_eq ?_)
    rw [List.drop_of_length_le (by omega)]
    rfl
  | m + 1, i, hm, hi => by
    have hlt : i < l.length := by omega
    refine Ev.step (fun k => by rw [wayfinderlaw14_Few.l0]) ?_
    refine ev_pos (by omega) ?_
    refine ev_pos (by omega) ?_
    have e : l.drop i = l[i] :: l.drop (i + 1) := List.drop_eq_getElem_cons hlt
    have r : rd_T54 l (i : Int) = l[i] := rd_wire hlt
    rw [e, List.all_cons]
    refine ev_ite (fun h => ?_) (fun h => ?_)
    · refine ev_eq ?_
      rw [r] at h
      rw [decide_eq_false (by omega)]
      rfl
    · rw [wrap_id (by omega) (by omega)]
      rw [r] at h
      rw [decide_eq_true (by omega), Bool.true_and]
      exact few_l0 l hl m (i + 1) (by omega) hlt
theorem few_ev (l : List SW) : Ev (fun k => wayfinderlaw14_Few.f k l) (decide (few l)) := by
  unfold wayfinderlaw14_Few.f
  refine ev_ite (fun h => ev_eq ?_) (fun h => ?_)
  · symm
    rw [decide_eq_false_iff_not]
    intro hc
    have := hc.1
    omega
  · have := few_l0 l (by omega) l.length 0 rfl (Nat.zero_le _)
    have e : decide (few l) = ((l.drop 0).all fun x => decide (x.f2.length ≤ 300)) := by
      apply Bool.eq_iff_iff.2
      rw [decide_eq_true_iff, List.all_eq_true, List.drop_zero]
      constructor
      · intro hc x hx
        exact decide_eq_true (hc.2 x hx)
      · intro hc
        exact ⟨by omega, fun x hx => of_decide_eq_true (hc x hx)⟩
    rw [e]
    exact this
theorem without_l0 (l : List SW) (a : Nat) (hl : l.length < 1000000) (ha : a < l.length) : ∀ (m : Nat) (acc : List SW) (i : Nat), l.length - i = m → i ≤ l.length → acc.length ≤ i → acc = (l.take i).eraseIdx a → Ev (fun k => wayfinderref14_without.l0 k l (a : Int) acc (i : Int)) (l.eraseIdx a)
  | 0, acc, i, hm, hi, hc, he => by
    refine Ev.step (fun k => by rw [wayfinderref14_without.l0]) ?_
    refine ev_neg (by omega) (ev_eq ?_)
    rw [he, List.take_of_length_le (by omega)]
  | m + 1, acc, i, hm, hi, hc, he => by
    have hlt : i < l.length := by omega
    refine Ev.step (fun k => by rw [wayfinderref14_without.l0]) ?_
    refine ev_pos (by omega) ?_
    have hw : wrap64 ((i : Int) + 1) = ((i + 1 : Nat) : Int) := wrap_id (by omega) (by omega)
    have ht : l.take (i + 1) = l.take i ++ [l[i]] := by rw [List.take_add_one, List.getElem?_eq_getElem hlt]; rfl
    refine ev_ite (fun h => ?_) (fun h => ?_)
    · rw [hw]
      have hia : i = a := by omega
      refine without_l0 l a hl ha m acc (i + 1) (by omega) hlt (by omega) ?_
      subst hia
      rw [he, ht]
      have hlen : (l.take i).length = i := by rw [List.length_take]; omega
      rw [List.eraseIdx_of_length_le (by omega), List.eraseIdx_append_of_length_le (by omega), hlen]
      simp
    · refine ev_pos (by omega) ?_
      refine ev_pos (by omega) ?_
      rw [hw]
      have r : rd_T54 l (i : Int) = l[i] := rd_wire hlt
      refine without_l0 l a hl ha m _ (i + 1) (by omega) hlt (by simp; omega) ?_
      have hlen : (l.take i).length = i := by rw [List.length_take]; omega
      rw [he, ht, r]
      by_cases hai : a < i
      · rw [List.eraseIdx_append_of_lt_length (by omega)]
      · rw [List.eraseIdx_of_length_le (by omega), List.eraseIdx_of_length_le (by simp; omega)]
theorem without_ev (l : List SW) (a : Nat) (hl : l.length < 1000000) (ha : a < l.length) : Ev (fun k => wayfinderref14_without.f k l (a : Int)) (l.eraseIdx a) := by
  unfold wayfinderref14_without.f
  exact without_l0 l a hl ha l.length [] 0 rfl (Nat.zero_le _) (Nat.le_refl _) (by simp)
theorem refFate (l : List SW) (a f : Int) (hl : l.length < 1000000) : Ev (fun k => wayfinderref14_Fate.f k l a f) (fateSpec l a f) := by
  unfold wayfinderref14_Fate.f
  refine ev_ite (fun h => ?_) (fun h => ?_)
  · refine Ev.step (fun k => by rw [wayfinderref14_Fate.j0]) ?_
    refine ev_pos rfl (ev_eq ?_)
    unfold fateSpec
    rw [if_neg (by omega)]
  · by_cases h2 : a < l.length
    · obtain ⟨i, rfl⟩ := Int.eq_ofNat_of_zero_le (Int.not_lt.1 h)
      have hi : i < l.length := by omega
      refine Ev.step (fun k => by rw [wayfinderref14_Fate.j0]) ?_
      refine ev_neg (by simp; omega) ?_
      refine ev_ite (fun h0 => ?_) (fun h0 => ev_ite (fun h1 => ?_) (fun h1 => ev_ite (fun h3 => ?_) (fun h3 => ?_)))
      · refine ev_bind (without_ev l i hl hi) ?_
        refine ev_pos (by omega) ?_
        refine ev_pos (by omega) (ev_eq ?_)
        unfold fateSpec
        rw [if_pos (by omega), if_pos h0]
        simp
      · refine ev_bind (without_ev l i hl hi) (ev_eq ?_)
        unfold fateSpec
        rw [if_pos (by omega), if_neg h0, if_pos h1]
        simp
      · refine ev_pos (by omega) ?_
        refine ev_pos (by omega) (ev_eq ?_)
        unfold fateSpec
        rw [if_pos (by omega), if_neg h0, if_neg h1]
      · refine ev_eq ?_
        unfold fateSpec
        rw [if_neg (by omega)]
    · refine Ev.step (fun k => by rw [wayfinderref14_Fate.j0]) ?_
      refine ev_pos (by simp; omega) (ev_eq ?_)
      unfold fateSpec
      rw [if_neg (by omega)]
theorem refSend (l : List SW) (x : SW) (hl : l.length < 1000000) : wayfinderref14_Send.f l x.f0 x.f1 x.f2 = some (sendSpec l x) := by
  unfold wayfinderref14_Send.f sendSpec
  by_cases h : 60 ≤ l.length
  · rw [if_pos (by omega), if_pos h]
  · rw [if_neg (by omega), if_neg h, if_pos (by simp; omega)]
    simp
    omega
theorem send_f {l : List SW} (hs : wiresSmall l) (x : SW) (hx : x.f2.length < 140737488355328) : wires_Send.f l x.f0 x.f1 x.f2 = some (sendSpec l x) := by
  unfold wires_Send.f
  rw [if_pos ⟨hs, hx⟩]
theorem fate_f {l : List SW} (hs : wiresSmall l) (a f : Int) : wires_Fate.f l a f = some (fateSpec l a f) := by
  unfold wires_Fate.f
  rw [if_pos hs]
theorem send_small {l : List SW} (hf : few l) (x : SW) (hx : x.f2.length ≤ 300) : wiresSmall (sendSpec l x).1 := by
  unfold sendSpec
  split
  · exact few_small hf
  · refine ⟨by have := hf.1; simp; omega, fun y hy => ?_⟩
    rcases List.mem_append.1 hy with h | h
    · have := hf.2 y h; omega
    · rw [List.mem_singleton.1 h]; omega

end Go.Proofs.Ytifgncaihpoijaa.Pure
