/- The plain law of SessGoes: the printed function answers true. -/
import Derived.Test.YtibkmiffibacbaaPrint17
import Derived.Test.YtibkmiffibacbaaPureSess
import Derived.Test.YtibkmiffibacbaaPureSessRef
namespace Go.Proofs.Ytibkmiffibacbaa.Pure
open Go.RowKit Go.Proofs.Ytibkmiffibacbaa.Print Go.Proofs.YtibkmiffibacbaaW.PrintWords Go.Proofs.YtibkmiffibacbaaW.PrintLast Go.Proofs.YtibkmiffibacbaaW.PrintMore
set_option linter.unusedVariables false
set_option linter.unusedSimpArgs false

def goMsg (i : Nat) (t : Int) : SQ := ⟨0, 1, (i : Int) + 1, t, ⟨⟨0, 0⟩, 0, 0, ⟨0, 0⟩⟩⟩
def goOut : Nat → List Int → List SQ
  | _, [] => []
  | i, t :: l => goMsg i t :: goOut (i + 1) l
theorem goOut_len : ∀ (l : List Int) (i : Nat), (goOut i l).length = l.length
  | [], _ => rfl
  | _ :: l, i => by simp [goOut, goOut_len l (i + 1)]
theorem goOut_snoc (t : Int) : ∀ (l : List Int) (i : Nat), goOut i (l ++ [t]) = goOut i l ++ [goMsg (i + l.length) t]
  | [], i => by simp [goOut]
  | x :: l, i => by
    have h : i + 1 + l.length = i + (l.length + 1) := by omega
    simp [goOut, goOut_snoc t l (i + 1), h]
theorem goOut_keep : ∀ (l : List Int) (i : Nat) (q : Int), q ≤ (i : Int) → keepL (goOut i l) q = goOut i l
  | [], _, _, _ => rfl
  | t :: l, i, q, h => by
    have ih := goOut_keep l (i + 1) q (by omega)
    unfold keepL at ih ⊢
    rw [goOut, List.filter_cons_of_pos (by show decide (q < (i : Int) + 1) = true; exact decide_eq_true (by omega)), ih]
theorem goes_l1 (l : List Int) (hl : l.length ≤ 200) (b : Int) : ∀ (m i : Nat), l.length - i = m → i ≤ l.length → Ev (fun k => wayfinderlaw15_SessGoes.l1 k l (i : Int) 1 b (goOut i (l.drop i))) true
  | 0, i, hm, hi => by
    have e : l.drop i = [] := List.drop_of_length_le (by omega)
    rw [e]
    refine Ev.step (fun k => by rw [wayfinderlaw15_SessGoes.l1]) ?_
    refine ev_neg (by omega) (ev_pos rfl ?_)
    refine ev_bindc (first_f (by simp [goOut]) 3) (ev_eq ?_)
    rfl
  | m + 1, i, hm, hi => by
    have hlt : i < l.length := by omega
    have e : l.drop i = l[i] :: l.drop (i + 1) := List.drop_eq_getElem_cons hlt
    have hlen := goOut_len (l.drop i) i
    have hf : firstSpec (goOut i (l.drop i)) 1 = [goMsg i l[i]] := by
      unfold firstSpec
      rw [e]
      have : (mn (mx 1 0) ((goOut i (l[i] :: l.drop (i + 1))).length : Int)).toNat = 1 := by
        rw [goOut_len]
        unfold mn mx
        simp only [List.length_cons]
        split <;> split <;> omega
      rw [this]
      rfl
    rw [List.length_drop] at hlen
    refine Ev.step (fun k => by rw [wayfinderlaw15_SessGoes.l1]) ?_
    refine ev_pos (by omega) ?_
    refine ev_bindc (first_f (by omega) 1) ?_
    rw [hf]
    refine ev_pos rfl (ev_pos (by simp) (ev_pos (by omega) ?_))
    have h0 : rd_T34 [goMsg i l[i]] 0 = goMsg i l[i] := rfl
    rw [h0, rd_nat l i hlt]
    refine ev_pos rfl ?_
    have ht : sess_Take.f 1 (i : Int) (goMsg i l[i]).f0 (goMsg i l[i]).f1 (goMsg i l[i]).f2 (goMsg i l[i]).f3 (goMsg i l[i]).f4.f0.f0 (goMsg i l[i]).f4.f0.f1 (goMsg i l[i]).f4.f1 (goMsg i l[i]).f4.f2 (goMsg i l[i]).f4.f3.f0 (goMsg i l[i]).f4.f3.f1 = some 0 := by
      unfold sess_Take.f goMsg
      rw [if_pos rfl, if_neg (show ¬ ((i : Int) + 1 ≤ (i : Int)) by omega)]
      show (if wrap64 ((i : Int) + 1 - 1) > (i : Int) then _ else _) = _
      rw [wrap_id (by omega) (by omega), if_neg (by omega)]
    refine ev_bindc ht (ev_pos rfl ?_)
    rw [wrap_id (by omega) (by omega)]
    refine ev_bindc (done_f (by omega) 1 ((i : Int) + 1)) ?_
    have hd : doneSpec 1 b (goOut i (l.drop i)) 1 ((i : Int) + 1) = (1, b, goOut (i + 1) (l.drop (i + 1))) := by
      unfold doneSpec
      rw [if_pos rfl, e, goOut]
      have := goOut_keep (l.drop (i + 1)) (i + 1) ((i : Int) + 1) (by omega)
      unfold keepL at this ⊢
      rw [List.filter_cons_of_neg (by simp [goMsg]), this]
    rw [hd]
    exact goes_l1 l hl b m (i + 1) (by omega) (by omega)
theorem goes_l0 (l : List Int) (hl : l.length ≤ 200) : ∀ (m i : Nat), l.length - i = m → i ≤ l.length → Ev (fun k => wayfinderlaw15_SessGoes.l0 k l (i : Int) 1 ((i : Int) + 1) (goOut 0 (l.take i))) true
  | 0, i, hm, hi => by
    refine Ev.step (fun k => by rw [wayfinderlaw15_SessGoes.l0]) ?_
    refine ev_neg (by omega) ?_
    rw [List.take_of_length_le (by omega)]
    exact goes_l1 l hl _ l.length 0 rfl (Nat.zero_le _)
  | m + 1, i, hm, hi => by
    have hlt : i < l.length := by omega
    have hlen := goOut_len (l.take i) 0
    rw [List.length_take] at hlen
    refine Ev.step (fun k => by rw [wayfinderlaw15_SessGoes.l0]) ?_
    refine ev_pos (by omega) (ev_pos (by omega) ?_)
    rw [rd_nat l i hlt]
    refine ev_bindc (push_f (by omega) (by omega) (⟨0, 0, 0, l[i], ⟨⟨0, 0⟩, 0, 0, ⟨0, 0⟩⟩⟩ : SQ)) ?_
    have hs : l.take (i + 1) = l.take i ++ [l[i]] := by rw [List.take_add_one, List.getElem?_eq_getElem hlt]; rfl
    have hp : pushSpec 1 ((i : Int) + 1) (goOut 0 (l.take i)) (⟨0, 0, 0, l[i], ⟨⟨0, 0⟩, 0, 0, ⟨0, 0⟩⟩⟩ : SQ) = (1, ((i + 1 : Nat) : Int) + 1, goOut 0 (l.take (i + 1)), 0) := by
      unfold pushSpec
      rw [if_neg (by omega), hs, goOut_snoc]
      have h4 : 0 + (l.take i).length = i := by rw [List.length_take]; omega
      rw [h4]
      rfl
    rw [hp, wrap_id (by omega) (by omega)]
    exact goes_l0 l hl m (i + 1) (by omega) (by omega)
theorem SessGoes : wayfinderlaw15_SessGoes.Pure := by
  intro l0 _ _
  apply Ev.rounds
  unfold wayfinderlaw15_SessGoes.f
  refine ev_bindc awake15 (ev_pos rfl ?_)
  refine Ev.step (fun k => by rw [wayfinderlaw15_SessGoes.j0]) ?_
  refine ev_ite (fun _ => Ev.now _) (fun hq => ?_)
  have hq : l0.length ≤ 200 := by have : ¬ ((l0.length : Int) > 200) := by simpa using hq
                                  omega
  refine ev_bindc rfl ?_
  exact goes_l0 l0 hq l0.length 0 rfl (Nat.zero_le _)

end Go.Proofs.Ytibkmiffibacbaa.Pure
