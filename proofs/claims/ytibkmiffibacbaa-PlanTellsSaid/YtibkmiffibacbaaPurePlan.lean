/- Plain lemmas for this seat's laws. -/
import Derived.Test.YtibkmiffibacbaaPrint3
import Derived.Test.YtibkmiffibacbaaPrint32
import Derived.Test.YtibkmiffibacbaaPrint4
import Derived.Test.YtibkmiffibacbaaPrint5
import Derived.Test.YtibkmiffibacbaaPrintH
namespace Go.Proofs.Ytibkmiffibacbaa.Pure
open Go.RowKit Go.Proofs.Ytibkmiffibacbaa.Print Go.Proofs.YtibkmiffibacbaaW.PrintWords Go.Proofs.YtibkmiffibacbaaW.PrintLast Go.Proofs.YtibkmiffibacbaaW.PrintMore
set_option linter.unusedVariables false
set_option linter.unusedSimpArgs false

abbrev SV := S37
abbrev SM := S34
abbrev SR := S32
theorem rdV {l : List SV} {i : Nat} (h : i < l.length) : rd_T37 l (i : Int) = l[i] := by simp [rd_T37, h]
theorem rdM {l : List SM} {i : Nat} (h : i < l.length) : rd_T34 l (i : Int) = l[i] := by simp [rd_T34, h]
theorem rdR {l : List SR} {i : Nat} (h : i < l.length) : rd_T32 l (i : Int) = l[i] := by simp [rd_T32, h]
theorem awake20 : wayfinderlaw20_awake.f = some true := by
  unfold wayfinderlaw20_awake.f plan_Sync.f
  rw [if_pos ⟨by decide, fun v hv => by rw [List.mem_singleton] at hv; subst hv; decide⟩]
  simp [syncSpec, addsSpec, addMsg, flipMsg, openMsg, rd_T34]
def fewV (l : List SV) : Prop := l.length ≤ 20 ∧ ∀ v ∈ l, v.f1.length ≤ 60
instance (l : List SV) : Decidable (fewV l) := by unfold fewV; infer_instance
theorem fewV_l0 (l : List SV) (hl : l.length ≤ 20) : ∀ (m i : Nat), l.length - i = m → i ≤ l.length → Ev (fun k => wayfinderlaw09_Few.l0 k l (i : Int)) ((l.drop i).all fun x => decide (x.f1.length ≤ 60))
  | 0, i, hm, hi => by
    refine Ev.step (fun k => by rw [wayfinderlaw09_Few.l0]) ?_
    refine ev_neg (by omega) (ev_eq ?_)
    rw [List.drop_of_length_le (by omega)]
    rfl
  | m + 1, i, hm, hi => by
    have hlt : i < l.length := by omega
    refine Ev.step (fun k => by rw [wayfinderlaw09_Few.l0]) ?_
    refine ev_pos (by omega) ?_
    refine ev_pos (by omega) ?_
    have e : l.drop i = l[i] :: l.drop (i + 1) := List.drop_eq_getElem_cons hlt
    have r := rdV hlt
    rw [e, List.all_cons]
    refine ev_ite (fun h => ?_) (fun h => ?_)
    · refine ev_eq ?_
      rw [r] at h
      rw [decide_eq_false (by omega)]
      rfl
    · rw [wrap_id (by omega) (by omega)]
      rw [r] at h
      rw [decide_eq_true (by omega), Bool.true_and]
      exact fewV_l0 l hl m (i + 1) (by omega) hlt
theorem fewV_ev (l : List SV) : Ev (fun k => wayfinderlaw09_Few.f k l) (decide (fewV l)) := by
  unfold wayfinderlaw09_Few.f
  refine ev_ite (fun h => ev_eq ?_) (fun h => ?_)
  · symm
    rw [decide_eq_false_iff_not]
    intro hc
    have := hc.1
    omega
  · have := fewV_l0 l (by omega) l.length 0 rfl (Nat.zero_le _)
    have e : decide (fewV l) = ((l.drop 0).all fun x => decide (x.f1.length ≤ 60)) := by
      apply Bool.eq_iff_iff.2
      rw [decide_eq_true_iff, List.all_eq_true, List.drop_zero]
      constructor
      · intro hc x hx
        exact decide_eq_true (hc.2 x hx)
      · intro hc
        exact ⟨by omega, fun x hx => of_decide_eq_true (hc x hx)⟩
    rw [e]
    exact this
theorem sync_f {l : List SV} (h : fewV l) (t : Int) : plan_Sync.f l t = some (syncSpec l t) := by
  unfold plan_Sync.f
  rw [if_pos ⟨by have := h.1; omega, fun v hv => by have := h.2 v hv; omega⟩]
def flat (l : List SV) : List SM := l.flatMap fun v => addsSpec v.f0 v.f1
theorem flat_len : ∀ (l : List SV), (∀ v ∈ l, v.f1.length ≤ 60) → (flat l).length ≤ l.length * 60
  | [], _ => by simp [flat]
  | v :: l, h => by
    have ih := flat_len l (fun x hx => h x (List.mem_cons_of_mem _ hx))
    have hv := h v List.mem_cons_self
    unfold flat at ih ⊢
    rw [List.flatMap_cons, List.length_append, List.length_cons]
    have : (addsSpec v.f0 v.f1).length = v.f1.length := by unfold addsSpec; rw [List.length_map]
    omega
theorem sync_eq (l : List SV) (t : Int) : syncSpec l t = flat l ++ [flipMsg t, openMsg] := rfl
theorem sync_len2 (l : List SV) (t : Int) : (syncSpec l t).length = (flat l).length + 2 := by rw [sync_eq]; simp
theorem flat_succ (l : List SV) (i : Nat) (h : i < l.length) : flat (l.take (i + 1)) = flat (l.take i) ++ addsSpec (l[i]).f0 (l[i]).f1 := by
  unfold flat
  rw [List.take_add_one, List.getElem?_eq_getElem h, List.flatMap_append]
  simp
theorem flat_split (l : List SV) (i : Nat) (h : i < l.length) : flat l = flat (l.take i) ++ (addsSpec (l[i]).f0 (l[i]).f1 ++ flat (l.drop (i + 1))) := by
  have e : flat l = flat (l.take (i + 1)) ++ flat (l.drop (i + 1)) := by
    unfold flat
    rw [← List.flatMap_append, List.take_append_drop]
  rw [e, flat_succ l i h, List.append_assoc]
theorem sync_at (l : List SV) (t : Int) (i j : Nat) (h : i < l.length) (hj : j < (l[i]).f1.length) : (syncSpec l t)[(flat (l.take i)).length + j]? = some (addMsg (l[i]).f0 ((l[i]).f1[j])) := by
  have hlen : (addsSpec (l[i]).f0 (l[i]).f1).length = (l[i]).f1.length := by unfold addsSpec; rw [List.length_map]
  rw [sync_eq, flat_split l i h, List.append_assoc, List.getElem?_append_right (Nat.le_add_right _ _), Nat.add_sub_cancel_left, List.append_assoc, List.getElem?_append_left (by omega)]
  unfold addsSpec
  rw [List.getElem?_map, List.getElem?_eq_getElem hj]
  rfl

end Go.Proofs.Ytibkmiffibacbaa.Pure
