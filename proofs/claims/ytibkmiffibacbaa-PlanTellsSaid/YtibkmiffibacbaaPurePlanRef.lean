/- Plain lemmas for this seat's laws. -/
import Derived.Test.YtibkmiffibacbaaPrint27
import Derived.Test.YtibkmiffibacbaaPrint28
import Derived.Test.YtibkmiffibacbaaPrint30
import Derived.Test.YtibkmiffibacbaaPrint32
import Derived.Test.YtibkmiffibacbaaPrintH
import Derived.Test.YtibkmiffibacbaaPurePlan
import Derived.Test.YtibkmiffibacbaaPureSess
import Derived.Test.YtibkmiffibacbaaPureSessRef
import Derived.Test.YtibkmiffibacbaaPurePlanPush
namespace Go.Proofs.Ytibkmiffibacbaa.Pure
open Go.RowKit Go.Proofs.Ytibkmiffibacbaa.Print Go.Proofs.YtibkmiffibacbaaW.PrintWords Go.Proofs.YtibkmiffibacbaaW.PrintLast Go.Proofs.YtibkmiffibacbaaW.PrintMore
set_option linter.unusedVariables false
set_option linter.unusedSimpArgs false

theorem refAdds_l0 (t : Int) (l : List SR) (hl : l.length ≤ 100000) : ∀ (m i : Nat), l.length - i = m → i ≤ l.length → Ev (fun k => wayfinderref20_Adds.l0 k t l (addsSpec t (l.take i)) (i : Int)) (addsSpec t l)
  | 0, i, hm, hi => by
    rw [List.take_of_length_le (by omega)]
    refine Ev.step (fun k => by rw [wayfinderref20_Adds.l0]) ?_
    exact ev_neg (by omega) (Ev.now _)
  | m + 1, i, hm, hi => by
    have hlt : i < l.length := by omega
    have hlen : (addsSpec t (l.take i)).length ≤ i := by unfold addsSpec; rw [List.length_map, List.length_take]; omega
    refine Ev.step (fun k => by rw [wayfinderref20_Adds.l0]) ?_
    refine ev_pos (by omega) (ev_pos (by omega) (ev_pos (by omega) ?_))
    rw [rdR hlt, wrap_id (by omega) (by omega)]
    have hs : l.take (i + 1) = l.take i ++ [l[i]] := by rw [List.take_add_one, List.getElem?_eq_getElem hlt]; rfl
    have := refAdds_l0 t l hl m (i + 1) (by omega) (by omega)
    rw [hs] at this
    unfold addsSpec at this ⊢
    rw [List.map_append] at this
    exact this
theorem refAdds_ev (t : Int) (l : List SR) (hl : l.length ≤ 100000) : Ev (fun k => wayfinderref20_Adds.f k t l) (addsSpec t l) := refAdds_l0 t l hl l.length 0 rfl (Nat.zero_le _)
theorem refSync_l0 (l : List SV) (t : Int) (h : fewV l) : ∀ (m i : Nat), l.length - i = m → i ≤ l.length → Ev (fun k => wayfinderref20_Sync.l0 k l t (flat (l.take i)) (i : Int)) (syncSpec l t)
  | 0, i, hm, hi => by
    have h1 := flat_len l h.2
    have h2 := h.1
    rw [List.take_of_length_le (by omega)]
    refine Ev.step (fun k => by rw [wayfinderref20_Sync.l0]) ?_
    refine ev_neg (by omega) (ev_bindc rfl (ev_pos ?_ (ev_eq rfl)))
    simp only [List.length_cons, List.length_nil]
    omega
  | m + 1, i, hm, hi => by
    have hlt : i < l.length := by omega
    have h2 := h.1
    have h1 := flat_len (l.take i) (fun v hv => h.2 v (List.mem_of_mem_take hv))
    have h3 : (l.take i).length ≤ i := by rw [List.length_take]; omega
    have h5 : (l[i]).f1.length ≤ 60 := h.2 _ (List.getElem_mem hlt)
    have h6 : (addsSpec (l[i]).f0 (l[i]).f1).length = (l[i]).f1.length := by unfold addsSpec; rw [List.length_map]
    refine Ev.step (fun k => by rw [wayfinderref20_Sync.l0]) ?_
    refine ev_pos (by omega) (ev_pos (by omega) ?_)
    rw [rdV hlt, wrap_id (by omega) (by omega)]
    refine ev_bind (refAdds_ev _ _ (by omega)) (ev_pos (by omega) ?_)
    rw [← flat_succ l i hlt]
    exact refSync_l0 l t h m (i + 1) (by omega) (by omega)
theorem refSync_ev (l : List SV) (t : Int) (h : fewV l) : Ev (fun k => wayfinderref20_Sync.f k l t) (syncSpec l t) := refSync_l0 l t h l.length 0 rfl (Nat.zero_le _)
theorem refPPush_l0 (ms : List SQ) (hms : ms.length < 100000) (a : Int) : ∀ (m i : Nat) (b : Int) (l : List SQ), ms.length - i = m → i ≤ ms.length → -9223372036854775808 ≤ b → l.length ≤ 300000 + i → Ev (fun k => wayfinderref20_Push.l0 k ms (i : Int) a b l) (pushAll a b l (ms.drop i))
  | 0, i, b, l, hm, hi, hb, hl => by
    rw [List.drop_of_length_le (by omega)]
    refine Ev.step (fun k => by rw [wayfinderref20_Push.l0]) ?_
    exact ev_neg (by omega) (Ev.now _)
  | m + 1, i, b, l, hm, hi, hb, hl => by
    have hlt : i < ms.length := by omega
    have e : ms.drop i = ms[i] :: ms.drop (i + 1) := List.drop_eq_getElem_cons hlt
    refine Ev.step (fun k => by rw [wayfinderref20_Push.l0]) ?_
    refine ev_pos (by omega) (ev_pos (by omega) ?_)
    rw [rdQ hlt, wrap_id (x := (i : Int) + 1) (by omega) (by omega)]
    refine ev_bindc (refPush_f (by omega) hb ms[i]) ?_
    rw [e, pushAll]
    unfold pushSpec
    by_cases h : b > 1048576
    · rw [if_pos h, if_pos h]
      exact ev_neg (show ¬ ((7 : Int) = 0) by decide) (Ev.now _)
    · rw [if_neg h, if_neg h]
      refine ev_pos rfl ?_
      exact refPPush_l0 ms hms a m (i + 1) (b + 1) _ (by omega) (by omega) (by omega) (by simp; omega)
theorem refPPush_ev {a b : Int} {l ms : List SQ} (hl : l.length ≤ 300000) (hms : ms.length < 100000) (hb : -9223372036854775808 ≤ b) : Ev (fun k => wayfinderref20_Push.f k a b l ms) (pushAll a b l ms) := refPPush_l0 ms hms a ms.length 0 b l rfl (Nat.zero_le _) hb (by omega)
theorem adds_f (t : Int) {l : List SR} (hl : l.length < 1000000) : plan_Adds.f t l = some (addsSpec t l) := by
  unfold plan_Adds.f
  rw [if_pos hl]

end Go.Proofs.Ytibkmiffibacbaa.Pure
