/- Plain lemmas for this seat's laws. -/
import Derived.Test.YtibkmiffibacbaaPrint11
import Derived.Test.YtibkmiffibacbaaPrint29
import Derived.Test.YtibkmiffibacbaaPrintH
import Derived.Test.YtibkmiffibacbaaPureSess
namespace Go.Proofs.Ytibkmiffibacbaa.Pure
open Go.RowKit Go.Proofs.Ytibkmiffibacbaa.Print Go.Proofs.YtibkmiffibacbaaW.PrintWords Go.Proofs.YtibkmiffibacbaaW.PrintLast Go.Proofs.YtibkmiffibacbaaW.PrintMore
set_option linter.unusedVariables false
set_option linter.unusedSimpArgs false

def pushAll (a : Int) : Int → List SQ → List SQ → Int × Int × List SQ
  | b, l, [] => (a, b, l)
  | b, l, m :: ms => if b > 1048576 then (a, b, l) else pushAll a (b + 1) (l ++ [⟨m.f0, a, b, m.f3, m.f4⟩]) ms
theorem pushAll_full (a : Int) {b : Int} (h : b > 1048576) (l : List SQ) : ∀ ms, pushAll a b l ms = (a, b, l)
  | [] => rfl
  | m :: ms => by rw [pushAll, if_pos h]
theorem pushAll_len (a : Int) : ∀ (ms : List SQ) (b : Int) (l : List SQ), (pushAll a b l ms).2.2.length ≤ l.length + ms.length
  | [], b, l => by simp [pushAll]
  | m :: ms, b, l => by
    rw [pushAll]
    split
    · exact Nat.le_add_right _ _
    · have := pushAll_len a ms (b + 1) (l ++ [⟨m.f0, a, b, m.f3, m.f4⟩])
      simp only [List.length_append, List.length_cons, List.length_nil] at this ⊢
      omega
theorem pushAll_app (a : Int) : ∀ (ms ns : List SQ) (b : Int) (l : List SQ), pushAll a b l (ms ++ ns) = pushAll a (pushAll a b l ms).2.1 (pushAll a b l ms).2.2 ns
  | [], ns, b, l => rfl
  | m :: ms, ns, b, l => by
    by_cases h : b > 1048576
    · rw [pushAll_full a h, pushAll_full a h, pushAll_full a h]
    · rw [List.cons_append, pushAll, if_neg h, pushAll, if_neg h]
      exact pushAll_app a ms ns _ _
theorem pushAll_fst (a : Int) : ∀ (ms : List SQ) (b : Int) (l : List SQ), (pushAll a b l ms).1 = a
  | [], _, _ => rfl
  | m :: ms, b, l => by
    rw [pushAll]
    split
    · rfl
    · exact pushAll_fst a ms _ _
theorem pushAll_low (a : Int) : ∀ (ms : List SQ) (b : Int) (l : List SQ), b ≤ (pushAll a b l ms).2.1
  | [], b, _ => Int.le_refl b
  | m :: ms, b, l => by
    rw [pushAll]
    split
    · exact Int.le_refl b
    · have := pushAll_low a ms (b + 1) (l ++ [⟨m.f0, a, b, m.f3, m.f4⟩])
      omega
theorem planPush_l0 (ms : List SQ) (hms : ms.length < 100000) (a : Int) : ∀ (m i : Nat) (b : Int) (l : List SQ), ms.length - i = m → i ≤ ms.length → -9223372036854775808 ≤ b → l.length ≤ 300000 + i → Ev (fun k => plan_Push.l0 k ms (ms.length : Int) (i : Int) a b l) (pushAll a b l (ms.drop i))
  | 0, i, b, l, hm, hi, hb, hl => by
    rw [List.drop_of_length_le (by omega)]
    refine Ev.step (fun k => by rw [plan_Push.l0]) ?_
    exact ev_neg (by omega) (Ev.now _)
  | m + 1, i, b, l, hm, hi, hb, hl => by
    have hlt : i < ms.length := by omega
    have e : ms.drop i = ms[i] :: ms.drop (i + 1) := List.drop_eq_getElem_cons hlt
    refine Ev.step (fun k => by rw [plan_Push.l0]) ?_
    refine ev_pos (by omega) (ev_pos (by omega) (ev_pos (by omega) ?_))
    rw [rdQ hlt, wrap_id (x := (i : Int) + 1) (by omega) (by omega)]
    refine ev_bindc (push_f (by omega) hb ms[i]) ?_
    rw [e, pushAll]
    unfold pushSpec
    by_cases h : b > 1048576
    · rw [if_pos h, if_pos h]
      exact ev_neg (show ¬ ((7 : Int) = 0) by decide) (Ev.now _)
    · rw [if_neg h, if_neg h]
      refine ev_pos rfl ?_
      exact planPush_l0 ms hms a m (i + 1) (b + 1) _ (by omega) (by omega) (by omega) (by simp; omega)
theorem planPush_ev {a b : Int} {l ms : List SQ} (hl : l.length ≤ 300000) (hms : ms.length < 100000) (hb : -9223372036854775808 ≤ b) : Ev (fun k => plan_Push.f k a b l ms) (pushAll a b l ms) := by
  unfold plan_Push.f
  refine ev_bindc (done_f (by omega) _ 0) ?_
  have hd : doneSpec a b l (wrap64 (a - 1)) 0 = (a, b, l) := by
    unfold doneSpec
    rw [if_neg (by unfold wrap64; omega)]
  rw [hd]
  exact planPush_l0 ms hms a ms.length 0 b l rfl (Nat.zero_le _) hb (by omega)

end Go.Proofs.Ytibkmiffibacbaa.Pure
