/- Plain lemmas for this seat's laws. -/
import Derived.Test.YtibkmiffibacbaaPrint11
import Derived.Test.YtibkmiffibacbaaPrint18
import Derived.Test.YtibkmiffibacbaaPrint19
import Derived.Test.YtibkmiffibacbaaPrint22
import Derived.Test.YtibkmiffibacbaaPrintH
import Derived.Test.YtibkmiffibacbaaPureSess
namespace Go.Proofs.Ytibkmiffibacbaa.Pure
open Go.RowKit Go.Proofs.Ytibkmiffibacbaa.Print Go.Proofs.YtibkmiffibacbaaW.PrintWords Go.Proofs.YtibkmiffibacbaaW.PrintLast Go.Proofs.YtibkmiffibacbaaW.PrintMore
set_option linter.unusedVariables false
set_option linter.unusedSimpArgs false

theorem eta34 (x : SQ) : (⟨x.f0, x.f1, x.f2, x.f3, ⟨⟨x.f4.f0.f0, x.f4.f0.f1⟩, x.f4.f1, x.f4.f2, ⟨x.f4.f3.f0, x.f4.f3.f1⟩⟩⟩ : SQ) = x := rfl
theorem refPush_f {a b : Int} {l : List SQ} (hl : l.length < 1000000) (hb : -9223372036854775808 ≤ b) (m : SQ) : wayfinderref15_Push.f a b l m.f0 m.f1 m.f2 m.f3 m.f4.f0.f0 m.f4.f0.f1 m.f4.f1 m.f4.f2 m.f4.f3.f0 m.f4.f3.f1 = some (pushSpec a b l m) := by
  unfold wayfinderref15_Push.f pushSpec
  by_cases h : b > 1048576
  · rw [if_pos h, if_pos h]
  · rw [if_neg h, if_neg h, if_pos (by simp; omega)]
    simp only [Option.bind_some, List.nil_append]
    rw [if_pos (by simp; omega), wrap_id (by omega) (by omega)]
theorem refDone_l0 (q a b : Int) (l : List SQ) (hl : l.length < 1000000) : ∀ (m i : Nat) (xs : List SQ), l.length - i = m → i ≤ l.length → xs = keepL (l.take i) q → Ev (fun k => wayfinderref15_Done.l0 k q xs (i : Int) a b l) (a, b, keepL l q)
  | 0, i, xs, hm, hi, hx => by
    refine Ev.step (fun k => by rw [wayfinderref15_Done.l0]) ?_
    refine ev_neg (by omega) (ev_eq ?_)
    rw [hx, List.take_of_length_le (by omega)]
  | m + 1, i, xs, hm, hi, hx => by
    have hlt : i < l.length := by omega
    have hxl : xs.length ≤ i := by rw [hx]; exact Nat.le_trans (List.length_filter_le _ _) (by rw [List.length_take]; omega)
    have hs : l.take (i + 1) = l.take i ++ [l[i]] := by rw [List.take_add_one, List.getElem?_eq_getElem hlt]; rfl
    refine Ev.step (fun k => by rw [wayfinderref15_Done.l0]) ?_
    refine ev_pos (by omega) (ev_pos (by omega) ?_)
    rw [rdQ hlt, wrap_id (by omega) (by omega)]
    refine ev_ite (fun h => ev_pos (by omega) ?_) (fun h => ?_)
    · refine refDone_l0 q a b l hl m (i + 1) _ (by omega) (by omega) ?_
      rw [hs, hx]
      simp only [keepL, List.filter_append]
      rw [List.filter_cons_of_pos (by simpa using h)]
      rfl
    · refine refDone_l0 q a b l hl m (i + 1) _ (by omega) (by omega) ?_
      rw [hs, hx]
      simp only [keepL, List.filter_append]
      rw [List.filter_cons_of_neg (by simpa using h)]
      simp
theorem refDone_ev {a b : Int} {l : List SQ} (hl : l.length < 1000000) (e q : Int) : Ev (fun k => wayfinderref15_Done.f k a b l e q) (doneSpec a b l e q) := by
  unfold wayfinderref15_Done.f doneSpec
  refine ev_ite (fun h => ?_) (fun h => ?_)
  · rw [if_pos h]
    exact refDone_l0 q a b l hl l.length 0 [] rfl (Nat.zero_le _) rfl
  · rw [if_neg h]
    exact Ev.now _
theorem refFirst_l0 (n a b : Int) (l : List SQ) (hl : l.length < 1000000) : ∀ (m i : Nat), l.length - i = m → i ≤ (mn (mx n 0) (l.length : Int)).toNat → Ev (fun k => wayfinderref15_First.l0 k n (l.take i) (i : Int) a b l) (firstSpec l n)
  | 0, i, hm, hi => by
    have h1 : mn (mx n 0) (l.length : Int) ≤ (l.length : Int) := by unfold mn mx; split <;> split <;> omega
    refine Ev.step (fun k => by rw [wayfinderref15_First.l0]) ?_
    refine ev_neg (by omega) (ev_eq ?_)
    unfold firstSpec
    congr 1
    omega
  | m + 1, i, hm, hi => by
    have hlt : i < l.length := by omega
    have hxl : (l.take i).length ≤ i := by rw [List.length_take]; omega
    refine Ev.step (fun k => by rw [wayfinderref15_First.l0]) ?_
    refine ev_pos (by omega) ?_
    refine ev_ite (fun h => ?_) (fun h => ev_eq ?_)
    · refine ev_pos (by omega) (ev_pos (by omega) ?_)
      rw [rdQ hlt, wrap_id (by omega) (by omega)]
      have hs : l.take i ++ [l[i]] = l.take (i + 1) := by rw [List.take_add_one, List.getElem?_eq_getElem hlt]; rfl
      have h2 : i + 1 ≤ (mn (mx n 0) (l.length : Int)).toNat := by
        unfold mn mx
        split <;> split <;> omega
      have := refFirst_l0 n a b l hl m (i + 1) (by omega) h2
      rw [← hs] at this
      exact this
    · unfold firstSpec
      congr 1
      have : mn (mx n 0) (l.length : Int) ≤ (i : Int) := by unfold mn mx; split <;> split <;> omega
      omega
theorem refFirst_ev {a b : Int} {l : List SQ} (hl : l.length < 1000000) (n : Int) : Ev (fun k => wayfinderref15_First.f k a b l n) (firstSpec l n) := refFirst_l0 n a b l hl l.length 0 rfl (Nat.zero_le _)
theorem push_len (a b : Int) (l : List SQ) (m : SQ) : (pushSpec a b l m).2.2.1.length ≤ l.length + 1 := by
  unfold pushSpec
  split <;> simp
theorem done_len (a b : Int) (l : List SQ) (e q : Int) : (doneSpec a b l e q).2.2.length ≤ l.length := by
  unfold doneSpec
  dsimp only
  split
  · exact List.length_filter_le _ _
  · exact Nat.le_refl _
theorem first_len (l : List SQ) (n : Int) : (firstSpec l n).length ≤ l.length := by
  unfold firstSpec
  rw [List.length_take]
  exact Nat.min_le_right _ _

end Go.Proofs.Ytibkmiffibacbaa.Pure
