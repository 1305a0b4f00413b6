/- Plain lemmas for this seat's laws. -/
import Derived.Test.YtibkmiffibacbaaPrint11
import Derived.Test.YtibkmiffibacbaaPrint15
import Derived.Test.YtibkmiffibacbaaPrint16
import Derived.Test.YtibkmiffibacbaaPrint8
import Derived.Test.YtibkmiffibacbaaPrint9
import Derived.Test.YtibkmiffibacbaaPrintH
namespace Go.Proofs.Ytibkmiffibacbaa.Pure
open Go.RowKit Go.Proofs.Ytibkmiffibacbaa.Print Go.Proofs.YtibkmiffibacbaaW.PrintWords Go.Proofs.YtibkmiffibacbaaW.PrintLast Go.Proofs.YtibkmiffibacbaaW.PrintMore
set_option linter.unusedVariables false
set_option linter.unusedSimpArgs false

abbrev SQ := S34
theorem rdQ {l : List SQ} {i : Nat} (h : i < l.length) : rd_T34 l (i : Int) = l[i] := by simp [rd_T34, h]
theorem msgs_l0 (l : List SQ) (hl : l.length < 1000000000) : ∀ (m i : Nat), l.length - i = m → i ≤ l.length → Ev (fun k => wayfinderref15_Msgs.l0 k l l (i : Int)) true
  | 0, i, hm, hi => by
    refine Ev.step (fun k => by rw [wayfinderref15_Msgs.l0]) ?_
    exact ev_neg (by omega) (Ev.now _)
  | m + 1, i, hm, hi => by
    refine Ev.step (fun k => by rw [wayfinderref15_Msgs.l0]) ?_
    refine ev_pos (by omega) ?_
    refine ev_pos (by omega) ?_
    refine ev_pos (by omega) ?_
    refine ev_neg (by simp) ?_
    rw [wrap_id (by omega) (by omega)]
    exact msgs_l0 l hl m (i + 1) (by omega) (by omega)
theorem msgs_self (l : List SQ) (hl : l.length < 1000000000) : Ev (fun k => wayfinderref15_Msgs.f k l l) true := by
  unfold wayfinderref15_Msgs.f
  refine ev_pos rfl ?_
  exact msgs_l0 l hl l.length 0 rfl (Nat.zero_le _)
theorem same15 (a b : Int) (l : List SQ) (hl : l.length < 1000000000) : Ev (fun k => wayfinderref15_Same.f k a b l a b l) true := by
  unfold wayfinderref15_Same.f
  refine ev_bind (msgs_self l hl) (ev_pos rfl (ev_pos rfl (ev_eq ?_)))
  simp
def pushSpec (a b : Int) (l : List SQ) (m : SQ) : Int × Int × List SQ × Int := if b > 1048576 then (a, b, l, 7) else (a, b + 1, l ++ [⟨m.f0, a, b, m.f3, m.f4⟩], 0)
theorem push_f {a b : Int} {l : List SQ} (hl : l.length < 1000000) (hb : -9223372036854775808 ≤ b) (m : SQ) : sess_Push.f a b l m.f0 m.f1 m.f2 m.f3 m.f4.f0.f0 m.f4.f0.f1 m.f4.f1 m.f4.f2 m.f4.f3.f0 m.f4.f3.f1 = some (pushSpec a b l m) := by
  unfold sess_Push.f sess_own.f pushSpec
  rw [if_pos hl]
  simp only [Option.bind_some]
  by_cases h : b > 1048576
  · rw [if_pos h, if_pos h]
  · rw [if_neg h, if_neg h, if_pos (by omega), wrap_id (by omega) (by omega)]
theorem done_f {a b : Int} {l : List SQ} (hl : l.length < 1000000) (e q : Int) : sess_Done.f a b l e q = some (doneSpec a b l e q) := by
  unfold sess_Done.f
  rw [if_pos hl]
def firstSpec (l : List SQ) (n : Int) : List SQ := l.take (mn (mx n 0) (l.length : Int)).toNat

end Go.Proofs.Ytibkmiffibacbaa.Pure
