/- What the law needs of plain Lean, and the law itself over it. -/
import Derived.Test.YtajddhechcneoaaVF2
import Derived.Test.YtajddhechcneoaaVBase
import Derived.IntWalk
import Derived.Test.YtajddhechcneoaaVZ
namespace Go.Proofs.Ytajddhechcneoaa.V
open Go Go.RowKit
set_option synthInstance.maxSize 2000
set_option synthInstance.maxHeartbeats 200000
set_option linter.unusedVariables false
set_option linter.unusedSimpArgs false
theorem wsucc (i : Nat) (h : i < 1000000) : IntKind.i64.wrap ((i : Int) + 1) = ((i + 1 : Nat) : Int) := by rw [IntWalk.i64_in _ (by omega)]; omega
theorem att_n {e : Ty} (xs : List e.T) (i : Nat) (h : i < xs.length) : att e xs (i : Int) = xs[i] := by
  unfold att
  rw [Int.toNat_natCast, List.getElem?_eq_getElem h]
  rfl
theorem loop_at {R : Type} (B : Nat → Nat → Option R) (j : Nat) (r : Option R) (step : ∀ m i, i < j → B (m + 1) i = B m (i + 1)) (fin : ∀ m, B (m + 1) j = r) : ∀ d i m, i + d = j → d < m → B m i = r
  | 0, i, m + 1, h, _ => by rw [show i = j by omega]; exact fin m
  | d + 1, i, m + 1, h, hm => by rw [step m i (by omega)]; exact loop_at B j r step fin d (i + 1) m (by omega) (by omega)
theorem loop {R : Type} (B : Nat → Nat → Option R) (j : Nat) (r : Option R) (step : ∀ m i, i < j → B (m + 1) i = B m (i + 1)) (fin : ∀ m, B (m + 1) j = r) (m : Nat) (hm : j < m) : B m 0 = r := loop_at B j r step fin j 0 m (by omega) hm
abbrev Hp := Td8a9.T
theorem awake_23 : f_law23_awake.f 1000 = some (true, ()) := by kernel_rfl
theorem of_code (l : List Hp) (id : Int) (h : l.length < 1000000) : f_audit_Of.f 1000 l id = some (l.filter (fun x => x.2.1 == id), ()) := by
  unfold f_audit_Of.f
  rw [if_pos (by omega)]
theorem filt_take {α : Type} (p : α → Bool) (l : List α) (i : Nat) (hi : i < l.length) : (l.take (i + 1)).filter p = (l.take i).filter p ++ (if p l[i] = true then [l[i]] else []) := by
  rw [List.take_succ_eq_append_getElem hi, List.filter_append, List.filter_cons, List.filter_nil]
theorem filt_at {α : Type} (p : α → Bool) (l : List α) (i : Nat) (hi : i < l.length) (hp : p l[i] = true) : (l.filter p)[((l.take i).filter p).length]? = some l[i] := by
  have h : l.filter p = (l.take i).filter p ++ l[i] :: (l.drop (i + 1)).filter p := by
    conv => lhs; rw [← List.take_append_drop i l]
    rw [List.filter_append, List.drop_eq_getElem_cons hi, List.filter_cons, if_pos hp]
  rw [h, List.getElem?_append_right (Nat.le_refl _), Nat.sub_self]
  rfl
theorem P_AuditParts (x0 : List Hp) (x1 : Int) (_ : Wf (.slice Td8a9) x0) (_ : Wf (.int .i64) x1) : ∃ k, f_law23_AuditParts.f k x0 x1 = some (true, ()) := by
  refine ⟨1000, ?_⟩
  unfold f_law23_AuditParts.f
  rw [awake_23, Option.bind_some, if_neg (by simp)]
  unfold f_law23_AuditParts.j1
  by_cases h1 : x0.length ≤ 100
  · rw [if_neg (by (first | omega | (dsimp only [Ty.T]; omega) | (simp only [decide_eq_true_eq, decide_eq_false_iff_not, Bool.not_eq_true, Ty.T]; omega) | (simp only [decide_eq_true_eq, decide_eq_false_iff_not, Ty.T]; omega) | (simp only [beq_iff_eq, bne_iff_ne, ne_eq, decide_eq_true_eq, Ty.T]; omega))), of_code x0 x1 (by omega), Option.bind_some]
    dsimp only
    generalize hq : (fun x : Hp => x.2.1 == x1) = q
    have hfl : (x0.filter q).length ≤ x0.length := List.length_filter_le _ _
    refine loop (fun m i => f_law23_AuditParts.l2 x0 x1 1000 m (x0.filter q) (((x0.take i).filter q).length : Int) (i : Int)) x0.length _ (fun m i hi => ?_) (fun m => ?_) 1000 (by omega)
    · simp only [f_law23_AuditParts.l2, f_law23_AuditParts.b2, f_law23_AuditParts.j4, f_law23_AuditParts.j3]
      have hle : ((x0.take i).filter q).length ≤ i := Nat.le_trans (List.length_filter_le _ _) (by rw [List.length_take]; omega)
      rw [if_pos (by (first | omega | (dsimp only [Ty.T]; omega) | (simp only [decide_eq_true_eq, decide_eq_false_iff_not, Bool.not_eq_true, Ty.T]; omega) | (simp only [decide_eq_true_eq, decide_eq_false_iff_not, Ty.T]; omega) | (simp only [beq_iff_eq, bne_iff_ne, ne_eq, decide_eq_true_eq, Ty.T]; omega))), if_pos (by omega), if_pos (by omega), att_n (e := Td8a9) x0 i hi, wsucc i (by omega), filt_take q x0 i hi]
      have hqi : q x0[i] = (x0[i].2.1 == x1) := by rw [← hq]
      by_cases hp : q x0[i] = true
      · have hat := filt_at q x0 i hi hp
        obtain ⟨hlt, hget⟩ := List.getElem?_eq_some_iff.1 hat
        rw [if_neg (by rw [bne, ← hqi, hp]; simp), if_neg (by (first | omega | (dsimp only [Ty.T]; omega) | (simp only [decide_eq_true_eq, decide_eq_false_iff_not, Bool.not_eq_true, Ty.T]; omega) | (simp only [decide_eq_true_eq, decide_eq_false_iff_not, Ty.T]; omega) | (simp only [beq_iff_eq, bne_iff_ne, ne_eq, decide_eq_true_eq, Ty.T]; omega))), if_pos (by omega), if_pos (by omega), att_n (e := Td8a9) (x0.filter q) _ hlt, hget, if_pos hp, wsucc _ (by omega), List.length_append]
        rw [if_neg (by simp)]
        rfl
      · rw [if_pos (by rw [bne, ← hqi, Bool.eq_false_iff.2 hp]; rfl), if_neg hp, List.append_nil]
    · simp only [f_law23_AuditParts.l2, f_law23_AuditParts.b2]
      rw [if_neg (by (first | omega | (dsimp only [Ty.T]; omega) | (simp only [decide_eq_true_eq, decide_eq_false_iff_not, Bool.not_eq_true, Ty.T]; omega) | (simp only [decide_eq_true_eq, decide_eq_false_iff_not, Ty.T]; omega) | (simp only [beq_iff_eq, bne_iff_ne, ne_eq, decide_eq_true_eq, Ty.T]; omega))), List.take_length]
      simp
  · rw [if_pos (by (first | omega | (dsimp only [Ty.T]; omega) | (simp only [decide_eq_true_eq, decide_eq_false_iff_not, Bool.not_eq_true, Ty.T]; omega) | (simp only [decide_eq_true_eq, decide_eq_false_iff_not, Ty.T]; omega) | (simp only [beq_iff_eq, bne_iff_ne, ne_eq, decide_eq_true_eq, Ty.T]; omega)))]
end Go.Proofs.Ytajddhechcneoaa.V
