/- A plan pushed whole: every message has its number. -/
import Derived.Test.YtkobhleoebgbhaaPureFew
import Derived.Test.YtkobhleoebgbhaaVZ
namespace Go.Proofs.Ytkobhleoebgbhaa.V
open Go Go.RowKit
set_option linter.unusedVariables false
set_option linter.unusedSimpArgs false
theorem awake20 : f_law20_awake.f 2000 = some (true, ()) := by decide +kernel
def addOf (tag : Int) (r : Rl) : Mg := (2, (0, (0, (tag, r))))
def addsOf (tag : Int) (rs : List Rl) : List Mg := rs.map (addOf tag)
theorem adds_eq (k : Nat) (tag : Int) (rs : List Rl) (hk : rs.length < k) (hs : rs.length < 1000000) : f_plan_Adds.f k tag rs = some (addsOf tag rs, ()) := by
  unfold f_plan_Adds.f
  have h : i_plan_many_Rule_do_6ac.f k rs tag = some (tag, (addsOf tag rs, ())) := by
    unfold i_plan_many_Rule_do_6ac.f
    refine loop (fun m i => i_plan_many_Rule_do_6ac.l1 k m rs (rs.length : Int) (i : Int) tag (addsOf tag (rs.take i))) rs.length _ (fun m i hi => ?_) (fun m => ?_) k (by omega)
    · simp only [i_plan_many_Rule_do_6ac.l1, i_plan_many_Rule_do_6ac.b1, i_plan_Adds_1_153.f, att_n rs i hi]
      rw [if_pos (by (first | omega | (dsimp only [Ty.T]; omega) | (simp only [decide_eq_true_eq, decide_eq_false_iff_not, Bool.not_eq_true, Ty.T]; omega) | (simp only [decide_eq_true_eq, decide_eq_false_iff_not, Ty.T]; omega) | (simp only [beq_iff_eq, bne_iff_ne, ne_eq, decide_eq_true_eq, Ty.T]; omega))), if_pos (by omega), if_pos (by omega), if_pos (by unfold addsOf; rw [List.length_map, List.length_take]; omega), Option.bind_some, wsucc i (by omega)]
      unfold addsOf
      rw [List.take_succ_eq_append_getElem hi, List.map_append]
      rfl
    · simp only [i_plan_many_Rule_do_6ac.l1, i_plan_many_Rule_do_6ac.b1]
      rw [if_neg (by (first | omega | (dsimp only [Ty.T]; omega) | (simp only [decide_eq_true_eq, decide_eq_false_iff_not, Bool.not_eq_true, Ty.T]; omega) | (simp only [decide_eq_true_eq, decide_eq_false_iff_not, Ty.T]; omega) | (simp only [beq_iff_eq, bne_iff_ne, ne_eq, decide_eq_true_eq, Ty.T]; omega))), List.take_length]
  rw [h, Option.bind_some]
def allOf (t : List Vr) : List Mg := t.flatMap fun v => addsOf v.1 v.2
theorem all_len (t : List Vr) : (allOf t).length = sizeOf' t := by
  induction t with
  | nil => rfl
  | cons v t ih =>
    unfold allOf sizeOf' at ih ⊢
    rw [List.flatMap_cons, List.length_append, ih, List.map_cons, List.sum_cons]
    unfold addsOf
    rw [List.length_map]
def syncOf (t : List Vr) (n : Int) : List Mg := allOf t ++ [(3, (0, (0, (n, ((0, 0), (0, (0, (0, 0)))))))), (5, (0, (0, (0, ((0, 0), (0, (0, (0, 0))))))))]
theorem sync_len (t : List Vr) (n : Int) : (syncOf t n).length = sizeOf' t + 2 := by unfold syncOf; rw [List.length_append, all_len]; rfl
theorem sync_eq (k : Nat) (t : List Vr) (n : Int) (hk : 100 ≤ k) (h1 : t.length ≤ 20) (h2 : ∀ v ∈ t, v.2.length ≤ 60) : f_plan_Sync.f k t n = some (syncOf t n, ()) := by
  have hz := size_le (t := t) fun v hv => by have := h2 v hv; omega
  unfold f_plan_Sync.f
  have h : i_plan_many_Ver_do_f88.f k t = some (allOf t, ()) := by
    unfold i_plan_many_Ver_do_f88.f
    refine loop (fun m i => i_plan_many_Ver_do_f88.l1 k m t (t.length : Int) (i : Int) (allOf (t.take i))) t.length _ (fun m i hi => ?_) (fun m => ?_) k (by omega)
    · have hv := h2 _ (List.getElem_mem hi)
      have hl := all_len (t.take i)
      have hl2 := size_take_le t i
      simp only [i_plan_many_Ver_do_f88.l1, i_plan_many_Ver_do_f88.b1, i_plan_Sync_1_83e.f, att_n t i hi]
      rw [if_pos (by (first | omega | (dsimp only [Ty.T]; omega) | (simp only [decide_eq_true_eq, decide_eq_false_iff_not, Bool.not_eq_true, Ty.T]; omega) | (simp only [decide_eq_true_eq, decide_eq_false_iff_not, Ty.T]; omega) | (simp only [beq_iff_eq, bne_iff_ne, ne_eq, decide_eq_true_eq, Ty.T]; omega))), if_pos (by omega), if_pos (by omega), adds_eq k _ _ (by omega) (by omega), Option.bind_some]
      dsimp only
      rw [if_pos (by unfold addsOf; rw [List.length_map]; omega), Option.bind_some, wsucc i (by omega)]
      unfold allOf
      rw [List.take_succ_eq_append_getElem hi, List.flatMap_append]
      simp
    · simp only [i_plan_many_Ver_do_f88.l1, i_plan_many_Ver_do_f88.b1]
      rw [if_neg (by (first | omega | (dsimp only [Ty.T]; omega) | (simp only [decide_eq_true_eq, decide_eq_false_iff_not, Bool.not_eq_true, Ty.T]; omega) | (simp only [decide_eq_true_eq, decide_eq_false_iff_not, Ty.T]; omega) | (simp only [beq_iff_eq, bne_iff_ne, ne_eq, decide_eq_true_eq, Ty.T]; omega))), List.take_length]
  rw [h, Option.bind_some]
  have hl := all_len t
  rw [if_pos (by dsimp only; omega)]
  rfl
def pushed (S : Ss) (ms : List Mg) : Nat → Ss
  | 0 => S
  | i + 1 => push (pushed S ms i) (att T4414 ms (i : Int))
theorem pushed_ok (S : Ss) (ms : List Mg) : ∀ i, i ≤ ms.length → (pushed S ms i).1 = S.1 ∧ (pushed S ms i).2.1 = S.2.1 + (i : Int) ∧ (pushed S ms i).2.2.length = S.2.2.length + i ∧ ∀ j (h : j < i) (hj : j < ms.length), (pushed S ms i).2.2[S.2.2.length + j]? = some (ms[j].1, (S.1, (S.2.1 + (j : Int), ms[j].2.2.2)))
  | 0, _ => ⟨rfl, (Int.add_zero _).symm, rfl, fun j h => absurd h (Nat.not_lt_zero j)⟩
  | i + 1, hi => by
    obtain ⟨h1, h2, h3, h4⟩ := pushed_ok S ms i (by omega)
    unfold pushed push
    dsimp only
    refine ⟨h1, ?_, ?_, fun j h hj => ?_⟩
    · rw [h2]
      exact Int.add_assoc _ _ _
    · rw [List.length_append, h3]; rfl
    · by_cases e : j < i
      · rw [List.getElem?_append_left (by omega)]
        exact h4 j e hj
      · obtain rfl : j = i := by omega
        rw [List.getElem?_append_right (by omega), h3, Nat.sub_self, h1, h2, att_n ms j hj]
        rfl
theorem wrap_pred (v : Int) : IntKind.i64.wrap (v - 1) ≠ v := by
  rw [IntKind.wrap_i64]
  omega
theorem pushall_eq (k : Nat) (S : Ss) (ms : List Mg) (hk : ms.length < k) (hk2 : S.2.2.length + 5 < k) (hm : ms.length ≤ 2000) (hb : S.2.2.length ≤ 200) (n1 : (1 : Int) ≤ S.2.1) (n2 : S.2.1 ≤ (1000 : Int)) : f_plan_Push.f k S ms = some (pushed S ms ms.length, ()) := by
  unfold f_plan_Push.f
  rw [done_eq k S _ _ hk2 (by omega), Option.bind_some]
  have hd : sdone S (IntKind.i64.wrap (S.1 - 1)) 0 = S := by
    unfold sdone
    rw [if_neg (wrap_pred S.1)]
  rw [hd]
  refine loop (fun m i => f_plan_Push.l1 k m ms (ms.length : Int) (i : Int) (pushed S ms i) 0 0) ms.length _ (fun m i hi => ?_) (fun m => ?_) k (by omega)
  · obtain ⟨h1, h2, h3, h4⟩ := pushed_ok S ms i (by omega)
    have hn : ∀ a : Int, 1 ≤ a → a ≤ 1000 → a + (i : Int) ≤ 1048576 ∧ (-1048576 : Int) ≤ a + (i : Int) := fun a b c => ⟨by omega, by omega⟩
    have hn2 := hn S.2.1 n1 n2
    simp only [f_plan_Push.l1, f_plan_Push.b1]
    rw [if_pos (by (first | omega | (dsimp only [Ty.T]; omega) | (simp only [decide_eq_true_eq, decide_eq_false_iff_not, Bool.not_eq_true, Ty.T]; omega) | (simp only [decide_eq_true_eq, decide_eq_false_iff_not, Ty.T]; omega) | (simp only [beq_iff_eq, bne_iff_ne, ne_eq, decide_eq_true_eq, Ty.T]; omega))), if_pos (by omega), if_pos (by omega), push_eq k _ _ (by omega) (by rw [h2]; exact hn2.1) (by rw [h2]; exact hn2.2), Option.bind_some, if_neg (by simp), wsucc i (by omega)]
    rfl
  · simp only [f_plan_Push.l1, f_plan_Push.b1, f_plan_Push.j2]
    rw [if_neg (by (first | omega | (dsimp only [Ty.T]; omega) | (simp only [decide_eq_true_eq, decide_eq_false_iff_not, Bool.not_eq_true, Ty.T]; omega) | (simp only [decide_eq_true_eq, decide_eq_false_iff_not, Ty.T]; omega) | (simp only [beq_iff_eq, bne_iff_ne, ne_eq, decide_eq_true_eq, Ty.T]; omega)))]
theorem P_PlanCounts (x0 : List Vr) (x1 : Int) (x2 : Ss) (_ : Wf (.slice T814c) x0) (_ : Wf (.int .i64) x1) (_ : Wf Tb104 x2) : ∃ k, f_law20_PlanCounts.f k x0 x1 x2 = some (true, ()) := by
  refine ⟨2000, ?_⟩
  unfold f_law20_PlanCounts.f
  rw [awake20, few_eq 2000 x0 (by omega), Option.bind_some, Option.bind_some, if_neg (by simp)]
  have hj : ∀ a b c, f_law20_PlanCounts.j1 2000 a b true true c = some (true, ()) := fun a b c => rfl
  by_cases hf : (decide (x0.length ≤ 20) && x0.all fun v => decide (v.2.length ≤ 60)) = true
  · obtain ⟨f1, f2⟩ := few_of hf
    rw [hf, if_neg (by simp)]
    have hz : sizeOf' x0 ≤ 1200 := by
      have : ∀ t : List Vr, (∀ v ∈ t, v.2.length ≤ 60) → sizeOf' t ≤ t.length * 60 := by
        intro t
        induction t with
        | nil => simp [sizeOf']
        | cons v t ih =>
          intro h
          have h1 := h v List.mem_cons_self
          have h2 := ih fun x hx => h x (List.mem_cons_of_mem _ hx)
          simp only [sizeOf', List.map_cons, List.sum_cons, List.length_cons] at h2 ⊢
          omega
      have := this x0 f2
      omega
    by_cases g1 : (x2.2.2.length : Int) > 200
    · rw [if_pos (by (first | omega | (dsimp only [Ty.T]; omega) | (simp only [decide_eq_true_eq, decide_eq_false_iff_not, Bool.not_eq_true, Ty.T]; omega) | (simp only [decide_eq_true_eq, decide_eq_false_iff_not, Ty.T]; omega) | (simp only [beq_iff_eq, bne_iff_ne, ne_eq, decide_eq_true_eq, Ty.T]; omega)))]; exact hj ..
    rw [if_neg (by (first | omega | (dsimp only [Ty.T]; omega) | (simp only [decide_eq_true_eq, decide_eq_false_iff_not, Bool.not_eq_true, Ty.T]; omega) | (simp only [decide_eq_true_eq, decide_eq_false_iff_not, Ty.T]; omega) | (simp only [beq_iff_eq, bne_iff_ne, ne_eq, decide_eq_true_eq, Ty.T]; omega)))]
    by_cases g2 : x2.2.1 < (1 : Int)
    · rw [if_pos (decide_eq_true g2)]; exact hj ..
    rw [if_neg (by rw [decide_eq_false g2]; exact Bool.false_ne_true)]
    by_cases g3 : x2.2.1 > (1000 : Int)
    · rw [decide_eq_true g3]; exact hj ..
    rw [decide_eq_false g3]
    have n1 : (1 : Int) ≤ x2.2.1 := Int.not_lt.1 g2
    have n2 : x2.2.1 ≤ (1000 : Int) := Int.not_lt.1 g3
    unfold f_law20_PlanCounts.j1
    rw [if_neg Bool.false_ne_true]
    refine loop (fun m i => f_law20_PlanCounts.l2 2000 m x0 x1 ((sizeOf' (x0.take i) + 2 : Nat) : Int) (i : Int) x2) x0.length _ (fun m i hi => ?_) (fun m => ?_) 2000 (by omega)
    · have h1 := size_take x0 i hi
      have h2 := size_take_le x0 (i + 1)
      simp only [f_law20_PlanCounts.l2, f_law20_PlanCounts.b2]
      rw [if_pos (by (first | omega | (dsimp only [Ty.T]; omega) | (simp only [decide_eq_true_eq, decide_eq_false_iff_not, Bool.not_eq_true, Ty.T]; omega) | (simp only [decide_eq_true_eq, decide_eq_false_iff_not, Ty.T]; omega) | (simp only [beq_iff_eq, bne_iff_ne, ne_eq, decide_eq_true_eq, Ty.T]; omega))), if_pos (by omega), if_pos (by omega), att_n x0 i hi, wsucc i (by omega)]
      have hw : IntKind.i64.wrap (((sizeOf' (x0.take i) + 2 : Nat) : Int) + (x0[i].2.length : Int)) = ((sizeOf' (x0.take (i + 1)) + 2 : Nat) : Int) := by rw [IntWalk.i64_in _ (by omega), h1]; omega
      rw [hw]
    · have hl := sync_len x0 x1
      obtain ⟨p1, p2, p3, p4⟩ := pushed_ok x2 (syncOf x0 x1) (sizeOf' x0 + 2) (by omega)
      simp only [f_law20_PlanCounts.l2, f_law20_PlanCounts.b2]
      rw [if_neg (by (first | omega | (dsimp only [Ty.T]; omega) | (simp only [decide_eq_true_eq, decide_eq_false_iff_not, Bool.not_eq_true, Ty.T]; omega) | (simp only [decide_eq_true_eq, decide_eq_false_iff_not, Ty.T]; omega) | (simp only [beq_iff_eq, bne_iff_ne, ne_eq, decide_eq_true_eq, Ty.T]; omega))), List.take_length, sync_eq 2000 x0 x1 (by omega) f1 f2, Option.bind_some, pushall_eq 2000 x2 (syncOf x0 x1) (by omega) (by omega) (by omega) (by omega) n1 n2, Option.bind_some]
      dsimp only
      have hw1 : IntKind.i64.wrap ((x2.2.2.length : Int) + ((sizeOf' x0 + 2 : Nat) : Int)) = (x2.2.2.length : Int) + ((sizeOf' x0 + 2 : Nat) : Int) := IntWalk.i64_in _ (by omega)
      have hadd : ∀ (a : Int) (i : Nat), 1 ≤ a → a ≤ 1000 → i < 3000 → IntKind.i64.wrap (a + (i : Int)) = a + (i : Int) := fun a i h1 h2 h3 => IntWalk.i64_in _ (by omega)
      rw [hl, if_neg (by simp), hw1, if_neg (by rw [p3, bne_iff_ne]; omega), hadd x2.2.1 (sizeOf' x0 + 2) n1 n2 (by omega), p2]
      unfold f_law20_PlanCounts.j3
      rw [if_neg (by simp)]
      refine loop (fun m i => f_law20_PlanCounts.l4 2000 m ((sizeOf' x0 + 2 : Nat) : Int) (syncOf x0 x1) (i : Int) x2 (pushed x2 (syncOf x0 x1) (sizeOf' x0 + 2))) (sizeOf' x0 + 2) _ (fun m i hi => ?_) (fun m => ?_) 2000 (by omega)
      · have hil : i < (syncOf x0 x1).length := by omega
        have hp := p4 i hi hil
        have hwi : IntKind.i64.wrap ((x2.2.2.length : Int) + (i : Int)) = ((x2.2.2.length + i : Nat) : Int) := by rw [IntWalk.i64_in _ (by omega)]; omega
        have hat : att T4414 (pushed x2 (syncOf x0 x1) (sizeOf' x0 + 2)).2.2 ((x2.2.2.length + i : Nat) : Int) = ((syncOf x0 x1)[i].1, (x2.1, (x2.2.1 + (i : Int), (syncOf x0 x1)[i].2.2.2))) := by
          unfold att
          rw [Int.toNat_natCast, hp]
          rfl
        simp only [f_law20_PlanCounts.l4, f_law20_PlanCounts.b4, f_law20_PlanCounts.j5]
        rw [if_pos (by (first | omega | (dsimp only [Ty.T]; omega) | (simp only [decide_eq_true_eq, decide_eq_false_iff_not, Bool.not_eq_true, Ty.T]; omega) | (simp only [decide_eq_true_eq, decide_eq_false_iff_not, Ty.T]; omega) | (simp only [beq_iff_eq, bne_iff_ne, ne_eq, decide_eq_true_eq, Ty.T]; omega))), hwi, if_pos (by omega), if_pos (by rw [p3]; omega), hat, hadd x2.2.1 i n1 n2 (by omega), att_n _ i hil]
        dsimp only
        rw [if_neg (by simp), if_neg (by simp), if_pos (by omega), if_pos (by omega), if_neg (by simp), if_neg (by simp), wsucc i (by omega)]
      · simp only [f_law20_PlanCounts.l4, f_law20_PlanCounts.b4]
        rw [if_neg (by (first | omega | (dsimp only [Ty.T]; omega) | (simp only [decide_eq_true_eq, decide_eq_false_iff_not, Bool.not_eq_true, Ty.T]; omega) | (simp only [decide_eq_true_eq, decide_eq_false_iff_not, Ty.T]; omega) | (simp only [beq_iff_eq, bne_iff_ne, ne_eq, decide_eq_true_eq, Ty.T]; omega)))]
  · rw [Bool.eq_false_iff.2 hf, if_pos (by rfl)]; exact hj ..
end Go.Proofs.Ytkobhleoebgbhaa.V
