/- The session's functions as plain Lean. -/
import Derived.Test.YtkobhleoebgbhaaVF1
import Derived.Test.YtkobhleoebgbhaaPureBase
namespace Go.Proofs.Ytkobhleoebgbhaa.V
open Go Go.RowKit
set_option linter.unusedVariables false
set_option linter.unusedSimpArgs false
abbrev Mg := T4414.T
abbrev Ss := Tb104.T
theorem w_one (n : Int) (h1 : n ≤ 1048576) (h2 : -1048576 ≤ n) : IntKind.i64.wrap (n + 1) = n + 1 := IntWalk.i64_in _ (by omega)
theorem own_s (k : Nat) (S U : Ss) (m : Mg) (x y : Int) (h : S.2.2.length < 1000000) : i_sess_own_b60.f k S U m x y = some (U, (m, (x, (y, (S.1, (S.2.1, (S.2.2, ()))))))) := by
  unfold i_sess_own_b60.f
  rw [if_pos (by omega), if_pos (by simp)]
theorem own_d (k : Nat) (S U : Ss) (n x y : Int) (h : S.2.2.length < 1000000) : i_sess_own_9f5.f k S U n x y = some (U, (n, (x, (y, (S.1, (S.2.1, (S.2.2, ()))))))) := by
  unfold i_sess_own_9f5.f
  rw [if_pos (by omega), if_pos (by simp)]
def push (S : Ss) (m : Mg) : Ss := (S.1, (S.2.1 + 1, S.2.2 ++ [(m.1, (S.1, (S.2.1, m.2.2.2)))]))
theorem push_eq (k : Nat) (S : Ss) (m : Mg) (h : S.2.2.length < 1000000) (h1 : S.2.1 ≤ (1048576 : Int)) (h2 : (-1048576 : Int) ≤ S.2.1) : f_sess_Push.f k S m = some (push S m, (0, ())) := by
  unfold f_sess_Push.f push
  rw [own_s k _ _ _ _ _ h, Option.bind_some]
  dsimp only
  rw [decide_eq_false (Int.not_lt.2 h1), if_neg Bool.false_ne_true, if_pos (by omega)]
  have hw : IntKind.i64.wrap (S.2.1 + 1) = S.2.1 + 1 := w_one S.2.1 h1 h2
  rw [hw]
def fresh (n : Int) (m : Mg) : Bool := !decide (m.2.2.1 ≤ n)
theorem index_s (k : Nat) (v c n x y : Int) (xs : List Mg) (hk : xs.length < k) (hs : xs.length < 1000000) :
    i_slices_IndexFunc_Msg_8b9.f k v c n x y xs = some (if xs.findIdx (fun m => decide (m.2.2.1 ≤ n)) < xs.length then (xs.findIdx (fun m => decide (m.2.2.1 ≤ n)) : Int) else -1, (v, (c, (n, (x, (y, (xs, ()))))))) := by
  have hle : xs.findIdx (fun m => decide (m.2.2.1 ≤ n)) ≤ xs.length := List.findIdx_le_length
  refine loop (fun m i => i_slices_IndexFunc_Msg_8b9.l1 k m (xs.length : Int) (i : Int) v c n x y xs) (xs.findIdx (fun m => decide (m.2.2.1 ≤ n))) _ (fun m i hi => ?_) (fun m => ?_) k (by omega)
  · have hl : i < xs.length := by omega
    have hn : decide (xs[i].2.2.1 ≤ n) = false := fi_not (p := fun m : Mg => decide (m.2.2.1 ≤ n)) hi hl
    simp only [i_slices_IndexFunc_Msg_8b9.l1, i_slices_IndexFunc_Msg_8b9.b1, i_sess_Done_1_7b4.f, att_n xs i hl, Option.bind_some, hn]
    rw [if_pos (by (first | omega | (dsimp only [Ty.T]; omega) | (simp only [decide_eq_true_eq, decide_eq_false_iff_not, Bool.not_eq_true, Ty.T]; omega) | (simp only [decide_eq_true_eq, decide_eq_false_iff_not, Ty.T]; omega) | (simp only [beq_iff_eq, bne_iff_ne, ne_eq, decide_eq_true_eq, Ty.T]; omega))), if_pos (by omega), if_pos (by omega), wsucc i (by omega)]
    simp
  · by_cases hl : xs.findIdx (fun m => decide (m.2.2.1 ≤ n)) < xs.length
    · have hn : decide (xs[xs.findIdx (fun m => decide (m.2.2.1 ≤ n))].2.2.1 ≤ n) = true := List.findIdx_getElem (p := fun m : Mg => decide (m.2.2.1 ≤ n)) (w := hl)
      simp only [i_slices_IndexFunc_Msg_8b9.l1, i_slices_IndexFunc_Msg_8b9.b1, i_sess_Done_1_7b4.f, att_n xs _ hl, Option.bind_some, hn]
      rw [if_pos (by (first | omega | (dsimp only [Ty.T]; omega) | (simp only [decide_eq_true_eq, decide_eq_false_iff_not, Bool.not_eq_true, Ty.T]; omega) | (simp only [decide_eq_true_eq, decide_eq_false_iff_not, Ty.T]; omega) | (simp only [beq_iff_eq, bne_iff_ne, ne_eq, decide_eq_true_eq, Ty.T]; omega))), if_pos (by omega), if_pos (by omega), if_pos hl]
      simp
    · simp only [i_slices_IndexFunc_Msg_8b9.l1, i_slices_IndexFunc_Msg_8b9.b1, if_neg hl]
      rw [if_neg (by (first | omega | (dsimp only [Ty.T]; omega) | (simp only [decide_eq_true_eq, decide_eq_false_iff_not, Bool.not_eq_true, Ty.T]; omega) | (simp only [decide_eq_true_eq, decide_eq_false_iff_not, Ty.T]; omega) | (simp only [beq_iff_eq, bne_iff_ne, ne_eq, decide_eq_true_eq, Ty.T]; omega)))]
/-- Moving what stays to the front. -/
def moved (n : Int) (xs : List Mg) : Nat → List Mg × Nat
  | 0 => (xs, 0)
  | j + 1 => match xs[j]? with
    | some v => if fresh n v = true then ((moved n xs j).1.set (moved n xs j).2 v, (moved n xs j).2 + 1) else moved n xs j
    | none => moved n xs j
theorem moved_ok (n : Int) (xs : List Mg) : ∀ j, j ≤ xs.length → (moved n xs j).1.length = xs.length ∧ (moved n xs j).2 ≤ j ∧ (moved n xs j).1.take (moved n xs j).2 = (xs.take j).filter (fresh n) ∧ (moved n xs j).1.drop j = xs.drop j
  | 0, _ => ⟨rfl, Nat.le_refl _, rfl, rfl⟩
  | j + 1, h => by
    obtain ⟨h1, h2, h3, h4⟩ := moved_ok n xs j (by omega)
    have hj : j < xs.length := by omega
    unfold moved
    rw [List.getElem?_eq_getElem hj]
    rw [List.take_succ_eq_append_getElem hj, List.filter_append]
    have hd : (moved n xs j).1.drop (j + 1) = xs.drop (j + 1) := by rw [← List.drop_drop, h4, List.drop_drop]
    dsimp only
    cases hf : fresh n xs[j]
    · rw [if_neg Bool.false_ne_true]
      refine ⟨h1, by omega, ?_, hd⟩
      rw [List.filter_cons, hf, if_neg Bool.false_ne_true, List.filter_nil, List.append_nil]
      exact h3
    · rw [if_pos rfl]
      refine ⟨by rw [List.length_set]; exact h1, by dsimp only; omega, ?_, ?_⟩
      · dsimp only
        rw [List.filter_cons, hf, if_pos rfl, List.filter_nil, ← h3, List.take_succ_eq_append_getElem (by rw [List.length_set]; omega), List.getElem_set_self, List.take_set_of_le (by omega)]
      · dsimp only
        rw [List.drop_set_of_lt (by omega)]
        exact hd
theorem moved_first (n : Int) (xs : List Mg) : ∀ j, j ≤ xs.findIdx (fun m => decide (m.2.2.1 ≤ n)) → moved n xs j = (xs, j)
  | 0, _ => rfl
  | j + 1, h => by
    have hle : xs.findIdx (fun m => decide (m.2.2.1 ≤ n)) ≤ xs.length := List.findIdx_le_length
    have hj : j < xs.length := by omega
    have hn : decide (xs[j].2.2.1 ≤ n) = false := fi_not (p := fun m : Mg => decide (m.2.2.1 ≤ n)) (by omega) hj
    unfold moved
    rw [List.getElem?_eq_getElem hj, moved_first n xs j (by omega)]
    have hf : fresh n xs[j] = true := by unfold fresh; rw [hn]; rfl
    dsimp only
    rw [if_pos hf, List.set_getElem_self]
theorem delete_s (k : Nat) (v c n x y : Int) (xs : List Mg) (hk : xs.length + 5 < k) (hs : xs.length < 1000000) :
    i_slices_DeleteFunc_Msg_8b9.f k v c n x y xs = some (xs.filter (fresh n), (v, (c, (n, (x, (y, ())))))) := by
  have hle : xs.findIdx (fun m => decide (m.2.2.1 ≤ n)) ≤ xs.length := List.findIdx_le_length
  unfold i_slices_DeleteFunc_Msg_8b9.f
  rw [index_s k v c n x y xs (by omega) hs, Option.bind_some]
  dsimp only
  by_cases hl : xs.findIdx (fun m => decide (m.2.2.1 ≤ n)) < xs.length
  · rw [if_pos hl, if_neg (by simp only [beq_iff_eq, Ty.T]; omega), wsucc _ (by omega)]
    have hn : decide (xs[xs.findIdx (fun m => decide (m.2.2.1 ≤ n))].2.2.1 ≤ n) = true := List.findIdx_getElem (p := fun m : Mg => decide (m.2.2.1 ≤ n)) (w := hl)
    have hstart : moved n xs (xs.findIdx (fun m => decide (m.2.2.1 ≤ n)) + 1) = (xs, xs.findIdx (fun m => decide (m.2.2.1 ≤ n))) := by
      unfold moved
      rw [List.getElem?_eq_getElem hl, moved_first n xs _ (Nat.le_refl _)]
      dsimp only
      rw [if_neg (by unfold fresh; rw [hn]; exact Bool.false_ne_true)]
    generalize xs.findIdx (fun m => decide (m.2.2.1 ≤ n)) = j0 at hl hle hstart ⊢
    have key := loop_at (fun m q => i_slices_DeleteFunc_Msg_8b9.l1 k m ((moved n xs q).2 : Int) (q : Int) v c n x y (moved n xs q).1) xs.length (some (xs.filter (fresh n), (v, (c, (n, (x, (y, ()))))))) (fun m q hq => by
      obtain ⟨h1, h2, h3, h4⟩ := moved_ok n xs q (by omega)
      have hql : q < (moved n xs q).1.length := by omega
      have hqv : (moved n xs q).1[q] = xs[q] := by
        have := congrArg (fun l => l[0]?) h4
        simp only [List.getElem?_drop, Nat.add_zero] at this
        rw [List.getElem?_eq_getElem hql, List.getElem?_eq_getElem hq] at this
        exact Option.some.inj this
      simp only [i_slices_DeleteFunc_Msg_8b9.l1, i_slices_DeleteFunc_Msg_8b9.b1, i_slices_DeleteFunc_Msg_8b9.j2, i_sess_Done_1_dca.f, Option.bind_some, att_n _ q hql, hqv]
      rw [if_pos (by (first | omega | (dsimp only [Ty.T]; omega) | (simp only [decide_eq_true_eq, decide_eq_false_iff_not, Bool.not_eq_true, Ty.T]; omega) | (simp only [decide_eq_true_eq, decide_eq_false_iff_not, Ty.T]; omega) | (simp only [beq_iff_eq, bne_iff_ne, ne_eq, decide_eq_true_eq, Ty.T]; omega))), if_pos (by omega), if_pos (by omega), wsucc q (by omega)]
      conv => rhs; unfold moved
      rw [List.getElem?_eq_getElem hq]
      dsimp only
      cases hf : fresh n xs[q]
      · rw [if_neg Bool.false_ne_true, if_neg (by unfold fresh at hf; rw [hf]; exact Bool.false_ne_true)]
      · rw [if_pos rfl, if_pos (by unfold fresh at hf; exact hf), if_pos (by omega), if_pos (by omega), wsucc _ (by omega), Int.toNat_natCast]) (fun m => by
      obtain ⟨h1, h2, h3, h4⟩ := moved_ok n xs xs.length (by omega)
      simp only [i_slices_DeleteFunc_Msg_8b9.l1, i_slices_DeleteFunc_Msg_8b9.b1]
      rw [if_neg (by (first | omega | (dsimp only [Ty.T]; omega) | (simp only [decide_eq_true_eq, decide_eq_false_iff_not, Bool.not_eq_true, Ty.T]; omega) | (simp only [decide_eq_true_eq, decide_eq_false_iff_not, Ty.T]; omega) | (simp only [beq_iff_eq, bne_iff_ne, ne_eq, decide_eq_true_eq, Ty.T]; omega))), if_pos (by omega), if_pos (by simp only [List.length_append, List.length_take, List.length_replicate, Int.toNat_natCast]; omega), Int.toNat_natCast, List.take_append_of_le_length (by rw [List.length_take]; omega), List.take_take, Nat.min_self, h3, List.take_length]) (xs.length - (j0 + 1)) (j0 + 1) k (by omega) (by omega)
    rw [hstart] at key
    exact key
  · rw [if_neg hl, if_pos (by rfl)]
    have : xs.filter (fresh n) = xs := List.filter_eq_self.2 fun m hm => by
      have := List.findIdx_eq_length.1 (show xs.findIdx (fun m : Mg => decide (m.2.2.1 ≤ n)) = xs.length by omega) m hm
      have h2 : decide (m.2.2.1 ≤ n) = false := this
      unfold fresh
      rw [h2]; rfl
    rw [this]
noncomputable def sdone (S : Ss) (v n : Int) : Ss := if v = S.1 then (S.1, (S.2.1, S.2.2.filter (fresh n))) else S
theorem done_eq (k : Nat) (S : Ss) (v n : Int) (hk : S.2.2.length + 5 < k) (hs : S.2.2.length < 1000000) : f_sess_Done.f k S v n = some (sdone S v n, ()) := by
  unfold f_sess_Done.f f_sess_Done.j1 f_sess_Done.j2 sdone
  rw [own_d k _ _ _ _ _ hs, Option.bind_some]
  dsimp only
  by_cases h : v = S.1
  · rw [if_pos (beq_iff_eq.2 h), if_pos h, delete_s k _ _ _ _ _ _ hk hs]; rfl
  · rw [if_neg (by rw [beq_eq_false_iff_ne.2 h]; exact Bool.false_ne_true), if_neg h]
theorem loop_inv {σ R : Type} (B : Nat → Nat → σ → Option R) (I : Nat → σ → Prop) (n : Nat) (r : Option R) (step : ∀ m i s, i < n → I i s → ∃ s', I (i + 1) s' ∧ B (m + 1) i s = B m (i + 1) s') (fin : ∀ m s, I n s → B (m + 1) n s = r) : ∀ m, n < m → ∀ s, I 0 s → B m 0 s = r := by
  have key : ∀ d i m s, i + d = n → d < m → I i s → B m i s = r := by
    intro d
    induction d with
    | zero =>
      intro i m s h hm hi
      obtain rfl : i = n := by omega
      obtain ⟨m, rfl⟩ : ∃ m', m = m' + 1 := ⟨m - 1, by omega⟩
      exact fin m s hi
    | succ d ih =>
      intro i m s h hm hi
      obtain ⟨m, rfl⟩ : ∃ m', m = m' + 1 := ⟨m - 1, by omega⟩
      obtain ⟨s', h1, h2⟩ := step m i s (by omega) hi
      rw [h2]
      exact ih (i + 1) m s' (by omega) (by omega) h1
  exact fun m hm s hs => key n 0 m s (by omega) hm hs
end Go.Proofs.Ytkobhleoebgbhaa.V
