/- What the law needs of plain Lean, and the law itself over it. -/
import Derived.Test.YtkhjemahenkdiaaDoorVF3
import Derived.Test.YtkhjemahenkdiaaDoorVBase
import Derived.IntWalk
import Derived.Test.YtkhjemahenkdiaaDoorVZ
namespace Go.Proofs.YtkhjemahenkdiaaDoor.V
open Go Go.RowKit
set_option synthInstance.maxSize 2000
set_option synthInstance.maxHeartbeats 200000
set_option linter.unusedVariables false
set_option linter.unusedSimpArgs false
theorem wsucc (i : Nat) (h : i < 1000000) : IntKind.i64.wrap ((i : Int) + 1) = ((i + 1 : Nat) : Int) := by rw [IntWalk.i64_in _ (by omega)]; omega
theorem att_n {e : Ty} (xs : List e.T) (i : Nat) (h : i < xs.length) : att e xs (i : Int) = xs[i] := by
  unfold att
  rw [Int.toNat_natCast, List.getElem?_eq_getElem h]
  rfl
theorem loop_at {R : Type} (B : Nat → Nat → Option R) (j : Nat) (r : Option R) (step : ∀ m i, i < j → B (m + 1) i = B m (i + 1)) (fin : ∀ m, B (m + 1) j = r) : ∀ d i m, i + d = j → d < m → B m i = r
  | 0, i, m + 1, h, _ => by rw [show i = j by omega]; exact fin m
  | d + 1, i, m + 1, h, hm => by rw [step m i (by omega)]; exact loop_at B j r step fin d (i + 1) m (by omega) (by omega)
theorem loop {R : Type} (B : Nat → Nat → Option R) (j : Nat) (r : Option R) (step : ∀ m i, i < j → B (m + 1) i = B m (i + 1)) (fin : ∀ m, B (m + 1) j = r) (m : Nat) (hm : j < m) : B m 0 = r := loop_at B j r step fin j 0 m (by omega) hm
theorem fi_not {α : Type} {p : α → Bool} {xs : List α} {i : Nat} (hi : i < xs.findIdx p) (hl : i < xs.length) : p xs[i] = false := by simpa using List.not_of_lt_findIdx hi
abbrev Rl := T1383.T
abbrev Vr := T814c.T
theorem clone_eq (k : Nat) (xs : List Rl) (h : xs.length < 1000000) : f_slices_Clone_Rule.f k xs = some (xs, ()) := by
  unfold f_slices_Clone_Rule.f
  rw [if_pos (by omega), if_pos (Or.inl rfl)]; rfl
theorem loop_or {R : Type} (B : Nat → Nat → Option R) (n : Nat) (Q : Nat → Prop) (r a : Option R) (step : ∀ m i, i < n → (Q i ∧ B (m + 1) i = B m (i + 1)) ∨ B (m + 1) i = a) (fin : (∀ i, i < n → Q i) → ∀ m, B (m + 1) n = r) : ∀ m, n < m → ((∀ i, i < n → Q i) ∧ B m 0 = r) ∨ B m 0 = a := by
  have key : ∀ d i m, i + d = n → d < m → (∀ j, j < i → Q j) → ((∀ i, i < n → Q i) ∧ B m i = r) ∨ B m i = a := by
    intro d
    induction d with
    | zero => intro i m h hm hq; obtain rfl : i = n := by omega
              obtain ⟨m, rfl⟩ : ∃ m', m = m' + 1 := ⟨m - 1, by omega⟩
              exact .inl ⟨hq, fin hq m⟩
    | succ d ih =>
      intro i m h hm hq
      obtain ⟨m, rfl⟩ : ∃ m', m = m' + 1 := ⟨m - 1, by omega⟩
      rcases step m i (by omega) with ⟨h1, h2⟩ | h2
      · rw [h2]
        exact ih (i + 1) m (by omega) (by omega) (fun j hj => by rcases Nat.lt_or_eq_of_le (Nat.le_of_lt_succ hj) with h | rfl; exact hq j h; exact h1)
      · exact .inr h2
  intro m hm
  exact key n 0 m (by omega) hm (fun j hj => absurd hj (Nat.not_lt_zero j))
abbrev Mg := T4414.T
abbrev Ss := Tb104.T
theorem own_s (k : Nat) (S U : Ss) (m : Mg) (x y : Int) (h : S.2.2.length < 1000000) : i_sess_own_b60.f k S U m x y = some (S.1, (S.2.1, (S.2.2, ()))) := by
  unfold i_sess_own_b60.f
  rw [if_pos (by omega), if_pos (by simp)]
theorem own_d (k : Nat) (S U : Ss) (n x y : Int) (h : S.2.2.length < 1000000) : i_sess_own_9f5.f k S U n x y = some (S.1, (S.2.1, (S.2.2, ()))) := by
  unfold i_sess_own_9f5.f
  rw [if_pos (by omega), if_pos (by simp)]
def fresh (n : Int) (m : Mg) : Bool := !decide (m.2.2.1 ≤ n)
theorem index_s (k : Nat) (v c n x y : Int) (xs : List Mg) (hk : xs.length < k) (hs : xs.length < 1000000) :
    i_slices_IndexFunc_Msg_c91.f k v c n x y xs = some (if xs.findIdx (fun m => decide (m.2.2.1 ≤ n)) < xs.length then (xs.findIdx (fun m => decide (m.2.2.1 ≤ n)) : Int) else -1, (v, (c, (n, (x, (y, (xs, ()))))))) := by
  have hle : xs.findIdx (fun m => decide (m.2.2.1 ≤ n)) ≤ xs.length := List.findIdx_le_length
  refine loop (fun m i => i_slices_IndexFunc_Msg_c91.l1 k m (xs.length : Int) (i : Int) v c n x y xs) (xs.findIdx (fun m => decide (m.2.2.1 ≤ n))) _ (fun m i hi => ?_) (fun m => ?_) k (by omega)
  · have hl : i < xs.length := by omega
    have hn : decide (xs[i].2.2.1 ≤ n) = false := fi_not (p := fun m : Mg => decide (m.2.2.1 ≤ n)) hi hl
    simp only [i_slices_IndexFunc_Msg_c91.l1, i_slices_IndexFunc_Msg_c91.b1, i_sess_Done_1_0ff.f, att_n xs i hl, Option.bind_some, hn]
    rw [if_pos (by (first | omega | (dsimp only [Ty.T]; omega) | (simp only [decide_eq_true_eq, decide_eq_false_iff_not, Bool.not_eq_true, Ty.T]; omega) | (simp only [decide_eq_true_eq, decide_eq_false_iff_not, Ty.T]; omega) | (simp only [beq_iff_eq, bne_iff_ne, ne_eq, decide_eq_true_eq, Ty.T]; omega))), if_pos (by omega), if_pos (by omega), wsucc i (by omega)]
    simp
  · by_cases hl : xs.findIdx (fun m => decide (m.2.2.1 ≤ n)) < xs.length
    · have hn : decide (xs[xs.findIdx (fun m => decide (m.2.2.1 ≤ n))].2.2.1 ≤ n) = true := List.findIdx_getElem (p := fun m : Mg => decide (m.2.2.1 ≤ n)) (w := hl)
      simp only [i_slices_IndexFunc_Msg_c91.l1, i_slices_IndexFunc_Msg_c91.b1, i_sess_Done_1_0ff.f, att_n xs _ hl, Option.bind_some, hn]
      rw [if_pos (by (first | omega | (dsimp only [Ty.T]; omega) | (simp only [decide_eq_true_eq, decide_eq_false_iff_not, Bool.not_eq_true, Ty.T]; omega) | (simp only [decide_eq_true_eq, decide_eq_false_iff_not, Ty.T]; omega) | (simp only [beq_iff_eq, bne_iff_ne, ne_eq, decide_eq_true_eq, Ty.T]; omega))), if_pos (by omega), if_pos (by omega), if_pos hl]
      simp
    · simp only [i_slices_IndexFunc_Msg_c91.l1, i_slices_IndexFunc_Msg_c91.b1, if_neg hl]
      rw [if_neg (by (first | omega | (dsimp only [Ty.T]; omega) | (simp only [decide_eq_true_eq, decide_eq_false_iff_not, Bool.not_eq_true, Ty.T]; omega) | (simp only [decide_eq_true_eq, decide_eq_false_iff_not, Ty.T]; omega) | (simp only [beq_iff_eq, bne_iff_ne, ne_eq, decide_eq_true_eq, Ty.T]; omega)))]
def moved (n : Int) (xs : List Mg) : Nat → List Mg × Nat
  | 0 => (xs, 0)
  | j + 1 => match xs[j]? with
    | some v => if fresh n v = true then ((moved n xs j).1.set (moved n xs j).2 v, (moved n xs j).2 + 1) else moved n xs j
    | none => moved n xs j
theorem moved_ok (n : Int) (xs : List Mg) : ∀ j, j ≤ xs.length → (moved n xs j).1.length = xs.length ∧ (moved n xs j).2 ≤ j ∧ (moved n xs j).1.take (moved n xs j).2 = (xs.take j).filter (fresh n) ∧ (moved n xs j).1.drop j = xs.drop j
  | 0, _ => ⟨rfl, Nat.le_refl _, rfl, rfl⟩
  | j + 1, h => by
    obtain ⟨h1, h2, h3, h4⟩ := moved_ok n xs j (by omega)
    have hj : j < xs.length := by omega
    unfold moved
    rw [List.getElem?_eq_getElem hj]
    rw [List.take_succ_eq_append_getElem hj, List.filter_append]
    have hd : (moved n xs j).1.drop (j + 1) = xs.drop (j + 1) := by rw [← List.drop_drop, h4, List.drop_drop]
    dsimp only
    cases hf : fresh n xs[j]
    · rw [if_neg Bool.false_ne_true]
      refine ⟨h1, by omega, ?_, hd⟩
      rw [List.filter_cons, hf, if_neg Bool.false_ne_true, List.filter_nil, List.append_nil]
      exact h3
    · rw [if_pos rfl]
      refine ⟨by rw [List.length_set]; exact h1, by dsimp only; omega, ?_, ?_⟩
      · dsimp only
        rw [List.filter_cons, hf, if_pos rfl, List.filter_nil, ← h3, List.take_succ_eq_append_getElem (by rw [List.length_set]; omega), List.getElem_set_self, List.take_set_of_le (by omega)]
      · dsimp only
        rw [List.drop_set_of_lt (by omega)]
        exact hd
theorem moved_first (n : Int) (xs : List Mg) : ∀ j, j ≤ xs.findIdx (fun m => decide (m.2.2.1 ≤ n)) → moved n xs j = (xs, j)
  | 0, _ => rfl
  | j + 1, h => by
    have hle : xs.findIdx (fun m => decide (m.2.2.1 ≤ n)) ≤ xs.length := List.findIdx_le_length
    have hj : j < xs.length := by omega
    have hn : decide (xs[j].2.2.1 ≤ n) = false := fi_not (p := fun m : Mg => decide (m.2.2.1 ≤ n)) (by omega) hj
    unfold moved
    rw [List.getElem?_eq_getElem hj, moved_first n xs j (by omega)]
    have hf : fresh n xs[j] = true := by unfold fresh; rw [hn]; rfl
    dsimp only
    rw [if_pos hf, List.set_getElem_self]
theorem delete_s (k : Nat) (v c n x y : Int) (xs : List Mg) (hk : xs.length + 5 < k) (hs : xs.length < 1000000) :
    i_slices_DeleteFunc_Msg_c91.f k v c n x y xs = some (xs.filter (fresh n), (v, (c, (n, (x, (y, ())))))) := by
  have hle : xs.findIdx (fun m => decide (m.2.2.1 ≤ n)) ≤ xs.length := List.findIdx_le_length
  unfold i_slices_DeleteFunc_Msg_c91.f
  rw [index_s k v c n x y xs (by omega) hs, Option.bind_some]
  dsimp only
  by_cases hl : xs.findIdx (fun m => decide (m.2.2.1 ≤ n)) < xs.length
  · rw [if_pos hl, if_neg (by simp only [beq_iff_eq, Ty.T]; omega), wsucc _ (by omega)]
    have hn : decide (xs[xs.findIdx (fun m => decide (m.2.2.1 ≤ n))].2.2.1 ≤ n) = true := List.findIdx_getElem (p := fun m : Mg => decide (m.2.2.1 ≤ n)) (w := hl)
    have hstart : moved n xs (xs.findIdx (fun m => decide (m.2.2.1 ≤ n)) + 1) = (xs, xs.findIdx (fun m => decide (m.2.2.1 ≤ n))) := by
      unfold moved
      rw [List.getElem?_eq_getElem hl, moved_first n xs _ (Nat.le_refl _)]
      dsimp only
      rw [if_neg (by unfold fresh; rw [hn]; exact Bool.false_ne_true)]
    generalize xs.findIdx (fun m => decide (m.2.2.1 ≤ n)) = j0 at hl hle hstart ⊢
    have key := loop_at (fun m q => i_slices_DeleteFunc_Msg_c91.l1 k m ((moved n xs q).2 : Int) (q : Int) v c n x y (moved n xs q).1) xs.length (some (xs.filter (fresh n), (v, (c, (n, (x, (y, ()))))))) (fun m q hq => by
      obtain ⟨h1, h2, h3, h4⟩ := moved_ok n xs q (by omega)
      have hql : q < (moved n xs q).1.length := by omega
      have hqv : (moved n xs q).1[q] = xs[q] := by
        have := congrArg (fun l => l[0]?) h4
        simp only [List.getElem?_drop, Nat.add_zero] at this
        rw [List.getElem?_eq_getElem hql, List.getElem?_eq_getElem hq] at this
        exact Option.some.inj this
      simp only [i_slices_DeleteFunc_Msg_c91.l1, i_slices_DeleteFunc_Msg_c91.b1, i_slices_DeleteFunc_Msg_c91.j2, i_sess_Done_1_67f.f, Option.bind_some, att_n _ q hql, hqv]
      rw [if_pos (by (first | omega | (dsimp only [Ty.T]; omega) | (simp only [decide_eq_true_eq, decide_eq_false_iff_not, Bool.not_eq_true, Ty.T]; omega) | (simp only [decide_eq_true_eq, decide_eq_false_iff_not, Ty.T]; omega) | (simp only [beq_iff_eq, bne_iff_ne, ne_eq, decide_eq_true_eq, Ty.T]; omega))), if_pos (by omega), if_pos (by omega), wsucc q (by omega)]
      conv => rhs; unfold moved
      rw [List.getElem?_eq_getElem hq]
      dsimp only
      cases hf : fresh n xs[q]
      · rw [if_neg Bool.false_ne_true, if_neg (by unfold fresh at hf; rw [hf]; exact Bool.false_ne_true)]
      · rw [if_pos rfl, if_pos (by unfold fresh at hf; exact hf), if_pos (by omega), if_pos (by omega), wsucc _ (by omega), Int.toNat_natCast]) (fun m => by
      obtain ⟨h1, h2, h3, h4⟩ := moved_ok n xs xs.length (by omega)
      simp only [i_slices_DeleteFunc_Msg_c91.l1, i_slices_DeleteFunc_Msg_c91.b1]
      rw [if_neg (by (first | omega | (dsimp only [Ty.T]; omega) | (simp only [decide_eq_true_eq, decide_eq_false_iff_not, Bool.not_eq_true, Ty.T]; omega) | (simp only [decide_eq_true_eq, decide_eq_false_iff_not, Ty.T]; omega) | (simp only [beq_iff_eq, bne_iff_ne, ne_eq, decide_eq_true_eq, Ty.T]; omega))), if_pos (by omega), if_pos (by simp only [List.length_append, List.length_take, List.length_replicate, Int.toNat_natCast]; omega), Int.toNat_natCast, List.take_append_of_le_length (by rw [List.length_take]; omega), List.take_take, Nat.min_self, h3, List.take_length]) (xs.length - (j0 + 1)) (j0 + 1) k (by omega) (by omega)
    rw [hstart] at key
    exact key
  · rw [if_neg hl, if_pos (by rfl)]
    have : xs.filter (fresh n) = xs := List.filter_eq_self.2 fun m hm => by
      have := List.findIdx_eq_length.1 (show xs.findIdx (fun m : Mg => decide (m.2.2.1 ≤ n)) = xs.length by omega) m hm
      have h2 : decide (m.2.2.1 ≤ n) = false := this
      unfold fresh
      rw [h2]; rfl
    rw [this]
noncomputable def sdone (S : Ss) (v n : Int) : Ss := if v = S.1 then (S.1, (S.2.1, S.2.2.filter (fresh n))) else S
theorem done_eq (k : Nat) (S : Ss) (v n : Int) (hk : S.2.2.length + 5 < k) (hs : S.2.2.length < 1000000) : f_sess_Done.f k S v n = some (sdone S v n, ()) := by
  unfold f_sess_Done.f f_sess_Done.j1 f_sess_Done.j2 sdone
  rw [own_d k _ _ _ _ _ hs, Option.bind_some]
  dsimp only
  by_cases h : v = S.1
  · rw [if_pos (beq_iff_eq.2 h), if_pos h, delete_s k _ _ _ _ _ _ hk hs]; rfl
  · rw [if_neg (by rw [beq_eq_false_iff_ne.2 h]; exact Bool.false_ne_true), if_neg h]
def addOf (tag : Int) (r : Rl) : Mg := (2, (0, (0, (tag, r))))
def addsOf (tag : Int) (rs : List Rl) : List Mg := rs.map (addOf tag)
theorem adds_eq (k : Nat) (tag : Int) (rs : List Rl) (hk : rs.length < k) (hs : rs.length < 1000000) : f_plan_Adds.f k tag rs = some (addsOf tag rs, ()) := by
  unfold f_plan_Adds.f
  have h : i_plan_many_Rule_do_2f5.f k rs tag = some (tag, (addsOf tag rs, ())) := by
    unfold i_plan_many_Rule_do_2f5.f
    refine loop (fun m i => i_plan_many_Rule_do_2f5.l1 k m rs (rs.length : Int) (i : Int) tag (addsOf tag (rs.take i))) rs.length _ (fun m i hi => ?_) (fun m => ?_) k (by omega)
    · simp only [i_plan_many_Rule_do_2f5.l1, i_plan_many_Rule_do_2f5.b1, i_plan_Adds_1_5da.f, att_n rs i hi]
      rw [if_pos (by (first | omega | (dsimp only [Ty.T]; omega) | (simp only [decide_eq_true_eq, decide_eq_false_iff_not, Bool.not_eq_true, Ty.T]; omega) | (simp only [decide_eq_true_eq, decide_eq_false_iff_not, Ty.T]; omega) | (simp only [beq_iff_eq, bne_iff_ne, ne_eq, decide_eq_true_eq, Ty.T]; omega))), if_pos (by omega), if_pos (by omega), if_pos (by unfold addsOf; rw [List.length_map, List.length_take]; omega), Option.bind_some, wsucc i (by omega)]
      unfold addsOf
      rw [List.take_succ_eq_append_getElem hi, List.map_append]
      rfl
    · simp only [i_plan_many_Rule_do_2f5.l1, i_plan_many_Rule_do_2f5.b1]
      rw [if_neg (by (first | omega | (dsimp only [Ty.T]; omega) | (simp only [decide_eq_true_eq, decide_eq_false_iff_not, Bool.not_eq_true, Ty.T]; omega) | (simp only [decide_eq_true_eq, decide_eq_false_iff_not, Ty.T]; omega) | (simp only [beq_iff_eq, bne_iff_ne, ne_eq, decide_eq_true_eq, Ty.T]; omega))), List.take_length]
  rw [h, Option.bind_some]
theorem wrap_pred (v : Int) : IntKind.i64.wrap (v - 1) ≠ v := by
  rw [IntKind.wrap_i64]
  omega
abbrev Ct := T26b3.T
def inR (n : Nat) (x : Int) : Bool := decide (0 ≤ x ∧ x < (n : Int))
def two (ph : Int) : Bool := ph == 1 || ph == 2 || ph == 3
def rulesAt (x : List (List Rl)) (sw : Int) : List Rl := if 0 ≤ sw ∧ sw < (x.length : Int) then att (.slice T1383) x sw else []
def lvs (cs : List (List (List Rl))) (live next tag new ph sw : Int) : List Vr :=
  if two ph = true then
    if new < tag then [(new, rulesAt (att (.slice (.slice T1383)) cs next) sw), (tag, rulesAt (att (.slice (.slice T1383)) cs live) sw)]
    else [(tag, rulesAt (att (.slice (.slice T1383)) cs live) sw), (new, rulesAt (att (.slice (.slice T1383)) cs next) sw)]
  else [(tag, rulesAt (att (.slice (.slice T1383)) cs live) sw)]
def stampOf (tag new ph : Int) : Int := if ph = 2 ∨ ph = 3 then new else tag
def isB (nc : Nat) (live next ph : Int) (queue : List Int) (np : Nat) : Bool := ((next == -1 && !two ph) || inR nc next) && (inR nc live && (!queue.any (fun q => !inR nc q) && decide ((np : Int) ≤ 100)))
theorem index_at (xs : List Int) (x : Int) (h : xs.length < 1000) : f_slices_Index_int.f 1000 xs x = some ((if xs.findIdx (fun y => x == y) < xs.length then ((xs.findIdx (fun y => x == y) : Nat) : Int) else -1), ()) := by
  have hle : xs.findIdx (fun y => x == y) ≤ xs.length := List.findIdx_le_length
  unfold f_slices_Index_int.f
  refine loop (fun m i => f_slices_Index_int.l1 1000 m xs x (xs.length : Int) (i : Int)) (xs.findIdx (fun y => x == y)) _ (fun m i hi => ?_) (fun m => ?_) 1000 (by omega)
  · have hl : i < xs.length := by omega
    have hn := fi_not hi hl
    simp only [f_slices_Index_int.l1, f_slices_Index_int.b1]
    rw [if_pos (by (first | omega | (dsimp only [Ty.T]; omega) | (simp only [decide_eq_true_eq, decide_eq_false_iff_not, Bool.not_eq_true, Ty.T]; omega) | (simp only [decide_eq_true_eq, decide_eq_false_iff_not, Ty.T]; omega) | (simp only [beq_iff_eq, bne_iff_ne, ne_eq, decide_eq_true_eq, Ty.T]; omega))), if_pos (by omega), if_pos (by omega), att_n (e := .int .i64) xs i hl, if_neg (by rw [Bool.not_eq_true]; exact hn), wsucc i (by omega)]
  · simp only [f_slices_Index_int.l1, f_slices_Index_int.b1]
    by_cases hl : xs.findIdx (fun y => x == y) < xs.length
    · have hy := List.findIdx_getElem (w := hl)
      rw [if_pos (by (first | omega | (dsimp only [Ty.T]; omega) | (simp only [decide_eq_true_eq, decide_eq_false_iff_not, Bool.not_eq_true, Ty.T]; omega) | (simp only [decide_eq_true_eq, decide_eq_false_iff_not, Ty.T]; omega) | (simp only [beq_iff_eq, bne_iff_ne, ne_eq, decide_eq_true_eq, Ty.T]; omega))), if_pos (by omega), if_pos (by omega), att_n (e := .int .i64) xs _ hl, if_pos hy, if_pos hl]
    · rw [if_neg (by (first | omega | (dsimp only [Ty.T]; omega) | (simp only [decide_eq_true_eq, decide_eq_false_iff_not, Bool.not_eq_true, Ty.T]; omega) | (simp only [decide_eq_true_eq, decide_eq_false_iff_not, Ty.T]; omega) | (simp only [beq_iff_eq, bne_iff_ne, ne_eq, decide_eq_true_eq, Ty.T]; omega))), if_neg hl]
theorem contains_eq (xs : List Int) (x : Int) (h : xs.length < 1000) : f_slices_Contains_int.f 1000 xs x = some (xs.any (fun y => x == y), ()) := by
  unfold f_slices_Contains_int.f
  rw [index_at xs x h, Option.bind_some]
  have key : decide ((if xs.findIdx (fun y => x == y) < xs.length then ((xs.findIdx (fun y => x == y) : Nat) : Int) else -1) ≥ 0) = xs.any (fun y => x == y) := by
    rw [Bool.eq_iff_iff, decide_eq_true_eq, List.any_eq_true]
    by_cases hl : xs.findIdx (fun y => x == y) < xs.length
    · rw [if_pos hl]
      exact ⟨fun _ => ⟨_, List.getElem_mem hl, List.findIdx_getElem (w := hl)⟩, fun _ => by omega⟩
    · rw [if_neg hl]
      exact ⟨fun k => absurd k (by decide), fun ⟨y, h1, h2⟩ => absurd (List.findIdx_lt_length_of_exists ⟨y, h1, h2⟩) hl⟩
  exact congrArg (fun b => some (b, ())) key
theorem two_any (ph : Int) : [1, 2, 3].any (fun y => ph == y) = two ph := by
  unfold two
  simp only [List.any_cons, List.any_nil, Bool.or_false, Bool.or_assoc]
theorem conf_at (k : Nat) (x : List (List Rl)) (sw : Int) (h : ∀ l ∈ x, l.length < 1000000) : f_conf_At.f k x sw = some (rulesAt x sw, ()) := by
  unfold f_conf_At.f f_conf_At.j1 rulesAt
  by_cases h0 : sw < 0
  · rw [decide_eq_true h0, if_pos rfl, if_pos rfl, if_neg (by omega)]
  · rw [decide_eq_false h0, if_neg Bool.false_ne_true]
    by_cases h1 : sw < (x.length : Int)
    · obtain ⟨i, rfl⟩ : ∃ i : Nat, sw = (i : Int) := ⟨sw.toNat, by omega⟩
      have hi : i < x.length := by omega
      rw [decide_eq_false (by omega), if_neg Bool.false_ne_true, if_pos (by omega), if_pos h1, if_pos (by omega), att_n (e := .slice T1383) x i hi, clone_eq k _ (h _ (List.getElem_mem hi))]
      rfl
    · rw [decide_eq_true (by omega), if_pos rfl, if_neg (by omega)]
theorem rules_len (x : List (List Rl)) (sw : Int) (B : Nat) (h : ∀ l ∈ x, l.length ≤ B) : (rulesAt x sw).length ≤ B := by
  unfold rulesAt
  split
  · rename_i hs
    obtain ⟨i, rfl⟩ : ∃ i : Nat, sw = (i : Int) := ⟨sw.toNat, by omega⟩
    have hi : i < x.length := by omega
    rw [att_n (e := .slice T1383) x i hi]
    exact h _ (List.getElem_mem hi)
  · exact Nat.zero_le _
structure FewC (cs : List (List (List Rl))) (peers : List T23b6.T) (queue done undone : List Int) (given : List T713d.T) : Prop where
  c : cs.length ≤ 12
  p : peers.length ≤ 12
  q : queue.length ≤ 100
  g : given.length ≤ 100
  d : done.length ≤ 100
  u : undone.length ≤ 100
  r : ∀ x ∈ cs, x.length ≤ 10 ∧ ∀ l ∈ x, l.length ≤ 60
  o : ∀ y ∈ peers, y.2.2.2.2.length ≤ 100
abbrev FewOf (c : Ct) : Prop := FewC c.1 c.2.2.2.2.2.2.2.2.1 c.2.2.2.2.2.2.2.1 c.2.2.2.2.2.2.2.2.2.2.1 c.2.2.2.2.2.2.2.2.2.2.2.1 c.2.2.2.2.2.2.2.2.2.1
theorem few12 (x : List (List Rl)) : ∃ b, f_law12_Few.f 1000 x = some (b, ()) ∧ (b = true → x.length ≤ 10 ∧ ∀ l ∈ x, l.length ≤ 60) := by
  unfold f_law12_Few.f
  by_cases h : (x.length : Int) > 10
  · rw [decide_eq_true h, if_pos rfl]
    exact ⟨false, rfl, fun k => absurd k (by decide)⟩
  · rw [decide_eq_false h, if_neg Bool.false_ne_true]
    rcases loop_or (fun m i => f_law12_Few.l1 1000 m x (i : Int)) x.length (fun i => ∀ hi : i < x.length, x[i].length ≤ 60) (some (true, ())) (some (false, ())) (fun m i hi => by
        simp only [f_law12_Few.l1, f_law12_Few.b1]
        rw [if_pos (by (first | omega | (dsimp only [Ty.T]; omega) | (simp only [decide_eq_true_eq, decide_eq_false_iff_not, Bool.not_eq_true, Ty.T]; omega) | (simp only [decide_eq_true_eq, decide_eq_false_iff_not, Ty.T]; omega) | (simp only [beq_iff_eq, bne_iff_ne, ne_eq, decide_eq_true_eq, Ty.T]; omega))), if_pos (by omega), if_pos (by omega), att_n (e := .slice T1383) x i hi, wsucc i (by omega)]
        by_cases hc : (x[i].length : Int) > 60
        · right
          exact if_pos (decide_eq_true hc)
        · left
          exact ⟨fun _ => by omega, if_neg (by simpa using hc)⟩) (fun _ m => by
        simp only [f_law12_Few.l1, f_law12_Few.b1]
        rw [if_neg (by (first | omega | (dsimp only [Ty.T]; omega) | (simp only [decide_eq_true_eq, decide_eq_false_iff_not, Bool.not_eq_true, Ty.T]; omega) | (simp only [decide_eq_true_eq, decide_eq_false_iff_not, Ty.T]; omega) | (simp only [beq_iff_eq, bne_iff_ne, ne_eq, decide_eq_true_eq, Ty.T]; omega)))]) 1000 (by omega) with h | h
    · refine ⟨true, h.2, fun _ => ⟨by omega, fun l hl => ?_⟩⟩
      obtain ⟨i, hi, rfl⟩ := List.getElem_of_mem hl
      exact h.1 i hi hi
    · exact ⟨false, h, fun k => absurd k (by decide)⟩
theorem fewC (c : Ct) : ∃ b, f_law21_Few.f 1000 c = some (b, ()) ∧ (b = true → FewOf c) := by
  obtain ⟨cs, live, next, tag, new, ph, timer, queue, peers, given, done, undone, junk⟩ := c
  have nope : ∃ b, (some (false, ()) : Option f_law21_Few.R) = some (b, ()) ∧ (b = true → FewOf (cs, live, next, tag, new, ph, timer, queue, peers, given, done, undone, junk)) := ⟨false, rfl, fun k => absurd k (by decide)⟩
  unfold f_law21_Few.f f_law21_Few.j1
  dsimp only
  by_cases h1 : (cs.length : Int) > 12
  · rw [decide_eq_true h1, if_pos rfl, if_pos rfl]; exact nope
  rw [decide_eq_false h1, if_neg Bool.false_ne_true]
  by_cases h2 : (peers.length : Int) > 12
  · rw [decide_eq_true h2, if_pos rfl, if_pos rfl]; exact nope
  rw [decide_eq_false h2, if_neg Bool.false_ne_true]
  by_cases h3 : (queue.length : Int) > 100
  · rw [decide_eq_true h3, if_pos rfl, if_pos rfl]; exact nope
  rw [decide_eq_false h3, if_neg Bool.false_ne_true]
  by_cases h4 : (given.length : Int) > 100
  · rw [decide_eq_true h4, if_pos rfl, if_pos rfl]; exact nope
  rw [decide_eq_false h4, if_neg Bool.false_ne_true]
  by_cases h5 : (done.length : Int) > 100
  · rw [decide_eq_true h5, if_pos rfl, if_pos rfl]; exact nope
  rw [decide_eq_false h5, if_neg Bool.false_ne_true]
  by_cases h6 : (undone.length : Int) > 100
  · rw [decide_eq_true h6, if_pos rfl]; exact nope
  rw [decide_eq_false h6, if_neg Bool.false_ne_true]
  generalize hC : ((cs, live, next, tag, new, ph, timer, queue, peers, given, done, undone, junk) : Ct) = C at *
  have e1 : C.1 = cs := by rw [← hC]
  have e2 : C.2.2.2.2.2.2.2.2.1 = peers := by rw [← hC]
  have inner : (∀ i (hi : i < cs.length), cs[i].length ≤ 10 ∧ ∀ l ∈ cs[i], l.length ≤ 60) → ∃ b, f_law21_Few.l3 C 1000 1000 0 = some (b, ()) ∧ (b = true → FewOf C) := by
    intro hr
    rcases loop_or (fun m i => f_law21_Few.l3 C 1000 m (i : Int)) peers.length (fun i => ∀ hi : i < peers.length, peers[i].2.2.2.2.length ≤ 100) (some (true, ())) (some (false, ())) (fun m i hi => by
        simp only [f_law21_Few.l3, f_law21_Few.b3]
        rw [e2, if_pos (by (first | omega | (dsimp only [Ty.T]; omega) | (simp only [decide_eq_true_eq, decide_eq_false_iff_not, Bool.not_eq_true, Ty.T]; omega) | (simp only [decide_eq_true_eq, decide_eq_false_iff_not, Ty.T]; omega) | (simp only [beq_iff_eq, bne_iff_ne, ne_eq, decide_eq_true_eq, Ty.T]; omega))), if_pos (by omega), if_pos (by omega), att_n (e := T23b6) peers i hi, wsucc i (by omega)]
        by_cases hc : (peers[i].2.2.2.2.length : Int) > 100
        · right
          exact if_pos (decide_eq_true hc)
        · left
          exact ⟨fun _ => by omega, if_neg (by simpa using hc)⟩) (fun _ m => by
        simp only [f_law21_Few.l3, f_law21_Few.b3]
        rw [e2, if_neg (by (first | omega | (dsimp only [Ty.T]; omega) | (simp only [decide_eq_true_eq, decide_eq_false_iff_not, Bool.not_eq_true, Ty.T]; omega) | (simp only [decide_eq_true_eq, decide_eq_false_iff_not, Ty.T]; omega) | (simp only [beq_iff_eq, bne_iff_ne, ne_eq, decide_eq_true_eq, Ty.T]; omega)))]) 1000 (by omega) with h | h
    · refine ⟨true, h.2, fun _ => ?_⟩
      rw [← hC]
      exact ⟨by dsimp only; omega, by dsimp only; omega, by dsimp only; omega, by dsimp only; omega, by dsimp only; omega, by dsimp only; omega, fun x hx => by
        obtain ⟨i, hi, rfl⟩ := List.getElem_of_mem hx
        exact hr i hi, fun y hy => by
        obtain ⟨i, hi, rfl⟩ := List.getElem_of_mem hy
        exact h.1 i hi hi⟩
    · exact ⟨false, h, fun k => absurd k (by decide)⟩
  rcases loop_or (fun m i => f_law21_Few.l2 C 1000 m (i : Int)) cs.length (fun i => ∀ hi : i < cs.length, cs[i].length ≤ 10 ∧ ∀ l ∈ cs[i], l.length ≤ 60) (f_law21_Few.l3 C 1000 1000 0) (some (false, ())) (fun m i hi => by
      simp only [f_law21_Few.l2, f_law21_Few.b2]
      rw [e1, if_pos (by (first | omega | (dsimp only [Ty.T]; omega) | (simp only [decide_eq_true_eq, decide_eq_false_iff_not, Bool.not_eq_true, Ty.T]; omega) | (simp only [decide_eq_true_eq, decide_eq_false_iff_not, Ty.T]; omega) | (simp only [beq_iff_eq, bne_iff_ne, ne_eq, decide_eq_true_eq, Ty.T]; omega))), if_pos (by omega), if_pos (by omega), att_n (e := .slice (.slice T1383)) cs i hi, wsucc i (by omega)]
      obtain ⟨b, hb, hb2⟩ := few12 cs[i]
      rw [hb, Option.bind_some]
      cases b with
      | false => right; rfl
      | true => left; exact ⟨fun _ => hb2 rfl, rfl⟩) (fun _ m => by
      simp only [f_law21_Few.l2, f_law21_Few.b2]
      rw [e1, if_neg (by (first | omega | (dsimp only [Ty.T]; omega) | (simp only [decide_eq_true_eq, decide_eq_false_iff_not, Bool.not_eq_true, Ty.T]; omega) | (simp only [decide_eq_true_eq, decide_eq_false_iff_not, Ty.T]; omega) | (simp only [beq_iff_eq, bne_iff_ne, ne_eq, decide_eq_true_eq, Ty.T]; omega)))]) 1000 (by omega) with h | h
  · obtain ⟨b, hb, hb2⟩ := inner fun i hi => h.1 i hi hi
    exact ⟨b, h.2.trans hb, hb2⟩
  · exact ⟨false, h, fun k => absurd k (by decide)⟩
theorem att_mem {e : Ty} (xs : List e.T) {i : Int} (h0 : 0 ≤ i) (h1 : i < (xs.length : Int)) : att e xs i ∈ xs := by
  obtain ⟨j, rfl⟩ : ∃ j : Nat, i = (j : Int) := ⟨i.toNat, by omega⟩
  rw [att_n xs j (by omega)]
  exact List.getElem_mem _
theorem loop_ex {σ R : Type} (B : Nat → Nat → σ → Option R) (I : Nat → σ → Prop) (n : Nat) (Post : R → Prop) (step : ∀ m i s, i < n → I i s → (∃ s', I (i + 1) s' ∧ B (m + 1) i s = B m (i + 1) s') ∨ ∃ r, B (m + 1) i s = some r ∧ Post r) (fin : ∀ m s, I n s → ∃ r, B (m + 1) n s = some r ∧ Post r) : ∀ m, n < m → ∀ s, I 0 s → ∃ r, B m 0 s = some r ∧ Post r := by
  have key : ∀ d i m s, i + d = n → d < m → I i s → ∃ r, B m i s = some r ∧ Post r := by
    intro d
    induction d with
    | zero =>
      intro i m s h hm hi
      obtain rfl : i = n := by omega
      obtain ⟨m, rfl⟩ : ∃ m', m = m' + 1 := ⟨m - 1, by omega⟩
      exact fin m s hi
    | succ d ih =>
      intro i m s h hm hi
      obtain ⟨m, rfl⟩ : ∃ m', m = m' + 1 := ⟨m - 1, by omega⟩
      rcases step m i s (by omega) hi with ⟨s', h1, h2⟩ | h
      · rw [h2]
        exact ih (i + 1) m s' (by omega) (by omega) h1
      · exact h
  exact fun m hm s hs => key n 0 m s (by omega) hm hs
theorem push_any (S : Ss) (m : Mg) (h : S.2.2.length < 1000000) : ∃ S' e, f_sess_Push.f 1000 S m = some (S', (e, ())) ∧ S'.2.2.length ≤ S.2.2.length + 1 := by
  unfold f_sess_Push.f
  rw [own_s 1000 _ _ _ _ _ h, Option.bind_some]
  dsimp only
  by_cases h1 : S.2.1 > (1048576 : Int)
  · rw [if_pos (decide_eq_true h1)]
    exact ⟨_, _, rfl, by dsimp only; omega⟩
  · rw [if_neg (by rw [decide_eq_false h1]; exact Bool.false_ne_true), if_pos (by omega)]
    exact ⟨_, _, rfl, by simp⟩
theorem push_total (S : Ss) (ms : List Mg) (h : S.2.2.length ≤ 100) (hm : ms.length ≤ 200) : ∃ S', f_plan_Push.f 1000 S ms = some (S', ()) := by
  unfold f_plan_Push.f
  rw [done_eq 1000 S _ _ (by omega) (by omega), Option.bind_some]
  have hd : sdone S (IntKind.i64.wrap (S.1 - 1)) 0 = S := by
    unfold sdone
    rw [if_neg (wrap_pred S.1)]
  rw [hd]
  obtain ⟨r, e, _⟩ := loop_ex (fun m i (s : Ss) => f_plan_Push.l1 1000 m ms (ms.length : Int) (i : Int) s 0 0) (fun i s => s.2.2.length ≤ 100 + i) ms.length (fun _ => True) (fun m i s hi hs => by
      simp only [f_plan_Push.l1, f_plan_Push.b1, f_plan_Push.j2]
      rw [if_pos (by (first | omega | (dsimp only [Ty.T]; omega) | (simp only [decide_eq_true_eq, decide_eq_false_iff_not, Bool.not_eq_true, Ty.T]; omega) | (simp only [decide_eq_true_eq, decide_eq_false_iff_not, Ty.T]; omega) | (simp only [beq_iff_eq, bne_iff_ne, ne_eq, decide_eq_true_eq, Ty.T]; omega))), if_pos (by omega), if_pos (by omega), wsucc i (by omega)]
      obtain ⟨S', e, h1, h2⟩ := push_any s (att T4414 ms (i : Int)) (by omega)
      rw [h1, Option.bind_some]
      dsimp only
      by_cases he : (e != 0) = true
      · rw [if_pos he]
        exact .inr ⟨_, rfl, trivial⟩
      · rw [if_neg he]
        exact .inl ⟨S', by omega, rfl⟩) (fun m s hs => by
      simp only [f_plan_Push.l1, f_plan_Push.b1, f_plan_Push.j2]
      rw [if_neg (by (first | omega | (dsimp only [Ty.T]; omega) | (simp only [decide_eq_true_eq, decide_eq_false_iff_not, Bool.not_eq_true, Ty.T]; omega) | (simp only [decide_eq_true_eq, decide_eq_false_iff_not, Ty.T]; omega) | (simp only [beq_iff_eq, bne_iff_ne, ne_eq, decide_eq_true_eq, Ty.T]; omega)))]
      exact ⟨_, rfl, trivial⟩) 1000 (by omega) S (by omega)
  exact ⟨r.1, e⟩
def busyP (y : T23b6.T) : Bool := decide (y.1 ≤ (0 : Int)) || decide ((y.2.2.2.2.length : Int) > (0 : Int))
def badP (n : Int) (y : T23b6.T) : Bool := y.2.1 == n
theorem qi_control_controller_two_ad0 (x1 : T26b3.T) (x2 : Int) (x3 : Int) (x4 : Int) (x5 : Int) (x6 : Int) (x7 : Int) (x8 : Int) (x9 : Int) (x10 : Int) (x11 : Int) (x12 : Int) (x13 : Int) (x14 : Int) (x15 : Int) (x16 : List (List (List T1383.T))) (x17 : List Int) (x18 : List T23b6.T) (x19 : List T713d.T) (x20 : List Int) (x21 : List Int) : i_control_controller_two_ad0.f 1000 x1 x2 x3 x4 x5 x6 x7 x8 x9 x10 x11 x12 x13 x14 x15 x16 x17 x18 x19 x20 x21 = some (two x13, ()) := by
  unfold i_control_controller_two_ad0.f
  rw [contains_eq [1, 2, 3] x13 (by decide), Option.bind_some]
  exact congrArg (fun b => some (b, ())) (two_any x13)
theorem qi_control_controller_is_1_db3 (x1 : Int) (x2 : T26b3.T) (x3 : Int) (x4 : Int) (x5 : Int) (x6 : Int) (x7 : Int) (x8 : Int) (x9 : Int) (x10 : Int) (x11 : Int) (x12 : Int) (x13 : Int) (x14 : Int) (x15 : Int) (x16 : Int) (x17 : List (List (List T1383.T))) (x18 : List Int) (x19 : List T23b6.T) (x20 : List T713d.T) (x21 : List Int) (x22 : List Int) : i_control_controller_is_1_db3.f 1000 x1 x2 x3 x4 x5 x6 x7 x8 x9 x10 x11 x12 x13 x14 x15 x16 x17 x18 x19 x20 x21 x22 = some (!inR x17.length x1, ()) := by
  unfold i_control_controller_is_1_db3.f inR
  by_cases h0 : x1 < 0
  · rw [decide_eq_true h0, if_pos rfl, decide_eq_false (by omega)]; rfl
  · rw [decide_eq_false h0, if_neg Bool.false_ne_true]
    by_cases h1 : x1 < (x17.length : Int)
    · rw [decide_eq_false (by omega), decide_eq_true (by omega)]; rfl
    · rw [decide_eq_true (by omega), decide_eq_false (by omega)]; rfl
theorem qi_slices_ContainsFunc_int_336 (x1 : T26b3.T) (x2 : Int) (x3 : Int) (x4 : Int) (x5 : Int) (x6 : Int) (x7 : Int) (x8 : Int) (x9 : Int) (x10 : Int) (x11 : Int) (x12 : Int) (x13 : Int) (x14 : Int) (x15 : Int) (x16 : List (List (List T1383.T))) (x17 : List Int) (x18 : List T23b6.T) (x19 : List T713d.T) (x20 : List Int) (x21 : List Int) (h : x17.length < 1000) : i_slices_ContainsFunc_int_336.f 1000 x1 x2 x3 x4 x5 x6 x7 x8 x9 x10 x11 x12 x13 x14 x15 x16 x17 x18 x19 x20 x21 = some (x17.any (fun q => !inR x16.length q), ()) := by
  unfold i_slices_ContainsFunc_int_336.f i_slices_IndexFunc_int_336.f
  have hle : x17.findIdx (fun q => !inR x16.length q) ≤ x17.length := List.findIdx_le_length
  refine loop (fun m i => (i_slices_IndexFunc_int_336.l1 x1 x2 x3 x4 x5 x6 x7 x8 x9 x10 x11 x12 x13 x14 x15 x16 x17 x18 x19 x20 x21 1000 m (x17.length : Int) (i : Int)).bind fun y1 => some (decide (y1.1 ≥ (0 : Int)), ())) (x17.findIdx (fun q => !inR x16.length q)) _ (fun m i hi => ?_) (fun m => ?_) 1000 (by omega)
  · have hl : i < x17.length := by omega
    have hn := fi_not hi hl
    simp only [i_slices_IndexFunc_int_336.l1, i_slices_IndexFunc_int_336.b1]
    rw [if_pos (by (first | omega | (dsimp only [Ty.T]; omega) | (simp only [decide_eq_true_eq, decide_eq_false_iff_not, Bool.not_eq_true, Ty.T]; omega) | (simp only [decide_eq_true_eq, decide_eq_false_iff_not, Ty.T]; omega) | (simp only [beq_iff_eq, bne_iff_ne, ne_eq, decide_eq_true_eq, Ty.T]; omega))), if_pos (by omega), if_pos (by omega), att_n (e := .int .i64) x17 i hl, qi_control_controller_is_1_db3, Option.bind_some, if_neg (by rw [Bool.not_eq_true]; exact hn), wsucc i (by omega)]
  · simp only [i_slices_IndexFunc_int_336.l1, i_slices_IndexFunc_int_336.b1]
    by_cases hl : x17.findIdx (fun q => !inR x16.length q) < x17.length
    · have hy := List.findIdx_getElem (w := hl)
      rw [if_pos (by (first | omega | (dsimp only [Ty.T]; omega) | (simp only [decide_eq_true_eq, decide_eq_false_iff_not, Bool.not_eq_true, Ty.T]; omega) | (simp only [decide_eq_true_eq, decide_eq_false_iff_not, Ty.T]; omega) | (simp only [beq_iff_eq, bne_iff_ne, ne_eq, decide_eq_true_eq, Ty.T]; omega))), if_pos (by omega), if_pos (by omega), att_n (e := .int .i64) x17 _ hl, qi_control_controller_is_1_db3, Option.bind_some, if_pos hy, Option.bind_some, decide_eq_true (by omega)]
      exact congrArg (fun b => some (b, ())) (List.any_eq_true.2 ⟨_, List.getElem_mem hl, hy⟩).symm
    · rw [if_neg (by (first | omega | (dsimp only [Ty.T]; omega) | (simp only [decide_eq_true_eq, decide_eq_false_iff_not, Bool.not_eq_true, Ty.T]; omega) | (simp only [decide_eq_true_eq, decide_eq_false_iff_not, Ty.T]; omega) | (simp only [beq_iff_eq, bne_iff_ne, ne_eq, decide_eq_true_eq, Ty.T]; omega))), Option.bind_some, decide_eq_false (by decide)]
      refine congrArg (fun b => some (b, ())) (Eq.symm ?_)
      rw [Bool.eq_false_iff]
      intro hc
      obtain ⟨y, h1, h2⟩ := List.any_eq_true.1 hc
      exact absurd (List.findIdx_lt_length_of_exists ⟨y, h1, h2⟩) hl
theorem qi_control_controller_is_d8b (x1 : T26b3.T) (x2 : Int) (x3 : Int) (x4 : Int) (x5 : Int) (x6 : Int) (x7 : Int) (x8 : Int) (x9 : Int) (x10 : Int) (x11 : Int) (x12 : Int) (x13 : Int) (x14 : Int) (x15 : Int) (x16 : List (List (List T1383.T))) (x17 : List Int) (x18 : List T23b6.T) (x19 : List T713d.T) (x20 : List Int) (x21 : List Int) (h : x17.length < 1000) : i_control_controller_is_d8b.f 1000 x1 x2 x3 x4 x5 x6 x7 x8 x9 x10 x11 x12 x13 x14 x15 x16 x17 x18 x19 x20 x21 = some (isB x16.length x9 x10 x13 x17 x18.length, ()) := by
  unfold i_control_controller_is_d8b.f
  have j : ∀ p, i_control_controller_is_d8b.j1 x1 x2 x3 x4 x5 x6 x7 x8 x9 x10 x11 x12 x13 x14 x15 x16 x17 x18 x19 x20 x21 1000 p = some (p && (inR x16.length x9 && (!x17.any (fun q => !inR x16.length q) && decide ((x18.length : Int) ≤ 100))), ()) := by
    intro p
    unfold i_control_controller_is_d8b.j1
    cases p
    · rfl
    rw [if_pos rfl, qi_control_controller_is_1_db3, Option.bind_some, qi_slices_ContainsFunc_int_336 (h := h)]
    cases inR x16.length x9
    · rfl
    cases x17.any (fun q => !inR x16.length q)
    · rfl
    · rfl
  simp only [j, qi_control_controller_is_1_db3, qi_control_controller_two_ad0, Option.bind_some]
  unfold isB
  cases x10 == -1
  · rw [if_neg Bool.false_ne_true]
    cases inR x16.length x10 <;> rfl
  · rw [if_pos rfl]
    cases two x13 <;> cases inR x16.length x10 <;> rfl
theorem qi_control_controller_two_e61 (x1 : T26b3.T) : i_control_controller_two_e61.f 1000 x1 = some (two x1.2.2.2.2.2.1, ()) := by
  unfold i_control_controller_two_e61.f
  rw [contains_eq [1, 2, 3] x1.2.2.2.2.2.1 (by decide), Option.bind_some]
  exact congrArg (fun b => some (b, ())) (two_any x1.2.2.2.2.2.1)
theorem qi_control_controller_is_1_797 (x1 : Int) (x2 : T26b3.T) : i_control_controller_is_1_797.f 1000 x1 x2 = some (!inR x2.1.length x1, ()) := by
  unfold i_control_controller_is_1_797.f inR
  by_cases h0 : x1 < 0
  · rw [decide_eq_true h0, if_pos rfl, decide_eq_false (by omega)]; rfl
  · rw [decide_eq_false h0, if_neg Bool.false_ne_true]
    by_cases h1 : x1 < (x2.1.length : Int)
    · rw [decide_eq_false (by omega), decide_eq_true (by omega)]; rfl
    · rw [decide_eq_true (by omega), decide_eq_false (by omega)]; rfl
theorem qi_slices_ContainsFunc_int_a51 (x1 : List Int) (x2 : T26b3.T) (h : x1.length < 1000) : i_slices_ContainsFunc_int_a51.f 1000 x1 x2 = some (x1.any (fun q => !inR x2.1.length q), ()) := by
  unfold i_slices_ContainsFunc_int_a51.f i_slices_IndexFunc_int_a51.f
  have hle : x1.findIdx (fun q => !inR x2.1.length q) ≤ x1.length := List.findIdx_le_length
  refine loop (fun m i => (i_slices_IndexFunc_int_a51.l1 x1 x2 1000 m (x1.length : Int) (i : Int)).bind fun y1 => some (decide (y1.1 ≥ (0 : Int)), ())) (x1.findIdx (fun q => !inR x2.1.length q)) _ (fun m i hi => ?_) (fun m => ?_) 1000 (by omega)
  · have hl : i < x1.length := by omega
    have hn := fi_not hi hl
    simp only [i_slices_IndexFunc_int_a51.l1, i_slices_IndexFunc_int_a51.b1]
    rw [if_pos (by (first | omega | (dsimp only [Ty.T]; omega) | (simp only [decide_eq_true_eq, decide_eq_false_iff_not, Bool.not_eq_true, Ty.T]; omega) | (simp only [decide_eq_true_eq, decide_eq_false_iff_not, Ty.T]; omega) | (simp only [beq_iff_eq, bne_iff_ne, ne_eq, decide_eq_true_eq, Ty.T]; omega))), if_pos (by omega), if_pos (by omega), att_n (e := .int .i64) x1 i hl, qi_control_controller_is_1_797, Option.bind_some, if_neg (by rw [Bool.not_eq_true]; exact hn), wsucc i (by omega)]
  · simp only [i_slices_IndexFunc_int_a51.l1, i_slices_IndexFunc_int_a51.b1]
    by_cases hl : x1.findIdx (fun q => !inR x2.1.length q) < x1.length
    · have hy := List.findIdx_getElem (w := hl)
      rw [if_pos (by (first | omega | (dsimp only [Ty.T]; omega) | (simp only [decide_eq_true_eq, decide_eq_false_iff_not, Bool.not_eq_true, Ty.T]; omega) | (simp only [decide_eq_true_eq, decide_eq_false_iff_not, Ty.T]; omega) | (simp only [beq_iff_eq, bne_iff_ne, ne_eq, decide_eq_true_eq, Ty.T]; omega))), if_pos (by omega), if_pos (by omega), att_n (e := .int .i64) x1 _ hl, qi_control_controller_is_1_797, Option.bind_some, if_pos hy, Option.bind_some, decide_eq_true (by omega)]
      exact congrArg (fun b => some (b, ())) (List.any_eq_true.2 ⟨_, List.getElem_mem hl, hy⟩).symm
    · rw [if_neg (by (first | omega | (dsimp only [Ty.T]; omega) | (simp only [decide_eq_true_eq, decide_eq_false_iff_not, Bool.not_eq_true, Ty.T]; omega) | (simp only [decide_eq_true_eq, decide_eq_false_iff_not, Ty.T]; omega) | (simp only [beq_iff_eq, bne_iff_ne, ne_eq, decide_eq_true_eq, Ty.T]; omega))), Option.bind_some, decide_eq_false (by decide)]
      refine congrArg (fun b => some (b, ())) (Eq.symm ?_)
      rw [Bool.eq_false_iff]
      intro hc
      obtain ⟨y, h1, h2⟩ := List.any_eq_true.1 hc
      exact absurd (List.findIdx_lt_length_of_exists ⟨y, h1, h2⟩) hl
theorem qi_control_controller_is_e28 (x1 : T26b3.T) (h : x1.2.2.2.2.2.2.2.1.length < 1000) : i_control_controller_is_e28.f 1000 x1 = some (isB x1.1.length x1.2.1 x1.2.2.1 x1.2.2.2.2.2.1 x1.2.2.2.2.2.2.2.1 x1.2.2.2.2.2.2.2.2.1.length, ()) := by
  unfold i_control_controller_is_e28.f
  have j : ∀ p, i_control_controller_is_e28.j1 x1 1000 p = some (p && (inR x1.1.length x1.2.1 && (!x1.2.2.2.2.2.2.2.1.any (fun q => !inR x1.1.length q) && decide ((x1.2.2.2.2.2.2.2.2.1.length : Int) ≤ 100))), ()) := by
    intro p
    unfold i_control_controller_is_e28.j1
    cases p
    · rfl
    rw [if_pos rfl, qi_control_controller_is_1_797, Option.bind_some, qi_slices_ContainsFunc_int_a51 (h := h)]
    cases inR x1.1.length x1.2.1
    · rfl
    cases x1.2.2.2.2.2.2.2.1.any (fun q => !inR x1.1.length q)
    · rfl
    · rfl
  simp only [j, qi_control_controller_is_1_797, qi_control_controller_two_e61, Option.bind_some]
  unfold isB
  cases x1.2.2.1 == -1
  · rw [if_neg Bool.false_ne_true]
    cases inR x1.1.length x1.2.2.1 <;> rfl
  · rw [if_pos rfl]
    cases two x1.2.2.2.2.2.1 <;> cases inR x1.1.length x1.2.2.1 <;> rfl
theorem qi_control_controller_two_e28 (x1 : T26b3.T) : i_control_controller_two_e28.f 1000 x1 = some (two x1.2.2.2.2.2.1, ()) := by
  unfold i_control_controller_two_e28.f
  rw [contains_eq [1, 2, 3] x1.2.2.2.2.2.1 (by decide), Option.bind_some]
  exact congrArg (fun b => some (b, ())) (two_any x1.2.2.2.2.2.1)
theorem qi_slices_SortStableFunc_Ver_885 (x1 : T26b3.T) (u v : Vr) : i_slices_SortStableFunc_Ver_885.f 1000 x1 [u, v] = some (if v.1 < u.1 then [v, u] else [u, v], ()) := by
  have hc : ∀ (x3 : T26b3.T) (x4 : List T814c.T), i_control_controller_live_1_5ba.f 1000 v u x3 x4 = some (if v.1 < u.1 then -1 else if v.1 > u.1 then 1 else 0, ()) := by
    intros
    unfold i_control_controller_live_1_5ba.f
    by_cases h1 : v.1 < u.1
    · rw [if_pos (decide_eq_true h1), if_pos h1]
    · rw [if_neg (by rw [decide_eq_false h1]; exact Bool.false_ne_true), if_neg h1]
      by_cases h2 : v.1 > u.1
      · rw [if_pos (decide_eq_true h2), if_pos h2]
      · rw [if_neg (by rw [decide_eq_false h2]; exact Bool.false_ne_true), if_neg h2]
  unfold i_slices_SortStableFunc_Ver_885.f i_slices_stableCmpFunc_Ver_2ec.f i_slices_stableCmpFunc_Ver_2ec.l1
  dsimp only
  unfold i_slices_stableCmpFunc_Ver_2ec.b1
  rw [if_neg (by exact Bool.false_ne_true)]
  unfold i_slices_insertionSortCmpFunc_Ver_2e0.f i_slices_insertionSortCmpFunc_Ver_2e0.l1
  dsimp only
  unfold i_slices_insertionSortCmpFunc_Ver_2e0.b1
  rw [if_pos (by exact rfl)]
  unfold i_slices_insertionSortCmpFunc_Ver_2e0.l2
  dsimp only
  unfold i_slices_insertionSortCmpFunc_Ver_2e0.b2
  rw [if_pos (by exact rfl), if_pos (by exact of_decide_eq_true rfl), if_pos (by exact of_decide_eq_true rfl), if_pos (by exact of_decide_eq_true rfl), if_pos (by exact of_decide_eq_true rfl), show att T814c [u, v] (IntKind.i64.wrap (0 + 1)) = v from rfl, show att T814c [u, v] (IntKind.i64.wrap (IntKind.i64.wrap (0 + 1) - 1)) = u from rfl, hc]
  by_cases h1 : v.1 < u.1
  · rw [if_pos h1, if_pos h1]
    show _ = _
    kernel_rfl
  · rw [if_neg h1, if_neg h1]
    by_cases h2 : v.1 > u.1
    · rw [if_pos h2]
      show _ = _
      kernel_rfl
    · rw [if_neg h2]
      show _ = _
      kernel_rfl
theorem qi_control_controller_flips_ebc (x1 : T26b3.T) (x2 : List T814c.T) : i_control_controller_flips_ebc.f 1000 x1 x2 = some (decide (x1.2.2.2.2.2.1 = 2 ∨ x1.2.2.2.2.2.1 = 3), ()) := by
  unfold i_control_controller_flips_ebc.f
  by_cases h2 : x1.2.2.2.2.2.1 = 2
  · rw [if_pos (beq_iff_eq.2 h2), decide_eq_true (.inl h2)]
  · rw [if_neg (by rw [beq_iff_eq]; exact h2)]
    by_cases h3 : x1.2.2.2.2.2.1 = 3
    · rw [beq_iff_eq.2 h3, decide_eq_true (.inr h3)]
    · rw [beq_eq_false_iff_ne.2 h3, decide_eq_false (by intro h; cases h with | inl h => exact h2 h | inr h => exact h3 h)]
theorem qi_control_controller_flips_e28 (x1 : T26b3.T) : i_control_controller_flips_e28.f 1000 x1 = some (decide (x1.2.2.2.2.2.1 = 2 ∨ x1.2.2.2.2.2.1 = 3), ()) := by
  unfold i_control_controller_flips_e28.f
  by_cases h2 : x1.2.2.2.2.2.1 = 2
  · rw [if_pos (beq_iff_eq.2 h2), decide_eq_true (.inl h2)]
  · rw [if_neg (by rw [beq_iff_eq]; exact h2)]
    by_cases h3 : x1.2.2.2.2.2.1 = 3
    · rw [beq_iff_eq.2 h3, decide_eq_true (.inr h3)]
    · rw [beq_eq_false_iff_ne.2 h3, decide_eq_false (by intro h; cases h with | inl h => exact h2 h | inr h => exact h3 h)]
theorem qi_control_controller_live_258 (x1 : Int) (x2 : T26b3.T) (h0 : 0 ≤ x2.2.1) (h1 : x2.2.1 < (x2.1.length : Int)) (h2 : two x2.2.2.2.2.2.1 = true → 0 ≤ x2.2.2.1 ∧ x2.2.2.1 < (x2.1.length : Int)) (hr : ∀ x ∈ x2.1, ∀ l ∈ x, l.length < 1000000) : i_control_controller_live_258.f 1000 x1 x2 = some (lvs x2.1 x2.2.1 x2.2.2.1 x2.2.2.2.1 x2.2.2.2.2.1 x2.2.2.2.2.2.1 x1, (stampOf x2.2.2.2.1 x2.2.2.2.2.1 x2.2.2.2.2.2.1, ())) := by
  unfold i_control_controller_live_258.f lvs stampOf
  rw [if_pos h0, if_pos h1, conf_at 1000 _ _ (hr _ (att_mem _ h0 h1)), Option.bind_some, qi_control_controller_two_e28, Option.bind_some]
  by_cases ht : two x2.2.2.2.2.2.1 = true
  · obtain ⟨h3, h4⟩ := h2 ht
    rw [if_pos ht, if_pos ht, if_pos h3, if_pos h4, conf_at 1000 _ _ (hr _ (att_mem _ h3 h4)), Option.bind_some, qi_slices_SortStableFunc_Ver_885, Option.bind_some]
    unfold i_control_controller_live_258.j2
    rw [qi_control_controller_flips_ebc, Option.bind_some]
    by_cases hf : x2.2.2.2.2.2.1 = 2 ∨ x2.2.2.2.2.2.1 = 3
    · rw [decide_eq_true hf, if_pos hf]; rfl
    · rw [decide_eq_false hf, if_neg hf]; rfl
  · rw [if_neg ht, if_neg ht]
    unfold i_control_controller_live_258.j3
    rw [qi_control_controller_flips_e28, Option.bind_some]
    by_cases hf : x2.2.2.2.2.2.1 = 2 ∨ x2.2.2.2.2.2.1 = 3
    · rw [decide_eq_true hf, if_pos hf]; rfl
    · rw [decide_eq_false hf, if_neg hf]; rfl
theorem qf_slices_Clone_Rule (a1 : List T1383.T) (h : a1.length < 1000000) : f_slices_Clone_Rule.f 1000 a1 = some (a1, ()) := by
  unfold f_slices_Clone_Rule.f
  rw [if_pos (by omega), if_pos (.inl rfl)]
  rfl
theorem qf_slices_Clone_Msg (a1 : List T4414.T) (h : a1.length < 1000000) : f_slices_Clone_Msg.f 1000 a1 = some (a1, ()) := by
  unfold f_slices_Clone_Msg.f
  rw [if_pos (by omega), if_pos (.inl rfl)]
  rfl
theorem qf_slices_Clone_intO (a1 : List Int) (h : a1.length < 1000000) : f_slices_Clone_intO.f 1000 a1 = some (a1, ()) := by
  unfold f_slices_Clone_intO.f
  rw [if_pos (by omega), if_pos (.inl rfl)]
  rfl
theorem qf_slices_Clone_GivenO (a1 : List T713d.T) (h : a1.length < 1000000) : f_slices_Clone_GivenO.f 1000 a1 = some (a1, ()) := by
  unfold f_slices_Clone_GivenO.f
  rw [if_pos (by omega), if_pos (.inl rfl)]
  rfl
theorem qf_slices_Clone_Conf_RuleO (a1 : List (List T1383.T)) (h : a1.length < 1000000) : f_slices_Clone_Conf_RuleO.f 1000 a1 = some (a1, ()) := by
  unfold f_slices_Clone_Conf_RuleO.f
  rw [if_pos (by omega), if_pos (.inl rfl)]
  rfl
theorem qf_slices_Clone_PeerO (a1 : List T23b6.T) (h : a1.length < 1000000) : f_slices_Clone_PeerO.f 1000 a1 = some (a1, ()) := by
  unfold f_slices_Clone_PeerO.f
  rw [if_pos (by omega), if_pos (.inl rfl)]
  rfl
theorem qf_slices_Clone_ConfO (a1 : List (List (List T1383.T))) (h : a1.length < 1000000) : f_slices_Clone_ConfO.f 1000 a1 = some (a1, ()) := by
  unfold f_slices_Clone_ConfO.f
  rw [if_pos (by omega), if_pos (.inl rfl)]
  rfl
theorem qi_control_own_b6am (x1 : T26b3.T) (x2 : T26b3.T) (x3 : Int) (x4 : Int) (x5 : Int) (x6 : Int) (x7 : Int) (x8 : Int) (x9 : Int) (h : FewOf x1) : i_control_own_b6am.f 1000 x1 x2 x3 x4 x5 x6 x7 x8 x9 = some (x1.2.1, (x1.2.2.1, (x1.2.2.2.1, (x1.2.2.2.2.1, (x1.2.2.2.2.2.1, (x1.2.2.2.2.2.2.1, (x1.2.2.2.2.2.2.2.2.2.2.2.2, (x1.1, (x1.2.2.2.2.2.2.2.1, (x1.2.2.2.2.2.2.2.2.1, (x1.2.2.2.2.2.2.2.2.2.1, (x1.2.2.2.2.2.2.2.2.2.2.1, (x1.2.2.2.2.2.2.2.2.2.2.2.1, ()))))))))))))) := by
  have f1 := h.c
  have f2 := h.p
  unfold i_control_own_b6am.f
  rw [qf_slices_Clone_ConfO (h := by omega), Option.bind_some]
  refine loop (fun m i => i_control_own_b6am.l1 x2 x3 x4 x5 x6 x7 x8 x9 1000 m (x1.1.length : Int) (i : Int) x1.2.1 x1.2.2.1 x1.2.2.2.1 x1.2.2.2.2.1 x1.2.2.2.2.2.1 x1.2.2.2.2.2.2.1 x1.2.2.2.2.2.2.2.1 x1.2.2.2.2.2.2.2.2.1 x1.2.2.2.2.2.2.2.2.2.1 x1.2.2.2.2.2.2.2.2.2.2.1 x1.2.2.2.2.2.2.2.2.2.2.2.1 x1.2.2.2.2.2.2.2.2.2.2.2.2 x1.1) x1.1.length _ (fun m i hi => ?_) (fun m => ?_) 1000 (by omega)
  · have hx := h.r _ (List.getElem_mem hi)
    have hx1 : x1.1[i].length ≤ 10 := hx.1
    simp only [i_control_own_b6am.l1, i_control_own_b6am.b1]
    rw [if_pos (by (first | omega | (dsimp only [Ty.T]; omega) | (simp only [decide_eq_true_eq, decide_eq_false_iff_not, Bool.not_eq_true, Ty.T]; omega) | (simp only [decide_eq_true_eq, decide_eq_false_iff_not, Ty.T]; omega) | (simp only [beq_iff_eq, bne_iff_ne, ne_eq, decide_eq_true_eq, Ty.T]; omega))), if_pos (by omega), if_pos (by omega), att_n (e := .slice (.slice T1383)) x1.1 i hi, qf_slices_Clone_Conf_RuleO (h := by omega), Option.bind_some]
    refine loop (fun q j => i_control_own_b6am.l2 x2 x3 x4 x5 x6 x7 x8 x9 (i_control_own_b6am.l1 x2 x3 x4 x5 x6 x7 x8 x9 1000 m) 1000 q (i : Int) (x1.1.length : Int) (i : Int) ((x1.1[i]).length : Int) (j : Int) x1.2.1 x1.2.2.1 x1.2.2.2.1 x1.2.2.2.2.1 x1.2.2.2.2.2.1 x1.2.2.2.2.2.2.1 x1.2.2.2.2.2.2.2.1 x1.2.2.2.2.2.2.2.2.1 x1.2.2.2.2.2.2.2.2.2.1 x1.2.2.2.2.2.2.2.2.2.2.1 x1.2.2.2.2.2.2.2.2.2.2.2.1 x1.2.2.2.2.2.2.2.2.2.2.2.2 x1.1[i] x1.1) (x1.1[i]).length _ (fun q j hj => ?_) (fun q => ?_) 1000 (by omega)
    · have hy := hx.2 _ (List.getElem_mem hj)
      simp only [i_control_own_b6am.l2, i_control_own_b6am.b2]
      rw [if_pos (by (first | omega | (dsimp only [Ty.T]; omega) | (simp only [decide_eq_true_eq, decide_eq_false_iff_not, Bool.not_eq_true, Ty.T]; omega) | (simp only [decide_eq_true_eq, decide_eq_false_iff_not, Ty.T]; omega) | (simp only [beq_iff_eq, bne_iff_ne, ne_eq, decide_eq_true_eq, Ty.T]; omega))), if_pos (by omega), if_pos (by omega), att_n (e := .slice T1383) x1.1[i] j hj, qf_slices_Clone_Rule (h := by omega), Option.bind_some, wsucc j (by omega), Int.toNat_natCast, List.set_getElem_self]
    · simp only [i_control_own_b6am.l2, i_control_own_b6am.b2]
      rw [if_neg (by (first | omega | (dsimp only [Ty.T]; omega) | (simp only [decide_eq_true_eq, decide_eq_false_iff_not, Bool.not_eq_true, Ty.T]; omega) | (simp only [decide_eq_true_eq, decide_eq_false_iff_not, Ty.T]; omega) | (simp only [beq_iff_eq, bne_iff_ne, ne_eq, decide_eq_true_eq, Ty.T]; omega))), if_pos (by omega), if_pos (by omega), wsucc i (by omega), Int.toNat_natCast, List.set_getElem_self]
  · simp only [i_control_own_b6am.l1, i_control_own_b6am.b1]
    rw [if_neg (by (first | omega | (dsimp only [Ty.T]; omega) | (simp only [decide_eq_true_eq, decide_eq_false_iff_not, Bool.not_eq_true, Ty.T]; omega) | (simp only [decide_eq_true_eq, decide_eq_false_iff_not, Ty.T]; omega) | (simp only [beq_iff_eq, bne_iff_ne, ne_eq, decide_eq_true_eq, Ty.T]; omega))), qf_slices_Clone_PeerO (h := by omega), Option.bind_some]
    refine loop (fun m i => i_control_own_b6am.l3 x2 x3 x4 x5 x6 x7 x8 x9 1000 m (x1.2.2.2.2.2.2.2.2.1.length : Int) (i : Int) x1.2.1 x1.2.2.1 x1.2.2.2.1 x1.2.2.2.2.1 x1.2.2.2.2.2.1 x1.2.2.2.2.2.2.1 x1.2.2.2.2.2.2.2.1 x1.2.2.2.2.2.2.2.2.2.1 x1.2.2.2.2.2.2.2.2.2.2.1 x1.2.2.2.2.2.2.2.2.2.2.2.1 x1.2.2.2.2.2.2.2.2.2.2.2.2 x1.1 x1.2.2.2.2.2.2.2.2.1) x1.2.2.2.2.2.2.2.2.1.length _ (fun m i hi => ?_) (fun m => ?_) 1000 (by omega)
    · have hy := h.o _ (List.getElem_mem hi)
      simp only [i_control_own_b6am.l3, i_control_own_b6am.b3]
      rw [if_pos (by (first | omega | (dsimp only [Ty.T]; omega) | (simp only [decide_eq_true_eq, decide_eq_false_iff_not, Bool.not_eq_true, Ty.T]; omega) | (simp only [decide_eq_true_eq, decide_eq_false_iff_not, Ty.T]; omega) | (simp only [beq_iff_eq, bne_iff_ne, ne_eq, decide_eq_true_eq, Ty.T]; omega))), if_pos (by omega), if_pos (by omega), att_n (e := T23b6) x1.2.2.2.2.2.2.2.2.1 i hi, qf_slices_Clone_Msg (h := by omega), Option.bind_some, wsucc i (by omega), Int.toNat_natCast, show x1.2.2.2.2.2.2.2.2.1.set i ((x1.2.2.2.2.2.2.2.2.1[i]).1, ((x1.2.2.2.2.2.2.2.2.1[i]).2.1, ((x1.2.2.2.2.2.2.2.2.1[i]).2.2.1, ((x1.2.2.2.2.2.2.2.2.1[i]).2.2.2.1, (x1.2.2.2.2.2.2.2.2.1[i]).2.2.2.2)))) = x1.2.2.2.2.2.2.2.2.1 from List.set_getElem_self hi]
    · have f3 := h.q
      have f4 := h.g
      have f5 := h.d
      have f6 := h.u
      simp only [i_control_own_b6am.l3, i_control_own_b6am.b3]
      rw [if_neg (by (first | omega | (dsimp only [Ty.T]; omega) | (simp only [decide_eq_true_eq, decide_eq_false_iff_not, Bool.not_eq_true, Ty.T]; omega) | (simp only [decide_eq_true_eq, decide_eq_false_iff_not, Ty.T]; omega) | (simp only [beq_iff_eq, bne_iff_ne, ne_eq, decide_eq_true_eq, Ty.T]; omega))), qf_slices_Clone_intO (h := by omega), Option.bind_some, qf_slices_Clone_GivenO (h := by omega), Option.bind_some, qf_slices_Clone_intO (h := by omega), Option.bind_some, qf_slices_Clone_intO (h := by omega), Option.bind_some]
theorem qi_control_controller_done_1_481 (x1 : T23b6.T) (x2 : T26b3.T) (x3 : Int) (x4 : Int) (x5 : Int) (x6 : Int) (x7 : Int) (x8 : Int) (x9 : Int) (x10 : Int) (x11 : Int) (x12 : Int) (x13 : Int) (x14 : Int) (x15 : Int) (x16 : Int) (x17 : List (List (List T1383.T))) (x18 : List Int) (x19 : List T23b6.T) (x20 : List T713d.T) (x21 : List Int) (x22 : List Int) : i_control_controller_done_1_481.f 1000 x1 x2 x3 x4 x5 x6 x7 x8 x9 x10 x11 x12 x13 x14 x15 x16 x17 x18 x19 x20 x21 x22 = some (busyP x1, ()) := by
  unfold i_control_controller_done_1_481.f busyP
  by_cases h : x1.1 ≤ (0 : Int)
  · rw [if_pos (decide_eq_true h), decide_eq_true h]; rfl
  · rw [if_neg (by rw [decide_eq_false h]; exact Bool.false_ne_true), decide_eq_false h]; rfl
theorem qi_slices_ContainsFunc_Peer_bc5 (x1 : T26b3.T) (x2 : Int) (x3 : Int) (x4 : Int) (x5 : Int) (x6 : Int) (x7 : Int) (x8 : Int) (x9 : Int) (x10 : Int) (x11 : Int) (x12 : Int) (x13 : Int) (x14 : Int) (x15 : Int) (x16 : List (List (List T1383.T))) (x17 : List Int) (x18 : List T23b6.T) (x19 : List T713d.T) (x20 : List Int) (x21 : List Int) (h : x18.length < 1000) : i_slices_ContainsFunc_Peer_bc5.f 1000 x1 x2 x3 x4 x5 x6 x7 x8 x9 x10 x11 x12 x13 x14 x15 x16 x17 x18 x19 x20 x21 = some (x18.any busyP, ()) := by
  unfold i_slices_ContainsFunc_Peer_bc5.f i_slices_IndexFunc_Peer_bc5.f
  have hle : x18.findIdx busyP ≤ x18.length := List.findIdx_le_length
  refine loop (fun m i => (i_slices_IndexFunc_Peer_bc5.l1 x1 x2 x3 x4 x5 x6 x7 x8 x9 x10 x11 x12 x13 x14 x15 x16 x17 x18 x19 x20 x21 1000 m (x18.length : Int) (i : Int)).bind fun y1 => some (decide (y1.1 ≥ (0 : Int)), ())) (x18.findIdx busyP) _ (fun m i hi => ?_) (fun m => ?_) 1000 (by omega)
  · have hl : i < x18.length := by omega
    have hn := fi_not hi hl
    simp only [i_slices_IndexFunc_Peer_bc5.l1, i_slices_IndexFunc_Peer_bc5.b1]
    rw [if_pos (by (first | omega | (dsimp only [Ty.T]; omega) | (simp only [decide_eq_true_eq, decide_eq_false_iff_not, Bool.not_eq_true, Ty.T]; omega) | (simp only [decide_eq_true_eq, decide_eq_false_iff_not, Ty.T]; omega) | (simp only [beq_iff_eq, bne_iff_ne, ne_eq, decide_eq_true_eq, Ty.T]; omega))), if_pos (by omega), if_pos (by omega), att_n (e := T23b6) x18 i hl, qi_control_controller_done_1_481, Option.bind_some, if_neg (by rw [Bool.not_eq_true]; exact hn), wsucc i (by omega)]
  · simp only [i_slices_IndexFunc_Peer_bc5.l1, i_slices_IndexFunc_Peer_bc5.b1]
    by_cases hl : x18.findIdx busyP < x18.length
    · have hy := List.findIdx_getElem (w := hl)
      rw [if_pos (by (first | omega | (dsimp only [Ty.T]; omega) | (simp only [decide_eq_true_eq, decide_eq_false_iff_not, Bool.not_eq_true, Ty.T]; omega) | (simp only [decide_eq_true_eq, decide_eq_false_iff_not, Ty.T]; omega) | (simp only [beq_iff_eq, bne_iff_ne, ne_eq, decide_eq_true_eq, Ty.T]; omega))), if_pos (by omega), if_pos (by omega), att_n (e := T23b6) x18 _ hl, qi_control_controller_done_1_481, Option.bind_some, if_pos (by exact hy), Option.bind_some, decide_eq_true (by omega)]
      exact congrArg (fun b => some (b, ())) (List.any_eq_true.2 ⟨_, List.getElem_mem hl, hy⟩).symm
    · rw [if_neg (by (first | omega | (dsimp only [Ty.T]; omega) | (simp only [decide_eq_true_eq, decide_eq_false_iff_not, Bool.not_eq_true, Ty.T]; omega) | (simp only [decide_eq_true_eq, decide_eq_false_iff_not, Ty.T]; omega) | (simp only [beq_iff_eq, bne_iff_ne, ne_eq, decide_eq_true_eq, Ty.T]; omega))), Option.bind_some, decide_eq_false (by decide)]
      refine congrArg (fun b => some (b, ())) (Eq.symm ?_)
      rw [Bool.eq_false_iff]
      intro hc
      obtain ⟨y, h1, h2⟩ := List.any_eq_true.1 hc
      exact absurd (List.findIdx_lt_length_of_exists ⟨y, h1, h2⟩) hl
theorem qi_control_controller_done_ad0 (x1 : T26b3.T) (x2 : Int) (x3 : Int) (x4 : Int) (x5 : Int) (x6 : Int) (x7 : Int) (x8 : Int) (x9 : Int) (x10 : Int) (x11 : Int) (x12 : Int) (x13 : Int) (x14 : Int) (x15 : Int) (x16 : List (List (List T1383.T))) (x17 : List Int) (x18 : List T23b6.T) (x19 : List T713d.T) (x20 : List Int) (x21 : List Int) (h : x18.length < 1000) : i_control_controller_done_ad0.f 1000 x1 x2 x3 x4 x5 x6 x7 x8 x9 x10 x11 x12 x13 x14 x15 x16 x17 x18 x19 x20 x21 = some (!x18.any busyP, ()) := by
  unfold i_control_controller_done_ad0.f
  rw [qi_slices_ContainsFunc_Peer_bc5 (h := h), Option.bind_some]
theorem qi_control_controller_done_1_d62 (x1 : T23b6.T) (x2 : T26b3.T) (x3 : Int) (x4 : Int) (x5 : Int) (x6 : Int) (x7 : Int) (x8 : Int) (x9 : Int) (x10 : Int) (x11 : Int) (x12 : Int) (x13 : Int) (x14 : Int) (x15 : Int) (x16 : Int) (x17 : List (List (List T1383.T))) (x18 : List Int) (x19 : List T23b6.T) (x20 : List T713d.T) (x21 : List Int) (x22 : List Int) : i_control_controller_done_1_d62.f 1000 x1 x2 x3 x4 x5 x6 x7 x8 x9 x10 x11 x12 x13 x14 x15 x16 x17 x18 x19 x20 x21 x22 = some (busyP x1, ()) := by
  unfold i_control_controller_done_1_d62.f busyP
  by_cases h : x1.1 ≤ (0 : Int)
  · rw [if_pos (decide_eq_true h), decide_eq_true h]; rfl
  · rw [if_neg (by rw [decide_eq_false h]; exact Bool.false_ne_true), decide_eq_false h]; rfl
theorem qi_slices_ContainsFunc_Peer_dc1 (x1 : T26b3.T) (x2 : Int) (x3 : Int) (x4 : Int) (x5 : Int) (x6 : Int) (x7 : Int) (x8 : Int) (x9 : Int) (x10 : Int) (x11 : Int) (x12 : Int) (x13 : Int) (x14 : Int) (x15 : Int) (x16 : List (List (List T1383.T))) (x17 : List Int) (x18 : List T23b6.T) (x19 : List T713d.T) (x20 : List Int) (x21 : List Int) (h : x18.length < 1000) : i_slices_ContainsFunc_Peer_dc1.f 1000 x1 x2 x3 x4 x5 x6 x7 x8 x9 x10 x11 x12 x13 x14 x15 x16 x17 x18 x19 x20 x21 = some (x18.any busyP, ()) := by
  unfold i_slices_ContainsFunc_Peer_dc1.f i_slices_IndexFunc_Peer_dc1.f
  have hle : x18.findIdx busyP ≤ x18.length := List.findIdx_le_length
  refine loop (fun m i => (i_slices_IndexFunc_Peer_dc1.l1 x1 x2 x3 x4 x5 x6 x7 x8 x9 x10 x11 x12 x13 x14 x15 x16 x17 x18 x19 x20 x21 1000 m (x18.length : Int) (i : Int)).bind fun y1 => some (decide (y1.1 ≥ (0 : Int)), ())) (x18.findIdx busyP) _ (fun m i hi => ?_) (fun m => ?_) 1000 (by omega)
  · have hl : i < x18.length := by omega
    have hn := fi_not hi hl
    simp only [i_slices_IndexFunc_Peer_dc1.l1, i_slices_IndexFunc_Peer_dc1.b1]
    rw [if_pos (by (first | omega | (dsimp only [Ty.T]; omega) | (simp only [decide_eq_true_eq, decide_eq_false_iff_not, Bool.not_eq_true, Ty.T]; omega) | (simp only [decide_eq_true_eq, decide_eq_false_iff_not, Ty.T]; omega) | (simp only [beq_iff_eq, bne_iff_ne, ne_eq, decide_eq_true_eq, Ty.T]; omega))), if_pos (by omega), if_pos (by omega), att_n (e := T23b6) x18 i hl, qi_control_controller_done_1_d62, Option.bind_some, if_neg (by rw [Bool.not_eq_true]; exact hn), wsucc i (by omega)]
  · simp only [i_slices_IndexFunc_Peer_dc1.l1, i_slices_IndexFunc_Peer_dc1.b1]
    by_cases hl : x18.findIdx busyP < x18.length
    · have hy := List.findIdx_getElem (w := hl)
      rw [if_pos (by (first | omega | (dsimp only [Ty.T]; omega) | (simp only [decide_eq_true_eq, decide_eq_false_iff_not, Bool.not_eq_true, Ty.T]; omega) | (simp only [decide_eq_true_eq, decide_eq_false_iff_not, Ty.T]; omega) | (simp only [beq_iff_eq, bne_iff_ne, ne_eq, decide_eq_true_eq, Ty.T]; omega))), if_pos (by omega), if_pos (by omega), att_n (e := T23b6) x18 _ hl, qi_control_controller_done_1_d62, Option.bind_some, if_pos (by exact hy), Option.bind_some, decide_eq_true (by omega)]
      exact congrArg (fun b => some (b, ())) (List.any_eq_true.2 ⟨_, List.getElem_mem hl, hy⟩).symm
    · rw [if_neg (by (first | omega | (dsimp only [Ty.T]; omega) | (simp only [decide_eq_true_eq, decide_eq_false_iff_not, Bool.not_eq_true, Ty.T]; omega) | (simp only [decide_eq_true_eq, decide_eq_false_iff_not, Ty.T]; omega) | (simp only [beq_iff_eq, bne_iff_ne, ne_eq, decide_eq_true_eq, Ty.T]; omega))), Option.bind_some, decide_eq_false (by decide)]
      refine congrArg (fun b => some (b, ())) (Eq.symm ?_)
      rw [Bool.eq_false_iff]
      intro hc
      obtain ⟨y, h1, h2⟩ := List.any_eq_true.1 hc
      exact absurd (List.findIdx_lt_length_of_exists ⟨y, h1, h2⟩) hl
theorem qi_control_controller_done_d8b (x1 : T26b3.T) (x2 : Int) (x3 : Int) (x4 : Int) (x5 : Int) (x6 : Int) (x7 : Int) (x8 : Int) (x9 : Int) (x10 : Int) (x11 : Int) (x12 : Int) (x13 : Int) (x14 : Int) (x15 : Int) (x16 : List (List (List T1383.T))) (x17 : List Int) (x18 : List T23b6.T) (x19 : List T713d.T) (x20 : List Int) (x21 : List Int) (h : x18.length < 1000) : i_control_controller_done_d8b.f 1000 x1 x2 x3 x4 x5 x6 x7 x8 x9 x10 x11 x12 x13 x14 x15 x16 x17 x18 x19 x20 x21 = some (!x18.any busyP, ()) := by
  unfold i_control_controller_done_d8b.f
  rw [qi_slices_ContainsFunc_Peer_dc1 (h := h), Option.bind_some]
theorem qi_control_controller_idle_1_0c7 (x1 : Int) (x2 : T26b3.T) (x3 : Int) (x4 : Int) (x5 : Int) (x6 : Int) (x7 : Int) (x8 : Int) (x9 : Int) (x10 : Int) (x11 : Int) (x12 : Int) (x13 : Int) (x14 : Int) (x15 : Int) (x16 : List Int) (x17 : Int) (x18 : List (List (List T1383.T))) (x19 : List T23b6.T) (x20 : List Int) (x21 : List Int) (x22 : List T713d.T) (h0 : 0 ≤ x11) (h1 : x11 < (x18.length : Int)) (hr : ∀ x ∈ x18, ∀ l ∈ x, l.length ≤ 60) : ∃ ms, i_control_controller_idle_1_0c7.f 1000 x1 x2 x3 x4 x5 x6 x7 x8 x9 x10 x11 x12 x13 x14 x15 x16 x17 x18 x19 x20 x21 x22 = some (ms, ()) ∧ ms.length ≤ 60 := by
  have hr2 := hr _ (att_mem (e := .slice (.slice T1383)) x18 h0 h1)
  unfold i_control_controller_idle_1_0c7.f
  rw [if_pos h0, if_pos h1, conf_at 1000 _ _ (fun l hl => by have := hr2 l hl; omega), Option.bind_some]
  have hl := rules_len _ x1 60 hr2
  dsimp only
  rw [adds_eq 1000 _ _ (by omega) (by omega), Option.bind_some]
  exact ⟨_, rfl, by unfold addsOf; rw [List.length_map]; exact hl⟩
theorem qi_control_controller_tell_107 (x1 : T26b3.T) (x2 : Int) (x3 : Int) (x4 : Int) (x5 : Int) (x6 : Int) (x7 : Int) (x8 : Int) (x9 : Int) (x10 : Int) (x11 : Int) (x12 : Int) (x13 : Int) (x14 : Int) (x15 : List Int) (x16 : Int) (x17 : List (List (List T1383.T))) (x18 : List T23b6.T) (x19 : List Int) (x20 : List Int) (x21 : List T713d.T) (hp : x18.length ≤ 12) (ho : ∀ y ∈ x18, y.2.2.2.2.length ≤ 100) (h0 : 0 ≤ x10) (h1 : x10 < (x17.length : Int)) (hr : ∀ x ∈ x17, ∀ l ∈ x, l.length ≤ 60) : ∃ P', i_control_controller_tell_107.f 1000 x1 x2 x3 x4 x5 x6 x7 x8 x9 x10 x11 x12 x13 x14 x15 x16 x17 x18 x19 x20 x21 = some (P', ()) ∧ P'.length = x18.length := by
  unfold i_control_controller_tell_107.f
  suffices key : ∃ r, i_control_controller_tell_107.l1 x1 x2 x3 x4 x5 x6 x7 x8 x9 x10 x11 x12 x13 x14 x15 x16 x17 x19 x20 x21 1000 1000 (x18.length : Int) ((0 : Nat) : Int) x18 = some r ∧ r.1.length = x18.length by
    obtain ⟨r, e1, e2⟩ := key
    exact ⟨r.1, e1, e2⟩
  refine loop_ex (fun m i (s : List T23b6.T) => i_control_controller_tell_107.l1 x1 x2 x3 x4 x5 x6 x7 x8 x9 x10 x11 x12 x13 x14 x15 x16 x17 x19 x20 x21 1000 m (x18.length : Int) (i : Int) s) (fun i s => s.length = x18.length ∧ ∀ j, i ≤ j → s[j]? = x18[j]?) x18.length (fun r => r.1.length = x18.length) ?st ?fi 1000 (by omega) x18 ⟨rfl, fun _ _ => rfl⟩
  case st =>
    intro m i s hi hs
    obtain ⟨s1, s2⟩ := hs
    have hsl : i < s.length := by omega
    have hyi : s[i] = x18[i] := by
      have e := s2 i (Nat.le_refl _)
      rw [List.getElem?_eq_getElem hsl, List.getElem?_eq_getElem hi] at e
      exact Option.some.inj e
    have hy := ho _ (List.getElem_mem hi)
    simp only [i_control_controller_tell_107.l1, i_control_controller_tell_107.b1]
    rw [if_pos (by (first | omega | (dsimp only [Ty.T]; omega) | (simp only [decide_eq_true_eq, decide_eq_false_iff_not, Bool.not_eq_true, Ty.T]; omega) | (simp only [decide_eq_true_eq, decide_eq_false_iff_not, Ty.T]; omega) | (simp only [beq_iff_eq, bne_iff_ne, ne_eq, decide_eq_true_eq, Ty.T]; omega))), if_pos (by omega), if_pos (by omega), att_n (e := T23b6) s i hsl]
    obtain ⟨ms, e1, e2⟩ := qi_control_controller_idle_1_0c7 (i : Int) x1 x2 x3 x4 x5 x6 x7 x8 x9 x10 x11 x12 x13 x14 x15 x16 x17 s x19 x20 x21 h0 h1 hr
    rw [e1, Option.bind_some]
    obtain ⟨S', e3⟩ := push_total s[i].2.2 ms (by rw [hyi]; exact hy) (by omega)
    rw [e3, Option.bind_some, wsucc i (by omega), Int.toNat_natCast]
    exact .inl ⟨_, ⟨by rw [List.length_set]; exact s1, fun j hj => by rw [List.getElem?_set_ne (by omega)]; exact s2 j (by omega)⟩, rfl⟩
  case fi =>
    intro m s hs
    simp only [i_control_controller_tell_107.l1, i_control_controller_tell_107.b1]
    rw [if_neg (by (first | omega | (dsimp only [Ty.T]; omega) | (simp only [decide_eq_true_eq, decide_eq_false_iff_not, Bool.not_eq_true, Ty.T]; omega) | (simp only [decide_eq_true_eq, decide_eq_false_iff_not, Ty.T]; omega) | (simp only [beq_iff_eq, bne_iff_ne, ne_eq, decide_eq_true_eq, Ty.T]; omega)))]
    exact ⟨_, rfl, hs.1⟩
theorem qi_control_all_1_252 (x1 : Int) (x2 : T26b3.T) (x3 : Int) (x4 : Int) (x5 : Int) (x6 : Int) (x7 : Int) (x8 : Int) (x9 : Int) (x10 : Int) (x11 : Int) (x12 : Int) (x13 : Int) (x14 : Int) (x15 : Int) (x16 : Int) (x17 : List (List (List T1383.T))) (x18 : List Int) (x19 : List T23b6.T) (x20 : List T713d.T) (x21 : List Int) (x22 : List Int) (x23 : Int) (x24 : Int) : ∃ ms, i_control_all_1_252.f 1000 x1 x2 x3 x4 x5 x6 x7 x8 x9 x10 x11 x12 x13 x14 x15 x16 x17 x18 x19 x20 x21 x22 x23 x24 = some (ms, ()) ∧ ms.length ≤ 60 := by
  unfold i_control_all_1_252.f
  exact ⟨_, rfl, by simp⟩
theorem qi_control_controller_tell_863 (x1 : T26b3.T) (x2 : Int) (x3 : Int) (x4 : Int) (x5 : Int) (x6 : Int) (x7 : Int) (x8 : Int) (x9 : Int) (x10 : Int) (x11 : Int) (x12 : Int) (x13 : Int) (x14 : Int) (x15 : Int) (x16 : List (List (List T1383.T))) (x17 : List Int) (x18 : List T23b6.T) (x19 : List T713d.T) (x20 : List Int) (x21 : List Int) (x22 : Int) (x23 : Int) (hp : x18.length ≤ 12) (ho : ∀ y ∈ x18, y.2.2.2.2.length ≤ 100) : ∃ P', i_control_controller_tell_863.f 1000 x1 x2 x3 x4 x5 x6 x7 x8 x9 x10 x11 x12 x13 x14 x15 x16 x17 x18 x19 x20 x21 x22 x23 = some (P', ()) ∧ P'.length = x18.length := by
  unfold i_control_controller_tell_863.f
  suffices key : ∃ r, i_control_controller_tell_863.l1 x1 x2 x3 x4 x5 x6 x7 x8 x9 x10 x11 x12 x13 x14 x15 x16 x17 x19 x20 x21 x22 x23 1000 1000 (x18.length : Int) ((0 : Nat) : Int) x18 = some r ∧ r.1.length = x18.length by
    obtain ⟨r, e1, e2⟩ := key
    exact ⟨r.1, e1, e2⟩
  refine loop_ex (fun m i (s : List T23b6.T) => i_control_controller_tell_863.l1 x1 x2 x3 x4 x5 x6 x7 x8 x9 x10 x11 x12 x13 x14 x15 x16 x17 x19 x20 x21 x22 x23 1000 m (x18.length : Int) (i : Int) s) (fun i s => s.length = x18.length ∧ ∀ j, i ≤ j → s[j]? = x18[j]?) x18.length (fun r => r.1.length = x18.length) ?st ?fi 1000 (by omega) x18 ⟨rfl, fun _ _ => rfl⟩
  case st =>
    intro m i s hi hs
    obtain ⟨s1, s2⟩ := hs
    have hsl : i < s.length := by omega
    have hyi : s[i] = x18[i] := by
      have e := s2 i (Nat.le_refl _)
      rw [List.getElem?_eq_getElem hsl, List.getElem?_eq_getElem hi] at e
      exact Option.some.inj e
    have hy := ho _ (List.getElem_mem hi)
    simp only [i_control_controller_tell_863.l1, i_control_controller_tell_863.b1]
    rw [if_pos (by (first | omega | (dsimp only [Ty.T]; omega) | (simp only [decide_eq_true_eq, decide_eq_false_iff_not, Bool.not_eq_true, Ty.T]; omega) | (simp only [decide_eq_true_eq, decide_eq_false_iff_not, Ty.T]; omega) | (simp only [beq_iff_eq, bne_iff_ne, ne_eq, decide_eq_true_eq, Ty.T]; omega))), if_pos (by omega), if_pos (by omega), att_n (e := T23b6) s i hsl]
    obtain ⟨ms, e1, e2⟩ := qi_control_all_1_252 (i : Int) x1 x2 x3 x4 x5 x6 x7 x8 x9 x10 x11 x12 x13 x14 x15 x16 x17 s x19 x20 x21 x22 x23
    rw [e1, Option.bind_some]
    obtain ⟨S', e3⟩ := push_total s[i].2.2 ms (by rw [hyi]; exact hy) (by omega)
    rw [e3, Option.bind_some, wsucc i (by omega), Int.toNat_natCast]
    exact .inl ⟨_, ⟨by rw [List.length_set]; exact s1, fun j hj => by rw [List.getElem?_set_ne (by omega)]; exact s2 j (by omega)⟩, rfl⟩
  case fi =>
    intro m s hs
    simp only [i_control_controller_tell_863.l1, i_control_controller_tell_863.b1]
    rw [if_neg (by (first | omega | (dsimp only [Ty.T]; omega) | (simp only [decide_eq_true_eq, decide_eq_false_iff_not, Bool.not_eq_true, Ty.T]; omega) | (simp only [decide_eq_true_eq, decide_eq_false_iff_not, Ty.T]; omega) | (simp only [beq_iff_eq, bne_iff_ne, ne_eq, decide_eq_true_eq, Ty.T]; omega)))]
    exact ⟨_, rfl, hs.1⟩
theorem qi_control_all_1_8b1 (x1 : Int) (x2 : T26b3.T) (x3 : Int) (x4 : Int) (x5 : Int) (x6 : Int) (x7 : Int) (x8 : Int) (x9 : Int) (x10 : Int) (x11 : Int) (x12 : Int) (x13 : Int) (x14 : Int) (x15 : Int) (x16 : Int) (x17 : List (List (List T1383.T))) (x18 : List Int) (x19 : List T23b6.T) (x20 : List T713d.T) (x21 : List Int) (x22 : List Int) (x23 : Int) (x24 : Int) : ∃ ms, i_control_all_1_8b1.f 1000 x1 x2 x3 x4 x5 x6 x7 x8 x9 x10 x11 x12 x13 x14 x15 x16 x17 x18 x19 x20 x21 x22 x23 x24 = some (ms, ()) ∧ ms.length ≤ 60 := by
  unfold i_control_all_1_8b1.f
  exact ⟨_, rfl, by simp⟩
theorem qi_control_controller_tell_cd9 (x1 : T26b3.T) (x2 : Int) (x3 : Int) (x4 : Int) (x5 : Int) (x6 : Int) (x7 : Int) (x8 : Int) (x9 : Int) (x10 : Int) (x11 : Int) (x12 : Int) (x13 : Int) (x14 : Int) (x15 : Int) (x16 : List (List (List T1383.T))) (x17 : List Int) (x18 : List T23b6.T) (x19 : List T713d.T) (x20 : List Int) (x21 : List Int) (x22 : Int) (x23 : Int) (hp : x18.length ≤ 12) (ho : ∀ y ∈ x18, y.2.2.2.2.length ≤ 100) : ∃ P', i_control_controller_tell_cd9.f 1000 x1 x2 x3 x4 x5 x6 x7 x8 x9 x10 x11 x12 x13 x14 x15 x16 x17 x18 x19 x20 x21 x22 x23 = some (P', ()) ∧ P'.length = x18.length := by
  unfold i_control_controller_tell_cd9.f
  suffices key : ∃ r, i_control_controller_tell_cd9.l1 x1 x2 x3 x4 x5 x6 x7 x8 x9 x10 x11 x12 x13 x14 x15 x16 x17 x19 x20 x21 x22 x23 1000 1000 (x18.length : Int) ((0 : Nat) : Int) x18 = some r ∧ r.1.length = x18.length by
    obtain ⟨r, e1, e2⟩ := key
    exact ⟨r.1, e1, e2⟩
  refine loop_ex (fun m i (s : List T23b6.T) => i_control_controller_tell_cd9.l1 x1 x2 x3 x4 x5 x6 x7 x8 x9 x10 x11 x12 x13 x14 x15 x16 x17 x19 x20 x21 x22 x23 1000 m (x18.length : Int) (i : Int) s) (fun i s => s.length = x18.length ∧ ∀ j, i ≤ j → s[j]? = x18[j]?) x18.length (fun r => r.1.length = x18.length) ?st ?fi 1000 (by omega) x18 ⟨rfl, fun _ _ => rfl⟩
  case st =>
    intro m i s hi hs
    obtain ⟨s1, s2⟩ := hs
    have hsl : i < s.length := by omega
    have hyi : s[i] = x18[i] := by
      have e := s2 i (Nat.le_refl _)
      rw [List.getElem?_eq_getElem hsl, List.getElem?_eq_getElem hi] at e
      exact Option.some.inj e
    have hy := ho _ (List.getElem_mem hi)
    simp only [i_control_controller_tell_cd9.l1, i_control_controller_tell_cd9.b1]
    rw [if_pos (by (first | omega | (dsimp only [Ty.T]; omega) | (simp only [decide_eq_true_eq, decide_eq_false_iff_not, Bool.not_eq_true, Ty.T]; omega) | (simp only [decide_eq_true_eq, decide_eq_false_iff_not, Ty.T]; omega) | (simp only [beq_iff_eq, bne_iff_ne, ne_eq, decide_eq_true_eq, Ty.T]; omega))), if_pos (by omega), if_pos (by omega), att_n (e := T23b6) s i hsl]
    obtain ⟨ms, e1, e2⟩ := qi_control_all_1_8b1 (i : Int) x1 x2 x3 x4 x5 x6 x7 x8 x9 x10 x11 x12 x13 x14 x15 x16 x17 s x19 x20 x21 x22 x23
    rw [e1, Option.bind_some]
    obtain ⟨S', e3⟩ := push_total s[i].2.2 ms (by rw [hyi]; exact hy) (by omega)
    rw [e3, Option.bind_some, wsucc i (by omega), Int.toNat_natCast]
    exact .inl ⟨_, ⟨by rw [List.length_set]; exact s1, fun j hj => by rw [List.getElem?_set_ne (by omega)]; exact s2 j (by omega)⟩, rfl⟩
  case fi =>
    intro m s hs
    simp only [i_control_controller_tell_cd9.l1, i_control_controller_tell_cd9.b1]
    rw [if_neg (by (first | omega | (dsimp only [Ty.T]; omega) | (simp only [decide_eq_true_eq, decide_eq_false_iff_not, Bool.not_eq_true, Ty.T]; omega) | (simp only [decide_eq_true_eq, decide_eq_false_iff_not, Ty.T]; omega) | (simp only [beq_iff_eq, bne_iff_ne, ne_eq, decide_eq_true_eq, Ty.T]; omega)))]
    exact ⟨_, rfl, hs.1⟩
theorem qi_control_controller_install_1_71d (x1 : T23b6.T) (x2 : T26b3.T) (x3 : Int) (x4 : Int) (x5 : Int) (x6 : Int) (x7 : Int) (x8 : Int) (x9 : Int) (x10 : Int) (x11 : Int) (x12 : Int) (x13 : Int) (x14 : Int) (x15 : Int) (x16 : Int) (x17 : List (List (List T1383.T))) (x18 : List Int) (x19 : List T23b6.T) (x20 : List T713d.T) (x21 : List Int) (x22 : List Int) : i_control_controller_install_1_71d.f 1000 x1 x2 x3 x4 x5 x6 x7 x8 x9 x10 x11 x12 x13 x14 x15 x16 x17 x18 x19 x20 x21 x22 = some (badP x13 x1, ()) := by
  unfold i_control_controller_install_1_71d.f
  rfl
theorem qi_slices_ContainsFunc_Peer_d2b (x1 : T26b3.T) (x2 : Int) (x3 : Int) (x4 : Int) (x5 : Int) (x6 : Int) (x7 : Int) (x8 : Int) (x9 : Int) (x10 : Int) (x11 : Int) (x12 : Int) (x13 : Int) (x14 : Int) (x15 : Int) (x16 : List (List (List T1383.T))) (x17 : List Int) (x18 : List T23b6.T) (x19 : List T713d.T) (x20 : List Int) (x21 : List Int) (h : x18.length < 1000) : i_slices_ContainsFunc_Peer_d2b.f 1000 x1 x2 x3 x4 x5 x6 x7 x8 x9 x10 x11 x12 x13 x14 x15 x16 x17 x18 x19 x20 x21 = some (x18.any (badP x12), ()) := by
  unfold i_slices_ContainsFunc_Peer_d2b.f i_slices_IndexFunc_Peer_d2b.f
  have hle : x18.findIdx (badP x12) ≤ x18.length := List.findIdx_le_length
  refine loop (fun m i => (i_slices_IndexFunc_Peer_d2b.l1 x1 x2 x3 x4 x5 x6 x7 x8 x9 x10 x11 x12 x13 x14 x15 x16 x17 x18 x19 x20 x21 1000 m (x18.length : Int) (i : Int)).bind fun y1 => some (decide (y1.1 ≥ (0 : Int)), ())) (x18.findIdx (badP x12)) _ (fun m i hi => ?_) (fun m => ?_) 1000 (by omega)
  · have hl : i < x18.length := by omega
    have hn := fi_not hi hl
    simp only [i_slices_IndexFunc_Peer_d2b.l1, i_slices_IndexFunc_Peer_d2b.b1]
    rw [if_pos (by (first | omega | (dsimp only [Ty.T]; omega) | (simp only [decide_eq_true_eq, decide_eq_false_iff_not, Bool.not_eq_true, Ty.T]; omega) | (simp only [decide_eq_true_eq, decide_eq_false_iff_not, Ty.T]; omega) | (simp only [beq_iff_eq, bne_iff_ne, ne_eq, decide_eq_true_eq, Ty.T]; omega))), if_pos (by omega), if_pos (by omega), att_n (e := T23b6) x18 i hl, qi_control_controller_install_1_71d, Option.bind_some, if_neg (by rw [Bool.not_eq_true]; exact hn), wsucc i (by omega)]
  · simp only [i_slices_IndexFunc_Peer_d2b.l1, i_slices_IndexFunc_Peer_d2b.b1]
    by_cases hl : x18.findIdx (badP x12) < x18.length
    · have hy := List.findIdx_getElem (w := hl)
      rw [if_pos (by (first | omega | (dsimp only [Ty.T]; omega) | (simp only [decide_eq_true_eq, decide_eq_false_iff_not, Bool.not_eq_true, Ty.T]; omega) | (simp only [decide_eq_true_eq, decide_eq_false_iff_not, Ty.T]; omega) | (simp only [beq_iff_eq, bne_iff_ne, ne_eq, decide_eq_true_eq, Ty.T]; omega))), if_pos (by omega), if_pos (by omega), att_n (e := T23b6) x18 _ hl, qi_control_controller_install_1_71d, Option.bind_some, if_pos (by exact hy), Option.bind_some, decide_eq_true (by omega)]
      exact congrArg (fun b => some (b, ())) (List.any_eq_true.2 ⟨_, List.getElem_mem hl, hy⟩).symm
    · rw [if_neg (by (first | omega | (dsimp only [Ty.T]; omega) | (simp only [decide_eq_true_eq, decide_eq_false_iff_not, Bool.not_eq_true, Ty.T]; omega) | (simp only [decide_eq_true_eq, decide_eq_false_iff_not, Ty.T]; omega) | (simp only [beq_iff_eq, bne_iff_ne, ne_eq, decide_eq_true_eq, Ty.T]; omega))), Option.bind_some, decide_eq_false (by decide)]
      refine congrArg (fun b => some (b, ())) (Eq.symm ?_)
      rw [Bool.eq_false_iff]
      intro hc
      obtain ⟨y, h1, h2⟩ := List.any_eq_true.1 hc
      exact absurd (List.findIdx_lt_length_of_exists ⟨y, h1, h2⟩) hl
theorem awake21 : f_law21_awake.f 1000 = some (true, ()) := by decide +kernel
theorem inR_iff {n : Nat} {x : Int} : inR n x = true ↔ 0 ≤ x ∧ x < (n : Int) := by unfold inR; exact decide_eq_true_iff
theorem isB_live {nc : Nat} {live next ph : Int} {queue : List Int} {np : Nat} (h : isB nc live next ph queue np = true) : 0 ≤ live ∧ live < (nc : Int) := by
  unfold isB at h
  simp only [Bool.and_eq_true] at h
  exact inR_iff.1 h.2.1
theorem isB_next {nc : Nat} {live next ph : Int} {queue : List Int} {np : Nat} (h : isB nc live next ph queue np = true) (ht : two ph = true) : 0 ≤ next ∧ next < (nc : Int) := by
  unfold isB at h
  rw [ht] at h
  simp only [Bool.and_eq_true, Bool.not_true, Bool.and_false, Bool.false_or] at h
  exact inR_iff.1 h.1
def isC (c : Ct) : Bool := isB c.1.length c.2.1 c.2.2.1 c.2.2.2.2.2.1 c.2.2.2.2.2.2.2.1 c.2.2.2.2.2.2.2.2.1.length
def lvC (c : Ct) (sw : Int) : List Vr := lvs c.1 c.2.1 c.2.2.1 c.2.2.2.1 c.2.2.2.2.1 c.2.2.2.2.2.1 sw
def stC (c : Ct) : Int := stampOf c.2.2.2.1 c.2.2.2.2.1 c.2.2.2.2.2.1
theorem FewC.rl {cs : List (List (List Rl))} {peers : List T23b6.T} {queue done undone : List Int} {given : List T713d.T} (h : FewC cs peers queue done undone given) : ∀ x ∈ cs, ∀ l ∈ x, l.length < 1000000 := fun x hx l hl => by have := (h.r x hx).2 l hl; omega
theorem live_g (c : Ct) (hz : c.2.2.2.2.2.2.2.1.length < 1000) (hr : ∀ x ∈ c.1, ∀ l ∈ x, l.length < 1000000) (sw : Int) : f_control_Live.f 1000 c sw = some (if isC c = true then (lvC c sw, (stC c, ())) else ([], (0, ()))) := by
  unfold f_control_Live.f
  rw [qi_control_controller_is_e28 c hz, Option.bind_some]
  by_cases hc : isC c = true
  · have hb : isB c.1.length c.2.1 c.2.2.1 c.2.2.2.2.2.1 c.2.2.2.2.2.2.2.1 c.2.2.2.2.2.2.2.2.1.length = true := hc
    have hl := isB_live hb
    rw [if_pos hc, if_pos hb, qi_control_controller_live_258 sw c hl.1 hl.2 (fun ht => isB_next hb ht) hr, Option.bind_some]
    rfl
  · rw [if_neg hc]
    exact if_neg hc
theorem isB_parts {nc : Nat} {live next ph : Int} {queue : List Int} {np : Nat} (h : isB nc live next ph queue np = true) : inR nc live = true ∧ ((next = -1 ∧ two ph = false) ∨ inR nc next = true) ∧ queue.any (fun q => !inR nc q) = false ∧ (np : Int) ≤ 100 := by
  unfold isB at h
  simp only [Bool.and_eq_true, Bool.or_eq_true, beq_iff_eq, decide_eq_true_eq, Bool.not_eq_true'] at h
  exact ⟨h.2.1, h.1, h.2.2.1, h.2.2.2⟩
theorem isB_mk {nc : Nat} {live next ph : Int} {queue : List Int} {np : Nat} (h1 : inR nc live = true) (h2 : (next = -1 ∧ two ph = false) ∨ inR nc next = true) (h3 : queue.any (fun q => !inR nc q) = false) (h4 : (np : Int) ≤ 100) : isB nc live next ph queue np = true := by
  unfold isB
  simp only [Bool.and_eq_true, Bool.or_eq_true, beq_iff_eq, decide_eq_true_eq, Bool.not_eq_true']
  exact ⟨h2, h1, h3, h4⟩
def ctl (cs : List (List (List Rl))) (live next tag new ph timer : Int) (queue : List Int) (peers : List T23b6.T) (given : List T713d.T) (done undone : List Int) (junk : Int) : Ct := (cs, (live, (next, (tag, (new, (ph, (timer, (queue, (peers, (given, (done, (undone, junk))))))))))))
inductive TickR (cs : List (List (List Rl))) (live next tag new ph timer : Int) (queue : List Int) (peers : List T23b6.T) (given : List T713d.T) (done undone : List Int) (junk : Int) : Ct → Prop
  | no (h : ¬ (isC (ctl cs live next tag new ph timer queue peers given done undone junk) = true ∧ 0 ≤ ph ∧ ph < 6)) : TickR cs live next tag new ph timer queue peers given done undone junk (ctl cs live next tag new ph timer queue peers given done undone junk)
  | idle0 (hi : isB cs.length live next ph queue peers.length = true) (h0 : ph = 0) (h : queue = [] ∨ (!peers.any busyP) = false) : TickR cs live next tag new ph timer queue peers given done undone junk (ctl cs live next tag new ph timer queue peers given done undone junk)
  | idle1 (hi : isB cs.length live next ph queue peers.length = true) (P : List T23b6.T) (n : Int) (g : List T713d.T) (h0 : ph = 0) (hq : 0 < queue.length) (hd : (!peers.any busyP) = true) (hP : P.length = peers.length) : TickR cs live next tag new ph timer queue peers given done undone junk (ctl cs live (att (.int .i64) queue 0) tag n 1 timer (queue.drop 1) P g done undone junk)
  | inst5 (hi : isB cs.length live next ph queue peers.length = true) (P : List T23b6.T) (h0 : ph = 1) (hf : peers.any (badP new) = true) (hP : P.length = peers.length) : TickR cs live next tag new ph timer queue peers given done undone junk (ctl cs live (-1) tag 0 5 timer queue P given done (undone ++ [next]) junk)
  | inst2 (hi : isB cs.length live next ph queue peers.length = true) (P : List T23b6.T) (h0 : ph = 1) (hf : peers.any (badP new) = false) (hd : (!peers.any busyP) = true) (hP : P.length = peers.length) : TickR cs live next tag new ph timer queue peers given done undone junk (ctl cs live next tag new 2 timer queue P given done undone junk)
  | inst1 (hi : isB cs.length live next ph queue peers.length = true) (h0 : ph = 1) (hf : peers.any (badP new) = false) (hd : (!peers.any busyP) = false) : TickR cs live next tag new ph timer queue peers given done undone junk (ctl cs live next tag new ph timer queue peers given done undone junk)
  | flip3 (hi : isB cs.length live next ph queue peers.length = true) (t : Int) (h0 : ph = 2) (hd : (!peers.any busyP) = true) : TickR cs live next tag new ph timer queue peers given done undone junk (ctl cs live next tag new 3 t queue peers given done undone junk)
  | flip2 (hi : isB cs.length live next ph queue peers.length = true) (h0 : ph = 2) (hd : (!peers.any busyP) = false) : TickR cs live next tag new ph timer queue peers given done undone junk (ctl cs live next tag new ph timer queue peers given done undone junk)
  | drain3 (hi : isB cs.length live next ph queue peers.length = true) (t : Int) (h0 : ph = 3) : TickR cs live next tag new ph timer queue peers given done undone junk (ctl cs live next tag new ph t queue peers given done undone junk)
  | drain4 (hi : isB cs.length live next ph queue peers.length = true) (P : List T23b6.T) (t : Int) (h0 : ph = 3) (hP : P.length = peers.length) : TickR cs live next tag new ph timer queue peers given done undone junk (ctl cs next (-1) new 0 4 t queue P given (done ++ [next]) undone junk)
  | rest0 (hi : isB cs.length live next ph queue peers.length = true) (h0 : ph = 4 ∨ ph = 5) (hd : (!peers.any busyP) = true) : TickR cs live next tag new ph timer queue peers given done undone junk (ctl cs live next tag new 0 timer queue peers given done undone junk)
  | rest (hi : isB cs.length live next ph queue peers.length = true) (h0 : ph = 4 ∨ ph = 5) (hd : (!peers.any busyP) = false) : TickR cs live next tag new ph timer queue peers given done undone junk (ctl cs live next tag new ph timer queue peers given done undone junk)
theorem tick_mk (cs : List (List (List Rl))) (live next tag new ph timer : Int) (queue : List Int) (peers : List T23b6.T) (given : List T713d.T) (done undone : List Int) (junk : Int) (h : FewC cs peers queue done undone given) :
    ∃ d, f_control_Tick.f 1000 (ctl cs live next tag new ph timer queue peers given done undone junk) = some (d, ()) ∧ TickR cs live next tag new ph timer queue peers given done undone junk d := by
  have f1 := h.c
  have f2 := h.p
  have f3 := h.q
  have f4 := h.g
  have f5 := h.d
  have f6 := h.u
  have hr : ∀ x ∈ cs, ∀ l ∈ x, l.length ≤ 60 := fun x hx => (h.r x hx).2
  unfold f_control_Tick.f
  rw [qi_control_own_b6am (h := h), Option.bind_some]
  unfold ctl
  dsimp only
  rw [qi_control_controller_is_d8b (h := by omega), Option.bind_some]
  unfold f_control_Tick.j1
  have hisC : isC (ctl cs live next tag new ph timer queue peers given done undone junk) = isB cs.length live next ph queue peers.length := rfl
  cases hq : isB cs.length live next ph queue peers.length with
  | false =>
    rw [if_neg (by exact Bool.false_ne_true), if_neg Bool.false_ne_true]
    exact ⟨_, rfl, .no fun k => by rw [hisC, hq] at k; exact absurd k.1 Bool.false_ne_true⟩
  | true =>
    rw [if_pos (by rfl)]
    by_cases p0 : ¬ ph ≥ 0
    · rw [if_neg (by rw [decide_eq_false p0]; exact Bool.false_ne_true), if_neg Bool.false_ne_true]
      exact ⟨_, rfl, .no fun k => p0 k.2.1⟩
    replace p0 := Decidable.not_not.1 p0
    rw [if_pos (decide_eq_true p0)]
    by_cases p1 : ¬ ph < 6
    · rw [decide_eq_false p1, if_neg Bool.false_ne_true]
      exact ⟨_, rfl, .no fun k => p1 k.2.2⟩
    replace p1 := Decidable.not_not.1 p1
    rw [decide_eq_true p1, if_pos rfl]
    by_cases e0 : ph = 0
    · rw [if_pos e0]
      unfold i_control_controller_idle_d8b.f i_control_controller_idle_d8b.j1
      by_cases hz : queue.length = 0
      · rw [if_pos (by rw [beq_iff_eq]; omega), if_pos rfl]
        exact ⟨_, rfl, .idle0 hq e0 (.inl (List.eq_nil_of_length_eq_zero hz))⟩
      · rw [if_neg (by rw [beq_iff_eq]; omega), qi_control_controller_done_ad0 (h := by omega), Option.bind_some]
        cases hd : (!peers.any busyP) with
        | false =>
          rw [if_pos (by rfl)]
          exact ⟨_, rfl, .idle0 hq e0 (.inr hd)⟩
        | true =>
          rw [if_neg (by exact Bool.false_ne_true), if_pos (by omega), if_pos (by omega)]
          unfold f_tags_Next.f
          rw [if_pos (by decide), Option.bind_some]
          dsimp only
          have hm : inR cs.length (att (.int .i64) queue 0) = true := by
            unfold isB at hq
            simp only [Bool.and_eq_true] at hq
            have h1 := hq.2.2.1
            have h2 : queue.any (fun q => !inR cs.length q) = false := by simpa using h1
            have h3 := List.any_eq_false.1 h2 _ (att_mem (e := .int .i64) queue (i := 0) (by decide) (by omega))
            simpa using h3
          have hm2 := inR_iff.1 hm
          rw [if_pos (by omega)]
          obtain ⟨P, q1, q2⟩ := qi_control_controller_tell_107 (ctl cs live next tag new ph timer queue peers given done undone junk) 0 0 0 0 0 0 0 live (att (.int .i64) queue 0) tag (f_tags_Next.nextSpec tag []) 1 timer ((queue.take (queue.length : Int).toNat).drop (1 : Int).toNat) junk cs peers done undone (given ++ [(f_tags_Next.nextSpec tag [], att (.int .i64) queue 0)]) (by omega) h.o hm2.1 hm2.2 hr
          unfold ctl at q1
          rw [q1, Option.bind_some]
          refine ⟨_, rfl, ?_⟩
          have hqd : (queue.take (queue.length : Int).toNat).drop (1 : Int).toNat = queue.drop 1 := by rw [Int.toNat_natCast, List.take_length]; rfl
          dsimp only
          rw [hqd]
          exact .idle1 hq P _ _ e0 (by omega) hd q2
    rw [if_neg e0]
    by_cases e1 : ph = 1
    · rw [if_pos e1]
      unfold i_control_controller_install_d8b.f
      rw [qi_slices_ContainsFunc_Peer_d2b (h := by omega), Option.bind_some]
      cases hf : peers.any (badP new) with
      | true =>
        rw [if_pos (by rfl)]
        unfold i_control_all_518.f
        rw [Option.bind_some]
        obtain ⟨P, q1, q2⟩ := qi_control_controller_tell_cd9 (ctl cs live next tag new ph timer queue peers given done undone junk) 0 0 0 0 0 0 0 live next tag new ph timer junk cs queue peers given done undone 4 new (by omega) h.o
        unfold ctl at q1
        rw [q1, Option.bind_some, if_pos (by omega)]
        unfold i_control_controller_end_2b1.f
        exact ⟨_, rfl, .inst5 hq P e1 hf q2⟩
      | false =>
        rw [if_neg (by exact Bool.false_ne_true), qi_control_controller_done_ad0 (h := by omega), Option.bind_some]
        cases hd : (!peers.any busyP) with
        | false =>
          rw [if_neg (by exact Bool.false_ne_true)]
          exact ⟨_, rfl, .inst1 hq e1 hf hd⟩
        | true =>
          rw [if_pos (by rfl)]
          unfold i_control_all_518.f
          rw [Option.bind_some]
          obtain ⟨P, q1, q2⟩ := qi_control_controller_tell_cd9 (ctl cs live next tag new ph timer queue peers given done undone junk) 0 0 0 0 0 0 0 live next tag new ph timer junk cs queue peers given done undone 3 new (by omega) h.o
          unfold ctl at q1
          rw [q1, Option.bind_some]
          exact ⟨_, rfl, .inst2 hq P e1 hf hd q2⟩
    rw [if_neg e1]
    by_cases e2 : ph = 2
    · rw [if_pos e2]
      unfold i_control_controller_flip_d8b.f
      rw [qi_control_controller_done_d8b (h := by omega), Option.bind_some]
      cases hd : (!peers.any busyP) with
      | false =>
        rw [if_neg (by exact Bool.false_ne_true)]
        exact ⟨_, rfl, .flip2 hq e2 hd⟩
      | true =>
        rw [if_pos (by rfl)]
        exact ⟨_, rfl, .flip3 hq _ e2 hd⟩
    rw [if_neg e2]
    by_cases e3 : ph = 3
    · rw [if_pos e3]
      unfold i_control_controller_drain_d8b.f
      by_cases ht : IntKind.i64.wrap (timer - 1) ≥ 1
      · rw [if_pos (decide_eq_true ht)]
        exact ⟨_, rfl, .drain3 hq _ e3⟩
      · rw [if_neg (by rw [decide_eq_false ht]; exact Bool.false_ne_true)]
        unfold i_control_all_1a4.f
        rw [Option.bind_some]
        obtain ⟨P, q1, q2⟩ := qi_control_controller_tell_863 (ctl cs live next tag new ph timer queue peers given done undone junk) 0 0 0 0 0 0 0 live next tag new ph (IntKind.i64.wrap (timer - 1)) junk cs queue peers given done undone 4 tag (by omega) h.o
        unfold ctl at q1
        rw [q1, Option.bind_some, if_pos (by omega)]
        unfold i_control_controller_end_f90.f
        exact ⟨_, rfl, .drain4 hq P _ e3 q2⟩
    rw [if_neg e3]
    by_cases e4 : ph = 4
    · rw [if_pos e4]
      unfold i_control_controller_rest_d8b.f
      rw [qi_control_controller_done_d8b (h := by omega), Option.bind_some]
      cases hd : (!peers.any busyP) with
      | false =>
        rw [if_neg (by exact Bool.false_ne_true)]
        exact ⟨_, rfl, .rest hq (.inl e4) hd⟩
      | true =>
        rw [if_pos (by rfl)]
        exact ⟨_, rfl, .rest0 hq (.inl e4) hd⟩
    rw [if_neg e4]
    have e5 : ph = 5 := by omega
    rw [if_pos e5]
    unfold i_control_controller_rest_d8b.f
    rw [qi_control_controller_done_d8b (h := by omega), Option.bind_some]
    cases hd : (!peers.any busyP) with
    | false =>
      rw [if_neg (by exact Bool.false_ne_true)]
      exact ⟨_, rfl, .rest hq (.inr e5) hd⟩
    | true =>
      rw [if_pos (by rfl)]
      exact ⟨_, rfl, .rest0 hq (.inr e5) hd⟩
theorem phase_same (c : Ct) (sw : Int) (h0 : 0 ≤ c.2.2.2.2.2.1) (h1 : c.2.2.2.2.2.1 < 6) (hT : f_control_Tick.f 1000 c = some (c, ())) (hL : ∃ y, f_control_Live.f 1000 c sw = some y) : f_law21_ControlPhase.j1 c sw 1000 true false = some (true, ()) := by
  obtain ⟨y, hy⟩ := hL
  have b : ∀ x : Int, (x == x) = true := fun x => beq_iff_eq.2 rfl
  unfold f_law21_ControlPhase.j1
  rw [if_neg Bool.false_ne_true, hT, Option.bind_some, hy, Option.bind_some]
  dsimp only
  rw [Option.bind_some]
  simp only [b, if_true]
  split
  · rfl
  · split
    · rfl
    · split
      · rfl
      · split <;> rfl
theorem any_drop (p : Int → Bool) (xs : List Int) (h : xs.any p = false) : (xs.drop 1).any p = false := by
  rw [List.any_eq_false] at h ⊢
  exact fun x hx => h x (List.mem_of_mem_drop hx)
theorem stamp_c (tag new ph : Int) (h2 : ph ≠ 2) (h3 : ph ≠ 3) : stampOf tag new ph = tag := by
  unfold stampOf
  rw [if_neg (by omega)]
theorem P_ControlPhase (x0 : Ct) (x1 : Int) (_ : Wf T26b3 x0) (_ : Wf (.int .i64) x1) : ∃ k, f_law21_ControlPhase.f k x0 x1 = some (true, ()) := by
  refine ⟨1000, ?_⟩
  unfold f_law21_ControlPhase.f
  obtain ⟨b, hb, hf⟩ := fewC x0
  have hj : f_law21_ControlPhase.j1 x0 x1 1000 true true = some (true, ()) := rfl
  rw [awake21, Option.bind_some, hb, Option.bind_some, if_neg (show ¬ (!(true, ()).1) = true by decide)]
  dsimp only
  rw [hj]
  cases b with
  | false => rfl
  | true =>
    have h := hf rfl
    rw [if_neg (show ¬ (!true) = true by decide)]
    by_cases g0 : x0.2.2.2.2.2.1 < (0 : Int)
    · rw [if_pos (decide_eq_true g0)]
    rw [if_neg (by rw [decide_eq_false g0]; exact Bool.false_ne_true)]
    by_cases g1 : x0.2.2.2.2.2.1 ≥ (6 : Int)
    · rw [if_pos (decide_eq_true g1)]
    rw [if_neg (by rw [decide_eq_false g1]; exact Bool.false_ne_true)]
    by_cases g2 : x1 < 0
    · rw [if_pos (decide_eq_true g2)]
    rw [if_neg (by rw [decide_eq_false g2]; exact Bool.false_ne_true)]
    by_cases g3 : x1 ≥ (x0.2.2.2.2.2.2.2.2.1.length : Int)
    · rw [decide_eq_true g3, hj]
    rw [decide_eq_false g3]
    obtain ⟨cs, live, next, tag, new, ph, timer, queue, peers, given, done, undone, junk⟩ := x0
    obtain ⟨d, e1, e2⟩ := tick_mk cs live next tag new ph timer queue peers given done undone junk h
    have hz : queue.length < 1000 := by have := h.q; dsimp only at this; omega
    have hr : ∀ x ∈ cs, ∀ l ∈ x, l.length < 1000000 := h.rl
    have hdn : done.length ≤ 100 := h.d
    have hph0 : 0 ≤ ph := Int.not_lt.1 g0
    have hph1 : ph < 6 := Int.not_le.1 g1
    have same : d = ctl cs live next tag new ph timer queue peers given done undone junk → f_law21_ControlPhase.j1 (ctl cs live next tag new ph timer queue peers given done undone junk) x1 1000 true false = some (true, ()) := fun e => phase_same _ _ hph0 hph1 (by rw [e1, e]) ⟨_, live_g _ hz hr _⟩
    show f_law21_ControlPhase.j1 (ctl cs live next tag new ph timer queue peers given done undone junk) x1 1000 true false = some (true, ())
    have L1 := live_g (ctl cs live next tag new ph timer queue peers given done undone junk) hz hr x1
    have bb : ∀ x : Int, (x == x) = true := fun x => beq_iff_eq.2 rfl
    have isC1 : isC (ctl cs live next tag new ph timer queue peers given done undone junk) = isB cs.length live next ph queue peers.length := rfl
    cases e2 with
    | no _ => exact same rfl
    | idle0 _ _ _ => exact same rfl
    | inst1 _ _ _ _ => exact same rfl
    | flip2 _ _ _ => exact same rfl
    | rest _ _ _ => exact same rfl
    | idle1 hi P n g h0 hq hd hP =>
      obtain ⟨i1, i2, i3, i4⟩ := isB_parts hi
      have hm := List.any_eq_false.1 i3 _ (att_mem (e := .int .i64) queue (i := 0) (by decide) (by omega))
      have hm2 : inR cs.length (att (.int .i64) queue 0) = true := by simpa using hm
      have hd2 : isC (ctl cs live (att (.int .i64) queue 0) tag n 1 timer (queue.drop 1) P g done undone junk) = true := isB_mk i1 (.inr hm2) (any_drop _ _ i3) (by show (P.length : Int) ≤ 100; rw [hP]; exact i4)
      have L2 := live_g (ctl cs live (att (.int .i64) queue 0) tag n 1 timer (queue.drop 1) P g done undone junk) (by show (queue.drop 1).length < 1000; rw [List.length_drop]; omega) hr x1
      subst h0
      unfold f_law21_ControlPhase.j1
      rw [if_neg Bool.false_ne_true, e1, Option.bind_some, L1, Option.bind_some, if_pos (by rw [isC1]; exact hi)]
      dsimp only
      rw [L2, Option.bind_some, if_pos hd2]
      unfold stC ctl
      dsimp only
      rw [stamp_c tag new 0 (by decide) (by decide), stamp_c tag n 1 (by decide) (by decide)]
      simp
    | inst5 hi P h0 hfu hP =>
      obtain ⟨i1, i2, i3, i4⟩ := isB_parts hi
      have hd2 : isC (ctl cs live (-1) tag 0 5 timer queue P given done (undone ++ [next]) junk) = true := isB_mk i1 (.inl ⟨rfl, rfl⟩) i3 (by show (P.length : Int) ≤ 100; rw [hP]; exact i4)
      have L2 := live_g (ctl cs live (-1) tag 0 5 timer queue P given done (undone ++ [next]) junk) hz hr x1
      subst h0
      unfold f_law21_ControlPhase.j1
      rw [if_neg Bool.false_ne_true, e1, Option.bind_some, L1, Option.bind_some, if_pos (by rw [isC1]; exact hi)]
      dsimp only
      rw [L2, Option.bind_some, if_pos hd2]
      unfold stC ctl
      dsimp only
      rw [stamp_c tag new 1 (by decide) (by decide), stamp_c tag 0 5 (by decide) (by decide)]
      simp
    | inst2 hi P h0 hfu hd hP =>
      obtain ⟨i1, i2, i3, i4⟩ := isB_parts hi
      subst h0
      have hd2 : isC (ctl cs live next tag new 2 timer queue P given done undone junk) = true := isB_mk i1 (i2.imp (fun k => absurd k.2 (by decide)) id) i3 (by show (P.length : Int) ≤ 100; rw [hP]; exact i4)
      have L2 := live_g (ctl cs live next tag new 2 timer queue P given done undone junk) hz hr x1
      unfold f_law21_ControlPhase.j1
      rw [if_neg Bool.false_ne_true, e1, Option.bind_some, L1, Option.bind_some, if_pos (by rw [isC1]; exact hi)]
      dsimp only
      rw [L2, Option.bind_some, if_pos hd2]
      unfold stC ctl
      dsimp only
      rw [stamp_c tag new 1 (by decide) (by decide), show stampOf tag new 2 = new from rfl]
      by_cases hh : tag = new <;> simp [hh]
    | flip3 hi t h0 hd =>
      obtain ⟨i1, i2, i3, i4⟩ := isB_parts hi
      subst h0
      have hd2 : isC (ctl cs live next tag new 3 t queue peers given done undone junk) = true := isB_mk i1 (i2.imp (fun k => absurd k.2 (by decide)) id) i3 i4
      have L2 := live_g (ctl cs live next tag new 3 t queue peers given done undone junk) hz hr x1
      unfold f_law21_ControlPhase.j1
      rw [if_neg Bool.false_ne_true, e1, Option.bind_some, L1, Option.bind_some, if_pos (by rw [isC1]; exact hi)]
      dsimp only
      rw [L2, Option.bind_some, if_pos hd2]
      unfold stC ctl
      dsimp only
      rw [show stampOf tag new 2 = new from rfl, show stampOf tag new 3 = new from rfl]
      simp
    | drain3 hi t h0 =>
      subst h0
      have hd2 : isC (ctl cs live next tag new 3 t queue peers given done undone junk) = true := hi
      have L2 := live_g (ctl cs live next tag new 3 t queue peers given done undone junk) hz hr x1
      unfold f_law21_ControlPhase.j1
      rw [if_neg Bool.false_ne_true, e1, Option.bind_some, L1, Option.bind_some, if_pos (by rw [isC1]; exact hi)]
      dsimp only
      rw [L2, Option.bind_some, if_pos hd2]
      unfold stC ctl
      dsimp only
      rw [show stampOf tag new 3 = new from rfl]
      simp
    | drain4 hi P t h0 hP =>
      obtain ⟨i1, i2, i3, i4⟩ := isB_parts hi
      subst h0
      have hnx : inR cs.length next = true := i2.resolve_left fun k => absurd k.2 (by decide)
      have hd2 : isC (ctl cs next (-1) new 0 4 t queue P given (done ++ [next]) undone junk) = true := isB_mk hnx (.inl ⟨rfl, rfl⟩) i3 (by show (P.length : Int) ≤ 100; rw [hP]; exact i4)
      have L2 := live_g (ctl cs next (-1) new 0 4 t queue P given (done ++ [next]) undone junk) hz hr x1
      unfold f_law21_ControlPhase.j1
      rw [if_neg Bool.false_ne_true, e1, Option.bind_some, L1, Option.bind_some, if_pos (by rw [isC1]; exact hi)]
      dsimp only
      rw [L2, Option.bind_some, if_pos hd2]
      unfold stC ctl
      dsimp only
      rw [show stampOf tag new 3 = new from rfl, stamp_c new 0 4 (by decide) (by decide), wsucc done.length (by omega), List.length_append]
      simp
    | rest0 hi h0 hd =>
      obtain ⟨i1, i2, i3, i4⟩ := isB_parts hi
      have hd2 : isC (ctl cs live next tag new 0 timer queue peers given done undone junk) = true := isB_mk i1 (i2.imp (fun k => ⟨k.1, rfl⟩) id) i3 i4
      have L2 := live_g (ctl cs live next tag new 0 timer queue peers given done undone junk) hz hr x1
      unfold f_law21_ControlPhase.j1
      rw [if_neg Bool.false_ne_true, e1, Option.bind_some, L1, Option.bind_some, if_pos (by rw [isC1]; exact hi)]
      dsimp only
      rw [L2, Option.bind_some, if_pos hd2]
      unfold stC ctl
      dsimp only
      rw [stamp_c tag new ph (by omega) (by omega), stamp_c tag new 0 (by decide) (by decide)]
      rcases h0 with h0 | h0 <;> subst h0 <;> simp
end Go.Proofs.YtkhjemahenkdiaaDoor.V
